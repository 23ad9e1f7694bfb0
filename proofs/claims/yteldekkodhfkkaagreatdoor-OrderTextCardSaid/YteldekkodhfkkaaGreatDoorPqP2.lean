/- Walk: the reference's Print. Conditions: the list lies in memory; its texts are short. -/
import Derived.Test.YteldekkodhfkkaaGreatDoorPqP1
import Derived.Test.YteldekkodhfkkaaGreatDoorPqW5
import Derived.Deep.RegionHeld3
import Derived.Deep.DrawnRows
namespace Go.Proofs.YteldekkodhfkkaaGreatDoor.PqW
open Go Go.RowKit Go.Proofs.YteldekkodhfkkaaGreatDoor.Mem
open Go.Proofs.YteldekkodhfkkaaGreatDoor.OdW (itCells it_len text_eq rvalid_any valid_any)
open Go.Proofs.YteldekkodhfkkaaGreatDoor.LexW (ritoa_any)
attribute [local go_sem ↓] Go.wp_at_zero Go.wp_at_succ

theorem bdrew {B : Nat} {a w : World} (h : Below B a w) : Below B a w.drew := ⟨h.os, h.tape, h.output, h.size, h.block⟩
theorem str_eq {b : ByteArray} {l : List UInt8} (h : b.data.toList = l) : b = ⟨l.toArray⟩ := by
  cases b; subst h; simp
theorem str_append (a b : List UInt8) : (ByteArray.mk a.toArray) ++ (ByteArray.mk b.toArray) = ⟨(a ++ b).toArray⟩ := by
  apply str_eq
  rw [ByteArray.data_append]; simp
theorem str_size (a : List UInt8) : (ByteArray.mk a.toArray).size = a.length := by
  show a.toArray.size = _; simp
theorem open_str (a o : List UInt8) : (ByteArray.mk a.toArray) ++ (ByteArray.mk #[111, 114, 100, 101, 114, 32]) ++ (ByteArray.mk o.toArray) ++ (ByteArray.mk #[32, 123, 10]) = ⟨(a ++ Pq.openT o).toArray⟩ := by
  have h1 := str_append a Pq.cOrder
  have h2 := str_append (a ++ Pq.cOrder) o
  have h3 := str_append (a ++ Pq.cOrder ++ o) Pq.cOpen
  rw [← h2, ← h1] at h3
  refine h3.trans ?_
  unfold Pq.openT
  simp
theorem line_str (a p q d : List UInt8) : (ByteArray.mk a.toArray) ++ (ByteArray.mk #[9, 112, 97, 114, 116, 32]) ++ (ByteArray.mk p.toArray) ++ (ByteArray.mk #[32, 113, 117, 97, 110, 116, 105, 116, 121, 32]) ++ (ByteArray.mk q.toArray) ++ (ByteArray.mk #[32, 100, 117, 101, 32]) ++ (ByteArray.mk d.toArray) ++ (ByteArray.mk #[59, 10]) = ⟨(a ++ (Pq.cPart ++ p ++ Pq.cQuantity ++ q ++ Pq.cDue ++ d ++ Pq.cSemi)).toArray⟩ := by
  have h1 := str_append a Pq.cPart
  have h2 := str_append (a ++ Pq.cPart) p
  have h3 := str_append (a ++ Pq.cPart ++ p) Pq.cQuantity
  have h4 := str_append (a ++ Pq.cPart ++ p ++ Pq.cQuantity) q
  have h5 := str_append (a ++ Pq.cPart ++ p ++ Pq.cQuantity ++ q) Pq.cDue
  have h6 := str_append (a ++ Pq.cPart ++ p ++ Pq.cQuantity ++ q ++ Pq.cDue) d
  have h7 := str_append (a ++ Pq.cPart ++ p ++ Pq.cQuantity ++ q ++ Pq.cDue ++ d) Pq.cSemi
  rw [← h6, ← h5, ← h4, ← h3, ← h2, ← h1] at h7
  refine h7.trans ?_
  simp
theorem close_str (a : List UInt8) : (ByteArray.mk a.toArray) ++ (ByteArray.mk #[125, 10]) = ⟨(a ++ Pq.cClose).toArray⟩ := str_append a Pq.cClose

theorem held3 {W w4 w' : World} {g o : Nat} {a b c : Value} (h : w4.cell? ⟨g, o + 1, none⟩ = some a ∧ w4.cell? ⟨g, o + 2, none⟩ = some b ∧ w4.cell? ⟨g, o + 3, none⟩ = some c ∧ Below W.heap.size W w4) (hb : Below w4.heap.size w4 w') (hg : g < W.heap.size) :
    w'.cell? ⟨g, o + 1, none⟩ = some a ∧ w'.cell? ⟨g, o + 2, none⟩ = some b ∧ w'.cell? ⟨g, o + 3, none⟩ = some c ∧ Below W.heap.size W w' := by
  obtain ⟨h1, h2, h3, h4⟩ := h
  have hg4 : g < w4.heap.size := Nat.lt_of_lt_of_le hg h4.size
  exact ⟨(hb.cell (p := ⟨g, _, none⟩) hg4).trans h1, (hb.cell (p := ⟨g, _, none⟩) hg4).trans h2, (hb.cell (p := ⟨g, _, none⟩) hg4).trans h3, h4.trans (hb.mono h4.size)⟩
set_option maxRecDepth 100000 in
set_option maxHeartbeats 4000000 in
theorem rprint_any (l : List Od.It) (A : Option Addr) (c : Nat) (w : World) (hr : Row w A (l.flatMap itCells)) (hl : l.length ≤ 1000000) (hsh : ∀ m ∈ l, Od.Short m) :
    Calls Tryz.prog 9 #[.slice A l.length c] w fun e w' => e = .returned (.tuple #[.string ⟨(Pq.print l).1.toArray⟩, .int .i64 (Pq.print l).2]) ∧ Below w.heap.size w w' := by
  have HV := Lib.hid (fun W h => rvalid_any l A c W h hl hsh)
  have HR := Lib.hid hr
  clear hr
  by_cases hv : Od.valid l = true
  · rw [hv] at HV
    have hl100 := Od.valid_len hv
    have HOK := Lib.hid (fun x (hx : x ∈ l) => Od.valid_ok hv hx)
    have HP := Lib.hid (show Pq.print l = (Pq.text none l, 0) by unfold Pq.print; rw [if_pos hv])
    have hst : Hid ([] ++ Pq.text (Pq.prev l 0) (l.drop 0) = Pq.text none l) := Lib.hid rfl
    have HTT : Hid ((Pq.text none l).length ≤ 10000) := Lib.hid (by have := Pq.text_len l none (fun x hx => Od.valid_ok hv hx); omega)
    generalize hTT : Pq.text none l = TT at *
    clear hv hTT
    go_enter Tryz.func9, Tryz.ntmps9
    go_wp2_with fail
    refine (HV.out _ HR.out).mono ?_
    rintro e w1 ⟨rfl, hb1⟩
    have HB1 := Lib.hid hb1
    have HR0 := HR
    clear HR
    have HR := Lib.hid (HR0.out.below hb1)
    clear hb1
    go_wp2_with fail
    go_loopw [4, 5] (fun v t wr => ∃ (k : Nat) (acc : List UInt8), k ≤ l.length ∧ t = .int .i64 k ∧ v = .string ⟨acc.toArray⟩ ∧ Hid (acc ++ Pq.text (Pq.prev l k) (l.drop k) = TT ∧ acc.length ≤ 20000) ∧ Below w1.heap.size w1 wr) (fun _ t _ => l.length - (intOf t).toNat)
    case atStart => exact ⟨0, [], Nat.zero_le _, rfl, rfl, Lib.hid ⟨hst.out, by simp⟩, Below.refl _ _⟩
    case round =>
      obtain ⟨k, acc, hk, rfl, rfl, HACC, hbel⟩ := hrel
      by_cases hlt : k < l.length
      · by_cases hz : k = 0
        · by_cases hla : k = l.length - 1
          · obtain ⟨g, off, hAe, hg, ca⟩ := row_get it_len (by decide) (HR.out.below hbel) (by omega)
            subst hAe
            have a0 := ca (k) hlt 0 (by decide)
            have a1 := ca (k) hlt 1 (by decide)
            have a2 := ca (k) hlt 2 (by decide)
            have a3 := ca (k) hlt 3 (by decide)
            have hlen := Pq.ok_lens (HOK.out l[k] (List.getElem_mem hlt))
            have hqd := Od.ok_parts (HOK.out l[k] (List.getElem_mem hlt))
            have HQ := Lib.hid (fun W => ritoa_any l[k].q W (by omega) (by omega))
            have HD := Lib.hid (fun W => ritoa_any l[k].d W (by omega) (by omega))
            have hnew : Pq.prev l k ≠ some l[k].o := by unfold Pq.prev; rw [if_pos hz]; simp
            have kz : ((k : Int) == 0) = true := by simp; omega
            have hend : Pq.ends l[k].o (l.drop (k + 1)) = true := by rw [List.drop_eq_nil_of_le (by omega)]; rfl
            have lz : ((k : Int) == (l.length : Int) - 1) = true := by simp; omega
            have x2 : IntKind.i64.wrap ((l.length : Int) - 1) = (l.length : Int) - 1 := by rw [wrapEq]; unfold wrap64; omega
            have i0 : (0 : Int) ≤ (k : Int) := by omega
            have i1 : (k : Int) < (l.length : Int) := by omega
            have hst := Pq.text_drop hlt
            rw [if_neg hnew, if_pos hend] at hst
            have HST := Lib.hid hst
            clear hst hend hnew ca
            generalize hM : l[k] = m at *
            clear hM
            obtain ⟨mo, mp, mq, md⟩ := m
            simp only [itCells, List.getElem?_cons_zero, List.getElem?_cons_succ, Nat.add_zero] at a0 a1 a2 a3
            simp only at hlen hqd HQ HD HST
            unfold Pq.lineT at HST
            simp only at HST
            have hsz := HACC.out.2
            rw [← str_size mo, ← str_size mp, ← str_size (Lib.itoa mq), ← str_size (Lib.itoa md)] at hlen
            rw [← str_size] at hsz
            obtain ⟨acc1, HA1⟩ : ∃ acc1, Hid (acc1 = acc ++ Pq.openT mo) := ⟨_, Lib.hid rfl⟩
            obtain ⟨acc2, HA2⟩ : ∃ acc2, Hid (acc2 = acc1 ++ (Pq.cPart ++ mp ++ Pq.cQuantity ++ Lib.itoa mq ++ Pq.cDue ++ Lib.itoa md ++ Pq.cSemi)) := ⟨_, Lib.hid rfl⟩
            obtain ⟨acc3, HA3⟩ : ∃ acc3, Hid (acc3 = acc2 ++ Pq.cClose) := ⟨_, Lib.hid rfl⟩
            have HNX : Hid (acc3 ++ Pq.text (Pq.prev l (k + 1)) (l.drop (k + 1)) = TT ∧ acc3.length ≤ 20000) := Lib.hid (by
              have e : acc3 ++ Pq.text (Pq.prev l (k + 1)) (l.drop (k + 1)) = TT := by
                rw [← HACC.out.1, HST.out, HA3.out, HA2.out, HA1.out]
                simp
              refine ⟨e, ?_⟩
              have := congrArg List.length e
              rw [List.length_append] at this
              have := HTT.out
              omega)
            have E1 : Hid ((ByteArray.mk acc.toArray) ++ (ByteArray.mk #[111, 114, 100, 101, 114, 32]) ++ (ByteArray.mk mo.toArray) ++ (ByteArray.mk #[32, 123, 10]) = ⟨acc1.toArray⟩) := Lib.hid (by rw [HA1.out]; exact open_str acc mo)
            have hs1 : (ByteArray.mk acc1.toArray).size ≤ 20100 := by rw [← E1.out, ByteArray.size_append, ByteArray.size_append, ByteArray.size_append]; have : (ByteArray.mk #[111, 114, 100, 101, 114, 32]).size = 6 := rfl; have : (ByteArray.mk #[32, 123, 10]).size = 3 := rfl; omega
            have E2 : Hid ((ByteArray.mk acc1.toArray) ++ (ByteArray.mk #[9, 112, 97, 114, 116, 32]) ++ (ByteArray.mk mp.toArray) ++ (ByteArray.mk #[32, 113, 117, 97, 110, 116, 105, 116, 121, 32]) ++ (ByteArray.mk (Lib.itoa mq).toArray) ++ (ByteArray.mk #[32, 100, 117, 101, 32]) ++ (ByteArray.mk (Lib.itoa md).toArray) ++ (ByteArray.mk #[59, 10]) = ⟨acc2.toArray⟩) := Lib.hid (by rw [HA2.out]; exact line_str acc1 mp _ _)
            have E3 : Hid ((ByteArray.mk acc2.toArray) ++ (ByteArray.mk #[125, 10]) = ⟨acc3.toArray⟩) := Lib.hid (by rw [HA3.out]; exact close_str acc2)
            have hs2 : (ByteArray.mk acc2.toArray).size ≤ 20300 := by rw [← E2.out, ByteArray.size_append, ByteArray.size_append, ByteArray.size_append, ByteArray.size_append, ByteArray.size_append, ByteArray.size_append, ByteArray.size_append]; have : (ByteArray.mk #[9, 112, 97, 114, 116, 32]).size = 6 := rfl; have : (ByteArray.mk #[32, 113, 117, 97, 110, 116, 105, 116, 121, 32]).size = 10 := rfl; have : (ByteArray.mk #[32, 100, 117, 101, 32]).size = 5 := rfl; have : (ByteArray.mk #[59, 10]).size = 2 := rfl; omega
            generalize Lib.itoa mq = tq at *
            generalize Lib.itoa md = td at *
            generalize hSB : (ByteArray.mk acc.toArray) = SB at *
            clear hSB
            generalize hOB : (ByteArray.mk mo.toArray) = OB at *
            generalize hPB : (ByteArray.mk mp.toArray) = PB at *
            generalize hQB : (ByteArray.mk tq.toArray) = QB at *
            generalize hDB : (ByteArray.mk td.toArray) = DB at *
            clear hOB hPB hQB hDB
            have m1 : (9223372036854775807 < SB.size + 6) = False := eq_false (by omega)
            have m2 : (9223372036854775807 < SB.size + 6 + OB.size) = False := eq_false (by omega)
            have m3 : (9223372036854775807 < SB.size + 6 + OB.size + 3) = False := eq_false (by omega)
            generalize hS1 : (ByteArray.mk acc1.toArray) = SB1 at *
            generalize hS2 : (ByteArray.mk acc2.toArray) = SB2 at *
            generalize hS3 : (ByteArray.mk acc3.toArray) = SB3 at *
            have HS3 := Lib.hid hS3
            have r1 : (9223372036854775807 < SB2.size + 2) = False := eq_false (by omega)
            clear hS3
            have HS2 := Lib.hid hS2
            clear hS1 hS2
            have p1 : (9223372036854775807 < SB1.size + 6) = False := eq_false (by omega)
            have p2 : (9223372036854775807 < SB1.size + 6 + PB.size) = False := eq_false (by omega)
            have p3 : (9223372036854775807 < SB1.size + 6 + PB.size + 10) = False := eq_false (by omega)
            have p4 : (9223372036854775807 < SB1.size + 6 + PB.size + 10 + QB.size) = False := eq_false (by omega)
            have p5 : (9223372036854775807 < SB1.size + 6 + PB.size + 10 + QB.size + 5) = False := eq_false (by omega)
            have p6 : (9223372036854775807 < SB1.size + 6 + PB.size + 10 + QB.size + 5 + DB.size) = False := eq_false (by omega)
            have p7 : (9223372036854775807 < SB1.size + 6 + PB.size + 10 + QB.size + 5 + DB.size + 2) = False := eq_false (by omega)
            have HG := Lib.hid hg
            have HBE := Lib.hid hbel
            have HSZ := Lib.hid (And.intro hsz (And.intro hs1 (And.intro hs2 hlen)))
            clear hsz hs1 hs2 hlen hqd hbel
            clear hz
            clear hla
            go_wp2_with fail
            go_quiet (fail)
            have hbW := Lib.hid (below_drewN (Below.refl wr.heap.size wr) nq)
            go_wp2_with fail
            rw [E1.out]
            have q0 : (wr.drewN nq).cell? ⟨g, off + (k) * 4, none⟩ = some (.string OB) := a0
            have q1 : (wr.drewN nq).cell? ⟨g, off + (k) * 4 + 1, none⟩ = some (.string PB) := a1
            have q2 : (wr.drewN nq).cell? ⟨g, off + (k) * 4 + 2, none⟩ = some (.int .i64 mq) := a2
            have q3 : (wr.drewN nq).cell? ⟨g, off + (k) * 4 + 3, none⟩ = some (.int .i64 md) := a3
            have hgW : g < (wr.drewN nq).heap.size := hg
            generalize (wr.drewN nq) = W0 at *
            clear a0 a1 a2 a3
            go_region_held3 (fun w' => w'.cell? ⟨g, off + (k) * 4 + 1, none⟩ = some (.string PB) ∧ w'.cell? ⟨g, off + (k) * 4 + 2, none⟩ = some (.int .i64 mq) ∧ w'.cell? ⟨g, off + (k) * 4 + 3, none⟩ = some (.int .i64 md) ∧ Below W0.heap.size W0 w')
              (first | assumption | exact ⟨q1, q2, q3, bdrew (Below.refl _ _)⟩ | (refine held3 ?_ hb4 hgW; assumption))
              (first | (go_at_call_of 28 (Value.int .i64 mq); refine (HQ.out _).mono ?_; rintro e w4 ⟨rfl, hb4⟩) | (go_at_call_of 28 (Value.int .i64 md); refine (HD.out _).mono ?_; rintro e w4 ⟨rfl, hb4⟩))
            obtain ⟨_, _, _, hbG⟩ := ‹_ ∧ _ ∧ _ ∧ Below _ _ _›
            clear ‹_ ∧ _ ∧ _ ∧ Below _ _ _›
            have u0 := (hbG.cell (p := ⟨g, off + (k) * 4, none⟩) hgW).trans q0
            have hF9 := Lib.hid (HBE.out.trans ((hbW.out.trans (hbG.mono hbW.out.size)).mono HBE.out.size))
            clear q0 q1 q2 q3 hbG hgW
            go_wp2_with fail
            rw [E2.out]
            go_quiet (fail)
            have hF8 := Lib.hid (below_drewN hF9.out nq)
            go_wp2_with fail
            rw [E3.out]
            go_roundw
            case rel => exact ⟨k + 1, acc3, by omega, by go_num, by rw [HS3.out], HNX, hF8.out⟩
            case measure => simp [intOf]; omega

          · have hk9 : k + 1 < l.length := by omega
            by_cases hno : l[k + 1].o = l[k].o
            · obtain ⟨g, off, hAe, hg, ca⟩ := row_get it_len (by decide) (HR.out.below hbel) (by omega)
              subst hAe
              have a0 := ca (k) hlt 0 (by decide)
              have a1 := ca (k) hlt 1 (by decide)
              have a2 := ca (k) hlt 2 (by decide)
              have a3 := ca (k) hlt 3 (by decide)
              have hlen := Pq.ok_lens (HOK.out l[k] (List.getElem_mem hlt))
              have hqd := Od.ok_parts (HOK.out l[k] (List.getElem_mem hlt))
              have HQ := Lib.hid (fun W => ritoa_any l[k].q W (by omega) (by omega))
              have HD := Lib.hid (fun W => ritoa_any l[k].d W (by omega) (by omega))
              have hnew : Pq.prev l k ≠ some l[k].o := by unfold Pq.prev; rw [if_pos hz]; simp
              have kz : ((k : Int) == 0) = true := by simp; omega
              have n0 := ca (k + 1) (by omega) 0 (by decide)
              have hend : Pq.ends l[k].o (l.drop (k + 1)) = false := by rw [List.drop_eq_getElem_cons (by omega : k + 1 < l.length)]; simp [Pq.ends, hno]
              have lz : ((k : Int) == (l.length : Int) - 1) = false := by rw [beq_eq_false_iff_ne]; omega
              have es2 := text_eq l[k + 1].o l[k].o
              rw [decide_eq_true hno] at es2
              have i2 : (0 : Int) ≤ (k : Int) + 1 := by omega
              have i3 : (k : Int) + 1 < (l.length : Int) := by omega
              have x1 : IntKind.i64.wrap ((k : Int) + 1) = (k : Int) + 1 := by rw [wrapEq]; unfold wrap64; omega
              have x2 : IntKind.i64.wrap ((l.length : Int) - 1) = (l.length : Int) - 1 := by rw [wrapEq]; unfold wrap64; omega
              have i0 : (0 : Int) ≤ (k : Int) := by omega
              have i1 : (k : Int) < (l.length : Int) := by omega
              have hst := Pq.text_drop hlt
              rw [if_neg hnew, if_neg (by rw [hend]; simp)] at hst
              have HST := Lib.hid hst
              clear hst hend hnew ca
              simp only [itCells, List.getElem?_cons_zero, Nat.add_zero] at n0
              generalize hNO : l[k + 1].o = no at *
              clear hNO
              generalize hM : l[k] = m at *
              clear hM
              obtain ⟨mo, mp, mq, md⟩ := m
              simp only [itCells, List.getElem?_cons_zero, List.getElem?_cons_succ, Nat.add_zero] at a0 a1 a2 a3
              simp only at hlen hqd HQ HD HST es2
              unfold Pq.lineT at HST
              simp only at HST
              have hsz := HACC.out.2
              rw [← str_size mo, ← str_size mp, ← str_size (Lib.itoa mq), ← str_size (Lib.itoa md)] at hlen
              rw [← str_size] at hsz
              obtain ⟨acc1, HA1⟩ : ∃ acc1, Hid (acc1 = acc ++ Pq.openT mo) := ⟨_, Lib.hid rfl⟩
              obtain ⟨acc2, HA2⟩ : ∃ acc2, Hid (acc2 = acc1 ++ (Pq.cPart ++ mp ++ Pq.cQuantity ++ Lib.itoa mq ++ Pq.cDue ++ Lib.itoa md ++ Pq.cSemi)) := ⟨_, Lib.hid rfl⟩
              obtain ⟨acc3, HA3⟩ : ∃ acc3, Hid (acc3 = acc2) := ⟨_, Lib.hid rfl⟩
              have HNX : Hid (acc3 ++ Pq.text (Pq.prev l (k + 1)) (l.drop (k + 1)) = TT ∧ acc3.length ≤ 20000) := Lib.hid (by
                have e : acc3 ++ Pq.text (Pq.prev l (k + 1)) (l.drop (k + 1)) = TT := by
                  rw [← HACC.out.1, HST.out, HA3.out, HA2.out, HA1.out]
                  simp
                refine ⟨e, ?_⟩
                have := congrArg List.length e
                rw [List.length_append] at this
                have := HTT.out
                omega)
              have E1 : Hid ((ByteArray.mk acc.toArray) ++ (ByteArray.mk #[111, 114, 100, 101, 114, 32]) ++ (ByteArray.mk mo.toArray) ++ (ByteArray.mk #[32, 123, 10]) = ⟨acc1.toArray⟩) := Lib.hid (by rw [HA1.out]; exact open_str acc mo)
              have hs1 : (ByteArray.mk acc1.toArray).size ≤ 20100 := by rw [← E1.out, ByteArray.size_append, ByteArray.size_append, ByteArray.size_append]; have : (ByteArray.mk #[111, 114, 100, 101, 114, 32]).size = 6 := rfl; have : (ByteArray.mk #[32, 123, 10]).size = 3 := rfl; omega
              have E2 : Hid ((ByteArray.mk acc1.toArray) ++ (ByteArray.mk #[9, 112, 97, 114, 116, 32]) ++ (ByteArray.mk mp.toArray) ++ (ByteArray.mk #[32, 113, 117, 97, 110, 116, 105, 116, 121, 32]) ++ (ByteArray.mk (Lib.itoa mq).toArray) ++ (ByteArray.mk #[32, 100, 117, 101, 32]) ++ (ByteArray.mk (Lib.itoa md).toArray) ++ (ByteArray.mk #[59, 10]) = ⟨acc2.toArray⟩) := Lib.hid (by rw [HA2.out]; exact line_str acc1 mp _ _)
              have hA3 := HA3.out.symm
              subst hA3
              have hs2 : (ByteArray.mk acc2.toArray).size ≤ 20300 := by rw [← E2.out, ByteArray.size_append, ByteArray.size_append, ByteArray.size_append, ByteArray.size_append, ByteArray.size_append, ByteArray.size_append, ByteArray.size_append]; have : (ByteArray.mk #[9, 112, 97, 114, 116, 32]).size = 6 := rfl; have : (ByteArray.mk #[32, 113, 117, 97, 110, 116, 105, 116, 121, 32]).size = 10 := rfl; have : (ByteArray.mk #[32, 100, 117, 101, 32]).size = 5 := rfl; have : (ByteArray.mk #[59, 10]).size = 2 := rfl; omega
              generalize Lib.itoa mq = tq at *
              generalize Lib.itoa md = td at *
              generalize hSB : (ByteArray.mk acc.toArray) = SB at *
              clear hSB
              generalize hOB : (ByteArray.mk mo.toArray) = OB at *
              generalize hPB : (ByteArray.mk mp.toArray) = PB at *
              generalize hQB : (ByteArray.mk tq.toArray) = QB at *
              generalize hDB : (ByteArray.mk td.toArray) = DB at *
              clear hOB hPB hQB hDB
              have m1 : (9223372036854775807 < SB.size + 6) = False := eq_false (by omega)
              have m2 : (9223372036854775807 < SB.size + 6 + OB.size) = False := eq_false (by omega)
              have m3 : (9223372036854775807 < SB.size + 6 + OB.size + 3) = False := eq_false (by omega)
              generalize (ByteArray.mk no.toArray) = NO at *
              have ne2 : (NO.toList != OB.toList) = false := by unfold bne; rw [es2]; rfl
              generalize hS1 : (ByteArray.mk acc1.toArray) = SB1 at *
              generalize hS2 : (ByteArray.mk acc2.toArray) = SB2 at *
              have HS2 := Lib.hid hS2
              clear hS1 hS2
              have p1 : (9223372036854775807 < SB1.size + 6) = False := eq_false (by omega)
              have p2 : (9223372036854775807 < SB1.size + 6 + PB.size) = False := eq_false (by omega)
              have p3 : (9223372036854775807 < SB1.size + 6 + PB.size + 10) = False := eq_false (by omega)
              have p4 : (9223372036854775807 < SB1.size + 6 + PB.size + 10 + QB.size) = False := eq_false (by omega)
              have p5 : (9223372036854775807 < SB1.size + 6 + PB.size + 10 + QB.size + 5) = False := eq_false (by omega)
              have p6 : (9223372036854775807 < SB1.size + 6 + PB.size + 10 + QB.size + 5 + DB.size) = False := eq_false (by omega)
              have p7 : (9223372036854775807 < SB1.size + 6 + PB.size + 10 + QB.size + 5 + DB.size + 2) = False := eq_false (by omega)
              have HG := Lib.hid hg
              have HBE := Lib.hid hbel
              have HSZ := Lib.hid (And.intro hsz (And.intro hs1 (And.intro hs2 hlen)))
              clear hsz hs1 hs2 hlen hqd hbel
              clear hz
              clear hla hno
              go_wp2_with fail
              go_quiet (fail)
              have hbW := Lib.hid (below_drewN (Below.refl wr.heap.size wr) nq)
              go_wp2_with fail
              rw [E1.out]
              have q0 : (wr.drewN nq).cell? ⟨g, off + (k) * 4, none⟩ = some (.string OB) := a0
              have q1 : (wr.drewN nq).cell? ⟨g, off + (k) * 4 + 1, none⟩ = some (.string PB) := a1
              have q2 : (wr.drewN nq).cell? ⟨g, off + (k) * 4 + 2, none⟩ = some (.int .i64 mq) := a2
              have q3 : (wr.drewN nq).cell? ⟨g, off + (k) * 4 + 3, none⟩ = some (.int .i64 md) := a3
              have q4 : (wr.drewN nq).cell? ⟨g, off + (k + 1) * 4, none⟩ = some (.string NO) := n0
              have hgW : g < (wr.drewN nq).heap.size := hg
              generalize (wr.drewN nq) = W0 at *
              clear a0 a1 a2 a3 n0
              go_region_held3 (fun w' => w'.cell? ⟨g, off + (k) * 4 + 1, none⟩ = some (.string PB) ∧ w'.cell? ⟨g, off + (k) * 4 + 2, none⟩ = some (.int .i64 mq) ∧ w'.cell? ⟨g, off + (k) * 4 + 3, none⟩ = some (.int .i64 md) ∧ Below W0.heap.size W0 w')
                (first | assumption | exact ⟨q1, q2, q3, bdrew (Below.refl _ _)⟩ | (refine held3 ?_ hb4 hgW; assumption))
                (first | (go_at_call_of 28 (Value.int .i64 mq); refine (HQ.out _).mono ?_; rintro e w4 ⟨rfl, hb4⟩) | (go_at_call_of 28 (Value.int .i64 md); refine (HD.out _).mono ?_; rintro e w4 ⟨rfl, hb4⟩))
              obtain ⟨_, _, _, hbG⟩ := ‹_ ∧ _ ∧ _ ∧ Below _ _ _›
              clear ‹_ ∧ _ ∧ _ ∧ Below _ _ _›
              have u0 := (hbG.cell (p := ⟨g, off + (k) * 4, none⟩) hgW).trans q0
              have u4 := (hbG.cell (p := ⟨g, off + (k + 1) * 4, none⟩) hgW).trans q4
              have hF9 := Lib.hid (HBE.out.trans ((hbW.out.trans (hbG.mono hbW.out.size)).mono HBE.out.size))
              clear q0 q1 q2 q3 hbG hgW q4
              go_wp2_with fail
              rw [E2.out]
              go_quiet (fail)
              have hF8 := Lib.hid (below_drewN hF9.out nq)
              go_wp2_with fail
              go_roundw
              case rel => exact ⟨k + 1, acc2, by omega, by go_num, by rw [HS2.out], HNX, hF8.out⟩
              case measure => simp [intOf]; omega

            · obtain ⟨g, off, hAe, hg, ca⟩ := row_get it_len (by decide) (HR.out.below hbel) (by omega)
              subst hAe
              have a0 := ca (k) hlt 0 (by decide)
              have a1 := ca (k) hlt 1 (by decide)
              have a2 := ca (k) hlt 2 (by decide)
              have a3 := ca (k) hlt 3 (by decide)
              have hlen := Pq.ok_lens (HOK.out l[k] (List.getElem_mem hlt))
              have hqd := Od.ok_parts (HOK.out l[k] (List.getElem_mem hlt))
              have HQ := Lib.hid (fun W => ritoa_any l[k].q W (by omega) (by omega))
              have HD := Lib.hid (fun W => ritoa_any l[k].d W (by omega) (by omega))
              have hnew : Pq.prev l k ≠ some l[k].o := by unfold Pq.prev; rw [if_pos hz]; simp
              have kz : ((k : Int) == 0) = true := by simp; omega
              have n0 := ca (k + 1) (by omega) 0 (by decide)
              have hend : Pq.ends l[k].o (l.drop (k + 1)) = true := by rw [List.drop_eq_getElem_cons (by omega : k + 1 < l.length)]; simp [Pq.ends, hno]
              have lz : ((k : Int) == (l.length : Int) - 1) = false := by rw [beq_eq_false_iff_ne]; omega
              have es2 := text_eq l[k + 1].o l[k].o
              rw [decide_eq_false hno] at es2
              have i2 : (0 : Int) ≤ (k : Int) + 1 := by omega
              have i3 : (k : Int) + 1 < (l.length : Int) := by omega
              have x1 : IntKind.i64.wrap ((k : Int) + 1) = (k : Int) + 1 := by rw [wrapEq]; unfold wrap64; omega
              have x2 : IntKind.i64.wrap ((l.length : Int) - 1) = (l.length : Int) - 1 := by rw [wrapEq]; unfold wrap64; omega
              have i0 : (0 : Int) ≤ (k : Int) := by omega
              have i1 : (k : Int) < (l.length : Int) := by omega
              have hst := Pq.text_drop hlt
              rw [if_neg hnew, if_pos hend] at hst
              have HST := Lib.hid hst
              clear hst hend hnew ca
              simp only [itCells, List.getElem?_cons_zero, Nat.add_zero] at n0
              generalize hNO : l[k + 1].o = no at *
              clear hNO
              generalize hM : l[k] = m at *
              clear hM
              obtain ⟨mo, mp, mq, md⟩ := m
              simp only [itCells, List.getElem?_cons_zero, List.getElem?_cons_succ, Nat.add_zero] at a0 a1 a2 a3
              simp only at hlen hqd HQ HD HST es2
              unfold Pq.lineT at HST
              simp only at HST
              have hsz := HACC.out.2
              rw [← str_size mo, ← str_size mp, ← str_size (Lib.itoa mq), ← str_size (Lib.itoa md)] at hlen
              rw [← str_size] at hsz
              obtain ⟨acc1, HA1⟩ : ∃ acc1, Hid (acc1 = acc ++ Pq.openT mo) := ⟨_, Lib.hid rfl⟩
              obtain ⟨acc2, HA2⟩ : ∃ acc2, Hid (acc2 = acc1 ++ (Pq.cPart ++ mp ++ Pq.cQuantity ++ Lib.itoa mq ++ Pq.cDue ++ Lib.itoa md ++ Pq.cSemi)) := ⟨_, Lib.hid rfl⟩
              obtain ⟨acc3, HA3⟩ : ∃ acc3, Hid (acc3 = acc2 ++ Pq.cClose) := ⟨_, Lib.hid rfl⟩
              have HNX : Hid (acc3 ++ Pq.text (Pq.prev l (k + 1)) (l.drop (k + 1)) = TT ∧ acc3.length ≤ 20000) := Lib.hid (by
                have e : acc3 ++ Pq.text (Pq.prev l (k + 1)) (l.drop (k + 1)) = TT := by
                  rw [← HACC.out.1, HST.out, HA3.out, HA2.out, HA1.out]
                  simp
                refine ⟨e, ?_⟩
                have := congrArg List.length e
                rw [List.length_append] at this
                have := HTT.out
                omega)
              have E1 : Hid ((ByteArray.mk acc.toArray) ++ (ByteArray.mk #[111, 114, 100, 101, 114, 32]) ++ (ByteArray.mk mo.toArray) ++ (ByteArray.mk #[32, 123, 10]) = ⟨acc1.toArray⟩) := Lib.hid (by rw [HA1.out]; exact open_str acc mo)
              have hs1 : (ByteArray.mk acc1.toArray).size ≤ 20100 := by rw [← E1.out, ByteArray.size_append, ByteArray.size_append, ByteArray.size_append]; have : (ByteArray.mk #[111, 114, 100, 101, 114, 32]).size = 6 := rfl; have : (ByteArray.mk #[32, 123, 10]).size = 3 := rfl; omega
              have E2 : Hid ((ByteArray.mk acc1.toArray) ++ (ByteArray.mk #[9, 112, 97, 114, 116, 32]) ++ (ByteArray.mk mp.toArray) ++ (ByteArray.mk #[32, 113, 117, 97, 110, 116, 105, 116, 121, 32]) ++ (ByteArray.mk (Lib.itoa mq).toArray) ++ (ByteArray.mk #[32, 100, 117, 101, 32]) ++ (ByteArray.mk (Lib.itoa md).toArray) ++ (ByteArray.mk #[59, 10]) = ⟨acc2.toArray⟩) := Lib.hid (by rw [HA2.out]; exact line_str acc1 mp _ _)
              have E3 : Hid ((ByteArray.mk acc2.toArray) ++ (ByteArray.mk #[125, 10]) = ⟨acc3.toArray⟩) := Lib.hid (by rw [HA3.out]; exact close_str acc2)
              have hs2 : (ByteArray.mk acc2.toArray).size ≤ 20300 := by rw [← E2.out, ByteArray.size_append, ByteArray.size_append, ByteArray.size_append, ByteArray.size_append, ByteArray.size_append, ByteArray.size_append, ByteArray.size_append]; have : (ByteArray.mk #[9, 112, 97, 114, 116, 32]).size = 6 := rfl; have : (ByteArray.mk #[32, 113, 117, 97, 110, 116, 105, 116, 121, 32]).size = 10 := rfl; have : (ByteArray.mk #[32, 100, 117, 101, 32]).size = 5 := rfl; have : (ByteArray.mk #[59, 10]).size = 2 := rfl; omega
              generalize Lib.itoa mq = tq at *
              generalize Lib.itoa md = td at *
              generalize hSB : (ByteArray.mk acc.toArray) = SB at *
              clear hSB
              generalize hOB : (ByteArray.mk mo.toArray) = OB at *
              generalize hPB : (ByteArray.mk mp.toArray) = PB at *
              generalize hQB : (ByteArray.mk tq.toArray) = QB at *
              generalize hDB : (ByteArray.mk td.toArray) = DB at *
              clear hOB hPB hQB hDB
              have m1 : (9223372036854775807 < SB.size + 6) = False := eq_false (by omega)
              have m2 : (9223372036854775807 < SB.size + 6 + OB.size) = False := eq_false (by omega)
              have m3 : (9223372036854775807 < SB.size + 6 + OB.size + 3) = False := eq_false (by omega)
              generalize (ByteArray.mk no.toArray) = NO at *
              have ne2 : (NO.toList != OB.toList) = true := by unfold bne; rw [es2]; rfl
              generalize hS1 : (ByteArray.mk acc1.toArray) = SB1 at *
              generalize hS2 : (ByteArray.mk acc2.toArray) = SB2 at *
              generalize hS3 : (ByteArray.mk acc3.toArray) = SB3 at *
              have HS3 := Lib.hid hS3
              have r1 : (9223372036854775807 < SB2.size + 2) = False := eq_false (by omega)
              clear hS3
              have HS2 := Lib.hid hS2
              clear hS1 hS2
              have p1 : (9223372036854775807 < SB1.size + 6) = False := eq_false (by omega)
              have p2 : (9223372036854775807 < SB1.size + 6 + PB.size) = False := eq_false (by omega)
              have p3 : (9223372036854775807 < SB1.size + 6 + PB.size + 10) = False := eq_false (by omega)
              have p4 : (9223372036854775807 < SB1.size + 6 + PB.size + 10 + QB.size) = False := eq_false (by omega)
              have p5 : (9223372036854775807 < SB1.size + 6 + PB.size + 10 + QB.size + 5) = False := eq_false (by omega)
              have p6 : (9223372036854775807 < SB1.size + 6 + PB.size + 10 + QB.size + 5 + DB.size) = False := eq_false (by omega)
              have p7 : (9223372036854775807 < SB1.size + 6 + PB.size + 10 + QB.size + 5 + DB.size + 2) = False := eq_false (by omega)
              have HG := Lib.hid hg
              have HBE := Lib.hid hbel
              have HSZ := Lib.hid (And.intro hsz (And.intro hs1 (And.intro hs2 hlen)))
              clear hsz hs1 hs2 hlen hqd hbel
              clear hz
              clear hla hno
              go_wp2_with fail
              go_quiet (fail)
              have hbW := Lib.hid (below_drewN (Below.refl wr.heap.size wr) nq)
              go_wp2_with fail
              rw [E1.out]
              have q0 : (wr.drewN nq).cell? ⟨g, off + (k) * 4, none⟩ = some (.string OB) := a0
              have q1 : (wr.drewN nq).cell? ⟨g, off + (k) * 4 + 1, none⟩ = some (.string PB) := a1
              have q2 : (wr.drewN nq).cell? ⟨g, off + (k) * 4 + 2, none⟩ = some (.int .i64 mq) := a2
              have q3 : (wr.drewN nq).cell? ⟨g, off + (k) * 4 + 3, none⟩ = some (.int .i64 md) := a3
              have q4 : (wr.drewN nq).cell? ⟨g, off + (k + 1) * 4, none⟩ = some (.string NO) := n0
              have hgW : g < (wr.drewN nq).heap.size := hg
              generalize (wr.drewN nq) = W0 at *
              clear a0 a1 a2 a3 n0
              go_region_held3 (fun w' => w'.cell? ⟨g, off + (k) * 4 + 1, none⟩ = some (.string PB) ∧ w'.cell? ⟨g, off + (k) * 4 + 2, none⟩ = some (.int .i64 mq) ∧ w'.cell? ⟨g, off + (k) * 4 + 3, none⟩ = some (.int .i64 md) ∧ Below W0.heap.size W0 w')
                (first | assumption | exact ⟨q1, q2, q3, bdrew (Below.refl _ _)⟩ | (refine held3 ?_ hb4 hgW; assumption))
                (first | (go_at_call_of 28 (Value.int .i64 mq); refine (HQ.out _).mono ?_; rintro e w4 ⟨rfl, hb4⟩) | (go_at_call_of 28 (Value.int .i64 md); refine (HD.out _).mono ?_; rintro e w4 ⟨rfl, hb4⟩))
              obtain ⟨_, _, _, hbG⟩ := ‹_ ∧ _ ∧ _ ∧ Below _ _ _›
              clear ‹_ ∧ _ ∧ _ ∧ Below _ _ _›
              have u0 := (hbG.cell (p := ⟨g, off + (k) * 4, none⟩) hgW).trans q0
              have u4 := (hbG.cell (p := ⟨g, off + (k + 1) * 4, none⟩) hgW).trans q4
              have hF9 := Lib.hid (HBE.out.trans ((hbW.out.trans (hbG.mono hbW.out.size)).mono HBE.out.size))
              clear q0 q1 q2 q3 hbG hgW q4
              go_wp2_with fail
              rw [E2.out]
              go_quiet (fail)
              have hF8 := Lib.hid (below_drewN hF9.out nq)
              go_wp2_with fail
              rw [E3.out]
              go_roundw
              case rel => exact ⟨k + 1, acc3, by omega, by go_num, by rw [HS3.out], HNX, hF8.out⟩
              case measure => simp [intOf]; omega

        · obtain ⟨j, rfl⟩ : ∃ j, k = j + 1 := ⟨k - 1, by omega⟩
          clear hz
          by_cases hpo : l[j].o = l[j + 1].o
          · by_cases hla : j + 1 = l.length - 1
            · obtain ⟨g, off, hAe, hg, ca⟩ := row_get it_len (by decide) (HR.out.below hbel) (by omega)
              subst hAe
              have a0 := ca (j + 1) hlt 0 (by decide)
              have a1 := ca (j + 1) hlt 1 (by decide)
              have a2 := ca (j + 1) hlt 2 (by decide)
              have a3 := ca (j + 1) hlt 3 (by decide)
              have hlen := Pq.ok_lens (HOK.out l[j + 1] (List.getElem_mem hlt))
              have hqd := Od.ok_parts (HOK.out l[j + 1] (List.getElem_mem hlt))
              have HQ := Lib.hid (fun W => ritoa_any l[j + 1].q W (by omega) (by omega))
              have HD := Lib.hid (fun W => ritoa_any l[j + 1].d W (by omega) (by omega))
              have b0 := ca j (by omega) 0 (by decide)
              have hpv : Pq.prev l (j + 1) = some l[j].o := Pq.prev_step (by omega)
              have es := text_eq l[j].o l[j + 1].o
              rw [decide_eq_true hpo] at es
              have hnew : Pq.prev l (j + 1) = some l[j + 1].o := by rw [hpv, hpo]
              have kz : (((j : Int) + 1) == 0) = false := by rw [beq_eq_false_iff_ne]; omega
              have x3 : IntKind.i64.wrap (j : Int) = (j : Int) := by rw [wrapEq]; unfold wrap64; omega
              have x4 : IntKind.i64.wrap ((j : Int) + 1 - 1) = (j : Int) := by rw [wrapEq]; unfold wrap64; omega
              have j0 : (0 : Int) ≤ (j : Int) := by omega
              have j1 : (j : Int) < (l.length : Int) := by omega
              have hend : Pq.ends l[j + 1].o (l.drop (j + 1 + 1)) = true := by rw [List.drop_eq_nil_of_le (by omega)]; rfl
              have lz : (((j : Int) + 1) == (l.length : Int) - 1) = true := by simp; omega
              have x2 : IntKind.i64.wrap ((l.length : Int) - 1) = (l.length : Int) - 1 := by rw [wrapEq]; unfold wrap64; omega
              have i0 : (0 : Int) ≤ ((j : Int) + 1) := by omega
              have i1 : ((j : Int) + 1) < (l.length : Int) := by omega
              have hst := Pq.text_drop hlt
              rw [if_pos hnew, if_pos hend] at hst
              have HST := Lib.hid hst
              clear hst hend hnew ca
              simp only [itCells, List.getElem?_cons_zero, Nat.add_zero] at b0
              generalize hPO : l[j].o = po at *
              clear hPO
              generalize hM : l[j + 1] = m at *
              clear hM
              obtain ⟨mo, mp, mq, md⟩ := m
              simp only [itCells, List.getElem?_cons_zero, List.getElem?_cons_succ, Nat.add_zero] at a0 a1 a2 a3
              simp only at hlen hqd HQ HD HST es
              unfold Pq.lineT at HST
              simp only at HST
              have hsz := HACC.out.2
              rw [← str_size mo, ← str_size mp, ← str_size (Lib.itoa mq), ← str_size (Lib.itoa md)] at hlen
              rw [← str_size] at hsz
              obtain ⟨acc1, HA1⟩ : ∃ acc1, Hid (acc1 = acc) := ⟨_, Lib.hid rfl⟩
              obtain ⟨acc2, HA2⟩ : ∃ acc2, Hid (acc2 = acc1 ++ (Pq.cPart ++ mp ++ Pq.cQuantity ++ Lib.itoa mq ++ Pq.cDue ++ Lib.itoa md ++ Pq.cSemi)) := ⟨_, Lib.hid rfl⟩
              obtain ⟨acc3, HA3⟩ : ∃ acc3, Hid (acc3 = acc2 ++ Pq.cClose) := ⟨_, Lib.hid rfl⟩
              have HNX : Hid (acc3 ++ Pq.text (Pq.prev l (j + 1 + 1)) (l.drop (j + 1 + 1)) = TT ∧ acc3.length ≤ 20000) := Lib.hid (by
                have e : acc3 ++ Pq.text (Pq.prev l (j + 1 + 1)) (l.drop (j + 1 + 1)) = TT := by
                  rw [← HACC.out.1, HST.out, HA3.out, HA2.out, HA1.out]
                  simp
                refine ⟨e, ?_⟩
                have := congrArg List.length e
                rw [List.length_append] at this
                have := HTT.out
                omega)
              have hs1 : (ByteArray.mk acc1.toArray).size ≤ 20100 := by rw [HA1.out]; omega
              have hA1 := HA1.out
              subst hA1
              have E2 : Hid ((ByteArray.mk acc1.toArray) ++ (ByteArray.mk #[9, 112, 97, 114, 116, 32]) ++ (ByteArray.mk mp.toArray) ++ (ByteArray.mk #[32, 113, 117, 97, 110, 116, 105, 116, 121, 32]) ++ (ByteArray.mk (Lib.itoa mq).toArray) ++ (ByteArray.mk #[32, 100, 117, 101, 32]) ++ (ByteArray.mk (Lib.itoa md).toArray) ++ (ByteArray.mk #[59, 10]) = ⟨acc2.toArray⟩) := Lib.hid (by rw [HA2.out]; exact line_str acc1 mp _ _)
              have E3 : Hid ((ByteArray.mk acc2.toArray) ++ (ByteArray.mk #[125, 10]) = ⟨acc3.toArray⟩) := Lib.hid (by rw [HA3.out]; exact close_str acc2)
              have hs2 : (ByteArray.mk acc2.toArray).size ≤ 20300 := by rw [← E2.out, ByteArray.size_append, ByteArray.size_append, ByteArray.size_append, ByteArray.size_append, ByteArray.size_append, ByteArray.size_append, ByteArray.size_append]; have : (ByteArray.mk #[9, 112, 97, 114, 116, 32]).size = 6 := rfl; have : (ByteArray.mk #[32, 113, 117, 97, 110, 116, 105, 116, 121, 32]).size = 10 := rfl; have : (ByteArray.mk #[32, 100, 117, 101, 32]).size = 5 := rfl; have : (ByteArray.mk #[59, 10]).size = 2 := rfl; omega
              generalize Lib.itoa mq = tq at *
              generalize Lib.itoa md = td at *
              generalize hOB : (ByteArray.mk mo.toArray) = OB at *
              generalize hPB : (ByteArray.mk mp.toArray) = PB at *
              generalize hQB : (ByteArray.mk tq.toArray) = QB at *
              generalize hDB : (ByteArray.mk td.toArray) = DB at *
              clear hOB hPB hQB hDB
              generalize (ByteArray.mk po.toArray) = PO at *
              have ne1 : (PO.toList != OB.toList) = false := by unfold bne; rw [es]; rfl
              generalize hS1 : (ByteArray.mk acc1.toArray) = SB1 at *
              generalize hS2 : (ByteArray.mk acc2.toArray) = SB2 at *
              generalize hS3 : (ByteArray.mk acc3.toArray) = SB3 at *
              have HS3 := Lib.hid hS3
              have r1 : (9223372036854775807 < SB2.size + 2) = False := eq_false (by omega)
              clear hS3
              have HS2 := Lib.hid hS2
              clear hS1 hS2
              have p1 : (9223372036854775807 < SB1.size + 6) = False := eq_false (by omega)
              have p2 : (9223372036854775807 < SB1.size + 6 + PB.size) = False := eq_false (by omega)
              have p3 : (9223372036854775807 < SB1.size + 6 + PB.size + 10) = False := eq_false (by omega)
              have p4 : (9223372036854775807 < SB1.size + 6 + PB.size + 10 + QB.size) = False := eq_false (by omega)
              have p5 : (9223372036854775807 < SB1.size + 6 + PB.size + 10 + QB.size + 5) = False := eq_false (by omega)
              have p6 : (9223372036854775807 < SB1.size + 6 + PB.size + 10 + QB.size + 5 + DB.size) = False := eq_false (by omega)
              have p7 : (9223372036854775807 < SB1.size + 6 + PB.size + 10 + QB.size + 5 + DB.size + 2) = False := eq_false (by omega)
              have HG := Lib.hid hg
              have HBE := Lib.hid hbel
              have HSZ := Lib.hid (And.intro hsz (And.intro hs1 (And.intro hs2 hlen)))
              clear hsz hs1 hs2 hlen hqd hbel
              clear hla
              clear hpo
              go_wp2_with fail
              go_quiet (fail)
              have hbW := Lib.hid (below_drewN (Below.refl wr.heap.size wr) nq)
              go_wp2_with fail
              have q0 : (wr.drewN nq).cell? ⟨g, off + (j + 1) * 4, none⟩ = some (.string OB) := a0
              have q1 : (wr.drewN nq).cell? ⟨g, off + (j + 1) * 4 + 1, none⟩ = some (.string PB) := a1
              have q2 : (wr.drewN nq).cell? ⟨g, off + (j + 1) * 4 + 2, none⟩ = some (.int .i64 mq) := a2
              have q3 : (wr.drewN nq).cell? ⟨g, off + (j + 1) * 4 + 3, none⟩ = some (.int .i64 md) := a3
              have hgW : g < (wr.drewN nq).heap.size := hg
              generalize (wr.drewN nq) = W0 at *
              clear a0 a1 a2 a3 b0
              go_region_held3 (fun w' => w'.cell? ⟨g, off + (j + 1) * 4 + 1, none⟩ = some (.string PB) ∧ w'.cell? ⟨g, off + (j + 1) * 4 + 2, none⟩ = some (.int .i64 mq) ∧ w'.cell? ⟨g, off + (j + 1) * 4 + 3, none⟩ = some (.int .i64 md) ∧ Below W0.heap.size W0 w')
                (first | assumption | exact ⟨q1, q2, q3, bdrew (Below.refl _ _)⟩ | (refine held3 ?_ hb4 hgW; assumption))
                (first | (go_at_call_of 28 (Value.int .i64 mq); refine (HQ.out _).mono ?_; rintro e w4 ⟨rfl, hb4⟩) | (go_at_call_of 28 (Value.int .i64 md); refine (HD.out _).mono ?_; rintro e w4 ⟨rfl, hb4⟩))
              obtain ⟨_, _, _, hbG⟩ := ‹_ ∧ _ ∧ _ ∧ Below _ _ _›
              clear ‹_ ∧ _ ∧ _ ∧ Below _ _ _›
              have u0 := (hbG.cell (p := ⟨g, off + (j + 1) * 4, none⟩) hgW).trans q0
              have hF9 := Lib.hid (HBE.out.trans ((hbW.out.trans (hbG.mono hbW.out.size)).mono HBE.out.size))
              clear q0 q1 q2 q3 hbG hgW
              go_wp2_with fail
              rw [E2.out]
              go_quiet (fail)
              have hF8 := Lib.hid (below_drewN hF9.out nq)
              go_wp2_with fail
              rw [E3.out]
              go_roundw
              case rel => exact ⟨j + 1 + 1, acc3, by omega, by go_num, by rw [HS3.out], HNX, hF8.out⟩
              case measure => simp [intOf]; omega

            · have hk9 : j + 1 + 1 < l.length := by omega
              by_cases hno : l[j + 1 + 1].o = l[j + 1].o
              · obtain ⟨g, off, hAe, hg, ca⟩ := row_get it_len (by decide) (HR.out.below hbel) (by omega)
                subst hAe
                have a0 := ca (j + 1) hlt 0 (by decide)
                have a1 := ca (j + 1) hlt 1 (by decide)
                have a2 := ca (j + 1) hlt 2 (by decide)
                have a3 := ca (j + 1) hlt 3 (by decide)
                have hlen := Pq.ok_lens (HOK.out l[j + 1] (List.getElem_mem hlt))
                have hqd := Od.ok_parts (HOK.out l[j + 1] (List.getElem_mem hlt))
                have HQ := Lib.hid (fun W => ritoa_any l[j + 1].q W (by omega) (by omega))
                have HD := Lib.hid (fun W => ritoa_any l[j + 1].d W (by omega) (by omega))
                have b0 := ca j (by omega) 0 (by decide)
                have hpv : Pq.prev l (j + 1) = some l[j].o := Pq.prev_step (by omega)
                have es := text_eq l[j].o l[j + 1].o
                rw [decide_eq_true hpo] at es
                have hnew : Pq.prev l (j + 1) = some l[j + 1].o := by rw [hpv, hpo]
                have kz : (((j : Int) + 1) == 0) = false := by rw [beq_eq_false_iff_ne]; omega
                have x3 : IntKind.i64.wrap (j : Int) = (j : Int) := by rw [wrapEq]; unfold wrap64; omega
                have x4 : IntKind.i64.wrap ((j : Int) + 1 - 1) = (j : Int) := by rw [wrapEq]; unfold wrap64; omega
                have j0 : (0 : Int) ≤ (j : Int) := by omega
                have j1 : (j : Int) < (l.length : Int) := by omega
                have n0 := ca (j + 1 + 1) (by omega) 0 (by decide)
                have hend : Pq.ends l[j + 1].o (l.drop (j + 1 + 1)) = false := by rw [List.drop_eq_getElem_cons (by omega : j + 1 + 1 < l.length)]; simp [Pq.ends, hno]
                have lz : (((j : Int) + 1) == (l.length : Int) - 1) = false := by rw [beq_eq_false_iff_ne]; omega
                have es2 := text_eq l[j + 1 + 1].o l[j + 1].o
                rw [decide_eq_true hno] at es2
                have i2 : (0 : Int) ≤ ((j : Int) + 1) + 1 := by omega
                have i3 : ((j : Int) + 1) + 1 < (l.length : Int) := by omega
                have x1 : IntKind.i64.wrap (((j : Int) + 1) + 1) = ((j : Int) + 1) + 1 := by rw [wrapEq]; unfold wrap64; omega
                have x2 : IntKind.i64.wrap ((l.length : Int) - 1) = (l.length : Int) - 1 := by rw [wrapEq]; unfold wrap64; omega
                have i0 : (0 : Int) ≤ ((j : Int) + 1) := by omega
                have i1 : ((j : Int) + 1) < (l.length : Int) := by omega
                have hst := Pq.text_drop hlt
                rw [if_pos hnew, if_neg (by rw [hend]; simp)] at hst
                have HST := Lib.hid hst
                clear hst hend hnew ca
                simp only [itCells, List.getElem?_cons_zero, Nat.add_zero] at b0
                generalize hPO : l[j].o = po at *
                clear hPO
                simp only [itCells, List.getElem?_cons_zero, Nat.add_zero] at n0
                generalize hNO : l[j + 1 + 1].o = no at *
                clear hNO
                generalize hM : l[j + 1] = m at *
                clear hM
                obtain ⟨mo, mp, mq, md⟩ := m
                simp only [itCells, List.getElem?_cons_zero, List.getElem?_cons_succ, Nat.add_zero] at a0 a1 a2 a3
                simp only at hlen hqd HQ HD HST es es2
                unfold Pq.lineT at HST
                simp only at HST
                have hsz := HACC.out.2
                rw [← str_size mo, ← str_size mp, ← str_size (Lib.itoa mq), ← str_size (Lib.itoa md)] at hlen
                rw [← str_size] at hsz
                obtain ⟨acc1, HA1⟩ : ∃ acc1, Hid (acc1 = acc) := ⟨_, Lib.hid rfl⟩
                obtain ⟨acc2, HA2⟩ : ∃ acc2, Hid (acc2 = acc1 ++ (Pq.cPart ++ mp ++ Pq.cQuantity ++ Lib.itoa mq ++ Pq.cDue ++ Lib.itoa md ++ Pq.cSemi)) := ⟨_, Lib.hid rfl⟩
                obtain ⟨acc3, HA3⟩ : ∃ acc3, Hid (acc3 = acc2) := ⟨_, Lib.hid rfl⟩
                have HNX : Hid (acc3 ++ Pq.text (Pq.prev l (j + 1 + 1)) (l.drop (j + 1 + 1)) = TT ∧ acc3.length ≤ 20000) := Lib.hid (by
                  have e : acc3 ++ Pq.text (Pq.prev l (j + 1 + 1)) (l.drop (j + 1 + 1)) = TT := by
                    rw [← HACC.out.1, HST.out, HA3.out, HA2.out, HA1.out]
                    simp
                  refine ⟨e, ?_⟩
                  have := congrArg List.length e
                  rw [List.length_append] at this
                  have := HTT.out
                  omega)
                have hs1 : (ByteArray.mk acc1.toArray).size ≤ 20100 := by rw [HA1.out]; omega
                have hA1 := HA1.out
                subst hA1
                have E2 : Hid ((ByteArray.mk acc1.toArray) ++ (ByteArray.mk #[9, 112, 97, 114, 116, 32]) ++ (ByteArray.mk mp.toArray) ++ (ByteArray.mk #[32, 113, 117, 97, 110, 116, 105, 116, 121, 32]) ++ (ByteArray.mk (Lib.itoa mq).toArray) ++ (ByteArray.mk #[32, 100, 117, 101, 32]) ++ (ByteArray.mk (Lib.itoa md).toArray) ++ (ByteArray.mk #[59, 10]) = ⟨acc2.toArray⟩) := Lib.hid (by rw [HA2.out]; exact line_str acc1 mp _ _)
                have hA3 := HA3.out.symm
                subst hA3
                have hs2 : (ByteArray.mk acc2.toArray).size ≤ 20300 := by rw [← E2.out, ByteArray.size_append, ByteArray.size_append, ByteArray.size_append, ByteArray.size_append, ByteArray.size_append, ByteArray.size_append, ByteArray.size_append]; have : (ByteArray.mk #[9, 112, 97, 114, 116, 32]).size = 6 := rfl; have : (ByteArray.mk #[32, 113, 117, 97, 110, 116, 105, 116, 121, 32]).size = 10 := rfl; have : (ByteArray.mk #[32, 100, 117, 101, 32]).size = 5 := rfl; have : (ByteArray.mk #[59, 10]).size = 2 := rfl; omega
                generalize Lib.itoa mq = tq at *
                generalize Lib.itoa md = td at *
                generalize hOB : (ByteArray.mk mo.toArray) = OB at *
                generalize hPB : (ByteArray.mk mp.toArray) = PB at *
                generalize hQB : (ByteArray.mk tq.toArray) = QB at *
                generalize hDB : (ByteArray.mk td.toArray) = DB at *
                clear hOB hPB hQB hDB
                generalize (ByteArray.mk po.toArray) = PO at *
                generalize (ByteArray.mk no.toArray) = NO at *
                have ne1 : (PO.toList != OB.toList) = false := by unfold bne; rw [es]; rfl
                have ne2 : (NO.toList != OB.toList) = false := by unfold bne; rw [es2]; rfl
                generalize hS1 : (ByteArray.mk acc1.toArray) = SB1 at *
                generalize hS2 : (ByteArray.mk acc2.toArray) = SB2 at *
                have HS2 := Lib.hid hS2
                clear hS1 hS2
                have p1 : (9223372036854775807 < SB1.size + 6) = False := eq_false (by omega)
                have p2 : (9223372036854775807 < SB1.size + 6 + PB.size) = False := eq_false (by omega)
                have p3 : (9223372036854775807 < SB1.size + 6 + PB.size + 10) = False := eq_false (by omega)
                have p4 : (9223372036854775807 < SB1.size + 6 + PB.size + 10 + QB.size) = False := eq_false (by omega)
                have p5 : (9223372036854775807 < SB1.size + 6 + PB.size + 10 + QB.size + 5) = False := eq_false (by omega)
                have p6 : (9223372036854775807 < SB1.size + 6 + PB.size + 10 + QB.size + 5 + DB.size) = False := eq_false (by omega)
                have p7 : (9223372036854775807 < SB1.size + 6 + PB.size + 10 + QB.size + 5 + DB.size + 2) = False := eq_false (by omega)
                have HG := Lib.hid hg
                have HBE := Lib.hid hbel
                have HSZ := Lib.hid (And.intro hsz (And.intro hs1 (And.intro hs2 hlen)))
                clear hsz hs1 hs2 hlen hqd hbel
                clear hla hno
                clear hpo
                go_wp2_with fail
                go_quiet (fail)
                have hbW := Lib.hid (below_drewN (Below.refl wr.heap.size wr) nq)
                go_wp2_with fail
                have q0 : (wr.drewN nq).cell? ⟨g, off + (j + 1) * 4, none⟩ = some (.string OB) := a0
                have q1 : (wr.drewN nq).cell? ⟨g, off + (j + 1) * 4 + 1, none⟩ = some (.string PB) := a1
                have q2 : (wr.drewN nq).cell? ⟨g, off + (j + 1) * 4 + 2, none⟩ = some (.int .i64 mq) := a2
                have q3 : (wr.drewN nq).cell? ⟨g, off + (j + 1) * 4 + 3, none⟩ = some (.int .i64 md) := a3
                have q4 : (wr.drewN nq).cell? ⟨g, off + (j + 1 + 1) * 4, none⟩ = some (.string NO) := n0
                have hgW : g < (wr.drewN nq).heap.size := hg
                generalize (wr.drewN nq) = W0 at *
                clear a0 a1 a2 a3 b0 n0
                go_region_held3 (fun w' => w'.cell? ⟨g, off + (j + 1) * 4 + 1, none⟩ = some (.string PB) ∧ w'.cell? ⟨g, off + (j + 1) * 4 + 2, none⟩ = some (.int .i64 mq) ∧ w'.cell? ⟨g, off + (j + 1) * 4 + 3, none⟩ = some (.int .i64 md) ∧ Below W0.heap.size W0 w')
                  (first | assumption | exact ⟨q1, q2, q3, bdrew (Below.refl _ _)⟩ | (refine held3 ?_ hb4 hgW; assumption))
                  (first | (go_at_call_of 28 (Value.int .i64 mq); refine (HQ.out _).mono ?_; rintro e w4 ⟨rfl, hb4⟩) | (go_at_call_of 28 (Value.int .i64 md); refine (HD.out _).mono ?_; rintro e w4 ⟨rfl, hb4⟩))
                obtain ⟨_, _, _, hbG⟩ := ‹_ ∧ _ ∧ _ ∧ Below _ _ _›
                clear ‹_ ∧ _ ∧ _ ∧ Below _ _ _›
                have u0 := (hbG.cell (p := ⟨g, off + (j + 1) * 4, none⟩) hgW).trans q0
                have u4 := (hbG.cell (p := ⟨g, off + (j + 1 + 1) * 4, none⟩) hgW).trans q4
                have hF9 := Lib.hid (HBE.out.trans ((hbW.out.trans (hbG.mono hbW.out.size)).mono HBE.out.size))
                clear q0 q1 q2 q3 hbG hgW q4
                go_wp2_with fail
                rw [E2.out]
                go_quiet (fail)
                have hF8 := Lib.hid (below_drewN hF9.out nq)
                go_wp2_with fail
                go_roundw
                case rel => exact ⟨j + 1 + 1, acc2, by omega, by go_num, by rw [HS2.out], HNX, hF8.out⟩
                case measure => simp [intOf]; omega

              · obtain ⟨g, off, hAe, hg, ca⟩ := row_get it_len (by decide) (HR.out.below hbel) (by omega)
                subst hAe
                have a0 := ca (j + 1) hlt 0 (by decide)
                have a1 := ca (j + 1) hlt 1 (by decide)
                have a2 := ca (j + 1) hlt 2 (by decide)
                have a3 := ca (j + 1) hlt 3 (by decide)
                have hlen := Pq.ok_lens (HOK.out l[j + 1] (List.getElem_mem hlt))
                have hqd := Od.ok_parts (HOK.out l[j + 1] (List.getElem_mem hlt))
                have HQ := Lib.hid (fun W => ritoa_any l[j + 1].q W (by omega) (by omega))
                have HD := Lib.hid (fun W => ritoa_any l[j + 1].d W (by omega) (by omega))
                have b0 := ca j (by omega) 0 (by decide)
                have hpv : Pq.prev l (j + 1) = some l[j].o := Pq.prev_step (by omega)
                have es := text_eq l[j].o l[j + 1].o
                rw [decide_eq_true hpo] at es
                have hnew : Pq.prev l (j + 1) = some l[j + 1].o := by rw [hpv, hpo]
                have kz : (((j : Int) + 1) == 0) = false := by rw [beq_eq_false_iff_ne]; omega
                have x3 : IntKind.i64.wrap (j : Int) = (j : Int) := by rw [wrapEq]; unfold wrap64; omega
                have x4 : IntKind.i64.wrap ((j : Int) + 1 - 1) = (j : Int) := by rw [wrapEq]; unfold wrap64; omega
                have j0 : (0 : Int) ≤ (j : Int) := by omega
                have j1 : (j : Int) < (l.length : Int) := by omega
                have n0 := ca (j + 1 + 1) (by omega) 0 (by decide)
                have hend : Pq.ends l[j + 1].o (l.drop (j + 1 + 1)) = true := by rw [List.drop_eq_getElem_cons (by omega : j + 1 + 1 < l.length)]; simp [Pq.ends, hno]
                have lz : (((j : Int) + 1) == (l.length : Int) - 1) = false := by rw [beq_eq_false_iff_ne]; omega
                have es2 := text_eq l[j + 1 + 1].o l[j + 1].o
                rw [decide_eq_false hno] at es2
                have i2 : (0 : Int) ≤ ((j : Int) + 1) + 1 := by omega
                have i3 : ((j : Int) + 1) + 1 < (l.length : Int) := by omega
                have x1 : IntKind.i64.wrap (((j : Int) + 1) + 1) = ((j : Int) + 1) + 1 := by rw [wrapEq]; unfold wrap64; omega
                have x2 : IntKind.i64.wrap ((l.length : Int) - 1) = (l.length : Int) - 1 := by rw [wrapEq]; unfold wrap64; omega
                have i0 : (0 : Int) ≤ ((j : Int) + 1) := by omega
                have i1 : ((j : Int) + 1) < (l.length : Int) := by omega
                have hst := Pq.text_drop hlt
                rw [if_pos hnew, if_pos hend] at hst
                have HST := Lib.hid hst
                clear hst hend hnew ca
                simp only [itCells, List.getElem?_cons_zero, Nat.add_zero] at b0
                generalize hPO : l[j].o = po at *
                clear hPO
                simp only [itCells, List.getElem?_cons_zero, Nat.add_zero] at n0
                generalize hNO : l[j + 1 + 1].o = no at *
                clear hNO
                generalize hM : l[j + 1] = m at *
                clear hM
                obtain ⟨mo, mp, mq, md⟩ := m
                simp only [itCells, List.getElem?_cons_zero, List.getElem?_cons_succ, Nat.add_zero] at a0 a1 a2 a3
                simp only at hlen hqd HQ HD HST es es2
                unfold Pq.lineT at HST
                simp only at HST
                have hsz := HACC.out.2
                rw [← str_size mo, ← str_size mp, ← str_size (Lib.itoa mq), ← str_size (Lib.itoa md)] at hlen
                rw [← str_size] at hsz
                obtain ⟨acc1, HA1⟩ : ∃ acc1, Hid (acc1 = acc) := ⟨_, Lib.hid rfl⟩
                obtain ⟨acc2, HA2⟩ : ∃ acc2, Hid (acc2 = acc1 ++ (Pq.cPart ++ mp ++ Pq.cQuantity ++ Lib.itoa mq ++ Pq.cDue ++ Lib.itoa md ++ Pq.cSemi)) := ⟨_, Lib.hid rfl⟩
                obtain ⟨acc3, HA3⟩ : ∃ acc3, Hid (acc3 = acc2 ++ Pq.cClose) := ⟨_, Lib.hid rfl⟩
                have HNX : Hid (acc3 ++ Pq.text (Pq.prev l (j + 1 + 1)) (l.drop (j + 1 + 1)) = TT ∧ acc3.length ≤ 20000) := Lib.hid (by
                  have e : acc3 ++ Pq.text (Pq.prev l (j + 1 + 1)) (l.drop (j + 1 + 1)) = TT := by
                    rw [← HACC.out.1, HST.out, HA3.out, HA2.out, HA1.out]
                    simp
                  refine ⟨e, ?_⟩
                  have := congrArg List.length e
                  rw [List.length_append] at this
                  have := HTT.out
                  omega)
                have hs1 : (ByteArray.mk acc1.toArray).size ≤ 20100 := by rw [HA1.out]; omega
                have hA1 := HA1.out
                subst hA1
                have E2 : Hid ((ByteArray.mk acc1.toArray) ++ (ByteArray.mk #[9, 112, 97, 114, 116, 32]) ++ (ByteArray.mk mp.toArray) ++ (ByteArray.mk #[32, 113, 117, 97, 110, 116, 105, 116, 121, 32]) ++ (ByteArray.mk (Lib.itoa mq).toArray) ++ (ByteArray.mk #[32, 100, 117, 101, 32]) ++ (ByteArray.mk (Lib.itoa md).toArray) ++ (ByteArray.mk #[59, 10]) = ⟨acc2.toArray⟩) := Lib.hid (by rw [HA2.out]; exact line_str acc1 mp _ _)
                have E3 : Hid ((ByteArray.mk acc2.toArray) ++ (ByteArray.mk #[125, 10]) = ⟨acc3.toArray⟩) := Lib.hid (by rw [HA3.out]; exact close_str acc2)
                have hs2 : (ByteArray.mk acc2.toArray).size ≤ 20300 := by rw [← E2.out, ByteArray.size_append, ByteArray.size_append, ByteArray.size_append, ByteArray.size_append, ByteArray.size_append, ByteArray.size_append, ByteArray.size_append]; have : (ByteArray.mk #[9, 112, 97, 114, 116, 32]).size = 6 := rfl; have : (ByteArray.mk #[32, 113, 117, 97, 110, 116, 105, 116, 121, 32]).size = 10 := rfl; have : (ByteArray.mk #[32, 100, 117, 101, 32]).size = 5 := rfl; have : (ByteArray.mk #[59, 10]).size = 2 := rfl; omega
                generalize Lib.itoa mq = tq at *
                generalize Lib.itoa md = td at *
                generalize hOB : (ByteArray.mk mo.toArray) = OB at *
                generalize hPB : (ByteArray.mk mp.toArray) = PB at *
                generalize hQB : (ByteArray.mk tq.toArray) = QB at *
                generalize hDB : (ByteArray.mk td.toArray) = DB at *
                clear hOB hPB hQB hDB
                generalize (ByteArray.mk po.toArray) = PO at *
                generalize (ByteArray.mk no.toArray) = NO at *
                have ne1 : (PO.toList != OB.toList) = false := by unfold bne; rw [es]; rfl
                have ne2 : (NO.toList != OB.toList) = true := by unfold bne; rw [es2]; rfl
                generalize hS1 : (ByteArray.mk acc1.toArray) = SB1 at *
                generalize hS2 : (ByteArray.mk acc2.toArray) = SB2 at *
                generalize hS3 : (ByteArray.mk acc3.toArray) = SB3 at *
                have HS3 := Lib.hid hS3
                have r1 : (9223372036854775807 < SB2.size + 2) = False := eq_false (by omega)
                clear hS3
                have HS2 := Lib.hid hS2
                clear hS1 hS2
                have p1 : (9223372036854775807 < SB1.size + 6) = False := eq_false (by omega)
                have p2 : (9223372036854775807 < SB1.size + 6 + PB.size) = False := eq_false (by omega)
                have p3 : (9223372036854775807 < SB1.size + 6 + PB.size + 10) = False := eq_false (by omega)
                have p4 : (9223372036854775807 < SB1.size + 6 + PB.size + 10 + QB.size) = False := eq_false (by omega)
                have p5 : (9223372036854775807 < SB1.size + 6 + PB.size + 10 + QB.size + 5) = False := eq_false (by omega)
                have p6 : (9223372036854775807 < SB1.size + 6 + PB.size + 10 + QB.size + 5 + DB.size) = False := eq_false (by omega)
                have p7 : (9223372036854775807 < SB1.size + 6 + PB.size + 10 + QB.size + 5 + DB.size + 2) = False := eq_false (by omega)
                have HG := Lib.hid hg
                have HBE := Lib.hid hbel
                have HSZ := Lib.hid (And.intro hsz (And.intro hs1 (And.intro hs2 hlen)))
                clear hsz hs1 hs2 hlen hqd hbel
                clear hla hno
                clear hpo
                go_wp2_with fail
                go_quiet (fail)
                have hbW := Lib.hid (below_drewN (Below.refl wr.heap.size wr) nq)
                go_wp2_with fail
                have q0 : (wr.drewN nq).cell? ⟨g, off + (j + 1) * 4, none⟩ = some (.string OB) := a0
                have q1 : (wr.drewN nq).cell? ⟨g, off + (j + 1) * 4 + 1, none⟩ = some (.string PB) := a1
                have q2 : (wr.drewN nq).cell? ⟨g, off + (j + 1) * 4 + 2, none⟩ = some (.int .i64 mq) := a2
                have q3 : (wr.drewN nq).cell? ⟨g, off + (j + 1) * 4 + 3, none⟩ = some (.int .i64 md) := a3
                have q4 : (wr.drewN nq).cell? ⟨g, off + (j + 1 + 1) * 4, none⟩ = some (.string NO) := n0
                have hgW : g < (wr.drewN nq).heap.size := hg
                generalize (wr.drewN nq) = W0 at *
                clear a0 a1 a2 a3 b0 n0
                go_region_held3 (fun w' => w'.cell? ⟨g, off + (j + 1) * 4 + 1, none⟩ = some (.string PB) ∧ w'.cell? ⟨g, off + (j + 1) * 4 + 2, none⟩ = some (.int .i64 mq) ∧ w'.cell? ⟨g, off + (j + 1) * 4 + 3, none⟩ = some (.int .i64 md) ∧ Below W0.heap.size W0 w')
                  (first | assumption | exact ⟨q1, q2, q3, bdrew (Below.refl _ _)⟩ | (refine held3 ?_ hb4 hgW; assumption))
                  (first | (go_at_call_of 28 (Value.int .i64 mq); refine (HQ.out _).mono ?_; rintro e w4 ⟨rfl, hb4⟩) | (go_at_call_of 28 (Value.int .i64 md); refine (HD.out _).mono ?_; rintro e w4 ⟨rfl, hb4⟩))
                obtain ⟨_, _, _, hbG⟩ := ‹_ ∧ _ ∧ _ ∧ Below _ _ _›
                clear ‹_ ∧ _ ∧ _ ∧ Below _ _ _›
                have u0 := (hbG.cell (p := ⟨g, off + (j + 1) * 4, none⟩) hgW).trans q0
                have u4 := (hbG.cell (p := ⟨g, off + (j + 1 + 1) * 4, none⟩) hgW).trans q4
                have hF9 := Lib.hid (HBE.out.trans ((hbW.out.trans (hbG.mono hbW.out.size)).mono HBE.out.size))
                clear q0 q1 q2 q3 hbG hgW q4
                go_wp2_with fail
                rw [E2.out]
                go_quiet (fail)
                have hF8 := Lib.hid (below_drewN hF9.out nq)
                go_wp2_with fail
                rw [E3.out]
                go_roundw
                case rel => exact ⟨j + 1 + 1, acc3, by omega, by go_num, by rw [HS3.out], HNX, hF8.out⟩
                case measure => simp [intOf]; omega

          · by_cases hla : j + 1 = l.length - 1
            · obtain ⟨g, off, hAe, hg, ca⟩ := row_get it_len (by decide) (HR.out.below hbel) (by omega)
              subst hAe
              have a0 := ca (j + 1) hlt 0 (by decide)
              have a1 := ca (j + 1) hlt 1 (by decide)
              have a2 := ca (j + 1) hlt 2 (by decide)
              have a3 := ca (j + 1) hlt 3 (by decide)
              have hlen := Pq.ok_lens (HOK.out l[j + 1] (List.getElem_mem hlt))
              have hqd := Od.ok_parts (HOK.out l[j + 1] (List.getElem_mem hlt))
              have HQ := Lib.hid (fun W => ritoa_any l[j + 1].q W (by omega) (by omega))
              have HD := Lib.hid (fun W => ritoa_any l[j + 1].d W (by omega) (by omega))
              have b0 := ca j (by omega) 0 (by decide)
              have hpv : Pq.prev l (j + 1) = some l[j].o := Pq.prev_step (by omega)
              have es := text_eq l[j].o l[j + 1].o
              rw [decide_eq_false hpo] at es
              have hnew : Pq.prev l (j + 1) ≠ some l[j + 1].o := by rw [hpv]; intro e; injection e with e; exact hpo e
              have kz : (((j : Int) + 1) == 0) = false := by rw [beq_eq_false_iff_ne]; omega
              have x3 : IntKind.i64.wrap (j : Int) = (j : Int) := by rw [wrapEq]; unfold wrap64; omega
              have x4 : IntKind.i64.wrap ((j : Int) + 1 - 1) = (j : Int) := by rw [wrapEq]; unfold wrap64; omega
              have j0 : (0 : Int) ≤ (j : Int) := by omega
              have j1 : (j : Int) < (l.length : Int) := by omega
              have hend : Pq.ends l[j + 1].o (l.drop (j + 1 + 1)) = true := by rw [List.drop_eq_nil_of_le (by omega)]; rfl
              have lz : (((j : Int) + 1) == (l.length : Int) - 1) = true := by simp; omega
              have x2 : IntKind.i64.wrap ((l.length : Int) - 1) = (l.length : Int) - 1 := by rw [wrapEq]; unfold wrap64; omega
              have i0 : (0 : Int) ≤ ((j : Int) + 1) := by omega
              have i1 : ((j : Int) + 1) < (l.length : Int) := by omega
              have hst := Pq.text_drop hlt
              rw [if_neg hnew, if_pos hend] at hst
              have HST := Lib.hid hst
              clear hst hend hnew ca
              simp only [itCells, List.getElem?_cons_zero, Nat.add_zero] at b0
              generalize hPO : l[j].o = po at *
              clear hPO
              generalize hM : l[j + 1] = m at *
              clear hM
              obtain ⟨mo, mp, mq, md⟩ := m
              simp only [itCells, List.getElem?_cons_zero, List.getElem?_cons_succ, Nat.add_zero] at a0 a1 a2 a3
              simp only at hlen hqd HQ HD HST es
              unfold Pq.lineT at HST
              simp only at HST
              have hsz := HACC.out.2
              rw [← str_size mo, ← str_size mp, ← str_size (Lib.itoa mq), ← str_size (Lib.itoa md)] at hlen
              rw [← str_size] at hsz
              obtain ⟨acc1, HA1⟩ : ∃ acc1, Hid (acc1 = acc ++ Pq.openT mo) := ⟨_, Lib.hid rfl⟩
              obtain ⟨acc2, HA2⟩ : ∃ acc2, Hid (acc2 = acc1 ++ (Pq.cPart ++ mp ++ Pq.cQuantity ++ Lib.itoa mq ++ Pq.cDue ++ Lib.itoa md ++ Pq.cSemi)) := ⟨_, Lib.hid rfl⟩
              obtain ⟨acc3, HA3⟩ : ∃ acc3, Hid (acc3 = acc2 ++ Pq.cClose) := ⟨_, Lib.hid rfl⟩
              have HNX : Hid (acc3 ++ Pq.text (Pq.prev l (j + 1 + 1)) (l.drop (j + 1 + 1)) = TT ∧ acc3.length ≤ 20000) := Lib.hid (by
                have e : acc3 ++ Pq.text (Pq.prev l (j + 1 + 1)) (l.drop (j + 1 + 1)) = TT := by
                  rw [← HACC.out.1, HST.out, HA3.out, HA2.out, HA1.out]
                  simp
                refine ⟨e, ?_⟩
                have := congrArg List.length e
                rw [List.length_append] at this
                have := HTT.out
                omega)
              have E1 : Hid ((ByteArray.mk acc.toArray) ++ (ByteArray.mk #[111, 114, 100, 101, 114, 32]) ++ (ByteArray.mk mo.toArray) ++ (ByteArray.mk #[32, 123, 10]) = ⟨acc1.toArray⟩) := Lib.hid (by rw [HA1.out]; exact open_str acc mo)
              have hs1 : (ByteArray.mk acc1.toArray).size ≤ 20100 := by rw [← E1.out, ByteArray.size_append, ByteArray.size_append, ByteArray.size_append]; have : (ByteArray.mk #[111, 114, 100, 101, 114, 32]).size = 6 := rfl; have : (ByteArray.mk #[32, 123, 10]).size = 3 := rfl; omega
              have E2 : Hid ((ByteArray.mk acc1.toArray) ++ (ByteArray.mk #[9, 112, 97, 114, 116, 32]) ++ (ByteArray.mk mp.toArray) ++ (ByteArray.mk #[32, 113, 117, 97, 110, 116, 105, 116, 121, 32]) ++ (ByteArray.mk (Lib.itoa mq).toArray) ++ (ByteArray.mk #[32, 100, 117, 101, 32]) ++ (ByteArray.mk (Lib.itoa md).toArray) ++ (ByteArray.mk #[59, 10]) = ⟨acc2.toArray⟩) := Lib.hid (by rw [HA2.out]; exact line_str acc1 mp _ _)
              have E3 : Hid ((ByteArray.mk acc2.toArray) ++ (ByteArray.mk #[125, 10]) = ⟨acc3.toArray⟩) := Lib.hid (by rw [HA3.out]; exact close_str acc2)
              have hs2 : (ByteArray.mk acc2.toArray).size ≤ 20300 := by rw [← E2.out, ByteArray.size_append, ByteArray.size_append, ByteArray.size_append, ByteArray.size_append, ByteArray.size_append, ByteArray.size_append, ByteArray.size_append]; have : (ByteArray.mk #[9, 112, 97, 114, 116, 32]).size = 6 := rfl; have : (ByteArray.mk #[32, 113, 117, 97, 110, 116, 105, 116, 121, 32]).size = 10 := rfl; have : (ByteArray.mk #[32, 100, 117, 101, 32]).size = 5 := rfl; have : (ByteArray.mk #[59, 10]).size = 2 := rfl; omega
              generalize Lib.itoa mq = tq at *
              generalize Lib.itoa md = td at *
              generalize hSB : (ByteArray.mk acc.toArray) = SB at *
              clear hSB
              generalize hOB : (ByteArray.mk mo.toArray) = OB at *
              generalize hPB : (ByteArray.mk mp.toArray) = PB at *
              generalize hQB : (ByteArray.mk tq.toArray) = QB at *
              generalize hDB : (ByteArray.mk td.toArray) = DB at *
              clear hOB hPB hQB hDB
              have m1 : (9223372036854775807 < SB.size + 6) = False := eq_false (by omega)
              have m2 : (9223372036854775807 < SB.size + 6 + OB.size) = False := eq_false (by omega)
              have m3 : (9223372036854775807 < SB.size + 6 + OB.size + 3) = False := eq_false (by omega)
              generalize (ByteArray.mk po.toArray) = PO at *
              have ne1 : (PO.toList != OB.toList) = true := by unfold bne; rw [es]; rfl
              generalize hS1 : (ByteArray.mk acc1.toArray) = SB1 at *
              generalize hS2 : (ByteArray.mk acc2.toArray) = SB2 at *
              generalize hS3 : (ByteArray.mk acc3.toArray) = SB3 at *
              have HS3 := Lib.hid hS3
              have r1 : (9223372036854775807 < SB2.size + 2) = False := eq_false (by omega)
              clear hS3
              have HS2 := Lib.hid hS2
              clear hS1 hS2
              have p1 : (9223372036854775807 < SB1.size + 6) = False := eq_false (by omega)
              have p2 : (9223372036854775807 < SB1.size + 6 + PB.size) = False := eq_false (by omega)
              have p3 : (9223372036854775807 < SB1.size + 6 + PB.size + 10) = False := eq_false (by omega)
              have p4 : (9223372036854775807 < SB1.size + 6 + PB.size + 10 + QB.size) = False := eq_false (by omega)
              have p5 : (9223372036854775807 < SB1.size + 6 + PB.size + 10 + QB.size + 5) = False := eq_false (by omega)
              have p6 : (9223372036854775807 < SB1.size + 6 + PB.size + 10 + QB.size + 5 + DB.size) = False := eq_false (by omega)
              have p7 : (9223372036854775807 < SB1.size + 6 + PB.size + 10 + QB.size + 5 + DB.size + 2) = False := eq_false (by omega)
              have HG := Lib.hid hg
              have HBE := Lib.hid hbel
              have HSZ := Lib.hid (And.intro hsz (And.intro hs1 (And.intro hs2 hlen)))
              clear hsz hs1 hs2 hlen hqd hbel
              clear hla
              clear hpo
              go_wp2_with fail
              go_quiet (fail)
              have hbW := Lib.hid (below_drewN (Below.refl wr.heap.size wr) nq)
              go_wp2_with fail
              rw [E1.out]
              have q0 : (wr.drewN nq).cell? ⟨g, off + (j + 1) * 4, none⟩ = some (.string OB) := a0
              have q1 : (wr.drewN nq).cell? ⟨g, off + (j + 1) * 4 + 1, none⟩ = some (.string PB) := a1
              have q2 : (wr.drewN nq).cell? ⟨g, off + (j + 1) * 4 + 2, none⟩ = some (.int .i64 mq) := a2
              have q3 : (wr.drewN nq).cell? ⟨g, off + (j + 1) * 4 + 3, none⟩ = some (.int .i64 md) := a3
              have hgW : g < (wr.drewN nq).heap.size := hg
              generalize (wr.drewN nq) = W0 at *
              clear a0 a1 a2 a3 b0
              go_region_held3 (fun w' => w'.cell? ⟨g, off + (j + 1) * 4 + 1, none⟩ = some (.string PB) ∧ w'.cell? ⟨g, off + (j + 1) * 4 + 2, none⟩ = some (.int .i64 mq) ∧ w'.cell? ⟨g, off + (j + 1) * 4 + 3, none⟩ = some (.int .i64 md) ∧ Below W0.heap.size W0 w')
                (first | assumption | exact ⟨q1, q2, q3, bdrew (Below.refl _ _)⟩ | (refine held3 ?_ hb4 hgW; assumption))
                (first | (go_at_call_of 28 (Value.int .i64 mq); refine (HQ.out _).mono ?_; rintro e w4 ⟨rfl, hb4⟩) | (go_at_call_of 28 (Value.int .i64 md); refine (HD.out _).mono ?_; rintro e w4 ⟨rfl, hb4⟩))
              obtain ⟨_, _, _, hbG⟩ := ‹_ ∧ _ ∧ _ ∧ Below _ _ _›
              clear ‹_ ∧ _ ∧ _ ∧ Below _ _ _›
              have u0 := (hbG.cell (p := ⟨g, off + (j + 1) * 4, none⟩) hgW).trans q0
              have hF9 := Lib.hid (HBE.out.trans ((hbW.out.trans (hbG.mono hbW.out.size)).mono HBE.out.size))
              clear q0 q1 q2 q3 hbG hgW
              go_wp2_with fail
              rw [E2.out]
              go_quiet (fail)
              have hF8 := Lib.hid (below_drewN hF9.out nq)
              go_wp2_with fail
              rw [E3.out]
              go_roundw
              case rel => exact ⟨j + 1 + 1, acc3, by omega, by go_num, by rw [HS3.out], HNX, hF8.out⟩
              case measure => simp [intOf]; omega

            · have hk9 : j + 1 + 1 < l.length := by omega
              by_cases hno : l[j + 1 + 1].o = l[j + 1].o
              · obtain ⟨g, off, hAe, hg, ca⟩ := row_get it_len (by decide) (HR.out.below hbel) (by omega)
                subst hAe
                have a0 := ca (j + 1) hlt 0 (by decide)
                have a1 := ca (j + 1) hlt 1 (by decide)
                have a2 := ca (j + 1) hlt 2 (by decide)
                have a3 := ca (j + 1) hlt 3 (by decide)
                have hlen := Pq.ok_lens (HOK.out l[j + 1] (List.getElem_mem hlt))
                have hqd := Od.ok_parts (HOK.out l[j + 1] (List.getElem_mem hlt))
                have HQ := Lib.hid (fun W => ritoa_any l[j + 1].q W (by omega) (by omega))
                have HD := Lib.hid (fun W => ritoa_any l[j + 1].d W (by omega) (by omega))
                have b0 := ca j (by omega) 0 (by decide)
                have hpv : Pq.prev l (j + 1) = some l[j].o := Pq.prev_step (by omega)
                have es := text_eq l[j].o l[j + 1].o
                rw [decide_eq_false hpo] at es
                have hnew : Pq.prev l (j + 1) ≠ some l[j + 1].o := by rw [hpv]; intro e; injection e with e; exact hpo e
                have kz : (((j : Int) + 1) == 0) = false := by rw [beq_eq_false_iff_ne]; omega
                have x3 : IntKind.i64.wrap (j : Int) = (j : Int) := by rw [wrapEq]; unfold wrap64; omega
                have x4 : IntKind.i64.wrap ((j : Int) + 1 - 1) = (j : Int) := by rw [wrapEq]; unfold wrap64; omega
                have j0 : (0 : Int) ≤ (j : Int) := by omega
                have j1 : (j : Int) < (l.length : Int) := by omega
                have n0 := ca (j + 1 + 1) (by omega) 0 (by decide)
                have hend : Pq.ends l[j + 1].o (l.drop (j + 1 + 1)) = false := by rw [List.drop_eq_getElem_cons (by omega : j + 1 + 1 < l.length)]; simp [Pq.ends, hno]
                have lz : (((j : Int) + 1) == (l.length : Int) - 1) = false := by rw [beq_eq_false_iff_ne]; omega
                have es2 := text_eq l[j + 1 + 1].o l[j + 1].o
                rw [decide_eq_true hno] at es2
                have i2 : (0 : Int) ≤ ((j : Int) + 1) + 1 := by omega
                have i3 : ((j : Int) + 1) + 1 < (l.length : Int) := by omega
                have x1 : IntKind.i64.wrap (((j : Int) + 1) + 1) = ((j : Int) + 1) + 1 := by rw [wrapEq]; unfold wrap64; omega
                have x2 : IntKind.i64.wrap ((l.length : Int) - 1) = (l.length : Int) - 1 := by rw [wrapEq]; unfold wrap64; omega
                have i0 : (0 : Int) ≤ ((j : Int) + 1) := by omega
                have i1 : ((j : Int) + 1) < (l.length : Int) := by omega
                have hst := Pq.text_drop hlt
                rw [if_neg hnew, if_neg (by rw [hend]; simp)] at hst
                have HST := Lib.hid hst
                clear hst hend hnew ca
                simp only [itCells, List.getElem?_cons_zero, Nat.add_zero] at b0
                generalize hPO : l[j].o = po at *
                clear hPO
                simp only [itCells, List.getElem?_cons_zero, Nat.add_zero] at n0
                generalize hNO : l[j + 1 + 1].o = no at *
                clear hNO
                generalize hM : l[j + 1] = m at *
                clear hM
                obtain ⟨mo, mp, mq, md⟩ := m
                simp only [itCells, List.getElem?_cons_zero, List.getElem?_cons_succ, Nat.add_zero] at a0 a1 a2 a3
                simp only at hlen hqd HQ HD HST es es2
                unfold Pq.lineT at HST
                simp only at HST
                have hsz := HACC.out.2
                rw [← str_size mo, ← str_size mp, ← str_size (Lib.itoa mq), ← str_size (Lib.itoa md)] at hlen
                rw [← str_size] at hsz
                obtain ⟨acc1, HA1⟩ : ∃ acc1, Hid (acc1 = acc ++ Pq.openT mo) := ⟨_, Lib.hid rfl⟩
                obtain ⟨acc2, HA2⟩ : ∃ acc2, Hid (acc2 = acc1 ++ (Pq.cPart ++ mp ++ Pq.cQuantity ++ Lib.itoa mq ++ Pq.cDue ++ Lib.itoa md ++ Pq.cSemi)) := ⟨_, Lib.hid rfl⟩
                obtain ⟨acc3, HA3⟩ : ∃ acc3, Hid (acc3 = acc2) := ⟨_, Lib.hid rfl⟩
                have HNX : Hid (acc3 ++ Pq.text (Pq.prev l (j + 1 + 1)) (l.drop (j + 1 + 1)) = TT ∧ acc3.length ≤ 20000) := Lib.hid (by
                  have e : acc3 ++ Pq.text (Pq.prev l (j + 1 + 1)) (l.drop (j + 1 + 1)) = TT := by
                    rw [← HACC.out.1, HST.out, HA3.out, HA2.out, HA1.out]
                    simp
                  refine ⟨e, ?_⟩
                  have := congrArg List.length e
                  rw [List.length_append] at this
                  have := HTT.out
                  omega)
                have E1 : Hid ((ByteArray.mk acc.toArray) ++ (ByteArray.mk #[111, 114, 100, 101, 114, 32]) ++ (ByteArray.mk mo.toArray) ++ (ByteArray.mk #[32, 123, 10]) = ⟨acc1.toArray⟩) := Lib.hid (by rw [HA1.out]; exact open_str acc mo)
                have hs1 : (ByteArray.mk acc1.toArray).size ≤ 20100 := by rw [← E1.out, ByteArray.size_append, ByteArray.size_append, ByteArray.size_append]; have : (ByteArray.mk #[111, 114, 100, 101, 114, 32]).size = 6 := rfl; have : (ByteArray.mk #[32, 123, 10]).size = 3 := rfl; omega
                have E2 : Hid ((ByteArray.mk acc1.toArray) ++ (ByteArray.mk #[9, 112, 97, 114, 116, 32]) ++ (ByteArray.mk mp.toArray) ++ (ByteArray.mk #[32, 113, 117, 97, 110, 116, 105, 116, 121, 32]) ++ (ByteArray.mk (Lib.itoa mq).toArray) ++ (ByteArray.mk #[32, 100, 117, 101, 32]) ++ (ByteArray.mk (Lib.itoa md).toArray) ++ (ByteArray.mk #[59, 10]) = ⟨acc2.toArray⟩) := Lib.hid (by rw [HA2.out]; exact line_str acc1 mp _ _)
                have hA3 := HA3.out.symm
                subst hA3
                have hs2 : (ByteArray.mk acc2.toArray).size ≤ 20300 := by rw [← E2.out, ByteArray.size_append, ByteArray.size_append, ByteArray.size_append, ByteArray.size_append, ByteArray.size_append, ByteArray.size_append, ByteArray.size_append]; have : (ByteArray.mk #[9, 112, 97, 114, 116, 32]).size = 6 := rfl; have : (ByteArray.mk #[32, 113, 117, 97, 110, 116, 105, 116, 121, 32]).size = 10 := rfl; have : (ByteArray.mk #[32, 100, 117, 101, 32]).size = 5 := rfl; have : (ByteArray.mk #[59, 10]).size = 2 := rfl; omega
                generalize Lib.itoa mq = tq at *
                generalize Lib.itoa md = td at *
                generalize hSB : (ByteArray.mk acc.toArray) = SB at *
                clear hSB
                generalize hOB : (ByteArray.mk mo.toArray) = OB at *
                generalize hPB : (ByteArray.mk mp.toArray) = PB at *
                generalize hQB : (ByteArray.mk tq.toArray) = QB at *
                generalize hDB : (ByteArray.mk td.toArray) = DB at *
                clear hOB hPB hQB hDB
                have m1 : (9223372036854775807 < SB.size + 6) = False := eq_false (by omega)
                have m2 : (9223372036854775807 < SB.size + 6 + OB.size) = False := eq_false (by omega)
                have m3 : (9223372036854775807 < SB.size + 6 + OB.size + 3) = False := eq_false (by omega)
                generalize (ByteArray.mk po.toArray) = PO at *
                generalize (ByteArray.mk no.toArray) = NO at *
                have ne1 : (PO.toList != OB.toList) = true := by unfold bne; rw [es]; rfl
                have ne2 : (NO.toList != OB.toList) = false := by unfold bne; rw [es2]; rfl
                generalize hS1 : (ByteArray.mk acc1.toArray) = SB1 at *
                generalize hS2 : (ByteArray.mk acc2.toArray) = SB2 at *
                have HS2 := Lib.hid hS2
                clear hS1 hS2
                have p1 : (9223372036854775807 < SB1.size + 6) = False := eq_false (by omega)
                have p2 : (9223372036854775807 < SB1.size + 6 + PB.size) = False := eq_false (by omega)
                have p3 : (9223372036854775807 < SB1.size + 6 + PB.size + 10) = False := eq_false (by omega)
                have p4 : (9223372036854775807 < SB1.size + 6 + PB.size + 10 + QB.size) = False := eq_false (by omega)
                have p5 : (9223372036854775807 < SB1.size + 6 + PB.size + 10 + QB.size + 5) = False := eq_false (by omega)
                have p6 : (9223372036854775807 < SB1.size + 6 + PB.size + 10 + QB.size + 5 + DB.size) = False := eq_false (by omega)
                have p7 : (9223372036854775807 < SB1.size + 6 + PB.size + 10 + QB.size + 5 + DB.size + 2) = False := eq_false (by omega)
                have HG := Lib.hid hg
                have HBE := Lib.hid hbel
                have HSZ := Lib.hid (And.intro hsz (And.intro hs1 (And.intro hs2 hlen)))
                clear hsz hs1 hs2 hlen hqd hbel
                clear hla hno
                clear hpo
                go_wp2_with fail
                go_quiet (fail)
                have hbW := Lib.hid (below_drewN (Below.refl wr.heap.size wr) nq)
                go_wp2_with fail
                rw [E1.out]
                have q0 : (wr.drewN nq).cell? ⟨g, off + (j + 1) * 4, none⟩ = some (.string OB) := a0
                have q1 : (wr.drewN nq).cell? ⟨g, off + (j + 1) * 4 + 1, none⟩ = some (.string PB) := a1
                have q2 : (wr.drewN nq).cell? ⟨g, off + (j + 1) * 4 + 2, none⟩ = some (.int .i64 mq) := a2
                have q3 : (wr.drewN nq).cell? ⟨g, off + (j + 1) * 4 + 3, none⟩ = some (.int .i64 md) := a3
                have q4 : (wr.drewN nq).cell? ⟨g, off + (j + 1 + 1) * 4, none⟩ = some (.string NO) := n0
                have hgW : g < (wr.drewN nq).heap.size := hg
                generalize (wr.drewN nq) = W0 at *
                clear a0 a1 a2 a3 b0 n0
                go_region_held3 (fun w' => w'.cell? ⟨g, off + (j + 1) * 4 + 1, none⟩ = some (.string PB) ∧ w'.cell? ⟨g, off + (j + 1) * 4 + 2, none⟩ = some (.int .i64 mq) ∧ w'.cell? ⟨g, off + (j + 1) * 4 + 3, none⟩ = some (.int .i64 md) ∧ Below W0.heap.size W0 w')
                  (first | assumption | exact ⟨q1, q2, q3, bdrew (Below.refl _ _)⟩ | (refine held3 ?_ hb4 hgW; assumption))
                  (first | (go_at_call_of 28 (Value.int .i64 mq); refine (HQ.out _).mono ?_; rintro e w4 ⟨rfl, hb4⟩) | (go_at_call_of 28 (Value.int .i64 md); refine (HD.out _).mono ?_; rintro e w4 ⟨rfl, hb4⟩))
                obtain ⟨_, _, _, hbG⟩ := ‹_ ∧ _ ∧ _ ∧ Below _ _ _›
                clear ‹_ ∧ _ ∧ _ ∧ Below _ _ _›
                have u0 := (hbG.cell (p := ⟨g, off + (j + 1) * 4, none⟩) hgW).trans q0
                have u4 := (hbG.cell (p := ⟨g, off + (j + 1 + 1) * 4, none⟩) hgW).trans q4
                have hF9 := Lib.hid (HBE.out.trans ((hbW.out.trans (hbG.mono hbW.out.size)).mono HBE.out.size))
                clear q0 q1 q2 q3 hbG hgW q4
                go_wp2_with fail
                rw [E2.out]
                go_quiet (fail)
                have hF8 := Lib.hid (below_drewN hF9.out nq)
                go_wp2_with fail
                go_roundw
                case rel => exact ⟨j + 1 + 1, acc2, by omega, by go_num, by rw [HS2.out], HNX, hF8.out⟩
                case measure => simp [intOf]; omega

              · obtain ⟨g, off, hAe, hg, ca⟩ := row_get it_len (by decide) (HR.out.below hbel) (by omega)
                subst hAe
                have a0 := ca (j + 1) hlt 0 (by decide)
                have a1 := ca (j + 1) hlt 1 (by decide)
                have a2 := ca (j + 1) hlt 2 (by decide)
                have a3 := ca (j + 1) hlt 3 (by decide)
                have hlen := Pq.ok_lens (HOK.out l[j + 1] (List.getElem_mem hlt))
                have hqd := Od.ok_parts (HOK.out l[j + 1] (List.getElem_mem hlt))
                have HQ := Lib.hid (fun W => ritoa_any l[j + 1].q W (by omega) (by omega))
                have HD := Lib.hid (fun W => ritoa_any l[j + 1].d W (by omega) (by omega))
                have b0 := ca j (by omega) 0 (by decide)
                have hpv : Pq.prev l (j + 1) = some l[j].o := Pq.prev_step (by omega)
                have es := text_eq l[j].o l[j + 1].o
                rw [decide_eq_false hpo] at es
                have hnew : Pq.prev l (j + 1) ≠ some l[j + 1].o := by rw [hpv]; intro e; injection e with e; exact hpo e
                have kz : (((j : Int) + 1) == 0) = false := by rw [beq_eq_false_iff_ne]; omega
                have x3 : IntKind.i64.wrap (j : Int) = (j : Int) := by rw [wrapEq]; unfold wrap64; omega
                have x4 : IntKind.i64.wrap ((j : Int) + 1 - 1) = (j : Int) := by rw [wrapEq]; unfold wrap64; omega
                have j0 : (0 : Int) ≤ (j : Int) := by omega
                have j1 : (j : Int) < (l.length : Int) := by omega
                have n0 := ca (j + 1 + 1) (by omega) 0 (by decide)
                have hend : Pq.ends l[j + 1].o (l.drop (j + 1 + 1)) = true := by rw [List.drop_eq_getElem_cons (by omega : j + 1 + 1 < l.length)]; simp [Pq.ends, hno]
                have lz : (((j : Int) + 1) == (l.length : Int) - 1) = false := by rw [beq_eq_false_iff_ne]; omega
                have es2 := text_eq l[j + 1 + 1].o l[j + 1].o
                rw [decide_eq_false hno] at es2
                have i2 : (0 : Int) ≤ ((j : Int) + 1) + 1 := by omega
                have i3 : ((j : Int) + 1) + 1 < (l.length : Int) := by omega
                have x1 : IntKind.i64.wrap (((j : Int) + 1) + 1) = ((j : Int) + 1) + 1 := by rw [wrapEq]; unfold wrap64; omega
                have x2 : IntKind.i64.wrap ((l.length : Int) - 1) = (l.length : Int) - 1 := by rw [wrapEq]; unfold wrap64; omega
                have i0 : (0 : Int) ≤ ((j : Int) + 1) := by omega
                have i1 : ((j : Int) + 1) < (l.length : Int) := by omega
                have hst := Pq.text_drop hlt
                rw [if_neg hnew, if_pos hend] at hst
                have HST := Lib.hid hst
                clear hst hend hnew ca
                simp only [itCells, List.getElem?_cons_zero, Nat.add_zero] at b0
                generalize hPO : l[j].o = po at *
                clear hPO
                simp only [itCells, List.getElem?_cons_zero, Nat.add_zero] at n0
                generalize hNO : l[j + 1 + 1].o = no at *
                clear hNO
                generalize hM : l[j + 1] = m at *
                clear hM
                obtain ⟨mo, mp, mq, md⟩ := m
                simp only [itCells, List.getElem?_cons_zero, List.getElem?_cons_succ, Nat.add_zero] at a0 a1 a2 a3
                simp only at hlen hqd HQ HD HST es es2
                unfold Pq.lineT at HST
                simp only at HST
                have hsz := HACC.out.2
                rw [← str_size mo, ← str_size mp, ← str_size (Lib.itoa mq), ← str_size (Lib.itoa md)] at hlen
                rw [← str_size] at hsz
                obtain ⟨acc1, HA1⟩ : ∃ acc1, Hid (acc1 = acc ++ Pq.openT mo) := ⟨_, Lib.hid rfl⟩
                obtain ⟨acc2, HA2⟩ : ∃ acc2, Hid (acc2 = acc1 ++ (Pq.cPart ++ mp ++ Pq.cQuantity ++ Lib.itoa mq ++ Pq.cDue ++ Lib.itoa md ++ Pq.cSemi)) := ⟨_, Lib.hid rfl⟩
                obtain ⟨acc3, HA3⟩ : ∃ acc3, Hid (acc3 = acc2 ++ Pq.cClose) := ⟨_, Lib.hid rfl⟩
                have HNX : Hid (acc3 ++ Pq.text (Pq.prev l (j + 1 + 1)) (l.drop (j + 1 + 1)) = TT ∧ acc3.length ≤ 20000) := Lib.hid (by
                  have e : acc3 ++ Pq.text (Pq.prev l (j + 1 + 1)) (l.drop (j + 1 + 1)) = TT := by
                    rw [← HACC.out.1, HST.out, HA3.out, HA2.out, HA1.out]
                    simp
                  refine ⟨e, ?_⟩
                  have := congrArg List.length e
                  rw [List.length_append] at this
                  have := HTT.out
                  omega)
                have E1 : Hid ((ByteArray.mk acc.toArray) ++ (ByteArray.mk #[111, 114, 100, 101, 114, 32]) ++ (ByteArray.mk mo.toArray) ++ (ByteArray.mk #[32, 123, 10]) = ⟨acc1.toArray⟩) := Lib.hid (by rw [HA1.out]; exact open_str acc mo)
                have hs1 : (ByteArray.mk acc1.toArray).size ≤ 20100 := by rw [← E1.out, ByteArray.size_append, ByteArray.size_append, ByteArray.size_append]; have : (ByteArray.mk #[111, 114, 100, 101, 114, 32]).size = 6 := rfl; have : (ByteArray.mk #[32, 123, 10]).size = 3 := rfl; omega
                have E2 : Hid ((ByteArray.mk acc1.toArray) ++ (ByteArray.mk #[9, 112, 97, 114, 116, 32]) ++ (ByteArray.mk mp.toArray) ++ (ByteArray.mk #[32, 113, 117, 97, 110, 116, 105, 116, 121, 32]) ++ (ByteArray.mk (Lib.itoa mq).toArray) ++ (ByteArray.mk #[32, 100, 117, 101, 32]) ++ (ByteArray.mk (Lib.itoa md).toArray) ++ (ByteArray.mk #[59, 10]) = ⟨acc2.toArray⟩) := Lib.hid (by rw [HA2.out]; exact line_str acc1 mp _ _)
                have E3 : Hid ((ByteArray.mk acc2.toArray) ++ (ByteArray.mk #[125, 10]) = ⟨acc3.toArray⟩) := Lib.hid (by rw [HA3.out]; exact close_str acc2)
                have hs2 : (ByteArray.mk acc2.toArray).size ≤ 20300 := by rw [← E2.out, ByteArray.size_append, ByteArray.size_append, ByteArray.size_append, ByteArray.size_append, ByteArray.size_append, ByteArray.size_append, ByteArray.size_append]; have : (ByteArray.mk #[9, 112, 97, 114, 116, 32]).size = 6 := rfl; have : (ByteArray.mk #[32, 113, 117, 97, 110, 116, 105, 116, 121, 32]).size = 10 := rfl; have : (ByteArray.mk #[32, 100, 117, 101, 32]).size = 5 := rfl; have : (ByteArray.mk #[59, 10]).size = 2 := rfl; omega
                generalize Lib.itoa mq = tq at *
                generalize Lib.itoa md = td at *
                generalize hSB : (ByteArray.mk acc.toArray) = SB at *
                clear hSB
                generalize hOB : (ByteArray.mk mo.toArray) = OB at *
                generalize hPB : (ByteArray.mk mp.toArray) = PB at *
                generalize hQB : (ByteArray.mk tq.toArray) = QB at *
                generalize hDB : (ByteArray.mk td.toArray) = DB at *
                clear hOB hPB hQB hDB
                have m1 : (9223372036854775807 < SB.size + 6) = False := eq_false (by omega)
                have m2 : (9223372036854775807 < SB.size + 6 + OB.size) = False := eq_false (by omega)
                have m3 : (9223372036854775807 < SB.size + 6 + OB.size + 3) = False := eq_false (by omega)
                generalize (ByteArray.mk po.toArray) = PO at *
                generalize (ByteArray.mk no.toArray) = NO at *
                have ne1 : (PO.toList != OB.toList) = true := by unfold bne; rw [es]; rfl
                have ne2 : (NO.toList != OB.toList) = true := by unfold bne; rw [es2]; rfl
                generalize hS1 : (ByteArray.mk acc1.toArray) = SB1 at *
                generalize hS2 : (ByteArray.mk acc2.toArray) = SB2 at *
                generalize hS3 : (ByteArray.mk acc3.toArray) = SB3 at *
                have HS3 := Lib.hid hS3
                have r1 : (9223372036854775807 < SB2.size + 2) = False := eq_false (by omega)
                clear hS3
                have HS2 := Lib.hid hS2
                clear hS1 hS2
                have p1 : (9223372036854775807 < SB1.size + 6) = False := eq_false (by omega)
                have p2 : (9223372036854775807 < SB1.size + 6 + PB.size) = False := eq_false (by omega)
                have p3 : (9223372036854775807 < SB1.size + 6 + PB.size + 10) = False := eq_false (by omega)
                have p4 : (9223372036854775807 < SB1.size + 6 + PB.size + 10 + QB.size) = False := eq_false (by omega)
                have p5 : (9223372036854775807 < SB1.size + 6 + PB.size + 10 + QB.size + 5) = False := eq_false (by omega)
                have p6 : (9223372036854775807 < SB1.size + 6 + PB.size + 10 + QB.size + 5 + DB.size) = False := eq_false (by omega)
                have p7 : (9223372036854775807 < SB1.size + 6 + PB.size + 10 + QB.size + 5 + DB.size + 2) = False := eq_false (by omega)
                have HG := Lib.hid hg
                have HBE := Lib.hid hbel
                have HSZ := Lib.hid (And.intro hsz (And.intro hs1 (And.intro hs2 hlen)))
                clear hsz hs1 hs2 hlen hqd hbel
                clear hla hno
                clear hpo
                go_wp2_with fail
                go_quiet (fail)
                have hbW := Lib.hid (below_drewN (Below.refl wr.heap.size wr) nq)
                go_wp2_with fail
                rw [E1.out]
                have q0 : (wr.drewN nq).cell? ⟨g, off + (j + 1) * 4, none⟩ = some (.string OB) := a0
                have q1 : (wr.drewN nq).cell? ⟨g, off + (j + 1) * 4 + 1, none⟩ = some (.string PB) := a1
                have q2 : (wr.drewN nq).cell? ⟨g, off + (j + 1) * 4 + 2, none⟩ = some (.int .i64 mq) := a2
                have q3 : (wr.drewN nq).cell? ⟨g, off + (j + 1) * 4 + 3, none⟩ = some (.int .i64 md) := a3
                have q4 : (wr.drewN nq).cell? ⟨g, off + (j + 1 + 1) * 4, none⟩ = some (.string NO) := n0
                have hgW : g < (wr.drewN nq).heap.size := hg
                generalize (wr.drewN nq) = W0 at *
                clear a0 a1 a2 a3 b0 n0
                go_region_held3 (fun w' => w'.cell? ⟨g, off + (j + 1) * 4 + 1, none⟩ = some (.string PB) ∧ w'.cell? ⟨g, off + (j + 1) * 4 + 2, none⟩ = some (.int .i64 mq) ∧ w'.cell? ⟨g, off + (j + 1) * 4 + 3, none⟩ = some (.int .i64 md) ∧ Below W0.heap.size W0 w')
                  (first | assumption | exact ⟨q1, q2, q3, bdrew (Below.refl _ _)⟩ | (refine held3 ?_ hb4 hgW; assumption))
                  (first | (go_at_call_of 28 (Value.int .i64 mq); refine (HQ.out _).mono ?_; rintro e w4 ⟨rfl, hb4⟩) | (go_at_call_of 28 (Value.int .i64 md); refine (HD.out _).mono ?_; rintro e w4 ⟨rfl, hb4⟩))
                obtain ⟨_, _, _, hbG⟩ := ‹_ ∧ _ ∧ _ ∧ Below _ _ _›
                clear ‹_ ∧ _ ∧ _ ∧ Below _ _ _›
                have u0 := (hbG.cell (p := ⟨g, off + (j + 1) * 4, none⟩) hgW).trans q0
                have u4 := (hbG.cell (p := ⟨g, off + (j + 1 + 1) * 4, none⟩) hgW).trans q4
                have hF9 := Lib.hid (HBE.out.trans ((hbW.out.trans (hbG.mono hbW.out.size)).mono HBE.out.size))
                clear q0 q1 q2 q3 hbG hgW q4
                go_wp2_with fail
                rw [E2.out]
                go_quiet (fail)
                have hF8 := Lib.hid (below_drewN hF9.out nq)
                go_wp2_with fail
                rw [E3.out]
                go_roundw
                case rel => exact ⟨j + 1 + 1, acc3, by omega, by go_num, by rw [HS3.out], HNX, hF8.out⟩
                case measure => simp [intOf]; omega

      · obtain rfl : k = l.length := by omega
        have hE : Hid (acc = TT) := Lib.hid (by have := HACC.out.1; rw [List.drop_length] at this; simpa [Pq.text] using this)
        have HBE := Lib.hid (HB1.out.trans (hbel.mono HB1.out.size))
        clear hbel
        go_wp2_with fail
        go_ret2
        rw [HP.out, hE.out]
        exact ⟨rfl, HBE.out⟩

  · rw [show Od.valid l = false by simpa using hv] at HV
    have HP := Lib.hid (show Pq.print l = ([], 1) by unfold Pq.print; rw [if_neg hv])
    clear hv
    go_enter Tryz.func9, Tryz.ntmps9
    go_wp2_with fail
    refine (HV.out _ HR.out).mono ?_
    rintro e w1 ⟨rfl, hb1⟩
    go_wp2
    go_ret2
    rw [HP.out]
    exact ⟨rfl, hb1⟩
end Go.Proofs.YteldekkodhfkkaaGreatDoor.PqW
