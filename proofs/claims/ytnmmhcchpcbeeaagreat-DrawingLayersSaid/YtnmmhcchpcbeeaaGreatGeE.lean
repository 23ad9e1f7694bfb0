/- Walk: the edges of a ring. Conditions: the points lie in memory; at most 200. -/
import Derived.Test.YtnmmhcchpcbeeaaGreatGeI
import Derived.Deep.AppendLies
import Derived.Deep.RegionLaw

namespace Go.Proofs.YtnmmhcchpcbeeaaGreat.Ge
def segCells (s : S) : List Go.Value := [.int .i64 s.1.1, .int .i64 s.1.2, .int .i64 s.2.1, .int .i64 s.2.2]
theorem seg_len (s : S) : (segCells s).length = 4 := rfl
def edgesN (r : List V) (n : Nat) : List S := (List.range n).map fun i => (r.getD i (0, 0), nxt r i)
theorem edgesN_succ (r : List V) (n : Nat) : edgesN r (n + 1) = edgesN r n ++ [(r.getD n (0, 0), nxt r n)] := by
  unfold edgesN
  rw [List.range_succ, List.map_append]
  rfl
theorem edgesN_len (r : List V) (n : Nat) : (edgesN r n).length = n := by simp [edgesN]
end Go.Proofs.YtnmmhcchpcbeeaaGreat.Ge
namespace Go.Proofs.YtnmmhcchpcbeeaaGreat.GeW
open Go Go.RowKit Go.Proofs.YtnmmhcchpcbeeaaGreat.Mem Go.Proofs.YtnmmhcchpcbeeaaGreat.Ge
attribute [local go_sem ↓] Go.wp_at_zero Go.wp_at_succ
theorem info_seg : (Tryz.prog.info? 74).map (fun i => (i.zero, i.size, i.bytes)) = some (some (.agg #[.int .i64 0, .int .i64 0, .int .i64 0, .int .i64 0]), 4, 32) := by kernel_rfl
theorem info_parts {o : Option TypeInfo} {z : Value} {s b : Nat} (h : o.map (fun i => (i.zero, i.size, i.bytes)) = some (some z, s, b)) : ∃ i, o = some i ∧ i.zero = some z ∧ i.size = s ∧ i.bytes = b := by
  cases o with
  | none => cases h
  | some i =>
    simp only [Option.map_some, Option.some.injEq, Prod.mk.injEq] at h
    exact ⟨i, rfl, h.1, h.2.1, h.2.2⟩
set_option maxRecDepth 100000 in
set_option maxHeartbeats 4000000 in
theorem edges_any (l : List V) (A : Option Addr) (c : Nat) (w : World) (hr : Row w A (l.flatMap ptCells)) (hl : l.length ≤ 200) (h2 : 2 ≤ l.length) :
    Calls Tryz.prog 89 #[.slice A l.length c] w fun e w' => ∃ v, e = .returned v ∧ w'.ownsRow w.heap.size 74 4 v l.length ((edgesN l l.length).flatMap segCells) ∧ Below w.heap.size w w' := by
  have HR := Lib.hid hr
  obtain ⟨i0, ia, ib, ic, id⟩ := info_parts info_seg
  have d2 : decide ((l.length : Int) < 2) = false := decide_eq_false (by omega)
  clear hr
  go_enter Tryz.func89, Tryz.ntmps89
  go_wp2
  go_loopw [3, 4, 5, 11] (fun t _ _ i wr => ∃ k : Nat, i = .int .i64 (k : Int) ∧ k ≤ l.length ∧ Hid (wr.ownsRow w.heap.size 74 4 t k ((edgesN l k).flatMap segCells)) ∧ Hid (Below w.heap.size w wr)) (fun _ _ _ i _ => l.length - (intOf i).toNat)
  case atStart => exact ⟨0, rfl, Nat.zero_le _, Lib.hid (World.ownsRow_nil _ _ _ _), Lib.hid (Below.refl _ _)⟩
  case round =>
    obtain ⟨k, rfl, hk, HO, HB⟩ := hrel
    obtain ⟨vA, vc, rfl, hvc⟩ := own_shape HO.out
    by_cases hlt : k < l.length
    · obtain ⟨g, off, rfl, hg, hc⟩ := row_get pt_len (by decide) HR.out (by omega)
      have a0 := (HB.out.cell (p := ⟨g, off + k * 2, none⟩) hg).trans (hc k hlt 0 (by decide))
      have a1 := (HB.out.cell (p := ⟨g, off + k * 2 + 1, none⟩) hg).trans (hc k hlt 1 (by decide))
      have HS : Hid (edgesN l (k + 1) = edgesN l k ++ [(l[k], nxt l k)]) := Lib.hid (by rw [edgesN_succ, List.getD_eq_getElem?_getD, List.getElem?_eq_getElem hlt]; rfl)
      have HNX := Lib.hid (fun W (hW : Below w.heap.size w W) => next_any l k (some ⟨g, off, none⟩) c W (HR.out.below hW) hlt (by omega))
      clear hc
      generalize l[k] = q at *
      obtain ⟨qx, qy⟩ := q
      simp only [ptCells, List.getElem?_cons_zero, List.getElem?_cons_succ] at a0 a1
      generalize nxt l k = p at *
      obtain ⟨px, py⟩ := p
      have HOB := Lib.hid (one_vec wr (.cells #[.int .i64 qx, .int .i64 qy] 53))
      have HOW := Lib.hid (own_below HO.out HOB.out.1)
      have hz := Below.size HB.out
      go_upto_region 7 with fail
      clear a0 a1
      generalize wr.alloc (.cells #[.int .i64 qx, .int .i64 qy] 53) = W at *
      have HBW := Lib.hid (HB.out.trans (HOB.out.1.mono hz))
      have hzw := Below.size HBW.out
      have hzx := lt_of_block HOB.out.2
      have HOL := Lib.hid HO.out.lt
      obtain ⟨q0, q1⟩ := pair_at HOB.out.2 (Below.refl _ _)
      go_region_law (first
        | (refine step_append_lies _ (by rfl) _ _ _ (by rfl) w.heap.size 74 i0 _ 4 32 Tryz.underlying71 ia ib ic id rfl (by omega) (.slice vA k vc) k ((edgesN l k).flatMap segCells) (by rfl) ((own_below HOW.out hb4).alloc _) ⟨w4.heap.size, 0, none⟩ 1 1 [.int .i64 qx, .int .i64 qy, .int .i64 px, .int .i64 py] (by rfl) (by rfl) (World.news_of_block (cs := #[.int .i64 qx, .int .i64 qy, .int .i64 px, .int .i64 py]) (t := 74) (fr := (0, 0)) (heap_alloc_new w4 _)) (by simp [Value.oneCell']) (by omega) (by unfold maxLen; omega) (by omega) (by simp; omega) (w4.heap.size + 1) (by simp) ?_; intro gg cap w5 hown5 hgrow hat hlt5)
        | (go_simp; go_at_call 132; refine (HNX.out W.drew (below_drew HBW.out)).mono ?_; rintro e w4 ⟨rfl, hb40⟩; have hb4 : Below W.heap.size W w4 := (below_drew (Below.refl _ _)).trans (hb40.mono (Nat.le_of_eq rfl)); obtain ⟨c0, c1⟩ := pair_at HOB.out.2 hb4; have hz4 : W.heap.size ≤ w4.heap.size := Below.size hb4))
      all_goals
        have HN := Lib.hid hown5
        have HB4 := Lib.hid (HBW.out.trans (hb4.mono hzw))
        have HB5 : Hid (Below w.heap.size w w5) := Lib.hid ((HB4.out.alloc (by omega) (.cells #[.int .i64 qx, .int .i64 qy, .int .i64 px, .int .i64 py] 74)).grown hgrow (by simp; omega) (fun x hx => (HOL.out x hx).1))
        clear hown5 hgrow hat hb4
        go_wp2
        go_roundw
        case rel => exact ⟨k + 1, by go_num, by omega, Lib.hid (by rw [HS.out, List.flatMap_append]; exact HN.out), HB5⟩
        case measure => simp [intOf]; omega
    · obtain rfl : k = l.length := by omega
      go_wp2
      go_ret
      exact ⟨_, rfl, HO.out, HB.out⟩
end Go.Proofs.YtnmmhcchpcbeeaaGreat.GeW
