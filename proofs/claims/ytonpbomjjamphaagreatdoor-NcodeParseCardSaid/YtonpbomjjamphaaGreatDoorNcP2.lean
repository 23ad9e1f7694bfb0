/- Walks: the program's reader of a line without its number. Conditions: the library's variables hold what a start lays; the line has at most a million bytes. -/
import Derived.Test.YtonpbomjjamphaaGreatDoorNcP1
import Derived.Test.YtonpbomjjamphaaGreatDoorNcV2
import Derived.Lib.SplitLaws
namespace Go.Proofs.YtonpbomjjamphaaGreatDoor.NcW
open Go Go.RowKit Go.Proofs.YtonpbomjjamphaaGreatDoor.Mem

def codesB : List ByteArray := [⟨#[]⟩, ⟨#[71, 48, 48]⟩, ⟨#[71, 48, 49]⟩, ⟨#[77, 48, 51]⟩, ⟨#[77, 48, 53]⟩, ⟨#[77, 48, 55]⟩, ⟨#[77, 51, 48]⟩]
def words (s : List UInt8) : List ByteArray := Lib.splitB ⟨#[32]⟩ 0 (Lib.countB ⟨s.toArray⟩ ⟨#[32]⟩) ⟨s.toArray⟩
theorem words_len (s : List UInt8) : (words s).length = Lib.countB ⟨s.toArray⟩ ⟨#[32]⟩ + 1 := Lib.splitB_all ⟨#[32]⟩ (by decide) 0 _ _ rfl
theorem words_few (s : List UInt8) : (words s).length ≤ s.length + 1 := by
  have := Lib.countB_le ⟨#[32]⟩ (by decide) s.length ⟨s.toArray⟩ (by rw [str_size]; exact Nat.le_refl _)
  rw [words_len]
  rw [str_size] at this
  omega
def kindW (W : List ByteArray) : Int := Lib.idxOfS codesB (W.getD 0 ⟨#[]⟩)
def okW (W : List ByteArray) (i : Nat) (c : UInt8) : Bool := Lib.hasPrefix (W.getD i ⟨#[]⟩).data.toList [c] && canon (Lib.trimPrefix (W.getD i ⟨#[]⟩).data.toList [c])
def valW (W : List ByteArray) (i : Nat) (c : UInt8) : Int := cval (Lib.trimPrefix (W.getD i ⟨#[]⟩).data.toList [c])
/-- What the reader makes of the words of a line: a move, an error. -/
def rdW (W : List ByteArray) : Nc.Mv × Int :=
  if kindW W < 1 then (⟨0, 0, 0⟩, 3)
  else if Nc.moving (kindW W) = false ∧ W.length = 1 then (⟨kindW W, 0, 0⟩, 0)
  else if Nc.moving (kindW W) = false ∨ W.length ≠ 3 then (⟨0, 0, 0⟩, 3)
  else if okW W 1 88 = false ∨ okW W 2 89 = false then (⟨0, 0, 0⟩, 3)
  else if Nc.ok ⟨kindW W, valW W 1 88, valW W 2 89⟩ = false then (⟨0, 0, 0⟩, 2)
  else (⟨kindW W, valW W 1 88, valW W 2 89⟩, 0)
theorem idxFromS_bound (x : ByteArray) : ∀ (zs : List ByteArray) (i : Nat), Lib.idxFromS zs x i = -1 ∨ (i ≤ Lib.idxFromS zs x i ∧ Lib.idxFromS zs x i < i + zs.length)
  | [], i => by simp [Lib.idxFromS]
  | z :: r, i => by
    have := idxFromS_bound x r (i + 1)
    unfold Lib.idxFromS
    split
    · right; simp; omega
    · simp only [List.length_cons]; omega
theorem word_size (sep : ByteArray) : ∀ (k : Nat) (s : ByteArray), ∀ x ∈ Lib.splitB sep 0 k s, x.size ≤ s.size
  | 0, s, x, hx => by
    rw [Lib.splitB_zero] at hx
    simp at hx; subst hx; exact Nat.le_refl _
  | k + 1, s, x, hx => by
    unfold Lib.splitB at hx
    split at hx
    · simp at hx; subst hx; exact Nat.le_refl _
    · rcases List.mem_cons.1 hx with h | h
      · subst h; rw [ByteArray.size_extract]; omega
      · have := word_size sep k _ x h
        rw [ByteArray.size_extract] at this; omega
theorem kind_bound (W : List ByteArray) : kindW W < 1 ∨ (1 ≤ kindW W ∧ kindW W ≤ 6) := by
  have := idxFromS_bound (W.getD 0 ⟨#[]⟩) codesB 0
  unfold kindW Lib.idxOfS
  simp only [codesB, List.length_cons, List.length_nil] at this ⊢
  omega

set_option maxRecDepth 100000 in
set_option maxHeartbeats 4000000 in
theorem read_any (s : List UInt8) (w : World) (hs : s.length ≤ 1000000) (hG : Glob w) :
    Calls Tryz.prog 14 #[.string ⟨s.toArray⟩] w fun e w' => e = .returned (.tuple #[.agg #[.int .i64 (rdW (words s)).1.k, .int .i64 (rdW (words s)).1.x, .int .i64 (rdW (words s)).1.y], .int .i64 (rdW (words s)).2]) ∧ Below w.heap.size w w' := by
  have hb0 := (Below.refl w.heap.size w).alloc (Nat.le_refl _) (.cells #[.int .i64 0, .int .i64 0, .int .i64 0] 38)
  have HB0 := Lib.hid hb0
  have HRES0 := Lib.hid (heap_alloc_new w (.cells #[.int .i64 0, .int .i64 0, .int .i64 0] 38))
  have HG := Lib.hid (hG.below hb0)
  have HSP : Hid (∀ W, Glob W → Calls Tryz.prog 27 #[.string ⟨s.toArray⟩, .string ⟨#[32]⟩] W fun e w' => e = .returned (.slice (some ⟨W.heap.size, 0, none⟩) (words s).length (words s).length) ∧ w' = W.alloc (.cells ((words s).map Value.string).toArray 9)) := Lib.hid (fun W hW => by
    obtain ⟨_, ⟨m, hm⟩, _⟩ := hW
    rw [words_len]
    exact Tryz.strings_Split ⟨s.toArray⟩ ⟨#[32]⟩ m W (by rw [str_size]; omega) hm (by decide))
  have hwl := words_len s
  have hwf := words_few s
  have hkb := kind_bound (words s)
  have HCV := Lib.hid (fun W => codes_any W)
  rw [show codesV = .agg #[.string ⟨#[]⟩, .string ⟨#[71, 48, 48]⟩, .string ⟨#[71, 48, 49]⟩, .string ⟨#[77, 48, 51]⟩, .string ⟨#[77, 48, 53]⟩, .string ⟨#[77, 48, 55]⟩, .string ⟨#[77, 51, 48]⟩] from rfl] at HCV
  have HIX := Lib.hid (fun b W hc => Tryz.slices_Index_string b 0 7 7 codesB ((words s).getD 0 ⟨#[]⟩) W (by decide) (by decide) hc)
  rw [show Lib.idxOfS (codesB.take 7) ((words s).getD 0 ⟨#[]⟩) = kindW (words s) from rfl] at HIX
  have hrd : rdW (words s) = rdW (words s) := rfl
  have hw1 : 1 ≤ (words s).length := by omega
  have HSZ : Hid (∀ x ∈ words s, x.data.toList.length ≤ 1000000) := Lib.hid (fun x hx => by
    have h1 := word_size ⟨#[32]⟩ _ _ x hx
    have h2 : (ByteArray.mk s.toArray).size = s.length := str_size s
    have h3 := size_list x
    omega)
  generalize words s = ws at *
  generalize hkk : kindW ws = kk at *
  have HKK := Lib.hid hkk
  clear hb0 hG hwl hrd hkk
  obtain ⟨w0, rest, rfl⟩ : ∃ a r, ws = a :: r := by
    rcases ws with _ | ⟨a, r⟩
    · simp at hw1
    · exact ⟨a, r, rfl⟩
  simp only [List.getD_cons_zero] at HIX
  have HMV := Lib.hid (fun W => moving_any kk W)
  generalize hn : (w0 :: rest).length = n at *
  have HN := Lib.hid hn
  clear hn
  go_enter Tryz.func14, Tryz.ntmps14
  go_wp2_with fail
  generalize w.alloc (.cells #[.int .i64 0, .int .i64 0, .int .i64 0] 38) = W0 at *
  generalize hr : w.heap.size = r at *
  have HR := Lib.hid hr
  clear hr
  refine (HSP.out _ HG.out).mono ?_
  rintro e w1 ⟨rfl, rfl⟩
  have HWS := Lib.hid (heap_alloc_new W0 (.cells (Value.string w0 :: rest.map Value.string).toArray 9))
  have HB1 := Lib.hid ((Below.refl W0.heap.size W0).alloc (Nat.le_refl _) (.cells (Value.string w0 :: rest.map Value.string).toArray 9))
  have HLE1 := Lib.hid HB1.out.size
  go_wp2_with fail
  generalize W0.alloc (.cells (Value.string w0 :: rest.map Value.string).toArray 9) = W1 at *
  generalize hwb : W0.heap.size = wb at *
  have HWB := Lib.hid hwb
  clear hwb
  refine (HCV.out _).mono ?_
  rintro e w2 ⟨rfl, hb2⟩
  have hb3 := hb2.alloc hb2.size (.cells #[.string ⟨#[]⟩, .string ⟨#[71, 48, 48]⟩, .string ⟨#[71, 48, 49]⟩, .string ⟨#[77, 48, 51]⟩, .string ⟨#[77, 48, 53]⟩, .string ⟨#[77, 48, 55]⟩, .string ⟨#[77, 51, 48]⟩] 77)
  have HWS3 := Lib.hid ((hb3.block _ (block_lt HWS.out)).trans HWS.out)
  have HB03 := Lib.hid (HB1.out.trans (hb3.mono HLE1.out))
  have HCB := Lib.hid (heap_alloc_new w2 (.cells #[.string ⟨#[]⟩, .string ⟨#[71, 48, 48]⟩, .string ⟨#[71, 48, 49]⟩, .string ⟨#[77, 48, 51]⟩, .string ⟨#[77, 48, 53]⟩, .string ⟨#[77, 48, 55]⟩, .string ⟨#[77, 51, 48]⟩] 77))
  clear hb2 hb3
  go_upto_region 3 with (fail)
  generalize w2.alloc (.cells #[.string ⟨#[]⟩, .string ⟨#[71, 48, 48]⟩, .string ⟨#[71, 48, 49]⟩, .string ⟨#[77, 48, 51]⟩, .string ⟨#[77, 48, 53]⟩, .string ⟨#[77, 48, 55]⟩, .string ⟨#[77, 51, 48]⟩] 77) = W3 at *
  generalize hcb : w2.heap.size = cb at *
  have HCBE := Lib.hid hcb
  clear hcb
  have HIX3 := Lib.hid (fun (q : Nat) => HIX.out cb (W3.drewN q) (by
    intro j hj
    rw [Nat.zero_add, show (W3.drewN q).cell? ⟨cb, j, none⟩ = W3.cell? ⟨cb, j, none⟩ from rfl, Lib.cell_of_heap HCB.out]
    simp only [codesB, List.length_cons, List.length_nil] at hj
    match j, hj with
    | 0, _ => rfl
    | 1, _ => rfl
    | 2, _ => rfl
    | 3, _ => rfl
    | 4, _ => rfl
    | 5, _ => rfl
    | 6, _ => rfl
    | j + 7, hj => omega))
  have c0 : W3.cell? ⟨wb, 0, none⟩ = some (.string w0) := by rw [Lib.cell_of_heap HWS3.out]; rfl
  have hsl : ∀ W : World, (Instr.sliceAt 77 (.pointer (some ⟨cb, 0, none⟩)) none none none).run Tryz.prog W = .ok (.slice (some ⟨cb, 0, none⟩) 7 7) W := fun W => by kernel_rfl
  have hn1 : (0 : Int) < (n : Int) := by omega
  have hn0 : 0 < n := by omega
  go_quiet ((go_at_call 29; exact Calls.quiet_of_same (HIX3.out _)))
  as_aux_lemma =>
    have HRES : Hid ((W3.drewN nq).heap[r]? = some (.cells #[.int .i64 0, .int .i64 0, .int .i64 0] 38 (0, 0))) := Lib.hid ((HB03.out.block r (by rw [← HWB.out]; exact block_lt HRES0.out)).trans HRES0.out)
    have HEND : Hid (Below r w (W3.drewN nq)) := Lib.hid (HB0.out.trans ((below_drewN HB03.out nq).mono (by rw [← HWB.out]; exact (Nat.le_trans (Nat.le_of_eq HR.out.symm) HB0.out.size))))
    have HGE : Hid (Glob (W3.drewN nq)) := Lib.hid (HG.out.below (by rw [HWB.out]; exact below_drewN HB03.out nq))
    have HWSE : Hid ((W3.drewN nq).heap[wb]? = some (.cells (Value.string w0 :: rest.map Value.string).toArray 9 (0, 0))) := Lib.hid HWS3.out
    clear c0 hsl HIX3 HIX HCV HSP HWS3
    generalize W3.drewN nq = WE at *
    rcases hkb with hk1 | ⟨hk1, hk2⟩
    · have HRD : Hid (rdW (w0 :: rest) = (⟨0, 0, 0⟩, 3)) := Lib.hid (by unfold rdW; rw [HKK.out, if_pos hk1])
      have r0 : WE.cell? ⟨r, 0, none⟩ = some (.int .i64 0) := by rw [Lib.cell_of_heap HRES.out]; rfl
      have r1 : WE.cell? ⟨r, 1, none⟩ = some (.int .i64 0) := by rw [Lib.cell_of_heap HRES.out]; rfl
      have r2 : WE.cell? ⟨r, 2, none⟩ = some (.int .i64 0) := by rw [Lib.cell_of_heap HRES.out]; rfl
      have g0 : WE.frozen? ⟨r, 0, none⟩ = false := Lib.frozen_of_heap HRES.out 0
      have g1 : WE.frozen? ⟨r, 1, none⟩ = false := Lib.frozen_of_heap HRES.out 1
      have g2 : WE.frozen? ⟨r, 2, none⟩ = false := Lib.frozen_of_heap HRES.out 2
      have hrz := block_lt HRES.out
      go_wp2
      have hR8 := (block_set (block_set (block_set HRES.out 0 (.int .i64 0)) 1 (.int .i64 0)) 2 (.int .i64 0))
      have hE8 := (((HEND.out.setCell (p := ⟨r, 0, none⟩) (Nat.le_refl _) (.int .i64 0)).setCell (p := ⟨r, 1, none⟩) (Nat.le_refl _) (.int .i64 0)).setCell (p := ⟨r, 2, none⟩) (Nat.le_refl _) (.int .i64 0))
      generalize (((WE.setCell ⟨r, 0, none⟩ (.int .i64 0)).setCell ⟨r, 1, none⟩ (.int .i64 0)).setCell ⟨r, 2, none⟩ (.int .i64 0)) = W8 at *
      have s0 : W8.cell? ⟨r, 0, none⟩ = some (.int .i64 0) := by rw [Lib.cell_of_heap hR8]; rfl
      have s1 : W8.cell? ⟨r, 1, none⟩ = some (.int .i64 0) := by rw [Lib.cell_of_heap hR8]; rfl
      have s2 : W8.cell? ⟨r, 2, none⟩ = some (.int .i64 0) := by rw [Lib.cell_of_heap hR8]; rfl
      rw [HRD.out]
      exact bodyPost_ret (v := .tuple #[.agg #[.int .i64 0, .int .i64 0, .int .i64 0], .int .i64 3]) (by simp [results, Tryz.results14, go_sem, s0, s1, s2]) rfl ⟨rfl, by rw [HR.out]; exact hE8⟩
    · have HRD1 : Hid (rdW (w0 :: rest) = if Nc.moving kk = false ∧ n = 1 then (⟨kk, 0, 0⟩, 0) else if Nc.moving kk = false ∨ n ≠ 3 then (⟨0, 0, 0⟩, 3) else if okW (w0 :: rest) 1 88 = false ∨ okW (w0 :: rest) 2 89 = false then (⟨0, 0, 0⟩, 3) else if Nc.ok ⟨kk, valW (w0 :: rest) 1 88, valW (w0 :: rest) 2 89⟩ = false then (⟨0, 0, 0⟩, 2) else (⟨kk, valW (w0 :: rest) 1 88, valW (w0 :: rest) 2 89⟩, 0)) := Lib.hid (by unfold rdW; rw [HKK.out, HN.out, if_neg (by omega)])
      cases hm : Nc.moving kk
      · rw [hm] at HMV
        by_cases h1 : n = 1
        · have HRD : Hid (rdW (w0 :: rest) = (⟨kk, 0, 0⟩, 0)) := Lib.hid (by rw [HRD1.out, if_pos ⟨hm, h1⟩])
          have hn2 : ((n : Int) == 1) = true := by rw [h1]; rfl
          clear h1 hm
          go_wp2_with fail
          refine (HMV.out _).mono ?_
          rintro e w4 ⟨rfl, rfl⟩
          have r0 : WE.cell? ⟨r, 0, none⟩ = some (.int .i64 0) := by rw [Lib.cell_of_heap HRES.out]; rfl
          have r1 : WE.cell? ⟨r, 1, none⟩ = some (.int .i64 0) := by rw [Lib.cell_of_heap HRES.out]; rfl
          have r2 : WE.cell? ⟨r, 2, none⟩ = some (.int .i64 0) := by rw [Lib.cell_of_heap HRES.out]; rfl
          have g0 : WE.frozen? ⟨r, 0, none⟩ = false := Lib.frozen_of_heap HRES.out 0
          have g1 : WE.frozen? ⟨r, 1, none⟩ = false := Lib.frozen_of_heap HRES.out 1
          have g2 : WE.frozen? ⟨r, 2, none⟩ = false := Lib.frozen_of_heap HRES.out 2
          have hrz := block_lt HRES.out
          go_wp2
          have hR8 := (block_set (block_set (block_set HRES.out 0 (.int .i64 kk)) 1 (.int .i64 0)) 2 (.int .i64 0))
          have hE8 := (((HEND.out.setCell (p := ⟨r, 0, none⟩) (Nat.le_refl _) (.int .i64 kk)).setCell (p := ⟨r, 1, none⟩) (Nat.le_refl _) (.int .i64 0)).setCell (p := ⟨r, 2, none⟩) (Nat.le_refl _) (.int .i64 0))
          generalize (((WE.setCell ⟨r, 0, none⟩ (.int .i64 kk)).setCell ⟨r, 1, none⟩ (.int .i64 0)).setCell ⟨r, 2, none⟩ (.int .i64 0)) = W8 at *
          have s0 : W8.cell? ⟨r, 0, none⟩ = some (.int .i64 kk) := by rw [Lib.cell_of_heap hR8]; rfl
          have s1 : W8.cell? ⟨r, 1, none⟩ = some (.int .i64 0) := by rw [Lib.cell_of_heap hR8]; rfl
          have s2 : W8.cell? ⟨r, 2, none⟩ = some (.int .i64 0) := by rw [Lib.cell_of_heap hR8]; rfl
          rw [HRD.out]
          exact bodyPost_ret (v := .tuple #[.agg #[.int .i64 kk, .int .i64 0, .int .i64 0], .int .i64 0]) (by simp [results, Tryz.results14, go_sem, s0, s1, s2]) rfl ⟨rfl, by rw [HR.out]; exact hE8⟩
        · have HRD : Hid (rdW (w0 :: rest) = (⟨0, 0, 0⟩, 3)) := Lib.hid (by rw [HRD1.out, if_neg (fun h => h1 h.2), if_pos (.inl hm)])
          have hn2 : ((n : Int) == 1) = false := beq_eq_false_iff_ne.2 (by omega)
          clear h1 hm
          go_wp2_with fail
          refine (HMV.out _).mono ?_
          rintro e w4 ⟨rfl, rfl⟩
          go_wp2_with fail
          refine (HMV.out _).mono ?_
          rintro e w4 ⟨rfl, rfl⟩
          have r0 : WE.cell? ⟨r, 0, none⟩ = some (.int .i64 0) := by rw [Lib.cell_of_heap HRES.out]; rfl
          have r1 : WE.cell? ⟨r, 1, none⟩ = some (.int .i64 0) := by rw [Lib.cell_of_heap HRES.out]; rfl
          have r2 : WE.cell? ⟨r, 2, none⟩ = some (.int .i64 0) := by rw [Lib.cell_of_heap HRES.out]; rfl
          have g0 : WE.frozen? ⟨r, 0, none⟩ = false := Lib.frozen_of_heap HRES.out 0
          have g1 : WE.frozen? ⟨r, 1, none⟩ = false := Lib.frozen_of_heap HRES.out 1
          have g2 : WE.frozen? ⟨r, 2, none⟩ = false := Lib.frozen_of_heap HRES.out 2
          have hrz := block_lt HRES.out
          go_wp2
          have hR8 := (block_set (block_set (block_set HRES.out 0 (.int .i64 0)) 1 (.int .i64 0)) 2 (.int .i64 0))
          have hE8 := (((HEND.out.setCell (p := ⟨r, 0, none⟩) (Nat.le_refl _) (.int .i64 0)).setCell (p := ⟨r, 1, none⟩) (Nat.le_refl _) (.int .i64 0)).setCell (p := ⟨r, 2, none⟩) (Nat.le_refl _) (.int .i64 0))
          generalize (((WE.setCell ⟨r, 0, none⟩ (.int .i64 0)).setCell ⟨r, 1, none⟩ (.int .i64 0)).setCell ⟨r, 2, none⟩ (.int .i64 0)) = W8 at *
          have s0 : W8.cell? ⟨r, 0, none⟩ = some (.int .i64 0) := by rw [Lib.cell_of_heap hR8]; rfl
          have s1 : W8.cell? ⟨r, 1, none⟩ = some (.int .i64 0) := by rw [Lib.cell_of_heap hR8]; rfl
          have s2 : W8.cell? ⟨r, 2, none⟩ = some (.int .i64 0) := by rw [Lib.cell_of_heap hR8]; rfl
          rw [HRD.out]
          exact bodyPost_ret (v := .tuple #[.agg #[.int .i64 0, .int .i64 0, .int .i64 0], .int .i64 3]) (by simp [results, Tryz.results14, go_sem, s0, s1, s2]) rfl ⟨rfl, by rw [HR.out]; exact hE8⟩
      · rw [hm] at HMV
        by_cases h3 : n = 3
        · obtain ⟨w1, rest1, rfl⟩ : ∃ a r, rest = a :: r := by
            have := HN.out
            rcases rest with _ | ⟨a, t⟩
            · simp at this; omega
            · exact ⟨a, t, rfl⟩
          obtain ⟨w2', rest2, rfl⟩ : ∃ a r, rest1 = a :: r := by
            have := HN.out
            rcases rest1 with _ | ⟨a, t⟩
            · simp at this; omega
            · exact ⟨a, t, rfl⟩
          have HRD2 := Lib.hid (HRD1.out.trans (by rw [if_neg (by rw [hm]; simp), if_neg (by rw [hm]; simp [h3])]))
          have HC1 := Lib.hid (fun W h => coordinate_any w1.data.toList 88 W (HSZ.out w1 (by simp)) h)
          have HC2 := Lib.hid (fun W h => coordinate_any w2'.data.toList 89 W (HSZ.out w2' (by simp)) h)
          rw [show (ByteArray.mk w1.data.toList.toArray) = w1 by cases w1; simp] at HC1
          rw [show (ByteArray.mk w2'.data.toList.toArray) = w2' by cases w2'; simp] at HC2
          have HV := Lib.hid (fun W => valid1_any ⟨kk, cval (Lib.trimPrefix w1.data.toList [88]), cval (Lib.trimPrefix w2'.data.toList [89])⟩ W)
          rw [show okW (w0 :: w1 :: w2' :: rest2) 1 88 = (Lib.hasPrefix w1.data.toList [88] && canon (Lib.trimPrefix w1.data.toList [88])) from rfl, show okW (w0 :: w1 :: w2' :: rest2) 2 89 = (Lib.hasPrefix w2'.data.toList [89] && canon (Lib.trimPrefix w2'.data.toList [89])) from rfl, show valW (w0 :: w1 :: w2' :: rest2) 1 88 = cval (Lib.trimPrefix w1.data.toList [88]) from rfl, show valW (w0 :: w1 :: w2' :: rest2) 2 89 = cval (Lib.trimPrefix w2'.data.toList [89]) from rfl] at HRD2
          generalize (Lib.hasPrefix w1.data.toList [88] && canon (Lib.trimPrefix w1.data.toList [88])) = o1 at *
          generalize (Lib.hasPrefix w2'.data.toList [89] && canon (Lib.trimPrefix w2'.data.toList [89])) = o2 at *
          generalize cval (Lib.trimPrefix w1.data.toList [88]) = v1 at *
          generalize cval (Lib.trimPrefix w2'.data.toList [89]) = v2 at *
          have c1 : WE.cell? ⟨wb, 1, none⟩ = some (.string w1) := by rw [Lib.cell_of_heap HWSE.out]; rfl
          subst h3
          clear hm HRD1
          go_wp2_with fail
          refine (HMV.out _).mono ?_
          rintro e w4 ⟨rfl, rfl⟩
          go_wp2_with fail
          refine (HMV.out _).mono ?_
          rintro e w4 ⟨rfl, rfl⟩
          go_wp2_with fail
          refine (HC1.out _ HGE.out).mono ?_
          rintro e w5 ⟨rfl, hb5⟩
          have HG5 := Lib.hid (HGE.out.below hb5)
          have HRES5 := Lib.hid ((hb5.block r (block_lt HRES.out)).trans HRES.out)
          have HEND5 := Lib.hid (HEND.out.trans (hb5.mono (Nat.le_trans (Nat.le_of_eq HR.out.symm) HEND.out.size)))
          have HWS5 := Lib.hid ((hb5.block wb (block_lt HWSE.out)).trans HWSE.out)
          clear hb5 c1
          have c2 : w5.cell? ⟨wb, 2, none⟩ = some (.string w2') := by rw [Lib.cell_of_heap HWS5.out]; rfl
          go_wp2_with fail
          refine (HC2.out _ HG5.out).mono ?_
          rintro e w6 ⟨rfl, hb6⟩
          have hba := hb6.alloc hb6.size (.cells #[.int .i64 kk, .int .i64 v1, .int .i64 v2] 38)
          have HRES6 := Lib.hid ((hba.block r (block_lt HRES5.out)).trans HRES5.out)
          have HEND6 := Lib.hid (HEND5.out.trans (hba.mono (Nat.le_trans (Nat.le_of_eq HR.out.symm) HEND5.out.size)))
          have HMB := Lib.hid (heap_alloc_new w6 (.cells #[.int .i64 kk, .int .i64 v1, .int .i64 v2] 38))
          clear hb6 hba c2
          by_cases hoo : o1 = false ∨ o2 = false
          · have HRD : Hid (rdW (w0 :: w1 :: w2' :: rest2) = (⟨0, 0, 0⟩, 3)) := Lib.hid (by rw [HRD2.out, if_pos hoo])
            rcases hoo with rfl | rfl
            · go_upto_region 13 with (fail)
              generalize w6.alloc (.cells #[.int .i64 kk, .int .i64 v1, .int .i64 v2] 38) = WE at *
              have HRES := HRES6
              have HEND := HEND6
              have r0 : WE.cell? ⟨r, 0, none⟩ = some (.int .i64 0) := by rw [Lib.cell_of_heap HRES.out]; rfl
              have r1 : WE.cell? ⟨r, 1, none⟩ = some (.int .i64 0) := by rw [Lib.cell_of_heap HRES.out]; rfl
              have r2 : WE.cell? ⟨r, 2, none⟩ = some (.int .i64 0) := by rw [Lib.cell_of_heap HRES.out]; rfl
              have g0 : WE.frozen? ⟨r, 0, none⟩ = false := Lib.frozen_of_heap HRES.out 0
              have g1 : WE.frozen? ⟨r, 1, none⟩ = false := Lib.frozen_of_heap HRES.out 1
              have g2 : WE.frozen? ⟨r, 2, none⟩ = false := Lib.frozen_of_heap HRES.out 2
              have hrz := block_lt HRES.out
              go_wp2
              have hR8 := (block_set (block_set (block_set HRES.out 0 (.int .i64 0)) 1 (.int .i64 0)) 2 (.int .i64 0))
              have hE8 := (((HEND.out.setCell (p := ⟨r, 0, none⟩) (Nat.le_refl _) (.int .i64 0)).setCell (p := ⟨r, 1, none⟩) (Nat.le_refl _) (.int .i64 0)).setCell (p := ⟨r, 2, none⟩) (Nat.le_refl _) (.int .i64 0))
              generalize (((WE.setCell ⟨r, 0, none⟩ (.int .i64 0)).setCell ⟨r, 1, none⟩ (.int .i64 0)).setCell ⟨r, 2, none⟩ (.int .i64 0)) = W8 at *
              have s0 : W8.cell? ⟨r, 0, none⟩ = some (.int .i64 0) := by rw [Lib.cell_of_heap hR8]; rfl
              have s1 : W8.cell? ⟨r, 1, none⟩ = some (.int .i64 0) := by rw [Lib.cell_of_heap hR8]; rfl
              have s2 : W8.cell? ⟨r, 2, none⟩ = some (.int .i64 0) := by rw [Lib.cell_of_heap hR8]; rfl
              rw [HRD.out]
              exact bodyPost_ret (v := .tuple #[.agg #[.int .i64 0, .int .i64 0, .int .i64 0], .int .i64 3]) (by simp [results, Tryz.results14, go_sem, s0, s1, s2]) rfl ⟨rfl, by rw [HR.out]; exact hE8⟩
            · cases o1
              · go_upto_region 13 with (fail)
                generalize w6.alloc (.cells #[.int .i64 kk, .int .i64 v1, .int .i64 v2] 38) = WE at *
                have HRES := HRES6
                have HEND := HEND6
                have r0 : WE.cell? ⟨r, 0, none⟩ = some (.int .i64 0) := by rw [Lib.cell_of_heap HRES.out]; rfl
                have r1 : WE.cell? ⟨r, 1, none⟩ = some (.int .i64 0) := by rw [Lib.cell_of_heap HRES.out]; rfl
                have r2 : WE.cell? ⟨r, 2, none⟩ = some (.int .i64 0) := by rw [Lib.cell_of_heap HRES.out]; rfl
                have g0 : WE.frozen? ⟨r, 0, none⟩ = false := Lib.frozen_of_heap HRES.out 0
                have g1 : WE.frozen? ⟨r, 1, none⟩ = false := Lib.frozen_of_heap HRES.out 1
                have g2 : WE.frozen? ⟨r, 2, none⟩ = false := Lib.frozen_of_heap HRES.out 2
                have hrz := block_lt HRES.out
                go_wp2
                have hR8 := (block_set (block_set (block_set HRES.out 0 (.int .i64 0)) 1 (.int .i64 0)) 2 (.int .i64 0))
                have hE8 := (((HEND.out.setCell (p := ⟨r, 0, none⟩) (Nat.le_refl _) (.int .i64 0)).setCell (p := ⟨r, 1, none⟩) (Nat.le_refl _) (.int .i64 0)).setCell (p := ⟨r, 2, none⟩) (Nat.le_refl _) (.int .i64 0))
                generalize (((WE.setCell ⟨r, 0, none⟩ (.int .i64 0)).setCell ⟨r, 1, none⟩ (.int .i64 0)).setCell ⟨r, 2, none⟩ (.int .i64 0)) = W8 at *
                have s0 : W8.cell? ⟨r, 0, none⟩ = some (.int .i64 0) := by rw [Lib.cell_of_heap hR8]; rfl
                have s1 : W8.cell? ⟨r, 1, none⟩ = some (.int .i64 0) := by rw [Lib.cell_of_heap hR8]; rfl
                have s2 : W8.cell? ⟨r, 2, none⟩ = some (.int .i64 0) := by rw [Lib.cell_of_heap hR8]; rfl
                rw [HRD.out]
                exact bodyPost_ret (v := .tuple #[.agg #[.int .i64 0, .int .i64 0, .int .i64 0], .int .i64 3]) (by simp [results, Tryz.results14, go_sem, s0, s1, s2]) rfl ⟨rfl, by rw [HR.out]; exact hE8⟩
              · go_upto_region 13 with (fail)
                generalize w6.alloc (.cells #[.int .i64 kk, .int .i64 v1, .int .i64 v2] 38) = WE at *
                have HRES := HRES6
                have HEND := HEND6
                have r0 : WE.cell? ⟨r, 0, none⟩ = some (.int .i64 0) := by rw [Lib.cell_of_heap HRES.out]; rfl
                have r1 : WE.cell? ⟨r, 1, none⟩ = some (.int .i64 0) := by rw [Lib.cell_of_heap HRES.out]; rfl
                have r2 : WE.cell? ⟨r, 2, none⟩ = some (.int .i64 0) := by rw [Lib.cell_of_heap HRES.out]; rfl
                have g0 : WE.frozen? ⟨r, 0, none⟩ = false := Lib.frozen_of_heap HRES.out 0
                have g1 : WE.frozen? ⟨r, 1, none⟩ = false := Lib.frozen_of_heap HRES.out 1
                have g2 : WE.frozen? ⟨r, 2, none⟩ = false := Lib.frozen_of_heap HRES.out 2
                have hrz := block_lt HRES.out
                go_wp2
                have hR8 := (block_set (block_set (block_set HRES.out 0 (.int .i64 0)) 1 (.int .i64 0)) 2 (.int .i64 0))
                have hE8 := (((HEND.out.setCell (p := ⟨r, 0, none⟩) (Nat.le_refl _) (.int .i64 0)).setCell (p := ⟨r, 1, none⟩) (Nat.le_refl _) (.int .i64 0)).setCell (p := ⟨r, 2, none⟩) (Nat.le_refl _) (.int .i64 0))
                generalize (((WE.setCell ⟨r, 0, none⟩ (.int .i64 0)).setCell ⟨r, 1, none⟩ (.int .i64 0)).setCell ⟨r, 2, none⟩ (.int .i64 0)) = W8 at *
                have s0 : W8.cell? ⟨r, 0, none⟩ = some (.int .i64 0) := by rw [Lib.cell_of_heap hR8]; rfl
                have s1 : W8.cell? ⟨r, 1, none⟩ = some (.int .i64 0) := by rw [Lib.cell_of_heap hR8]; rfl
                have s2 : W8.cell? ⟨r, 2, none⟩ = some (.int .i64 0) := by rw [Lib.cell_of_heap hR8]; rfl
                rw [HRD.out]
                exact bodyPost_ret (v := .tuple #[.agg #[.int .i64 0, .int .i64 0, .int .i64 0], .int .i64 3]) (by simp [results, Tryz.results14, go_sem, s0, s1, s2]) rfl ⟨rfl, by rw [HR.out]; exact hE8⟩
          · obtain ⟨rfl, rfl⟩ : o1 = true ∧ o2 = true := by cases o1 <;> cases o2 <;> simp at hoo ⊢
            go_upto_region 13 with (fail)
            generalize w6.alloc (.cells #[.int .i64 kk, .int .i64 v1, .int .i64 v2] 38) = W6 at *
            generalize w6.heap.size = mb at *
            have q0 : W6.cell? ⟨mb, 0, none⟩ = some (.int .i64 kk) := by rw [Lib.cell_of_heap HMB.out]; rfl
            have q1 : W6.cell? ⟨mb, 1, none⟩ = some (.int .i64 v1) := by rw [Lib.cell_of_heap HMB.out]; rfl
            have q2 : W6.cell? ⟨mb, 2, none⟩ = some (.int .i64 v2) := by rw [Lib.cell_of_heap HMB.out]; rfl
            go_wp2_with fail
            refine (HV.out _).mono ?_
            rintro e WE ⟨rfl, hb7⟩
            have HRES := Lib.hid ((hb7.block r (block_lt HRES6.out)).trans HRES6.out)
            have HEND := Lib.hid (HEND6.out.trans (hb7.mono (Nat.le_trans (Nat.le_of_eq HR.out.symm) HEND6.out.size)))
            have HMB7 := Lib.hid ((hb7.block mb (block_lt HMB.out)).trans HMB.out)
            clear hb7 q0 q1 q2
            cases hok : Nc.ok ⟨kk, v1, v2⟩
            · have HRD : Hid (rdW (w0 :: w1 :: w2' :: rest2) = (⟨0, 0, 0⟩, 2)) := Lib.hid (by rw [HRD2.out, if_neg hoo, if_pos hok])
              clear hok
              have r0 : WE.cell? ⟨r, 0, none⟩ = some (.int .i64 0) := by rw [Lib.cell_of_heap HRES.out]; rfl
              have r1 : WE.cell? ⟨r, 1, none⟩ = some (.int .i64 0) := by rw [Lib.cell_of_heap HRES.out]; rfl
              have r2 : WE.cell? ⟨r, 2, none⟩ = some (.int .i64 0) := by rw [Lib.cell_of_heap HRES.out]; rfl
              have g0 : WE.frozen? ⟨r, 0, none⟩ = false := Lib.frozen_of_heap HRES.out 0
              have g1 : WE.frozen? ⟨r, 1, none⟩ = false := Lib.frozen_of_heap HRES.out 1
              have g2 : WE.frozen? ⟨r, 2, none⟩ = false := Lib.frozen_of_heap HRES.out 2
              have hrz := block_lt HRES.out
              go_wp2
              have hR8 := (block_set (block_set (block_set HRES.out 0 (.int .i64 0)) 1 (.int .i64 0)) 2 (.int .i64 0))
              have hE8 := (((HEND.out.setCell (p := ⟨r, 0, none⟩) (Nat.le_refl _) (.int .i64 0)).setCell (p := ⟨r, 1, none⟩) (Nat.le_refl _) (.int .i64 0)).setCell (p := ⟨r, 2, none⟩) (Nat.le_refl _) (.int .i64 0))
              generalize (((WE.setCell ⟨r, 0, none⟩ (.int .i64 0)).setCell ⟨r, 1, none⟩ (.int .i64 0)).setCell ⟨r, 2, none⟩ (.int .i64 0)) = W8 at *
              have s0 : W8.cell? ⟨r, 0, none⟩ = some (.int .i64 0) := by rw [Lib.cell_of_heap hR8]; rfl
              have s1 : W8.cell? ⟨r, 1, none⟩ = some (.int .i64 0) := by rw [Lib.cell_of_heap hR8]; rfl
              have s2 : W8.cell? ⟨r, 2, none⟩ = some (.int .i64 0) := by rw [Lib.cell_of_heap hR8]; rfl
              rw [HRD.out]
              exact bodyPost_ret (v := .tuple #[.agg #[.int .i64 0, .int .i64 0, .int .i64 0], .int .i64 2]) (by simp [results, Tryz.results14, go_sem, s0, s1, s2]) rfl ⟨rfl, by rw [HR.out]; exact hE8⟩
            · have HRD : Hid (rdW (w0 :: w1 :: w2' :: rest2) = (⟨kk, v1, v2⟩, 0)) := Lib.hid (by rw [HRD2.out, if_neg hoo, if_neg (by rw [hok]; simp)])
              clear hok
              have q0 : WE.cell? ⟨mb, 0, none⟩ = some (.int .i64 kk) := by rw [Lib.cell_of_heap HMB7.out]; rfl
              have q1 : WE.cell? ⟨mb, 1, none⟩ = some (.int .i64 v1) := by rw [Lib.cell_of_heap HMB7.out]; rfl
              have q2 : WE.cell? ⟨mb, 2, none⟩ = some (.int .i64 v2) := by rw [Lib.cell_of_heap HMB7.out]; rfl
              have r0 : WE.cell? ⟨r, 0, none⟩ = some (.int .i64 0) := by rw [Lib.cell_of_heap HRES.out]; rfl
              have r1 : WE.cell? ⟨r, 1, none⟩ = some (.int .i64 0) := by rw [Lib.cell_of_heap HRES.out]; rfl
              have r2 : WE.cell? ⟨r, 2, none⟩ = some (.int .i64 0) := by rw [Lib.cell_of_heap HRES.out]; rfl
              have g0 : WE.frozen? ⟨r, 0, none⟩ = false := Lib.frozen_of_heap HRES.out 0
              have g1 : WE.frozen? ⟨r, 1, none⟩ = false := Lib.frozen_of_heap HRES.out 1
              have g2 : WE.frozen? ⟨r, 2, none⟩ = false := Lib.frozen_of_heap HRES.out 2
              have hrz := block_lt HRES.out
              go_wp2
              have hR8 := (block_set (block_set (block_set HRES.out 0 (.int .i64 kk)) 1 (.int .i64 v1)) 2 (.int .i64 v2))
              have hE8 := (((HEND.out.setCell (p := ⟨r, 0, none⟩) (Nat.le_refl _) (.int .i64 kk)).setCell (p := ⟨r, 1, none⟩) (Nat.le_refl _) (.int .i64 v1)).setCell (p := ⟨r, 2, none⟩) (Nat.le_refl _) (.int .i64 v2))
              generalize (((WE.setCell ⟨r, 0, none⟩ (.int .i64 kk)).setCell ⟨r, 1, none⟩ (.int .i64 v1)).setCell ⟨r, 2, none⟩ (.int .i64 v2)) = W8 at *
              have s0 : W8.cell? ⟨r, 0, none⟩ = some (.int .i64 kk) := by rw [Lib.cell_of_heap hR8]; rfl
              have s1 : W8.cell? ⟨r, 1, none⟩ = some (.int .i64 v1) := by rw [Lib.cell_of_heap hR8]; rfl
              have s2 : W8.cell? ⟨r, 2, none⟩ = some (.int .i64 v2) := by rw [Lib.cell_of_heap hR8]; rfl
              rw [HRD.out]
              exact bodyPost_ret (v := .tuple #[.agg #[.int .i64 kk, .int .i64 v1, .int .i64 v2], .int .i64 0]) (by simp [results, Tryz.results14, go_sem, s0, s1, s2]) rfl ⟨rfl, by rw [HR.out]; exact hE8⟩
        · have HRD : Hid (rdW (w0 :: rest) = (⟨0, 0, 0⟩, 3)) := Lib.hid (by rw [HRD1.out, if_neg (by rw [hm]; simp), if_pos (.inr h3)])
          have hn2 : ((n : Int) != 3) = true := by simp; omega
          clear h3 hm
          go_wp2_with fail
          refine (HMV.out _).mono ?_
          rintro e w4 ⟨rfl, rfl⟩
          go_wp2_with fail
          refine (HMV.out _).mono ?_
          rintro e w4 ⟨rfl, rfl⟩
          have r0 : WE.cell? ⟨r, 0, none⟩ = some (.int .i64 0) := by rw [Lib.cell_of_heap HRES.out]; rfl
          have r1 : WE.cell? ⟨r, 1, none⟩ = some (.int .i64 0) := by rw [Lib.cell_of_heap HRES.out]; rfl
          have r2 : WE.cell? ⟨r, 2, none⟩ = some (.int .i64 0) := by rw [Lib.cell_of_heap HRES.out]; rfl
          have g0 : WE.frozen? ⟨r, 0, none⟩ = false := Lib.frozen_of_heap HRES.out 0
          have g1 : WE.frozen? ⟨r, 1, none⟩ = false := Lib.frozen_of_heap HRES.out 1
          have g2 : WE.frozen? ⟨r, 2, none⟩ = false := Lib.frozen_of_heap HRES.out 2
          have hrz := block_lt HRES.out
          go_wp2
          have hR8 := (block_set (block_set (block_set HRES.out 0 (.int .i64 0)) 1 (.int .i64 0)) 2 (.int .i64 0))
          have hE8 := (((HEND.out.setCell (p := ⟨r, 0, none⟩) (Nat.le_refl _) (.int .i64 0)).setCell (p := ⟨r, 1, none⟩) (Nat.le_refl _) (.int .i64 0)).setCell (p := ⟨r, 2, none⟩) (Nat.le_refl _) (.int .i64 0))
          generalize (((WE.setCell ⟨r, 0, none⟩ (.int .i64 0)).setCell ⟨r, 1, none⟩ (.int .i64 0)).setCell ⟨r, 2, none⟩ (.int .i64 0)) = W8 at *
          have s0 : W8.cell? ⟨r, 0, none⟩ = some (.int .i64 0) := by rw [Lib.cell_of_heap hR8]; rfl
          have s1 : W8.cell? ⟨r, 1, none⟩ = some (.int .i64 0) := by rw [Lib.cell_of_heap hR8]; rfl
          have s2 : W8.cell? ⟨r, 2, none⟩ = some (.int .i64 0) := by rw [Lib.cell_of_heap hR8]; rfl
          rw [HRD.out]
          exact bodyPost_ret (v := .tuple #[.agg #[.int .i64 0, .int .i64 0, .int .i64 0], .int .i64 3]) (by simp [results, Tryz.results14, go_sem, s0, s1, s2]) rfl ⟨rfl, by rw [HR.out]; exact hE8⟩
end Go.Proofs.YtonpbomjjamphaaGreatDoor.NcW
