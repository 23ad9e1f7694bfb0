/- Walk: the condition that an entity's name fulfils. Conditions: the slice of entities lies in its variable. -/
import Derived.Test.YtnmmhcchpcbeeaaGreatDoorGtL
import Derived.MapKept
import Derived.Test.YtnmmhcchpcbeeaaGreatDoorGtR
import Derived.Test.YtnmmhcchpcbeeaaGreatDoorGtH

namespace Go.Proofs.YtnmmhcchpcbeeaaGreatDoor.GtW
open Go Go.RowKit Go.Proofs.YtnmmhcchpcbeeaaGreatDoor.Mem Go.Proofs.YtnmmhcchpcbeeaaGreatDoor.Gt Go.Proofs.YtnmmhcchpcbeeaaGreatDoor.Ge
attribute [local go_sem ↓] Go.wp_at_zero Go.wp_at_succ
section
variable {P : Program} (w : World)
theorem run_put (mty kt et : TypeId) (r clk : Nat) (es : Array MapEntry) (s : ByteArray) (v : Value) (hm : P.underlying mty = some (.map kt et)) (hk : P.underlying kt = some .string) (hb : w.heap[r]? = some (.map es clk)) (hf : Instr.findNow .string (.string s) es.toList 0 = some none) :
  (Instr.mapUpdate mty (.map (some r)) (.string s) v).run P w = .ok () { w with heap := w.heap.setIfInBounds r (.map (es.push { key := .string s, val := v, born := clk }) (clk + 1)) } := by
 have hc : (Instr.checkKey false 10000 kt (.string s)).run P w = .ok () w := MapKept.run_checkKey (k := .string s) hk (by simp [MapKept.IsKey]) false 9999
 simp [Instr.mapUpdate, run_underlying hm, MapKept.run_getObj_map hb, hc, MapKept.run_findKey hk hf, MapKept.run_setObj_map _ hb, Result.andThen]
theorem run_got (mty kt et : TypeId) (r clk : Nat) (es : Array MapEntry) (s : ByteArray) (v : Value) (i : Nat) (hm : P.underlying mty = some (.map kt et)) (hk : P.underlying kt = some .string) (hb : w.heap[r]? = some (.map es clk)) (hf : Instr.findNow .string (.string s) es.toList 0 = some (some (i, v))) :
  (Instr.lookup mty (.map (some r)) (.string s) false).run P w = .ok v w := by
 have hc : (Instr.checkKey es.isEmpty 10000 kt (.string s)).run P w = .ok () w := MapKept.run_checkKey (k := .string s) hk (by simp [MapKept.IsKey]) _ 9999
 simp [Instr.lookup, run_underlying hm, MapKept.run_getObj_map hb, hc, MapKept.run_findKey hk hf, Result.andThen]
end
/-- A key more in a map that the call itself made. -/
theorem put_more {P : Program} {w : World} {mty kt et : TypeId} {r clk B : Nat} {es : Array MapEntry} {s : ByteArray} {v : Value} (hm : P.underlying mty = some (.map kt et)) (hk : P.underlying kt = some .string) (hb : w.heap[r]? = some (.map es clk)) (hf : Instr.findNow .string (.string s) es.toList 0 = some none) (hB : B ≤ r) :
  ∃ w2, (Instr.mapUpdate mty (.map (some r)) (.string s) v).run P w = .ok () w2 ∧ w2.heap[r]? = some (.map (es.push { key := .string s, val := v, born := clk }) (clk + 1)) ∧ Below B w w2 := by
 refine ⟨_, run_put w mty kt et r clk es s v hm hk hb hf, ?_, rfl, rfl, rfl, by simp, fun k hk => ?_⟩
 ·have := blk_lt hb
  simp [this]
 ·have : r ≠ k := by omega
  simp [this]
set_option maxRecDepth 100000 in
set_option maxHeartbeats 4000000 in
theorem read_any (L : List (List UInt8)) (A : Option Addr) (c b : Nat) (s : Gt.S) (k l : List UInt8) (xb : Nat) (w : World) (hkk : k = kLine ∨ k = kArc ∨ k = kPoly) (h : Sc w b A c L s) (h3 : w.heap[xb]? = some (eobj (ent0 l) (.slice none 0 0))) (n3 : xb ≠ b) (hap : Apart A xb) (h7 : 7 ≤ xb) :
  Calls Tryz.prog 27 #[.pointer (some ⟨b, 0, none⟩), .string ⟨k.toArray⟩, .pointer (some ⟨xb, 0, none⟩)] w fun e w' => e = .returned (.tuple #[]) ∧ Sc w' b A c L (rdKind L k l s).2 ∧ (∃ B d, w'.heap[xb]? = some (eobj (rdKind L k l s).1 (.slice B (rdKind L k l s).1.pts.length d)) ∧ w'.ownsRow w.heap.size 47 2 (.slice B (rdKind L k l s).1.pts.length d) (rdKind L k l s).1.pts.length ((rdKind L k l s).1.pts.flatMap GeW.ptCells)) ∧ Fr b xb w w' := by
 have hlb := blk_lt h.obj
 have hlx := blk_lt h3
 have hB0 : Below w.heap.size w ((w.alloc (.cells #[.pointer (some ⟨b, 0, none⟩)] 59)).alloc (.cells #[.pointer (some ⟨xb, 0, none⟩)] 65)) := ((Below.refl _ _).alloc (Nat.le_refl _) _).alloc (by simp) _
 have c1 : ((w.alloc (.cells #[.pointer (some ⟨b, 0, none⟩)] 59)).alloc (.cells #[.pointer (some ⟨xb, 0, none⟩)] 65)).cell? ⟨w.heap.size, 0, none⟩ = some (.pointer (some ⟨b, 0, none⟩)) := (((Below.refl _ _).alloc (Nat.le_refl _) _).cell (p := ⟨w.heap.size, 0, none⟩) (by simp)).trans (new_cell w _ _)
 have c2 : ((w.alloc (.cells #[.pointer (some ⟨b, 0, none⟩)] 59)).alloc (.cells #[.pointer (some ⟨xb, 0, none⟩)] 65)).cell? ⟨w.heap.size + 1, 0, none⟩ = some (.pointer (some ⟨xb, 0, none⟩)) := by simp
 have hz0 : ((w.alloc (.cells #[.pointer (some ⟨b, 0, none⟩)] 59)).alloc (.cells #[.pointer (some ⟨xb, 0, none⟩)] 65)).heap.size = w.heap.size + 2 := by simp
 have hmf : ∀ (fn : Fn) (first cap : Array Value) (w : World), (Instr.makeFunc fn first cap).run Tryz.prog w = .ok (.func fn first cap) w := fun _ _ _ _ => rfl
 have hmk : ∀ (w : World), (Instr.makeMap 118 none).run Tryz.prog w = .ok (.map (some w.heap.size)) (w.alloc (.map #[] 0)) := fun _ => rfl
 obtain ⟨V1, e1, hm1, hb1⟩ := put_more (P := Tryz.prog) (mty := 118) (w := ((w.alloc (.cells #[.pointer (some ⟨b, 0, none⟩)] 59)).alloc (.cells #[.pointer (some ⟨xb, 0, none⟩)] 65)).alloc (.map #[] 0)) (r := w.heap.size + 2) (clk := 0) (es := #[]) (s := ⟨#[76, 73, 78, 69]⟩) (v := (.func (.func 59) #[] #[.pointer (some ⟨w.heap.size, 0, none⟩), .pointer (some ⟨w.heap.size + 1, 0, none⟩)])) (B := w.heap.size + 2) Tryz.underlying118 Tryz.underlying9 (by rw [← hz0]; exact GeW.heap_alloc_new _ _) rfl (Nat.le_refl _)
 obtain ⟨V2, e2, hm2, hb2⟩ := put_more (P := Tryz.prog) (mty := 118) (w := V1) (r := w.heap.size + 2) (clk := 1) (s := ⟨#[65, 82, 67]⟩) (v := (.func (.func 62) #[] #[.pointer (some ⟨w.heap.size, 0, none⟩), .pointer (some ⟨w.heap.size + 1, 0, none⟩)])) (B := w.heap.size + 2) Tryz.underlying118 Tryz.underlying9 hm1 rfl (Nat.le_refl _)
 obtain ⟨V3, e3, hm3, hb3⟩ := put_more (P := Tryz.prog) (mty := 118) (w := V2) (r := w.heap.size + 2) (clk := 2) (s := ⟨#[80, 79, 76, 89]⟩) (v := (.func (.func 65) #[] #[.pointer (some ⟨w.heap.size + 1, 0, none⟩), .pointer (some ⟨w.heap.size, 0, none⟩)])) (B := w.heap.size + 2) Tryz.underlying118 Tryz.underlying9 hm2 rfl (Nat.le_refl _)
 have hB3 : Below (w.heap.size + 2) ((w.alloc (.cells #[.pointer (some ⟨b, 0, none⟩)] 59)).alloc (.cells #[.pointer (some ⟨xb, 0, none⟩)] 65)) V3 := (((Below.refl _ _).alloc (by simp) _).trans hb1).trans (hb2.trans hb3)
 have HF3 := Lib.hid (hB0.trans (hB3.mono (by omega)))
 have HM3 : Hid (V3.heap[w.heap.size + 2]? = some (.map #[⟨.string ⟨#[76, 73, 78, 69]⟩, (.func (.func 59) #[] #[.pointer (some ⟨w.heap.size, 0, none⟩), .pointer (some ⟨w.heap.size + 1, 0, none⟩)]), 0⟩, ⟨.string ⟨#[65, 82, 67]⟩, (.func (.func 62) #[] #[.pointer (some ⟨w.heap.size, 0, none⟩), .pointer (some ⟨w.heap.size + 1, 0, none⟩)]), 1⟩, ⟨.string ⟨#[80, 79, 76, 89]⟩, (.func (.func 65) #[] #[.pointer (some ⟨w.heap.size + 1, 0, none⟩), .pointer (some ⟨w.heap.size, 0, none⟩)]), 2⟩] 3)) := Lib.hid hm3
 have HZ : Hid (w.heap.size ≤ V3.heap.size) := Lib.hid HF3.out.size
 have D1 := Lib.hid ((hB3.cell (p := ⟨w.heap.size, 0, none⟩) (by simp)).trans c1)
 have D2 := Lib.hid ((hB3.cell (p := ⟨w.heap.size + 1, 0, none⟩) (by simp)).trans c2)
 have DO := Lib.hid ((HF3.out.block xb hlx).trans h3)
 have DS := Lib.hid (h.below HF3.out)
 have hne1 : w.heap.size ≠ b := by omega
 have hne2 : w.heap.size + 1 ≠ b := by omega
 have hne3 : w.heap.size ≠ xb := by omega
 have hne4 : w.heap.size + 1 ≠ xb := by omega
 clear hm1 hm2 hm3 hb1 hb2 hb3 hB3 hB0 c1 c2 h3 h
 rcases hkk with rfl | rfl | rfl
 ·unfold rdKind
  rw [if_pos rfl]
  have HL := Lib.hid (run_got V3 118 9 1 (w.heap.size + 2) 3 #[⟨.string ⟨#[76, 73, 78, 69]⟩, (.func (.func 59) #[] #[.pointer (some ⟨w.heap.size, 0, none⟩), .pointer (some ⟨w.heap.size + 1, 0, none⟩)]), 0⟩, ⟨.string ⟨#[65, 82, 67]⟩, (.func (.func 62) #[] #[.pointer (some ⟨w.heap.size, 0, none⟩), .pointer (some ⟨w.heap.size + 1, 0, none⟩)]), 1⟩, ⟨.string ⟨#[80, 79, 76, 89]⟩, (.func (.func 65) #[] #[.pointer (some ⟨w.heap.size + 1, 0, none⟩), .pointer (some ⟨w.heap.size, 0, none⟩)]), 2⟩] ⟨kLine.toArray⟩ (.func (.func 59) #[] #[.pointer (some ⟨w.heap.size, 0, none⟩), .pointer (some ⟨w.heap.size + 1, 0, none⟩)]) 0 Tryz.underlying118 Tryz.underlying9 HM3.out rfl)
  have hl := HL.out
  go_enter Tryz.func27, Tryz.ntmps27
  go_upto_region 1 with fail
  generalize (w.alloc (.cells #[.pointer (some ⟨b, 0, none⟩)] 59)).alloc (.cells #[.pointer (some ⟨xb, 0, none⟩)] 65) = W0 at *
  go_wp2_with fail
  refine (read1_any L A c b s l w.heap.size (w.heap.size + 1) xb V3 DS.out D1.out D2.out DO.out hne1 hne2 n3 hne3 hne4 hap h7).mono ?_
  rintro e w9 ⟨rfl, hs9, ho9, hf9⟩
  go_wp2
  go_end0
  exact ⟨rfl, hs9, ⟨none, 0, ho9, World.ownsRow_nil _ _ _ _⟩, ⟨hf9.os.trans HF3.out.os, hf9.tape.trans HF3.out.tape, hf9.output.trans HF3.out.output, Nat.le_trans HF3.out.size hf9.size, fun i hi a1 a2 => (hf9.block i (Nat.lt_of_lt_of_le hi HF3.out.size) a1 a2).trans (HF3.out.block i hi)⟩⟩
 ·unfold rdKind
  rw [if_neg (by decide), if_pos rfl]
  have HL := Lib.hid (run_got V3 118 9 1 (w.heap.size + 2) 3 #[⟨.string ⟨#[76, 73, 78, 69]⟩, (.func (.func 59) #[] #[.pointer (some ⟨w.heap.size, 0, none⟩), .pointer (some ⟨w.heap.size + 1, 0, none⟩)]), 0⟩, ⟨.string ⟨#[65, 82, 67]⟩, (.func (.func 62) #[] #[.pointer (some ⟨w.heap.size, 0, none⟩), .pointer (some ⟨w.heap.size + 1, 0, none⟩)]), 1⟩, ⟨.string ⟨#[80, 79, 76, 89]⟩, (.func (.func 65) #[] #[.pointer (some ⟨w.heap.size + 1, 0, none⟩), .pointer (some ⟨w.heap.size, 0, none⟩)]), 2⟩] ⟨kArc.toArray⟩ (.func (.func 62) #[] #[.pointer (some ⟨w.heap.size, 0, none⟩), .pointer (some ⟨w.heap.size + 1, 0, none⟩)]) 1 Tryz.underlying118 Tryz.underlying9 HM3.out rfl)
  have hl := HL.out
  go_enter Tryz.func27, Tryz.ntmps27
  go_upto_region 1 with fail
  generalize (w.alloc (.cells #[.pointer (some ⟨b, 0, none⟩)] 59)).alloc (.cells #[.pointer (some ⟨xb, 0, none⟩)] 65) = W0 at *
  go_wp2_with fail
  refine (read2_any L A c b s l w.heap.size (w.heap.size + 1) xb V3 DS.out D1.out D2.out DO.out hne1 hne2 n3 hne3 hne4 hap h7).mono ?_
  rintro e w9 ⟨rfl, hs9, ho9, hf9⟩
  go_wp2
  go_end0
  exact ⟨rfl, hs9, ⟨none, 0, ho9, World.ownsRow_nil _ _ _ _⟩, ⟨hf9.os.trans HF3.out.os, hf9.tape.trans HF3.out.tape, hf9.output.trans HF3.out.output, Nat.le_trans HF3.out.size hf9.size, fun i hi a1 a2 => (hf9.block i (Nat.lt_of_lt_of_le hi HF3.out.size) a1 a2).trans (HF3.out.block i hi)⟩⟩
 ·unfold rdKind
  rw [if_neg (by decide), if_neg (by decide)]
  have HL := Lib.hid (run_got V3 118 9 1 (w.heap.size + 2) 3 #[⟨.string ⟨#[76, 73, 78, 69]⟩, (.func (.func 59) #[] #[.pointer (some ⟨w.heap.size, 0, none⟩), .pointer (some ⟨w.heap.size + 1, 0, none⟩)]), 0⟩, ⟨.string ⟨#[65, 82, 67]⟩, (.func (.func 62) #[] #[.pointer (some ⟨w.heap.size, 0, none⟩), .pointer (some ⟨w.heap.size + 1, 0, none⟩)]), 1⟩, ⟨.string ⟨#[80, 79, 76, 89]⟩, (.func (.func 65) #[] #[.pointer (some ⟨w.heap.size + 1, 0, none⟩), .pointer (some ⟨w.heap.size, 0, none⟩)]), 2⟩] ⟨kPoly.toArray⟩ (.func (.func 65) #[] #[.pointer (some ⟨w.heap.size + 1, 0, none⟩), .pointer (some ⟨w.heap.size, 0, none⟩)]) 2 Tryz.underlying118 Tryz.underlying9 HM3.out rfl)
  have hl := HL.out
  go_enter Tryz.func27, Tryz.ntmps27
  go_upto_region 1 with fail
  generalize (w.alloc (.cells #[.pointer (some ⟨b, 0, none⟩)] 59)).alloc (.cells #[.pointer (some ⟨xb, 0, none⟩)] 65) = W0 at *
  go_wp2_with fail
  refine (read3_any L A c b s l w.heap.size (w.heap.size + 1) xb V3 DS.out D1.out D2.out DO.out hne1 hne2 n3 hne3 hne4 hap h7).mono ?_
  rintro e w9 ⟨rfl, hs9, ⟨B9, d9, ho9, hw9⟩, hf9⟩
  go_wp2
  go_end0
  exact ⟨rfl, hs9, ⟨B9, d9, ho9, own_more hw9 HZ.out⟩, ⟨hf9.os.trans HF3.out.os, hf9.tape.trans HF3.out.tape, hf9.output.trans HF3.out.output, Nat.le_trans HF3.out.size hf9.size, fun i hi a1 a2 => (hf9.block i (Nat.lt_of_lt_of_le hi HF3.out.size) a1 a2).trans (HF3.out.block i hi)⟩⟩
end Go.Proofs.YtnmmhcchpcbeeaaGreatDoor.GtW

namespace Go.Proofs.YtnmmhcchpcbeeaaGreatDoor.Gt
open Go
def cut10 (s : List UInt8) : List ByteArray := Lib.splitB ⟨#[10]⟩ 0 (Lib.countB ⟨s.toArray⟩ ⟨#[10]⟩) ⟨s.toArray⟩
theorem idx_none : ∀ (a : List UInt8), (10 : UInt8) ∉ a → Lib.indexByte a 10 = -1
 | [], _ => rfl
 | c :: l, h => by
  have := idx_none l (fun e => h (by simp [e]))
  unfold Lib.indexByte
  rw [this]
  have hc : (c == 10) = false := by simp; intro e; subst e; exact h (by simp)
  first | simp [hc] | (split <;> simp_all)
theorem idx_mid : ∀ (a r : List UInt8), (10 : UInt8) ∉ a → Lib.indexByte (a ++ 10 :: r) 10 = a.length
 | [], r, _ => by simp [Lib.indexByte]
 | c :: l, r, h => by
  have := idx_mid l r (fun e => h (by simp [e]))
  rw [List.cons_append]
  unfold Lib.indexByte
  rw [this]
  have hc : (c == 10) = false := by simp; intro e; subst e; exact h (by simp)
  first | (simp [hc]; omega) | (split <;> simp_all <;> omega)
theorem count_no (a : List UInt8) (h : (10 : UInt8) ∉ a) : a.count 10 = 0 := List.count_eq_zero.2 h
theorem cut_none {a : List UInt8} (h : (10 : UInt8) ∉ a) : cut10 a = [⟨a.toArray⟩] := by
 unfold cut10
 exact Lib.splitB_miss _ _ _ _ (by
  show Lib.index (ByteArray.mk a.toArray).data.toList [10] = -1
  rw [Lib.index_one]
  exact idx_none a h)
theorem cut_cons {a r : List UInt8} (h : (10 : UInt8) ∉ a) : cut10 (a ++ 10 :: r) = ⟨a.toArray⟩ :: cut10 r := by
 have hc : Lib.countB ⟨(a ++ 10 :: r).toArray⟩ ⟨#[10]⟩ = Lib.countB ⟨r.toArray⟩ ⟨#[10]⟩ + 1 := by
  show Lib.count (a ++ 10 :: r) [10] = Lib.count r [10] + 1
  rw [Lib.count_one, Lib.count_one, List.count_append, count_no a h, List.count_cons_self]
  omega
 unfold cut10
 rw [hc, Lib.splitB_hit _ _ _ _ a.length (by
  show Lib.index (a ++ 10 :: r) [10] = _
  rw [Lib.index_one]
  exact idx_mid a r h)]
 congr 1
 ·apply LexW.str_eq
  simp [ByteArray.data_extract]
 ·congr 1
  apply LexW.str_eq
  have hz : (ByteArray.mk (a ++ 10 :: r).toArray).size = a.length + (r.length + 1) := by rw [GtW.str_size]; simp
  have hz2 : (ByteArray.mk #[10]).size = 1 := rfl
  rw [ByteArray.data_extract, hz, hz2]
  simp
  exact List.take_of_length_le (by omega)
theorem cut_pieces : ∀ (ls : List (List UInt8)) (x : List UInt8), (∀ y ∈ ls, (10 : UInt8) ∉ y) → (10 : UInt8) ∉ x → cut10 (textOf ls ++ x) = (ls ++ [x]).map fun p => ⟨p.toArray⟩
 | [], x, _, hx => cut_none hx
 | y :: ls, x, h, hx => by
  rw [textOf_cons, List.append_assoc, List.cons_append, cut_cons (h y (by simp)), cut_pieces ls x (fun z hz => h z (by simp [hz])) hx]
  rfl
theorem cut_all (s : List UInt8) : cut10 s = (linesOf s ++ [lastP s]).map fun p => ⟨p.toArray⟩ := by
 have h := pieces_back s
 have hall : ∀ y ∈ linesOf s, (10 : UInt8) ∉ y := fun y hy => pieces_no s y ((List.dropLast_sublist _).subset hy)
 have hl : (10 : UInt8) ∉ lastP s := pieces_no s _ (List.getLast_mem _)
 rw [← cut_pieces (linesOf s) (lastP s) hall hl, h]
theorem cut_len (s : List UInt8) : Lib.countB ⟨s.toArray⟩ ⟨#[10]⟩ = (linesOf s).length := by
 have h1 := Lib.splitB_all ⟨#[10]⟩ (by decide) 0 (Lib.countB ⟨s.toArray⟩ ⟨#[10]⟩) ⟨s.toArray⟩ rfl
 have h2 := congrArg List.length (cut_all s)
 unfold cut10 at h2
 rw [h1] at h2
 simp at h2
 exact h2
end Go.Proofs.YtnmmhcchpcbeeaaGreatDoor.Gt
namespace Go.Proofs.YtnmmhcchpcbeeaaGreatDoor.GtW
open Go Go.RowKit Go.Proofs.YtnmmhcchpcbeeaaGreatDoor.Mem Go.Proofs.YtnmmhcchpcbeeaaGreatDoor.Gt
theorem split_any (s : List UInt8) (hs : s.length ≤ 1000000) (w : World) (hG : Glob w) :
  Calls Tryz.prog 22 #[.string ⟨s.toArray⟩, .string ⟨#[10]⟩] w fun e w' => e = .returned (.slice (some ⟨w.heap.size, 0, none⟩) ((linesOf s).length + 1) ((linesOf s).length + 1)) ∧ w' = w.alloc (.cells ((linesOf s ++ [lastP s]).map strV).toArray 9) := by
 obtain ⟨m, hm⟩ := hG.max
 refine (Tryz.strings_Split ⟨s.toArray⟩ ⟨#[10]⟩ m w (by rw [str_size]; omega) hm (by decide)).mono ?_
 rintro e w' ⟨rfl, rfl⟩
 have h := cut_all s
 unfold cut10 at h
 rw [h, cut_len]
 refine ⟨rfl, ?_⟩
 rw [List.map_map]
 rfl
end Go.Proofs.YtnmmhcchpcbeeaaGreatDoor.GtW

namespace Go.Proofs.YtnmmhcchpcbeeaaGreatDoor.GtW
open Go Go.RowKit Go.Proofs.YtnmmhcchpcbeeaaGreatDoor.Mem Go.Proofs.YtnmmhcchpcbeeaaGreatDoor.Gt Go.Proofs.YtnmmhcchpcbeeaaGreatDoor.Ge
attribute [local go_sem ↓] Go.wp_at_zero Go.wp_at_succ

set_option maxRecDepth 100000 in
set_option maxHeartbeats 1000000 in
theorem kind1_any (x : List UInt8) (n d dc : Nat) (A : Option Addr) (w : World) (hc : w.cell? ⟨dc, 0, none⟩ = some (.slice A n d)) :
  Calls Tryz.prog 25 #[.string ⟨x.toArray⟩, .pointer (some ⟨dc, 0, none⟩)] w fun e w' => e = .returned (.bool (Gt.kindOk n x)) ∧ Below w.heap.size w w' := by
 have q0 : decide ((ByteArray.mk x.toArray).toList = [69, 79, 70]) = decide (x = kEof) := by rw [Go.ByteArray.toList_eq]; rfl
 have q1 : decide ((ByteArray.mk x.toArray).toList = [76, 73, 78, 69]) = decide (x = kLine) := by rw [Go.ByteArray.toList_eq]; rfl
 have q2 : decide ((ByteArray.mk x.toArray).toList = [65, 82, 67]) = decide (x = kArc) := by rw [Go.ByteArray.toList_eq]; rfl
 have q3 : decide ((ByteArray.mk x.toArray).toList = [80, 79, 76, 89]) = decide (x = kPoly) := by rw [Go.ByteArray.toList_eq]; rfl
 unfold Gt.kindOk
 generalize decide (x = kEof) = r0 at *
 generalize decide (x = kLine) = r1 at *
 generalize decide (x = kArc) = r2 at *
 generalize decide (x = kPoly) = r3 at *
 generalize (ByteArray.mk x.toArray) = XB at *
 by_cases hn : n < 200
 ·have hd : decide (n < 200) = true := decide_eq_true hn
  have hd2 : decide ((n : Int) < 200) = true := decide_eq_true (by omega)
  rw [hd]
  cases r0 <;> cases r1 <;> cases r2 <;> cases r3 <;>
   (simp only [decide_eq_true_eq, decide_eq_false_iff_not] at q0 q1 q2 q3; (first | replace q0 := eq_true q0 | replace q0 := eq_false q0); (first | replace q1 := eq_true q1 | replace q1 := eq_false q1); (first | replace q2 := eq_true q2 | replace q2 := eq_false q2); (first | replace q3 := eq_true q3 | replace q3 := eq_false q3); go_enter Tryz.func25, Tryz.ntmps25; go_wp2; go_ret; refine ⟨?_, Below.refl _ _⟩; first | rfl | simp [q0, q1, q2, q3])
 ·have hd : decide (n < 200) = false := decide_eq_false hn
  have hd2 : decide ((n : Int) < 200) = false := decide_eq_false (by omega)
  rw [hd]
  cases r0 <;> cases r1 <;> cases r2 <;> cases r3 <;>
   (simp only [decide_eq_true_eq, decide_eq_false_iff_not] at q0 q1 q2 q3; (first | replace q0 := eq_true q0 | replace q0 := eq_false q0); (first | replace q1 := eq_true q1 | replace q1 := eq_false q1); (first | replace q2 := eq_true q2 | replace q2 := eq_false q2); (first | replace q3 := eq_true q3 | replace q3 := eq_false q3); go_enter Tryz.func25, Tryz.ntmps25; go_wp2; go_ret; refine ⟨?_, Below.refl _ _⟩; first | rfl | simp [q0])
end Go.Proofs.YtnmmhcchpcbeeaaGreatDoor.GtW
