/- Walk: the program's Parse. Conditions: none. -/
import Derived.Test.YteldekkodhfkkaaGreatDoorPqW5
import Derived.Deep.LoopGhost
namespace Go.Proofs.YteldekkodhfkkaaGreatDoor.PqW
open Go Go.RowKit Go.Proofs.YteldekkodhfkkaaGreatDoor.Mem
open Go.Proofs.YteldekkodhfkkaaGreatDoor.LexW (tokCells toksCells tokens_any TokensPost)
open Go.Proofs.YteldekkodhfkkaaGreatDoor.OdW (itCells it_len)

theorem lexF_len : ∀ (f : Nat) (l : List UInt8) (p : Nat), (Lex.lexF f l p).toks.length ≤ f
  | 0, _, _ => by simp [Lex.lexF]
  | _ + 1, [], _ => by simp [Lex.lexF]
  | f + 1, c :: r, p => by
    simp only [Lex.lexF]
    split
    · exact Nat.le_succ_of_le (lexF_len f _ _)
    · split
      · exact Nat.le_succ_of_le (lexF_len f _ _)
      · split
        · unfold Lex.LR.cons
          split
          · have := lexF_len f ((c :: r).drop (Lex.tokL (c :: r)).len) (p + (Lex.tokL (c :: r)).len)
            simpa using this
          · simp
        · simp
theorem tokens_len (l : List UInt8) : (Lex.tokens l).toks.length ≤ 20000 := by
  unfold Lex.tokens
  split
  · simp
  · have := lexF_len l.length l 0
    unfold Lex.lex
    omega
/-- How many rounds may still come. -/
def mu (n : Nat) (s : Pq.St) : Nat := n - s.i + (if s.e = 0 then 1 else 0)
theorem groups_go {b : Bool} {ts : List Lex.Tok} {f : Nat} {r : Pq.St × List Od.It} (h : r.1.e = 0 ∧ r.1.i < ts.length) : Pq.groups b ts (f + 1) r = Pq.groups b ts f (Pq.group b ts r) := by
  conv => lhs; unfold Pq.groups
  rw [if_pos h]
theorem groups_end {b : Bool} {ts : List Lex.Tok} {f : Nat} {r : Pq.St × List Od.It} (h : ¬ (r.1.e = 0 ∧ r.1.i < ts.length)) : Pq.groups b ts (f + 1) r = r := by
  conv => lhs; unfold Pq.groups
  rw [if_neg h]
theorem items_go {b : Bool} {ts : List Lex.Tok} {o : List UInt8} {f : Nat} {st : Pq.St} {acc : List Od.It} (h : Pq.next ts Pq.tPart st = true) : Pq.items b ts o (f + 1) (st, acc) = Pq.items b ts o f ((Pq.item b ts o ⟨st.i + 1, st.e⟩).2, acc ++ [(Pq.item b ts o ⟨st.i + 1, st.e⟩).1]) := by
  conv => lhs; unfold Pq.items
  rw [if_pos h]
theorem items_end {b : Bool} {ts : List Lex.Tok} {o : List UInt8} {f : Nat} {st : Pq.St} {acc : List Od.It} (h : Pq.next ts Pq.tPart st = false) : Pq.items b ts o (f + 1) (st, acc) = (st, acc) := by
  conv => lhs; unfold Pq.items
  rw [if_neg (by simp [h])]
theorem mu_less {b : Bool} {ts : List Lex.Tok} {r : Pq.St × List Od.It} (h0 : r.1.e = 0) (hi : r.1.i < ts.length) : mu ts.length (Pq.group b ts r).1 < mu ts.length r.1 := by
  have h1 := Pq.group_more b ts r h0
  have h2 := (Pq.fwd_group b ts r).up
  unfold mu
  rw [if_pos h0]
  rcases h1 with h | h
  · rw [if_neg h]; omega
  · split <;> omega
theorem fwd_in {n : Nat} {a b : Pq.St} (h : Pq.Fwd n a b) (ha : a.i ≤ n) : b.i ≤ n := h.in_ ha
def ParsePost (w : World) (P : List Od.It × Nat × Int) (e : Ending) (w' : World) : Prop :=
  ∃ (B : Option Addr) (d : Nat), e = .returned (.tuple #[.slice B P.1.length d, .int .i64 (P.2.1 : Int), .int .i64 P.2.2]) ∧ Row w' B (P.1.flatMap itCells) ∧ Below w.heap.size w w'

set_option maxRecDepth 100000 in
set_option maxHeartbeats 4000000 in
theorem parse_any (s : ByteArray) (w : World) : Calls Tryz.prog 6 #[.string s] w (ParsePost w (Pq.parse true s.data.toList)) := by
  have HT := Lib.hid (tokens_any s w)
  have hn0 := tokens_len s.data.toList
  have hsl : s.data.toList.length = s.size := Array.length_toList
  unfold Pq.parse
  generalize (Lex.tokens s.data.toList) = R at *
  obtain ⟨ts, pos, er⟩ := R
  unfold TokensPost at HT
  simp only at HT hn0 ⊢
  rw [hsl]
  clear hsl
  obtain ⟨i0, ia, ib, ic, id⟩ := info_parts OdW.info_item
  by_cases he : er = 0
  · subst he
    rw [if_neg (by simp)]
    have hn : ts.length ≤ 1000000 := by omega
    go_enter Tryz.func6, Tryz.ntmps6
    go_wp2_with fail
    refine HT.out.mono ?_
    rintro e w1 ⟨v, rfl, hown, hbel⟩
    obtain ⟨A, c, rfl, hnc⟩ := own_shape hown
    have hAb : ∀ g off, A = some ⟨g, off, none⟩ → g < w1.heap.size := fun g off e => by
      rcases hown.2 with ⟨h0, _⟩ | ⟨g', cap, cur, hv, _, hh, _⟩
      · simp only [Value.slice.injEq] at h0
        rw [e] at h0
        simp at h0
      · simp only [Value.slice.injEq] at hv
        rw [e] at hv
        simp only [Option.some.injEq, Addr.mk.injEq] at hv
        rw [hv.1.1]
        exact heap_lt hh
    have HS0 := Lib.hid (PS.start (A := A) (c := c) rfl (Row.of_own hown))
    have HB1 := Lib.hid (hbel.alloc hbel.size (pobj A ts.length c ⟨0, 0⟩))
    have HZ := hbel.size
    clear hown hbel
    have hA0 : Apart A w1.heap.size := fun g off e => by have := hAb g off e; omega
    have hA := Lib.hid hA0
    have HAB := Lib.hid hAb
    clear hA0 hAb HT
    have hXS : (w1.alloc (pobj A ts.length c ⟨0, 0⟩)).heap.size = w1.heap.size + 1 := by simp
    go_wp2_with fail
    change Code.wp _ _ _ _ (w1.alloc (pobj A ts.length c ⟨0, 0⟩))
    have HXS := Lib.hid hXS
    generalize (w1.alloc (pobj A ts.length c ⟨0, 0⟩)) = wX at *
    generalize w1.heap.size = b at *
    have hR : Hid (Pq.result true ts s.size = if (Pq.fin true ts).1.e ≠ 0 then ([], Pq.off ts s.size (Pq.fin true ts).1.i, (Pq.fin true ts).1.e) else if 100 < (Pq.fin true ts).2.length then ([], 0, 9) else ((Pq.fin true ts).2, 0, 0)) := Lib.hid rfl
    have hF : Hid (Pq.groups true ts (ts.length + 2) (⟨0, 0⟩, []) = Pq.fin true ts) := Lib.hid rfl
    generalize (Pq.fin true ts) = FIN at *
    generalize (Pq.result true ts s.size) = RES at *
    go_loopg [2] (ts.length + 2) (fun f v wr => ∃ (st : Pq.St) (acc : List Od.It), Hid (Pq.groups true ts f (st, acc) = FIN) ∧ Hid (mu ts.length st < f) ∧ Hid (PS wX b A c ts st v acc wr) ∧ st.i ≤ ts.length ∧ acc.length ≤ st.i)
    case atStart => exact ⟨⟨0, 0⟩, [], hF, Lib.hid (by unfold mu; simp), HS0, Nat.zero_le _, Nat.le_refl _⟩
    case round =>
      obtain ⟨st, acc, HFF, HMU, HS, hi, hac⟩ := hrel
      rcases gk with _ | f
      · exact absurd HMU.out (by omega)
      obtain ⟨q0, q1, q2, qf⟩ := pcell HS.out.blk
      have hzb := HS.out.size
      obtain ⟨i, er⟩ := st
      simp only at hi hac q1 q2
      by_cases hc : er = 0 ∧ i < ts.length
      · obtain ⟨he, hlt⟩ := hc
        subst he
        have HFG := Lib.hid ((groups_go (b := true) (f := f) (r := (⟨i, 0⟩, acc)) ⟨rfl, hlt⟩).symm.trans HFF.out)
        have HMG : Hid (mu ts.length (Pq.group true ts (⟨i, 0⟩, acc)).1 < f) := Lib.hid (Nat.lt_of_lt_of_le (mu_less (b := true) (ts := ts) (r := (⟨i, 0⟩, acc)) rfl hlt) (Nat.lt_succ_iff.1 HMU.out))
        have hup := (Pq.fwd_head ts ⟨i, 0⟩).up
        have hin := (Pq.fwd_head ts ⟨i, 0⟩).in_ hi
        have HUP9 := Lib.hid (Pq.fwd_expect ts Pq.tClose)
        have hg9 := Pq.fwd_group true ts (⟨i, 0⟩, acc)
        have HGI : Hid ((Pq.group true ts (⟨i, 0⟩, acc)).1.i ≤ ts.length) := Lib.hid (hg9.in_ hi)
        clear HFF HMU hg9
        unfold Pq.group Pq.head at HFG HMG HGI
        unfold Pq.head at hup hin
        simp only at HFG HMG HGI hup hin
        have HC1 := Lib.hid (fun W hb hr => expect_any Pq.tOrder ts A c b ⟨i, 0⟩ W hb hr hA.out hn)
        have HC2 := Lib.hid (fun W hb hr => name_any ts A c b (Pq.expect ts Pq.tOrder ⟨i, 0⟩) W hb hr hA.out hn)
        have HC3 := Lib.hid (fun W hb hr => expect_any Pq.tOpen ts A c b (Pq.name ts (Pq.expect ts Pq.tOrder ⟨i, 0⟩)).2 W hb hr hA.out hn)
        have HSA := Lib.hid (fun nq => HS.out.drewN nq)
        generalize (Pq.expect ts Pq.tOpen (Pq.name ts (Pq.expect ts Pq.tOrder ⟨i, 0⟩)).2) = st0 at *
        generalize (Pq.name ts (Pq.expect ts Pq.tOrder ⟨i, 0⟩)) = N at *
        generalize (Pq.expect ts Pq.tOrder ⟨i, 0⟩) = stO at *
        have HIN : Hid (Pq.items true ts N.1 (ts.length + 1) (st0, acc) = Pq.items true ts N.1 (ts.length + 1) (st0, acc)) := Lib.hid rfl
        have HIF := Lib.hid (show acc.length ≤ st0.i by omega)
        have HIG := Lib.hid hin
        generalize hINV : (Pq.items true ts N.1 (ts.length + 1) (st0, acc)) = IN at HFG HMG HGI
        have HII0 := Lib.hid hINV
        clear hINV HIN hup hin
        have d1 : decide ((i : Int) < (ts.length : Int)) = true := by simp; omega
        have d2 : decide (i < ts.length) = true := by simp; omega
        go_wp2_with fail
        go_quiet (fail)
        have HS1 := Lib.hid (HSA.out nq)
        clear HSA q0 q1 q2 qf HS
        go_wp2_with fail
        refine (HC1.out _ HS1.out.blk HS1.out.row).mono ?_
        rintro e w2 ⟨rfl, h1, h2⟩
        have HS2 := Lib.hid (HS1.out.step hA.out h1 h2)
        clear h1 h2 HS1 HC1
        go_wp2_with fail
        refine (HC2.out _ HS2.out.blk HS2.out.row).mono ?_
        rintro e w3 ⟨rfl, h1, h2⟩
        have HS3 := Lib.hid (HS2.out.step hA.out h1 h2)
        clear h1 h2 HS2 HC2
        obtain ⟨NO, stN⟩ := N
        simp only at *
        generalize hNB : (ByteArray.mk NO.toArray) = NB at *
        have HNB := Lib.hid hNB
        clear hNB
        go_wp2_with fail
        refine (HC3.out _ HS3.out.blk HS3.out.row).mono ?_
        rintro e w4 ⟨rfl, h1, h2⟩
        have HS4 := Lib.hid (HS3.out.step hA.out h1 h2)
        clear h1 h2 HS3 HC3 hi hac hlt d1 d2 hzb
        go_wp2_with fail
        go_loopg [2] (ts.length + 1) (fun j v wq => ∃ (st : Pq.St) (acc : List Od.It), Hid (Pq.items true ts NO j (st, acc) = IN) ∧ Hid (ts.length - st.i < j) ∧ Hid (PS wX b A c ts st v acc wq) ∧ st.i ≤ ts.length ∧ acc.length ≤ st.i)
        case atStart => exact ⟨st0, acc, HII0, Lib.hid (by have := HIG.out; omega), HS4, HIG.out, HIF.out⟩
        case round =>
          obtain ⟨st, acc2, HII, HJ, HS, hi, hac⟩ := hrel
          rcases gk with _ | j
          · exact absurd HJ.out (by omega)
          have HAC := Lib.hid (accept_any Pq.tPart ts A c b st _ HS.out.blk HS.out.row hn)
          cases hnx : Pq.next ts Pq.tPart st
          · rw [show Pq.accept ts Pq.tPart st = st by unfold Pq.accept; rw [hnx]; rfl, hnx] at HAC
            have hII := HII.out
            rw [items_end hnx] at hII
            subst hII
            simp only at HFG HMG HGI
            have HC4 := Lib.hid (fun W hb hr => expect_any Pq.tClose ts A c b st W hb hr hA.out hn)
            have HU := Lib.hid (HUP9.out st).up
            clear HII HJ hnx
            generalize (Pq.expect ts Pq.tClose st) = stF at *
            go_wp2_with fail
            refine HAC.out.mono ?_
            rintro e w5 ⟨rfl, h1, h2⟩
            have HS5 := Lib.hid (HS.out.step hA.out h1 h2)
            clear h1 h2 HAC
            go_wp2_with fail
            refine (HC4.out _ HS5.out.blk HS5.out.row).mono ?_
            rintro e w6 ⟨rfl, h1, h2⟩
            have HS6 := Lib.hid (HS5.out.step hA.out h1 h2)
            clear h1 h2 HS5 HC4
            go_wp2
            go_roundg f
            case measure => omega
            case rel => exact ⟨stF, acc2, HFG, HMG, HS6, HGI.out, by have := HU.out; omega⟩
          · obtain ⟨hse, hsi⟩ := Pq.next_lt hnx
            rw [show Pq.accept ts Pq.tPart st = ⟨st.i + 1, st.e⟩ by unfold Pq.accept; rw [hnx]; rfl, hnx] at HAC
            have hII := Lib.hid ((items_go hnx).symm.trans HII.out)
            have hup := Pq.item_more true ts NO st
            have hin := (Pq.fwd_item true ts NO ⟨st.i + 1, st.e⟩).in_ hsi
            clear HII hnx
            unfold Pq.item Pq.itemD Pq.itemQ Pq.itemP at hII hup hin
            simp only at hII hup hin
            have HC5 := Lib.hid (fun W hb hr => name_any ts A c b ⟨st.i + 1, st.e⟩ W hb hr hA.out hn)
            have HC6 := Lib.hid (fun W hb hr => expect_any Pq.tQuantity ts A c b (Pq.name ts ⟨st.i + 1, st.e⟩).2 W hb hr hA.out hn)
            have HC7 := Lib.hid (fun W hb hr => number_any 1 1000 ts A c b (Pq.expect ts Pq.tQuantity (Pq.name ts ⟨st.i + 1, st.e⟩).2) W hb hr hA.out hn)
            have HC8 := Lib.hid (fun W hb hr => expect_any Pq.tDue ts A c b (Pq.num true ts 1 1000 (Pq.expect ts Pq.tQuantity (Pq.name ts ⟨st.i + 1, st.e⟩).2)).2 W hb hr hA.out hn)
            have HC9 := Lib.hid (fun W hb hr => number_any 0 1000000 ts A c b (Pq.expect ts Pq.tDue (Pq.num true ts 1 1000 (Pq.expect ts Pq.tQuantity (Pq.name ts ⟨st.i + 1, st.e⟩).2)).2) W hb hr hA.out hn)
            have HC10 := Lib.hid (fun W hb hr => expect_any Pq.tSemi ts A c b (Pq.num true ts 0 1000000 (Pq.expect ts Pq.tDue (Pq.num true ts 1 1000 (Pq.expect ts Pq.tQuantity (Pq.name ts ⟨st.i + 1, st.e⟩).2)).2)).2 W hb hr hA.out hn)
            generalize (Pq.name ts ⟨st.i + 1, st.e⟩) = P at *
            generalize (Pq.expect ts Pq.tQuantity P.2) = sQ at *
            generalize (Pq.num true ts 1 1000 sQ) = Q at *
            generalize (Pq.expect ts Pq.tDue Q.2) = sD at *
            generalize (Pq.num true ts 0 1000000 sD) = D at *
            generalize (Pq.expect ts Pq.tSemi D.2) = sS at *
            obtain ⟨PT, sP⟩ := P
            obtain ⟨QN, sQ2⟩ := Q
            obtain ⟨DN, sD2⟩ := D
            simp only at *
            generalize hPB : (ByteArray.mk PT.toArray) = PB at *
            have HCELL : Hid (itCells ⟨NO, PT, QN, DN⟩ = [.string NB, .string PB, .int .i64 QN, .int .i64 DN]) := Lib.hid (by unfold itCells; rw [HNB.out, hPB])
            have HB9 := Lib.hid (And.intro hup (And.intro hin (And.intro hsi hac)))
            clear hPB hup hin hse hsi hi hac
            go_wp2_with fail
            refine HAC.out.mono ?_
            rintro e w5 ⟨rfl, h1, h2⟩
            have HS5 := Lib.hid (HS.out.step hA.out h1 h2)
            clear h1 h2 HAC HS
            go_wp2_with fail
            refine (HC5.out _ HS5.out.blk HS5.out.row).mono ?_
            rintro e w6 ⟨rfl, h1, h2⟩
            have HS6 := Lib.hid (HS5.out.step hA.out h1 h2)
            clear h1 h2 HS5 HC5
            have HX7 := Lib.hid (heap_alloc_new w6 (.cells #[.string NB, .string PB, .int .i64 0, .int .i64 0] 33))
            have HS7 := Lib.hid (HS6.out.alloc (.cells #[.string NB, .string PB, .int .i64 0, .int .i64 0] 33))
            have hxb : b < w6.heap.size := HS6.out.size
            have hxv := HS6.out.newer
            have hxX : wX.heap.size ≤ w6.heap.size := HS6.out.gr.size
            have HXA : Hid (Apart A w6.heap.size) := Lib.hid (fun g off e => by have := HAB.out g off e; omega)
            clear HS6
            go_wp2_with fail
            refine (HC6.out _ HS7.out.blk HS7.out.row).mono ?_
            rintro e w8 ⟨rfl, h1, h2⟩
            have HS8 := Lib.hid (HS7.out.step hA.out h1 h2)
            have HX8 := Lib.hid ((h2.block w6.heap.size (heap_lt HX7.out) (fun e => by injection e; omega)).trans HX7.out)
            have hxs := heap_lt HX8.out
            clear h1 h2 HS7 HX7 HC6
            generalize w6.heap.size = xb at *
            go_wp2_with fail
            refine (HC7.out _ HS8.out.blk HS8.out.row).mono ?_
            rintro e w9 ⟨rfl, h1, h2⟩
            have HS9 := Lib.hid (HS8.out.step hA.out h1 h2)
            have HX9 := Lib.hid ((h2.block xb hxs (fun e => by injection e; omega)).trans HX8.out)
            clear h1 h2 HS8 HX8 HC7 hxs
            have m2 := free_of HX9.out 2
            have n2 := cell_of HX9.out 2 _ rfl
            have HS10 := Lib.hid (HS9.out.store hxX hxb hxv HXA.out 2 (.int .i64 QN))
            have HX10 : Hid ((w9.setCell ⟨xb, 2, none⟩ (.int .i64 QN)).heap[xb]? = some (.cells #[.string NB, .string PB, .int .i64 QN, .int .i64 0] 33)) := Lib.hid (block_set HX9.out 2 _)
            go_wp2_with fail
            refine (HC8.out _ HS10.out.blk HS10.out.row).mono ?_
            rintro e w11 ⟨rfl, h1, h2⟩
            have HS11 := Lib.hid (HS10.out.step hA.out h1 h2)
            have HX11 := Lib.hid ((h2.block xb (heap_lt HX10.out) (fun e => by injection e; omega)).trans HX10.out)
            clear h1 h2 HS10 HX10 HC8 HS9 HX9 m2 n2
            go_wp2_with fail
            refine (HC9.out _ HS11.out.blk HS11.out.row).mono ?_
            rintro e w12 ⟨rfl, h1, h2⟩
            have HS12 := Lib.hid (HS11.out.step hA.out h1 h2)
            have HX12 := Lib.hid ((h2.block xb (heap_lt HX11.out) (fun e => by injection e; omega)).trans HX11.out)
            clear h1 h2 HS11 HX11 HC9
            have m3 := free_of HX12.out 3
            have n3 := cell_of HX12.out 3 _ rfl
            have HS13 := Lib.hid (HS12.out.store hxX hxb hxv HXA.out 3 (.int .i64 DN))
            have HX13 : Hid ((w12.setCell ⟨xb, 3, none⟩ (.int .i64 DN)).heap[xb]? = some (.cells #[.string NB, .string PB, .int .i64 QN, .int .i64 DN] 33)) := Lib.hid (block_set HX12.out 3 _)
            go_wp2_with fail
            refine (HC10.out _ HS13.out.blk HS13.out.row).mono ?_
            rintro e w14 ⟨rfl, h1, h2⟩
            have HS14 := Lib.hid (HS13.out.step hA.out h1 h2)
            have HX14 := Lib.hid ((h2.block xb (heap_lt HX13.out) (fun e => by injection e; omega)).trans HX13.out)
            clear h1 h2 HS13 HX13 HC10 HS12 HX12 m3 n3
            have x0 := cell_of HX14.out 0 _ rfl
            have x1 := cell_of HX14.out 1 _ rfl
            have x2 := cell_of HX14.out 2 _ rfl
            have x3 := cell_of HX14.out 3 _ rfl
            have C1 := Lib.hid (cells_new4 w14 (.string NB) (.string PB) (.int .i64 QN) (.int .i64 DN) 33)
            have C2 : Hid (∀ u ∈ [Value.string NB, .string PB, .int .i64 QN, .int .i64 DN], u.oneCell' = true) := Lib.hid (by intro u hu; simp at hu; rcases hu with rfl | rfl | rfl | rfl <;> rfl)
            have C3 : Hid (acc2.length + 1 ≤ maxLen ∧ (acc2.length + 1) * 48 ≤ 140737488355328) := Lib.hid (by have := HB9.out.2.2; unfold maxLen; omega)
            have C5 : Hid (b + 1 ≤ (w14.alloc (.cells #[.string NB, .string PB, .int .i64 QN, .int .i64 DN] 33)).heap.size) := Lib.hid (by have := HS14.out.size; simp; omega)
            have HS15 := Lib.hid (HS14.out.alloc (.cells #[.string NB, .string PB, .int .i64 QN, .int .i64 DN] 33))
            go_wp2_with (at_builtin; refine wpList_append_own _ rfl _ _ 22 rfl (b + 1) 33 i0 _ 4 48 Tryz.underlying22 ia ib ic id rfl (by omega) _ _ _ rfl HS15.out.own ⟨w14.heap.size, 0, none⟩ 1 1 [.string NB, .string PB, .int .i64 QN, .int .i64 DN] rfl rfl C1.out C2.out C3.out.1 C3.out.2 C5.out ?_)
            intro v' w16 hown hg _
            have HS16 := Lib.hid (HS15.out.put (x := ⟨NO, PT, QN, DN⟩) (Nat.le_of_eq HXS.out) HAB.out hg (by rw [HCELL.out]; exact hown))
            clear hown hg x0 x1 x2 x3
            go_wp2
            go_roundg j
            case measure => omega
            case rel => exact ⟨sS, acc2 ++ [⟨NO, PT, QN, DN⟩], hII, Lib.hid (by have := HB9.out; have := HJ.out; omega), HS16, HB9.out.2.1, by have := HB9.out; rw [List.length_append, List.length_singleton]; omega⟩
      · have hFI : (⟨i, er⟩, acc) = FIN := (groups_end (b := true) (f := f) hc).symm.trans HFF.out
        subst hFI
        simp only at hR
        clear HFF HMU hF
        obtain ⟨B, d, rfl, hnd⟩ := own_shape HS.out.own
        have HRO := Lib.hid (fun W (h : PS wX b A c ts ⟨i, er⟩ (.slice B acc.length d) acc W) => Row.of_own h.own)
        have HFB := Lib.hid (fun W (h : PS wX b A c ts ⟨i, er⟩ (.slice B acc.length d) acc W) => HB1.out.grown h.gr (by have := HXS.out; omega) (fun k hk => by cases hk; exact HZ))
        by_cases he : er = 0
        · subst he
          have hlt : ¬ i < ts.length := fun h => hc ⟨rfl, h⟩
          have d1 : decide ((i : Int) < (ts.length : Int)) = false := by simp; omega
          have d2 : decide (i < ts.length) = false := by simp; omega
          rw [if_neg (by simp)] at hR
          clear hc
          by_cases hl : 100 < acc.length
          · rw [if_pos hl] at hR
            have d3 : decide ((100 : Int) < (acc.length : Int)) = true := by simp; omega
            go_wp2_with fail
            go_quiet (fail)
            obtain ⟨na, rfl⟩ : ∃ na : Nat, na = nq := ⟨_, rfl⟩
            go_wp2_with fail
            go_quiet (fail)
            have HE := Lib.hid (HFB.out _ (HS.out.drewN (na + nq)))
            go_wp2_with fail
            go_ret3
            rw [hR.out]
            exact ⟨none, 0, rfl, Row.nil _ _, HE.out⟩
          · rw [if_neg hl] at hR
            have d3 : decide ((100 : Int) < (acc.length : Int)) = false := by simp; omega
            go_wp2_with fail
            go_quiet (fail)
            obtain ⟨na, rfl⟩ : ∃ na : Nat, na = nq := ⟨_, rfl⟩
            go_wp2_with fail
            go_quiet (fail)
            have HE := Lib.hid (HFB.out _ (HS.out.drewN (na + nq)))
            have HE2 := Lib.hid (HRO.out _ (HS.out.drewN (na + nq)))
            go_wp2_with fail
            go_ret3
            rw [hR.out]
            exact ⟨B, d, rfl, HE2.out, HE.out⟩
        · have e1 : (er == 0) = false := by simpa using he
          have e2 : (er != 0) = true := by simpa using he
          rw [if_pos he] at hR
          clear hc
          by_cases hlt : i < ts.length
          · have d1 : decide ((i : Int) < (ts.length : Int)) = true := by simp; omega
            have d2 : decide (i < ts.length) = true := by simp; omega
            have hi0 : (0 : Int) ≤ (i : Int) := by omega
            have hi1 : (i : Int) < (ts.length : Int) := by omega
            obtain ⟨g2, off, hAe, hg2, ca⟩ := row_get tok_len (by decide) HS.out.row (by omega)
            subst hAe
            have t3 := ca i hlt 3 (by decide)
            have hof : Pq.off ts s.size i = ts[i].pos := by unfold Pq.off; rw [List.getElem?_eq_getElem hlt]
            rw [hof] at hR
            simp only [tokCells, List.getElem?_cons_zero, List.getElem?_cons_succ] at t3
            clear ca hof he
            generalize ts[i].pos = ps at *
            go_wp2_with fail
            go_quiet (fail)
            obtain ⟨na, rfl⟩ : ∃ na : Nat, na = nq := ⟨_, rfl⟩
            go_wp2_with fail
            go_quiet (fail)
            obtain ⟨nb, rfl⟩ : ∃ nb : Nat, nb = nq := ⟨_, rfl⟩
            go_wp2_with fail
            go_quiet (fail)
            have HE := Lib.hid (HFB.out _ (((HS.out.drewN na).drewN nb).drewN nq))
            go_wp2_with fail
            go_ret3
            rw [hR.out]
            exact ⟨none, 0, rfl, Row.nil _ _, HE.out⟩
          · have d1 : decide ((i : Int) < (ts.length : Int)) = false := by simp; omega
            have d2 : decide (i < ts.length) = false := by simp; omega
            have hof : Pq.off ts s.size i = s.size := by unfold Pq.off; rw [List.getElem?_eq_none (by omega)]
            rw [hof] at hR
            clear hof he
            go_wp2_with fail
            go_quiet (fail)
            obtain ⟨na, rfl⟩ : ∃ na : Nat, na = nq := ⟨_, rfl⟩
            go_wp2_with fail
            go_quiet (fail)
            obtain ⟨nb, rfl⟩ : ∃ nb : Nat, nb = nq := ⟨_, rfl⟩
            go_wp2_with fail
            go_quiet (fail)
            have HE := Lib.hid (HFB.out _ ((HS.out.drewN (na + nb)).drewN nq))
            go_wp2_with fail
            go_ret3
            rw [hR.out]
            exact ⟨none, 0, rfl, Row.nil _ _, HE.out⟩
  · rw [if_pos he]
    have HE := Lib.hid he
    have e1 : (er != 0) = true := by simpa using he
    clear he
    go_enter Tryz.func6, Tryz.ntmps6
    go_wp2_with fail
    refine HT.out.mono ?_
    rintro e w1 ⟨v, rfl, hown, hbel⟩
    have HB := Lib.hid hbel
    clear hown hbel
    go_wp2
    go_ret3
    exact ⟨none, 0, rfl, Row.nil _ _, HB.out⟩
end Go.Proofs.YteldekkodhfkkaaGreatDoor.PqW
