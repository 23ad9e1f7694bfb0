/- The plain law of the text of orders, part 2: what is printed is parsed to the same items. No program is in sight. Conditions: none. -/
import Derived.Test.YteldekkodhfkkaaGreatDoorPqP1
import Derived.Test.YteldekkodhfkkaaGreatDoorLexLaws

namespace Go.Proofs.YteldekkodhfkkaaGreatDoor.Pq
open Go.Proofs.YteldekkodhfkkaaGreatDoor.Od (It)
open Go.Proofs.YteldekkodhfkkaaGreatDoor.Lex (Tok LR key Word stop)

/-! ### Numerals -/
theorem dec_digits : ∀ (n v : Nat), v ≤ n → (Lib.decDigits v).all Lex.digit = true
  | 0, v, h => by
    obtain rfl : v = 0 := by omega
    rw [Lib.decDigits, dif_pos (by decide)]
    decide
  | n + 1, v, h => by
    have hd : ∀ d : Nat, d < 10 → Lex.digit (UInt8.ofNat (48 + d)) = true := by
      intro d hd
      have : ∀ d : Fin 10, Lex.digit (UInt8.ofNat (48 + d.val)) = true := by decide
      exact this ⟨d, hd⟩
    by_cases h1 : v < 10
    · rw [Lib.decDigits, dif_pos h1]
      simp only [List.all_cons, List.all_nil, Bool.and_true]
      exact hd v h1
    · rw [Lib.decDigits, dif_neg h1, List.all_append, dec_digits n (v / 10) (by omega)]
      simp only [List.all_cons, List.all_nil, Bool.and_true, Bool.true_and]
      exact hd (v % 10) (by omega)
theorem dec_head : ∀ (n v : Nat), v ≤ n → 1 ≤ v → ∃ c r, Lib.decDigits v = c :: r ∧ c ≠ 48 ∧ Lex.digit c = true
  | 0, v, h, h1 => by omega
  | n + 1, v, h, h1 => by
    have hd : ∀ d : Nat, d < 10 → 1 ≤ d → UInt8.ofNat (48 + d) ≠ 48 ∧ Lex.digit (UInt8.ofNat (48 + d)) = true := by
      intro d hd h1
      have : ∀ d : Fin 10, 1 ≤ d.val → UInt8.ofNat (48 + d.val) ≠ 48 ∧ Lex.digit (UInt8.ofNat (48 + d.val)) = true := by decide
      exact this ⟨d, hd⟩ h1
    by_cases h2 : v < 10
    · rw [Lib.decDigits, dif_pos h2]
      exact ⟨_, _, rfl, (hd v h2 h1).1, (hd v h2 h1).2⟩
    · obtain ⟨c, r, e, h3⟩ := dec_head n (v / 10) (by omega) (by omega)
      rw [Lib.decDigits, dif_neg h2, e]
      exact ⟨c, r ++ [UInt8.ofNat (48 + v % 10)], rfl, h3⟩
theorem dec_ne (x : Nat) : 1 ≤ (Lib.decDigits x).length := by
  rw [Lib.decDigits]
  split <;> simp
theorem dec_inj : ∀ (n u v : Nat), u ≤ n → Lib.decDigits u = Lib.decDigits v → u = v
  | 0, u, v, h, e => by
    obtain rfl : u = 0 := by omega
    apply Classical.byContradiction
    intro hn
    obtain ⟨c, r, e2, h3, _⟩ := dec_head v v (Nat.le_refl _) (by omega)
    rw [e2, Lib.decDigits, dif_pos (by decide)] at e
    exact h3 (List.cons.inj e).1.symm
  | n + 1, u, v, h, e => by
    have hb : ∀ a b : Nat, a < 10 → b < 10 → UInt8.ofNat (48 + a) = UInt8.ofNat (48 + b) → a = b := by
      intro a b ha hb he
      have := congrArg UInt8.toNat he
      rw [UInt8.toNat_ofNat', UInt8.toNat_ofNat'] at this
      omega
    have el := congrArg List.length e
    by_cases h1 : u < 10 <;> by_cases h2 : v < 10
    · rw [Lib.decDigits, dif_pos h1, Lib.decDigits, dif_pos h2] at e
      exact hb u v h1 h2 (List.cons.inj e).1
    · have e1 : Lib.decDigits u = [UInt8.ofNat (48 + u)] := by rw [Lib.decDigits, dif_pos h1]
      have e2 : Lib.decDigits v = Lib.decDigits (v / 10) ++ [UInt8.ofNat (48 + v % 10)] := by rw [Lib.decDigits, dif_neg h2]
      rw [e1, e2] at el
      have := dec_ne (v / 10)
      simp only [List.length_append, List.length_cons, List.length_nil] at el
      omega
    · have e1 : Lib.decDigits v = [UInt8.ofNat (48 + v)] := by rw [Lib.decDigits, dif_pos h2]
      have e2 : Lib.decDigits u = Lib.decDigits (u / 10) ++ [UInt8.ofNat (48 + u % 10)] := by rw [Lib.decDigits, dif_neg h1]
      rw [e1, e2] at el
      have := dec_ne (u / 10)
      simp only [List.length_append, List.length_cons, List.length_nil] at el
      omega
    · have e1 : Lib.decDigits u = Lib.decDigits (u / 10) ++ [UInt8.ofNat (48 + u % 10)] := by rw [Lib.decDigits, dif_neg h1]
      have e2 : Lib.decDigits v = Lib.decDigits (v / 10) ++ [UInt8.ofNat (48 + v % 10)] := by rw [Lib.decDigits, dif_neg h2]
      rw [e1, e2] at e
      obtain ⟨e3, e4⟩ := List.append_inj' e rfl
      have e5 := dec_inj n (u / 10) (v / 10) (by omega) e3
      have e6 := hb (u % 10) (v % 10) (by omega) (by omega) (List.cons.inj e4).1
      omega
theorem not_letter {c : UInt8} (h : Lex.digit c = true) : Lex.letter c = false := by
  unfold Lex.digit at h
  simp only [Bool.and_eq_true, decide_eq_true_eq] at h
  unfold Lex.letter
  simp; omega
/-- A numeral not below nought is a word. -/
theorem word_num {n : Int} (h0 : 0 ≤ n) (h1 : n ≤ 1000000) : Word ⟨2, [], n, 0⟩ (Lib.itoa n) := by
  have hlen := LexW.dec_len 6 n.toNat (by omega)
  have hi : Lib.itoa n = Lib.decDigits n.toNat := by unfold Lib.itoa; rw [if_neg (by omega)]
  rw [hi]
  obtain ⟨c, r, e, hz, hd⟩ : ∃ c r, Lib.decDigits n.toNat = c :: r ∧ ((c = 48) → r = []) ∧ Lex.digit c = true := by
    by_cases hn : n.toNat = 0
    · rw [hn, Lib.decDigits, dif_pos (by decide)]
      exact ⟨48, [], rfl, fun _ => rfl, by decide⟩
    · obtain ⟨c, r, e, h2, h3⟩ := dec_head n.toNat n.toNat (Nat.le_refl _) (by omega)
      exact ⟨c, r, e, fun h => absurd h h2, h3⟩
  have ha := dec_digits n.toNat n.toNat (Nat.le_refl _)
  rw [e] at ha hlen ⊢
  simp only [List.all_cons, Bool.and_eq_true, List.length_cons] at ha hlen
  have hrun : Lex.numRun r = r := by
    have := Lex.takeWhile_stop (p := Lex.digit) (fun _ h => Lex.inner_of_digit h) (w := r) (rest := []) ha.2 rfl
    rwa [List.append_nil] at this
  have hlt := not_letter hd
  have h45 : c ≠ 45 := by rintro rfl; exact absurd hd (by decide)
  have hdg : Lex.numDigs c r = c :: r := by unfold Lex.numDigs; rw [if_neg h45, hrun]
  have hbad : Lex.numBad c r = false := by
    unfold Lex.numBad
    rw [hdg, hrun, List.drop_length]
    simp only [List.head?_nil, Option.any_none, List.isEmpty_cons, Bool.false_or, List.headD_cons]
    by_cases hc : c = 48
    · rw [hz hc, hc]; decide
    · simp [hc]
  have hT := Lex.tokL_num (c := c) (r := r) hlt (by rw [hd]; rfl) hbad (by rw [hdg, List.length_cons]; omega)
  have hlen2 : Lex.numLen r = (c :: r).length := by unfold Lex.numLen; rw [hrun]; rfl
  refine ⟨c, r, by rw [hT], by rw [hT], by rw [hT], ?_, by rw [hT]; simp only; rw [hlen2, List.take_length]⟩
  rw [hT]
  simp only
  have h2 := (Lex.itoa_num (c := c) (r := r) (by rw [hd]; rfl) hbad).1
  rw [hrun] at h2
  have h3 : 0 ≤ Lex.numVal c r := by
    apply Classical.byContradiction
    intro hn
    unfold Lib.itoa at h2
    rw [if_pos (by omega)] at h2
    exact h45 (List.cons.inj h2).1.symm
  unfold Lib.itoa at h2
  rw [if_neg (by omega), ← e] at h2
  have := dec_inj _ _ _ (Nat.le_refl _) h2
  omega
theorem word_name {w : List UInt8} (h : Lex.isName w = true) : Word ⟨1, w, 0, 0⟩ w := by
  unfold Lex.isName at h
  simp only [Bool.and_eq_true, decide_eq_true_eq] at h
  obtain ⟨⟨⟨h1, h2⟩, h3⟩, h4⟩ := h
  cases w with
  | nil => simp at h1
  | cons c r =>
    have ht : (c :: r).takeWhile Lex.inner = c :: r := by
      have := Lex.takeWhile_stop (p := Lex.inner) (fun _ h => h) (w := c :: r) (rest := []) h4 rfl
      rwa [List.append_nil] at this
    have e := Lex.tokL_name (c := c) (r := r) h3 (by rw [ht]; exact h2)
    rw [ht] at e
    exact ⟨c, r, by rw [e], by rw [e], by rw [e], by rw [e], by rw [e]; simp only; rw [List.take_length]⟩
theorem word_mark {c : UInt8} (h1 : Lex.letter c = false) (h2 : (Lex.digit c || decide (c = 45)) = false) (h3 : Lex.mark c = true) : Word ⟨3, [c], 0, 0⟩ [c] := by
  have e := Lex.tokL_mark (c := c) (r := []) h1 h2 h3
  exact ⟨c, [], by rw [e], by rw [e], by rw [e], by rw [e], by rw [e]; rfl⟩

/-! ### Reading the text -/
abbrev Key := Int × List UInt8 × Int
def Lx (l : List UInt8) (ks : List Key) : Prop := ∀ p, (Lex.lex l p).err = 0 ∧ (Lex.lex l p).toks.map key = ks
theorem Lx.nil : Lx [] [] := fun p => by rw [Lex.lex_nil]; exact ⟨rfl, rfl⟩
theorem Lx.blank {c : UInt8} {l : List UInt8} {ks : List Key} (hb : Lex.blank c = true) (h : Lx l ks) : Lx (c :: l) ks := fun p => by
  rw [Lex.lex_blank l p hb]
  exact h _
theorem Lx.word {t : Tok} {w l : List UInt8} {ks : List Key} (hw : Word t w) (hs : stop l = true) (h : Lx l ks) : Lx (w ++ l) (key t :: ks) := fun p => by
  rw [hw.lex_eq hs]
  obtain ⟨h1, h2⟩ := h (p + w.length)
  unfold LR.cons
  rw [if_pos h1]
  exact ⟨rfl, by simp [h2, key]⟩
def kName (w : List UInt8) : Key := (1, w, 0)
def kNum (n : Int) : Key := (2, [], n)
def kMark (w : List UInt8) : Key := (3, w, 0)
theorem Lx.name {w l : List UInt8} {ks : List Key} (hw : Lex.isName w = true) (hs : stop l = true) (h : Lx l ks) : Lx (w ++ l) (kName w :: ks) := Lx.word (word_name hw) hs h
theorem Lx.num {n : Int} {l : List UInt8} {ks : List Key} (h0 : 0 ≤ n) (h1 : n ≤ 1000000) (hs : stop l = true) (h : Lx l ks) : Lx (Lib.itoa n ++ l) (kNum n :: ks) := Lx.word (word_num h0 h1) hs h
def lineK (x : It) : List Key := [kName tPart, kName x.p, kName tQuantity, kNum x.q, kName tDue, kNum x.d, kMark tSemi]
def openK (o : List UInt8) : List Key := [kName tOrder, kName o, kMark tOpen]
theorem stop_space (l : List UInt8) : stop (32 :: l) = true := by simp [stop, Lex.inner, Lex.letter, Lex.digit]
theorem stop_feed (l : List UInt8) : stop (10 :: l) = true := by simp [stop, Lex.inner, Lex.letter, Lex.digit]
theorem stop_semi (l : List UInt8) : stop ([59] ++ l) = true := by simp [stop, Lex.inner, Lex.letter, Lex.digit]
theorem lx_line {x : It} (hx : Od.ok x = true) {l : List UInt8} {ks : List Key} (h : Lx l ks) : Lx (lineT x ++ l) (lineK x ++ ks) := by
  have hp := Od.ok_parts hx
  unfold Od.ok at hx
  simp only [Bool.and_eq_true, decide_eq_true_eq] at hx
  have h1 := (Lx.blank (c := 10) (by decide) h)
  have h2 := Lx.word (t := ⟨3, [59], 0, 0⟩) (w := [59]) (word_mark (by decide) (by decide) (by decide)) (stop_feed _) h1
  have h3 := Lx.num (n := x.d) (by omega) (by omega) (stop_semi _) h2
  have h4 := Lx.blank (c := 32) (by decide) h3
  have h5 := Lx.name (w := tDue) (by decide) (stop_space _) h4
  have h6 := Lx.blank (c := 32) (by decide) h5
  have h7 := Lx.num (n := x.q) (by omega) (by omega) (stop_space _) h6
  have h8 := Lx.blank (c := 32) (by decide) h7
  have h9 := Lx.name (w := tQuantity) (by decide) (stop_space _) h8
  have h10 := Lx.blank (c := 32) (by decide) h9
  have h11 := Lx.name (w := x.p) hx.1.1.1.1.2 (stop_space _) h10
  have h12 := Lx.blank (c := 32) (by decide) h11
  have h13 := Lx.name (w := tPart) (by decide) (stop_space _) h12
  have h14 := Lx.blank (c := 9) (by decide) h13
  have e : lineT x ++ l = 9 :: (tPart ++ 32 :: (x.p ++ 32 :: (tQuantity ++ 32 :: (Lib.itoa x.q ++ 32 :: (tDue ++ 32 :: (Lib.itoa x.d ++ ([59] ++ 10 :: l))))))) := by
    simp [lineT, cPart, cQuantity, cDue, cSemi, tPart, tQuantity, tDue]
  rw [e]
  exact h14
theorem lx_open {o : List UInt8} (ho : Lex.isName o = true) {l : List UInt8} {ks : List Key} (h : Lx l ks) : Lx (openT o ++ l) (openK o ++ ks) := by
  have h1 := (Lx.blank (c := 10) (by decide) h)
  have h2 := Lx.word (t := ⟨3, [123], 0, 0⟩) (w := [123]) (word_mark (by decide) (by decide) (by decide)) (stop_feed _) h1
  have h3 := Lx.blank (c := 32) (by decide) h2
  have h4 := Lx.name (w := o) ho (stop_space _) h3
  have h5 := Lx.blank (c := 32) (by decide) h4
  have h6 := Lx.name (w := tOrder) (by decide) (stop_space _) h5
  have e : openT o ++ l = tOrder ++ 32 :: (o ++ 32 :: ([123] ++ 10 :: l)) := by
    simp [openT, cOrder, cOpen, tOrder]
  rw [e]
  exact h6
theorem lx_close {l : List UInt8} {ks : List Key} (h : Lx l ks) : Lx (cClose ++ l) (kMark tClose :: ks) :=
  Lx.word (t := ⟨3, [125], 0, 0⟩) (w := [125]) (word_mark (by decide) (by decide) (by decide)) (stop_feed _) (Lx.blank (c := 10) (by decide) h)
def keys : Option (List UInt8) → List It → List Key
  | _, [] => []
  | prev, x :: r => (if prev = some x.o then [] else openK x.o) ++ (lineK x ++ ((if ends x.o r = true then [kMark tClose] else []) ++ keys (some x.o) r))
theorem lx_text : ∀ (l : List It) (p : Option (List UInt8)), (∀ x ∈ l, Od.ok x = true) → Lx (text p l) (keys p l)
  | [], _, _ => Lx.nil
  | x :: r, p, h => by
    have h1 := lx_text r (some x.o) (fun y hy => h y (by simp [hy]))
    have hx := h x (by simp)
    have ho : Lex.isName x.o = true := by
      unfold Od.ok at hx
      simp only [Bool.and_eq_true, decide_eq_true_eq] at hx
      exact hx.1.1.1.1.1
    have h2 : Lx ((if ends x.o r = true then cClose else []) ++ text (some x.o) r) ((if ends x.o r = true then [kMark tClose] else []) ++ keys (some x.o) r) := by
      by_cases he : ends x.o r = true
      · rw [if_pos he, if_pos he]; exact lx_close h1
      · rw [if_neg he, if_neg he]; exact h1
    have h3 := lx_line hx h2
    unfold text keys
    rw [List.append_assoc, List.append_assoc]
    by_cases hp : p = some x.o
    · rw [if_pos hp, if_pos hp]; exact h3
    · rw [if_neg hp, if_neg hp]; exact lx_open ho h3
end Go.Proofs.YteldekkodhfkkaaGreatDoor.Pq

namespace Go.Proofs.YteldekkodhfkkaaGreatDoor.Pq
open Go.Proofs.YteldekkodhfkkaaGreatDoor.Od (It)
open Go.Proofs.YteldekkodhfkkaaGreatDoor.Lex (Tok LR key Word stop)

/-- The parser has no error, and these tokens before it. -/
def At (ts : List Tok) (s : St) (ks : List Key) : Prop := s.e = 0 ∧ (ts.drop s.i).map key = ks
theorem At.get {ts : List Tok} {s : St} {k : Key} {ks : List Key} (h : At ts s (k :: ks)) : ∃ t, ts[s.i]? = some t ∧ key t = k ∧ (ts.drop (s.i + 1)).map key = ks := by
  obtain ⟨_, h⟩ := h
  have hl : s.i < ts.length := by
    apply Classical.byContradiction
    intro hn
    rw [List.drop_eq_nil_of_le (by omega)] at h
    simp at h
  rw [List.drop_eq_getElem_cons hl, List.map_cons] at h
  exact ⟨ts[s.i], List.getElem?_eq_getElem hl, (List.cons.inj h).1, (List.cons.inj h).2⟩
theorem At.len {ts : List Tok} {s : St} {ks : List Key} (h : At ts s ks) : ks.length = ts.length - s.i := by
  rw [← h.2]; simp
theorem at_tok {ts : List Tok} {s : St} {k : Key} {ks : List Key} {g : Tok → Bool} (h : At ts s (k :: ks)) (hg : ∀ t, key t = k → g t = true) : key (tok ts g s).1 = k ∧ At ts (tok ts g s).2 ks := by
  obtain ⟨t, h1, h2, h3⟩ := h.get
  unfold tok
  rw [if_pos h.1, h1]
  simp only
  rw [if_pos (hg t h2)]
  exact ⟨h2, rfl, h3⟩
theorem key_parts {t : Tok} {k : Int} {w : List UInt8} {n : Int} (h : key t = (k, w, n)) : t.kind = k ∧ t.text = w ∧ t.n = n := by
  unfold key at h
  injection h with h1 h2
  injection h2 with h2 h3
  exact ⟨h1, h2, h3⟩
theorem at_expect {ts : List Tok} {s : St} {k n : Int} {w : List UInt8} {ks : List Key} (h : At ts s ((k, w, n) :: ks)) (hk : k ≠ 2) : At ts (expect ts w s) ks :=
  (at_tok h (g := isT w) fun t ht => by
    obtain ⟨h1, h2, _⟩ := key_parts ht
    unfold isT
    rw [h1, h2]
    simp [hk]).2
theorem at_name {ts : List Tok} {s : St} {w : List UInt8} {ks : List Key} (h : At ts s (kName w :: ks)) : (name ts s).1 = w ∧ At ts (name ts s).2 ks := by
  have := at_tok h (g := isN) fun t ht => by
    unfold isN
    rw [(key_parts ht).1]
    rfl
  exact ⟨(key_parts this.1).2.1, this.2⟩
theorem at_num {b : Bool} {ts : List Tok} {s : St} {n lo hi : Int} {ks : List Key} (h : At ts s (kNum n :: ks)) (h0 : lo ≤ n) (h1 : n ≤ hi) : (num b ts lo hi s).1 = n ∧ At ts (num b ts lo hi s).2 ks := by
  have := at_tok h (g := isD) fun t ht => by
    unfold isD
    rw [(key_parts ht).1]
    rfl
  have hn := (key_parts this.1).2.2
  unfold num
  rw [if_neg (by rw [hn]; omega)]
  exact ⟨hn, this.2⟩
theorem at_next {ts : List Tok} {s : St} {k n : Int} {w : List UInt8} (v : List UInt8) {ks : List Key} (h : At ts s ((k, w, n) :: ks)) (hk : k ≠ 2) : next ts v s = decide (w = v) := by
  obtain ⟨t, h1, h2, h3⟩ := h.get
  obtain ⟨h4, h5, _⟩ := key_parts h2
  unfold next
  rw [h1, h.1]
  unfold isT
  simp [h4, h5, hk]
theorem at_item {b : Bool} {ts : List Tok} {s : St} {x : It} {ks : List Key} (hx : Od.ok x = true) (h : At ts s (lineK x ++ ks)) : (item b ts x.o ⟨s.i + 1, s.e⟩).1 = x ∧ At ts (item b ts x.o ⟨s.i + 1, s.e⟩).2 ks := by
  have hp := Od.ok_parts hx
  have h' : At ts s (kName tPart :: kName x.p :: kName tQuantity :: kNum x.q :: kName tDue :: kNum x.d :: kMark tSemi :: ks) := h
  obtain ⟨t, _, _, h0⟩ := h'.get
  have h1 : At ts ⟨s.i + 1, s.e⟩ (kName x.p :: kName tQuantity :: kNum x.q :: kName tDue :: kNum x.d :: kMark tSemi :: ks) := ⟨h.1, h0⟩
  have h2 := at_name h1
  have h3 := at_expect h2.2 (by decide)
  have h4 := at_num (b := b) (lo := 1) (hi := 1000) h3 (by omega) (by omega)
  have h5 := at_expect h4.2 (by decide)
  have h6 := at_num (b := b) (lo := 0) (hi := 1000000) h5 (by omega) (by omega)
  have h7 := at_expect h6.2 (by decide)
  unfold item itemD itemQ itemP
  refine ⟨?_, h7⟩
  simp only
  rw [h2.1, h4.1, h6.1]
theorem at_items {b : Bool} {ts : List Tok} {o : List UInt8} {ks : List Key} : ∀ (g : List It) (f : Nat) (s : St) (acc : List It), g.length ≤ f → (∀ x ∈ g, Od.ok x = true ∧ x.o = o) →
    At ts s (g.flatMap lineK ++ kMark tClose :: ks) → ∃ s', items b ts o f (s, acc) = (s', acc ++ g) ∧ At ts s' (kMark tClose :: ks)
  | [], f, s, acc, _, _, h => by
    have h' : At ts s (kMark tClose :: ks) := h
    have hn : next ts tPart s = false := by
      rw [at_next tPart h' (by decide)]
      decide
    cases f with
    | zero => exact ⟨s, by simp [items], h⟩
    | succ f => exact ⟨s, by unfold items; simp only; rw [hn]; simp, h⟩
  | x :: g, 0, s, acc, hf, _, _ => by simp at hf
  | x :: g, f + 1, s, acc, hf, hg, h => by
    obtain ⟨hx, rfl⟩ := hg x (by simp)
    rw [List.flatMap_cons, List.append_assoc] at h
    have hn : next ts tPart s = true := by
      have h' : At ts s (kName tPart :: (kName x.p :: kName tQuantity :: kNum x.q :: kName tDue :: kNum x.d :: kMark tSemi :: (g.flatMap lineK ++ kMark tClose :: ks))) := h
      rw [at_next tPart h' (by decide)]
      decide
    have h1 := at_item (b := b) hx h
    simp only [List.length_cons] at hf
    obtain ⟨s', e, h2⟩ := at_items g f _ (acc ++ [x]) (by omega) (fun y hy => hg y (by simp [hy])) h1.2
    refine ⟨s', ?_, h2⟩
    unfold items
    simp only
    rw [if_pos hn, h1.1, e]
    simp
theorem lines_len (g : List It) : g.length ≤ (g.flatMap lineK).length := by
  induction g with
  | nil => simp
  | cons x g ih =>
    rw [List.flatMap_cons, List.length_append, List.length_cons]
    simp only [lineK, List.length_cons, List.length_nil]
    omega
theorem at_group {b : Bool} {ts : List Tok} {o : List UInt8} {ks : List Key} (g : List It) (s : St) (acc : List It) (hg : ∀ x ∈ g, Od.ok x = true ∧ x.o = o)
    (h : At ts s (openK o ++ (g.flatMap lineK ++ kMark tClose :: ks))) : ∃ s', group b ts (s, acc) = (s', acc ++ g) ∧ At ts s' ks := by
  have h' : At ts s (kName tOrder :: kName o :: kMark tOpen :: (g.flatMap lineK ++ kMark tClose :: ks)) := h
  have h1 := at_expect h' (by decide)
  have h2 := at_name h1
  have h3 := at_expect h2.2 (by decide)
  have hl := h3.len
  have hl2 := lines_len g
  rw [List.length_append] at hl
  obtain ⟨s', e, h4⟩ := at_items (b := b) g (ts.length + 1) _ acc (by omega) hg h3
  have h5 := at_expect h4 (by decide)
  refine ⟨_, ?_, h5⟩
  unfold group head
  simp only
  rw [h2.1, e]
/-- The first group of a list of items, behind its first item. -/
theorem split_keys : ∀ (r : List It) (o : List UInt8), ∃ g r', r = g ++ r' ∧ (∀ x ∈ g, x.o = o) ∧ (if ends o r = true then [kMark tClose] else []) ++ keys (some o) r = g.flatMap lineK ++ kMark tClose :: keys none r'
  | [], o => ⟨[], [], rfl, by simp, by simp [ends, keys]⟩
  | y :: r, o => by
    by_cases hy : y.o = o
    · subst hy
      obtain ⟨g, r', e, h1, h2⟩ := split_keys r y.o
      refine ⟨y :: g, r', by rw [e]; rfl, ?_, ?_⟩
      · intro x hx
        rcases List.mem_cons.1 hx with rfl | hx
        · rfl
        · exact h1 x hx
      · have he : ends y.o (y :: r) = false := by simp [ends]
        rw [he, List.flatMap_cons, List.append_assoc, ← h2]
        simp [keys]
    · refine ⟨[], y :: r, rfl, by simp, ?_⟩
      have he : ends o (y :: r) = true := by simp [ends, hy]
      have hn : ¬ (some o = some y.o) := fun h => hy (Option.some.inj h).symm
      have hn2 : ¬ (none = some y.o) := by simp
      rw [he]
      unfold keys
      rw [if_neg hn, if_neg hn2]
      rfl
theorem at_groups {b : Bool} {ts : List Tok} : ∀ (n : Nat) (l : List It) (f : Nat) (s : St) (acc : List It), l.length ≤ n → l.length ≤ f → (∀ x ∈ l, Od.ok x = true) → At ts s (keys none l) →
    (groups b ts f (s, acc)).2 = acc ++ l ∧ (groups b ts f (s, acc)).1.e = 0
  | _, [], f, s, acc, _, _, _, h => by
    have hl := h.len
    simp only [keys, List.length_nil] at hl
    cases f with
    | zero => exact ⟨by simp [groups], h.1⟩
    | succ f =>
      unfold groups
      rw [if_neg (by simp only; omega)]
      exact ⟨by simp, h.1⟩
  | 0, x :: r, _, _, _, hn, _, _, _ => by simp at hn
  | n + 1, x :: r, 0, _, _, _, hf, _, _ => by simp at hf
  | n + 1, x :: r, f + 1, s, acc, hn, hf, ho, h => by
    obtain ⟨g, r', e, h1, h2⟩ := split_keys r x.o
    have hx := ho x (by simp)
    have hk : keys none (x :: r) = openK x.o ++ ((x :: g).flatMap lineK ++ kMark tClose :: keys none r') := by
      rw [List.flatMap_cons, List.append_assoc, ← h2]
      have hn2 : ¬ (none = some x.o) := by simp
      conv => lhs; unfold keys
      rw [if_neg hn2]
    rw [hk] at h
    have hlen := h.len
    have hr : r.length = g.length + r'.length := by rw [e, List.length_append]
    simp only [List.length_cons] at hn hf
    obtain ⟨s', e2, h3⟩ := at_group (b := b) (x :: g) s acc (by
      intro y hy
      refine ⟨ho y ?_, ?_⟩
      · rw [e]
        rcases List.mem_cons.1 hy with rfl | hy
        · simp
        · simp [hy]
      · rcases List.mem_cons.1 hy with rfl | hy
        · rfl
        · exact h1 y hy) h
    have h4 := at_groups (b := b) n r' f s' (acc ++ x :: g) (by omega) (by omega) (fun y hy => ho y (by rw [e]; simp [hy])) h3
    unfold groups
    simp only [openK, List.length_append, List.length_cons] at hlen
    rw [if_pos (by simp only; exact ⟨h.1, by omega⟩), e2]
    refine ⟨?_, h4.2⟩
    rw [h4.1, e]
    simp
theorem keys_len : ∀ (l : List It) (p : Option (List UInt8)), l.length ≤ (keys p l).length
  | [], _ => by simp
  | x :: r, p => by
    have := keys_len r (some x.o)
    unfold keys
    simp only [List.length_append, List.length_cons, lineK, List.length_nil]
    omega
theorem text_back (b : Bool) {l : List It} (h : Od.valid l = true) : parse b (text none l) = (l, 0, 0) := by
  have hl := Od.valid_len h
  have hok : ∀ x ∈ l, Od.ok x = true := fun x hx => Od.valid_ok h hx
  have hx := lx_text l none hok 0
  have hlen := text_len l none hok
  have ht : Lex.tokens (text none l) = Lex.lex (text none l) 0 := by unfold Lex.tokens; rw [if_neg (by omega)]
  unfold parse
  rw [ht]
  obtain ⟨h1, h2⟩ := hx
  rw [if_neg (by rw [h1]; simp)]
  generalize (Lex.lex (text none l) 0).toks = ts at *
  have hk := keys_len l none
  have hk2 : (keys none l).length = ts.length := by rw [← h2]; simp
  have h3 := at_groups (b := b) (ts := ts) l.length l (ts.length + 2) ⟨0, 0⟩ [] (Nat.le_refl _) (by omega) hok ⟨rfl, by simpa using h2⟩
  unfold result fin
  rw [if_neg (by rw [h3.2]; simp), h3.1]
  rw [if_neg (by simp; omega)]
  rfl
end Go.Proofs.YteldekkodhfkkaaGreatDoor.Pq
