/- The parser of lists of orders as a plain function on tokens: of the program, and of the reference. No program is in sight. Conditions: none. -/
import Derived.Test.YteldekkodhfkkaaGreatDoorLexPlain
import Derived.Test.YteldekkodhfkkaaGreatDoorOdW1
namespace Go.Proofs.YteldekkodhfkkaaGreatDoor.Pq
open Go.Proofs.YteldekkodhfkkaaGreatDoor.Od (It)
open Go.Proofs.YteldekkodhfkkaaGreatDoor.Lex (Tok)

/-- Where the parser stands: the next token, the error. -/
structure St where
  i : Nat
  e : Int
def tz : Tok := ⟨0, [], 0, 0⟩
def isT (text : List UInt8) (t : Tok) : Bool := decide (t.kind ≠ 2) && decide (t.text = text)
def isN (t : Tok) : Bool := decide (t.kind = 1)
def isD (t : Tok) : Bool := decide (t.kind = 2)
/-- A token that fulfils a condition. -/
def tok (ts : List Tok) (good : Tok → Bool) (s : St) : Tok × St :=
  if s.e = 0 then (match ts[s.i]? with | some t => if good t = true then (t, ⟨s.i + 1, 0⟩) else (tz, ⟨s.i, 3⟩) | none => (tz, ⟨s.i, 3⟩)) else (tz, s)
def next (ts : List Tok) (text : List UInt8) (s : St) : Bool := decide (s.e = 0) && (match ts[s.i]? with | some t => isT text t | none => false)
def accept (ts : List Tok) (text : List UInt8) (s : St) : St := if next ts text s = true then ⟨s.i + 1, s.e⟩ else s
def expect (ts : List Tok) (text : List UInt8) (s : St) : St := (tok ts (isT text) s).2
def name (ts : List Tok) (s : St) : List UInt8 × St := ((tok ts isN s).1.text, (tok ts isN s).2)
/-- A number within limits; b: as the program hands it back (it hands back a number out of them, too). -/
def num (b : Bool) (ts : List Tok) (lo hi : Int) (s : St) : Int × St :=
  if (tok ts isD s).2.e = 0 ∧ ((tok ts isD s).1.n < lo ∨ hi < (tok ts isD s).1.n) then (if b = true then (tok ts isD s).1.n else 0, ⟨s.i, 2⟩) else ((tok ts isD s).1.n, (tok ts isD s).2)
def tOrder : List UInt8 := [111, 114, 100, 101, 114]
def tOpen : List UInt8 := [123]
def tPart : List UInt8 := [112, 97, 114, 116]
def tQuantity : List UInt8 := [113, 117, 97, 110, 116, 105, 116, 121]
def tDue : List UInt8 := [100, 117, 101]
def tSemi : List UInt8 := [59]
def tClose : List UInt8 := [125]
/-- One item, behind 'part'. -/
def itemP (ts : List Tok) (s : St) : List UInt8 × St := name ts s
def itemQ (b : Bool) (ts : List Tok) (s : St) : Int × St := num b ts 1 1000 (expect ts tQuantity s)
def itemD (b : Bool) (ts : List Tok) (s : St) : Int × St := num b ts 0 1000000 (expect ts tDue s)
def item (b : Bool) (ts : List Tok) (o : List UInt8) (s : St) : It × St :=
  (⟨o, (itemP ts s).1, (itemQ b ts (itemP ts s).2).1, (itemD b ts (itemQ b ts (itemP ts s).2).2).1⟩, expect ts tSemi (itemD b ts (itemQ b ts (itemP ts s).2).2).2)
def items (b : Bool) (ts : List Tok) (o : List UInt8) : Nat → St × List It → St × List It
  | 0, r => r
  | f + 1, r => if next ts tPart r.1 = true then items b ts o f ((item b ts o ⟨r.1.i + 1, r.1.e⟩).2, r.2 ++ [(item b ts o ⟨r.1.i + 1, r.1.e⟩).1]) else r
def head (ts : List Tok) (s : St) : List UInt8 × St := ((name ts (expect ts tOrder s)).1, expect ts tOpen (name ts (expect ts tOrder s)).2)
def group (b : Bool) (ts : List Tok) (r : St × List It) : St × List It :=
  (expect ts tClose (items b ts (head ts r.1).1 (ts.length + 1) ((head ts r.1).2, r.2)).1, (items b ts (head ts r.1).1 (ts.length + 1) ((head ts r.1).2, r.2)).2)
def groups (b : Bool) (ts : List Tok) : Nat → St × List It → St × List It
  | 0, r => r
  | f + 1, r => if r.1.e = 0 ∧ r.1.i < ts.length then groups b ts f (group b ts r) else r
def fin (b : Bool) (ts : List Tok) : St × List It := groups b ts (ts.length + 2) (⟨0, 0⟩, [])
/-- The offset of a place: that of its token, or the end. -/
def off (ts : List Tok) (n : Nat) (i : Nat) : Nat := match ts[i]? with | some t => t.pos | none => n
def result (b : Bool) (ts : List Tok) (n : Nat) : List It × Nat × Int :=
  if (fin b ts).1.e ≠ 0 then ([], off ts n (fin b ts).1.i, (fin b ts).1.e) else if 100 < (fin b ts).2.length then ([], 0, 9) else ((fin b ts).2, 0, 0)
def parse (b : Bool) (l : List UInt8) : List It × Nat × Int :=
  if (Lex.tokens l).err ≠ 0 then ([], (Lex.tokens l).pos, (Lex.tokens l).err) else result b (Lex.tokens l).toks l.length

/-! ### Where a step leads -/
theorem tok_ways (ts : List Tok) (g : Tok → Bool) (s : St) : (s.e ≠ 0 ∧ tok ts g s = (tz, s)) ∨ (s.e = 0 ∧ tok ts g s = (tz, ⟨s.i, 3⟩)) ∨ (s.e = 0 ∧ ∃ h : s.i < ts.length, g ts[s.i] = true ∧ tok ts g s = (ts[s.i], ⟨s.i + 1, 0⟩)) := by
  unfold tok
  by_cases he : s.e = 0
  · rw [if_pos he]
    right
    by_cases h : s.i < ts.length
    · rw [List.getElem?_eq_getElem h]
      by_cases hg : g ts[s.i] = true
      · exact .inr ⟨he, h, hg, by simp only [hg, if_true]⟩
      · exact .inl ⟨he, by simp only [hg]; rfl⟩
    · rw [List.getElem?_eq_none (by omega)]
      exact .inl ⟨he, rfl⟩
  · rw [if_neg he]
    exact .inl ⟨he, rfl⟩
/-- Steps never go back, nor beyond the end; an error stays. -/
structure Fwd (n : Nat) (s s' : St) : Prop where
  up : s.i ≤ s'.i
  in_ : s.i ≤ n → s'.i ≤ n
  err : s.e ≠ 0 → s' = s
  val : s'.e = s.e ∨ s'.e = 2 ∨ s'.e = 3
theorem Fwd.refl (n : Nat) (s : St) : Fwd n s s := ⟨Nat.le_refl _, id, fun _ => rfl, .inl rfl⟩
theorem Fwd.trans {n : Nat} {a b c : St} (h1 : Fwd n a b) (h2 : Fwd n b c) : Fwd n a c where
  up := Nat.le_trans h1.up h2.up
  in_ h := h2.in_ (h1.in_ h)
  err h := by
    have e1 := h1.err h
    subst e1
    exact h2.err h
  val := by
    rcases h2.val with h | h
    · rw [h]; exact h1.val
    · exact .inr h
theorem fwd_tok (ts : List Tok) (g : Tok → Bool) (s : St) : Fwd ts.length s (tok ts g s).2 := by
  rcases tok_ways ts g s with ⟨h, e⟩ | ⟨h, e⟩ | ⟨h, h1, h2, e⟩ <;> rw [e]
  · exact Fwd.refl _ _
  · exact ⟨Nat.le_refl _, id, fun h' => absurd h h', .inr (.inr rfl)⟩
  · exact ⟨Nat.le_succ _, fun _ => h1, fun h' => absurd h h', .inl h.symm⟩
theorem fwd_expect (ts : List Tok) (t : List UInt8) (s : St) : Fwd ts.length s (expect ts t s) := fwd_tok ts _ s
theorem fwd_name (ts : List Tok) (s : St) : Fwd ts.length s (name ts s).2 := fwd_tok ts _ s
theorem fwd_num (b : Bool) (ts : List Tok) (lo hi : Int) (s : St) : Fwd ts.length s (num b ts lo hi s).2 := by
  unfold num
  split
  · rename_i h
    rcases tok_ways ts isD s with ⟨h1, e⟩ | ⟨h1, e⟩ | ⟨h1, h2, h3, e⟩
    · rw [e] at h
      exact absurd h.1 h1
    · rw [e] at h
      simp at h
    · exact ⟨Nat.le_refl _, id, fun h' => absurd h1 h', .inr (.inl rfl)⟩
  · exact fwd_tok ts _ s
theorem next_lt {ts : List Tok} {t : List UInt8} {s : St} (h : next ts t s = true) : s.e = 0 ∧ s.i < ts.length := by
  unfold next at h
  simp only [Bool.and_eq_true, decide_eq_true_eq] at h
  refine ⟨h.1, ?_⟩
  rcases Nat.lt_or_ge s.i ts.length with h1 | h1
  · exact h1
  · rw [List.getElem?_eq_none h1] at h
    simp at h
theorem fwd_item (b : Bool) (ts : List Tok) (o : List UInt8) (s : St) : Fwd ts.length s (item b ts o s).2 := by
  unfold item itemD itemQ itemP
  exact ((((fwd_name ts s).trans (fwd_expect ts _ _)).trans (fwd_num b ts _ _ _)).trans (fwd_expect ts _ _)).trans ((fwd_num b ts _ _ _).trans (fwd_expect ts _ _))
theorem fwd_items (b : Bool) (ts : List Tok) (o : List UInt8) : ∀ (f : Nat) (r : St × List It), Fwd ts.length r.1 (items b ts o f r).1
  | 0, r => Fwd.refl _ _
  | f + 1, r => by
    unfold items
    split
    · rename_i h
      have hl := next_lt h
      have h1 : Fwd ts.length r.1 ⟨r.1.i + 1, r.1.e⟩ := ⟨Nat.le_succ _, fun _ => hl.2, fun h' => absurd hl.1 h', .inl rfl⟩
      exact (h1.trans (fwd_item b ts o _)).trans (fwd_items b ts o f ((item b ts o ⟨r.1.i + 1, r.1.e⟩).2, r.2 ++ [(item b ts o ⟨r.1.i + 1, r.1.e⟩).1]))
    · exact Fwd.refl _ _
theorem fwd_head (ts : List Tok) (s : St) : Fwd ts.length s (head ts s).2 := by
  unfold head
  exact ((fwd_expect ts _ s).trans (fwd_name ts _)).trans (fwd_expect ts _ _)
theorem fwd_group (b : Bool) (ts : List Tok) (r : St × List It) : Fwd ts.length r.1 (group b ts r).1 := by
  unfold group
  exact ((fwd_head ts r.1).trans (fwd_items b ts _ _ ((head ts r.1).2, r.2))).trans (fwd_expect ts _ _)
/-- What a round of the groups brings: an error, or a token more. -/
theorem group_more (b : Bool) (ts : List Tok) (r : St × List It) (h : r.1.e = 0) : (group b ts r).1.e ≠ 0 ∨ r.1.i + 1 ≤ (group b ts r).1.i := by
  have h1 := tok_ways ts (isT tOrder) r.1
  have hf : Fwd ts.length (expect ts tOrder r.1) (group b ts r).1 := by
    unfold group head
    exact (((fwd_name ts (expect ts tOrder r.1)).trans (fwd_expect ts tOpen _)).trans (fwd_items b ts (name ts (expect ts tOrder r.1)).1 (ts.length + 1) (expect ts tOpen (name ts (expect ts tOrder r.1)).2, r.2))).trans (fwd_expect ts tClose _)
  rcases h1 with ⟨h2, _⟩ | ⟨_, e⟩ | ⟨_, _, _, e⟩
  · exact absurd h h2
  · left
    have e2 : expect ts tOrder r.1 = ⟨r.1.i, 3⟩ := by unfold expect; rw [e]
    rw [e2] at hf
    rw [hf.err (by simp)]
    simp
  · right
    have e2 : expect ts tOrder r.1 = ⟨r.1.i + 1, 0⟩ := by unfold expect; rw [e]
    rw [e2] at hf
    exact hf.up
/-- The item's first token is passed. -/
theorem item_more (b : Bool) (ts : List Tok) (o : List UInt8) (s : St) : s.i + 1 ≤ (item b ts o ⟨s.i + 1, s.e⟩).2.i := (fwd_item b ts o ⟨s.i + 1, s.e⟩).up

/-! ### The program's parser and the reference's part in dropped items alone -/
structure Like (r r' : St × List It) : Prop where
  st : r.1 = r'.1
  it : r.1.e = 0 → r.2 = r'.2
theorem num_like (b b' : Bool) (ts : List Tok) (lo hi : Int) (s : St) : (num b ts lo hi s).2 = (num b' ts lo hi s).2 ∧ ((num b ts lo hi s).2.e = 0 → (num b ts lo hi s).1 = (num b' ts lo hi s).1) := by
  unfold num
  split
  · exact ⟨rfl, fun h => by simp at h⟩
  · exact ⟨rfl, fun _ => rfl⟩
theorem item_like (b b' : Bool) (ts : List Tok) (o : List UInt8) (s : St) : (item b ts o s).2 = (item b' ts o s).2 ∧ ((item b ts o s).2.e = 0 → (item b ts o s).1 = (item b' ts o s).1) := by
  have hq := num_like b b' ts 1 1000 (expect ts tQuantity (itemP ts s).2)
  have hd := num_like b b' ts 0 1000000 (expect ts tDue (num b ts 1 1000 (expect ts tQuantity (itemP ts s).2)).2)
  have fd := fwd_num b ts 0 1000000 (expect ts tDue (num b ts 1 1000 (expect ts tQuantity (itemP ts s).2)).2)
  have fs := fwd_expect ts tSemi (num b ts 0 1000000 (expect ts tDue (num b ts 1 1000 (expect ts tQuantity (itemP ts s).2)).2)).2
  have fe := fwd_expect ts tDue (num b ts 1 1000 (expect ts tQuantity (itemP ts s).2)).2
  unfold item itemD itemQ
  rw [← hq.1]
  refine ⟨by rw [← hd.1], fun h => ?_⟩
  simp only at h
  have e1 : (num b ts 0 1000000 (expect ts tDue (num b ts 1 1000 (expect ts tQuantity (itemP ts s).2)).2)).2.e = 0 := by
    apply Classical.byContradiction
    intro hn
    rw [fs.err hn] at h
    exact hn h
  have e2 : (expect ts tDue (num b ts 1 1000 (expect ts tQuantity (itemP ts s).2)).2).e = 0 := by
    apply Classical.byContradiction
    intro hn
    rw [fd.err hn] at e1
    exact hn e1
  have e3 : (num b ts 1 1000 (expect ts tQuantity (itemP ts s).2)).2.e = 0 := by
    apply Classical.byContradiction
    intro hn
    rw [fe.err hn] at e2
    exact hn e2
  rw [hq.2 e3, hd.2 e1]
theorem items_like (b b' : Bool) (ts : List Tok) (o : List UInt8) : ∀ (f : Nat) (r r' : St × List It), Like r r' → Like (items b ts o f r) (items b' ts o f r')
  | 0, _, _, h => h
  | f + 1, (s, l), (s', l'), h => by
    obtain ⟨hs, hl⟩ := h
    simp only at hs hl
    subst hs
    unfold items
    simp only
    by_cases hn : next ts tPart s = true
    · rw [if_pos hn, if_pos hn]
      have h1 := item_like b b' ts o ⟨s.i + 1, s.e⟩
      refine items_like b b' ts o f _ _ ⟨h1.1, fun h => ?_⟩
      simp only at h ⊢
      rw [h1.2 h, hl (next_lt hn).1]
    · rw [if_neg hn, if_neg hn]
      exact ⟨rfl, hl⟩
theorem group_like (b b' : Bool) (ts : List Tok) (r r' : St × List It) (h : Like r r') : Like (group b ts r) (group b' ts r') := by
  obtain ⟨s, l⟩ := r
  obtain ⟨s', l'⟩ := r'
  obtain ⟨hs, hl⟩ := h
  simp only at hs hl
  subst hs
  have fh := fwd_head ts s
  have h1 := items_like b b' ts (head ts s).1 (ts.length + 1) ((head ts s).2, l) ((head ts s).2, l') ⟨rfl, fun h => hl (by
    simp only at h
    apply Classical.byContradiction
    intro hn
    rw [fh.err hn] at h
    exact hn h)⟩
  unfold group
  simp only
  refine ⟨by simp only; rw [h1.st], fun h => h1.it ?_⟩
  simp only at h
  apply Classical.byContradiction
  intro hn
  rw [(fwd_expect ts tClose _).err hn] at h
  exact hn h
theorem groups_like (b b' : Bool) (ts : List Tok) : ∀ (f : Nat) (r r' : St × List It), Like r r' → Like (groups b ts f r) (groups b' ts f r')
  | 0, _, _, h => h
  | f + 1, r, r', h => by
    unfold groups
    rw [← h.st]
    by_cases hn : r.1.e = 0 ∧ r.1.i < ts.length
    · rw [if_pos hn, if_pos hn]
      exact groups_like b b' ts f _ _ (group_like b b' ts r r' h)
    · rw [if_neg hn, if_neg hn]
      exact h
theorem parse_like (b b' : Bool) (l : List UInt8) : parse b l = parse b' l := by
  have h : ∀ ts, Like (fin b ts) (fin b' ts) := fun ts => groups_like b b' ts _ _ _ ⟨rfl, fun _ => rfl⟩
  unfold parse result
  by_cases he : (Lex.tokens l).err ≠ 0
  · rw [if_pos he, if_pos he]
  · rw [if_neg he, if_neg he]
    have hh := h (Lex.tokens l).toks
    rw [← hh.st]
    by_cases h2 : (fin b (Lex.tokens l).toks).1.e ≠ 0
    · rw [if_pos h2, if_pos h2]
    · rw [if_neg h2, if_neg h2, ← hh.it (by simpa using h2)]
/-- The error of a parse is one of four. -/
theorem fwd_groups (b : Bool) (ts : List Tok) : ∀ (f : Nat) (r : St × List It), Fwd ts.length r.1 (groups b ts f r).1
  | 0, r => Fwd.refl _ _
  | f + 1, r => by
    unfold groups
    split
    · exact (fwd_group b ts r).trans (fwd_groups b ts f _)
    · exact Fwd.refl _ _
end Go.Proofs.YteldekkodhfkkaaGreatDoor.Pq
