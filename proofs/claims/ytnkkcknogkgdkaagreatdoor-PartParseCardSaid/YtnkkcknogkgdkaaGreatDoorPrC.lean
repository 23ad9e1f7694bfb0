/- Walks: the reference's parser reads a number. Conditions: the parser and its tokens lie in memory, apart. -/
import Derived.Test.YtnkkcknogkgdkaaGreatDoorPfA
import Derived.Test.YtnkkcknogkgdkaaGreatDoorPaP2

namespace Go.Proofs.YtnkkcknogkgdkaaGreatDoor.Pa
open Go
open Go.Proofs.YtnkkcknogkgdkaaGreatDoor.Lex (Tok)
open Go.Proofs.YtnkkcknogkgdkaaGreatDoor.Ge (V)

def rcircleO : Op Outline := bnd pointO fun c => bnd (need kRadius) fun _ => bnd (numO 1 2000) fun r => ret ⟨true, c, r, []⟩
def rpathO : Op Outline := bnd pointO fun p => bnd (rstepsO big [⟨false, p, (0, 0), false⟩]) fun l => ret ⟨false, (0, 0), 0, l⟩
def routlineO : Op Outline := bnd (optO kCircle) fun b => if b = true then rcircleO else rpathO
theorem bnd_assoc {α β γ} (F : Op α) (G : α → Op β) (H : β → Op γ) : bnd (bnd F G) H = bnd F fun a => bnd (G a) H := by
 funext L i
 unfold bnd
 cases F L i <;> rfl
theorem bnd_ret_left {α β} (a : α) (H : α → Op β) : bnd (ret a) H = H a := rfl
theorem bnd_congr {α β} {F F' : Op α} {G : α → Op β} {L : List Tok} {i : Nat} (h : F L i = F' L i) : bnd F G L i = bnd F' G L i := by unfold bnd; rw [h]
theorem opt_then {β} (s : List UInt8) (G : Bool → Op β) (L : List Tok) (i : Nat) : bnd (optO s) G L i = if isT L s i = true then G true L (i + 1) else G false L i := by
 unfold bnd optO
 cases isT L s i <;> rfl
theorem outline_same {L : List Tok} (hL : L.length ≤ 20000) (i : Nat) : bnd routlineO (fun o => bnd (need kSemi) fun _ => ret o) L i = outlineO L i := by
 unfold routlineO outlineO
 rw [bnd_assoc, opt_then, opt_then]
 cases hc : isT L kCircle i with
 | true =>
  simp only [if_true]
  unfold rcircleO circleO
  simp only [bnd_assoc, bnd_ret_left]
 | false =>
  simp only [Bool.false_eq_true, if_false]
  unfold rpathO pathO
  simp only [bnd_assoc, bnd_ret_left]
  cases hp : pointO L i with
  | no k e => rw [bnd_no hp, bnd_no hp]
  | ok p j =>
   rw [bnd_ok hp, bnd_ok hp]
   have e : bnd (rstepsO big [⟨false, p, (0, 0), false⟩]) (fun l => bnd (need kSemi) fun _ => ret (α := Outline) ⟨false, (0, 0), 0, l⟩) = bnd (bnd (rstepsO big [⟨false, p, (0, 0), false⟩]) fun l => bnd (need kSemi) fun _ => ret l) fun l => ret ⟨false, (0, 0), 0, l⟩ := by simp only [bnd_assoc, bnd_ret_left]
   rw [e]
   rcases steps_same L big [⟨false, p, (0, 0), false⟩] j (by unfold big; omega) with h | h
   ·exact bnd_congr h
   ·exact absurd h (by decide)
theorem outline_ran {L : List Tok} {E : Nat} (hL : L.length ≤ 20000) {st t u : St} {o : Outline} (h1 : Ran routlineO L E st o t) (h2 : Ran (need kSemi) L E t () u) : Ran outlineO L E st o u :=
 (h1.bnd (G := fun o => bnd (need kSemi) fun _ => ret o) (h2.bnd (ran_ret L E u o))).same fun i _ => outline_same hL i

/-! ### What is still to be read -/
/-- What F reads from state st is what H reads from st0. -/
def Goes {α} (F : Op α) (L : List Tok) (E : Nat) (st : St) (H : Op α) (st0 : St) : Prop := ∀ a u, Ran F L E st a u → Ran H L E st0 a u
theorem Goes.refl {α} (F : Op α) (L : List Tok) (E : Nat) (st : St) : Goes F L E st F st := fun _ _ h => h
theorem Goes.step {α β} {F : Op β} {G : β → Op α} {H : Op α} {L : List Tok} {E : Nat} {st t st0 : St} {v : β} (h : Goes (bnd F G) L E st H st0) (h1 : Ran F L E st v t) : Goes (G v) L E t H st0 := fun a u h2 => h a u (h1.bnd h2)
theorem Goes.last {α} {H : Op α} {L : List Tok} {E : Nat} {st st0 : St} {a : α} (h : Goes (ret a) L E st H st0) : Ran H L E st0 a st := h a st (ran_ret L E st a)
/-- A state in which it stands at a token of the text, or none. -/
def St.fits (L : List Tok) : St → Prop
 | .ok i => i ≤ L.length
 | .bad _ _ => True
def isS (L : List Tok) (s : List UInt8) : St → Bool
 | .ok i => isT L s i
 | .bad _ _ => false
def nextS : St → Bool → St
 | .ok i, true => .ok (i + 1)
 | st, _ => st
theorem isS_ok {L : List Tok} {s : List UInt8} {st : St} (h : isS L s st = true) : ∃ i, st = .ok i ∧ isT L s i = true := by
 cases st with
 | bad k e => cases h
 | ok i => exact ⟨i, rfl, h⟩
theorem nextS_no (st : St) : nextS st false = st := by cases st <;> rfl
theorem ran_opt (L : List Tok) (E : Nat) (s : List UInt8) (st : St) : Ran (optO s) L E st (isS L s st) (nextS st (isS L s st)) := by
 cases st with
 | bad k e => rfl
 | ok i =>
  cases hq : isT L s i <;> simp [Ran, optO, isS, hq, nextS]
/-- An option that is there, one that is not. -/
theorem Goes.opt {α} {s : List UInt8} {G : Bool → Op α} {H : Op α} {L : List Tok} {E : Nat} {st st0 : St} {q : Bool} (h : Goes (bnd (optO s) G) L E st H st0) (hq : isS L s st = q) : Goes (G q) L E (nextS st q) H st0 := by
 have := h.step (ran_opt L E s st)
 rwa [hq] at this
def fuel (L : List Tok) (f : Nat) : St → Prop
 | .ok i => L.length < f + i
 | .bad _ _ => True
theorem Goes.turns_end {α} {f : Nat} {ts : List Int} {G : List Int → Op α} {H : Op α} {L : List Tok} {E : Nat} {st st0 : St} (h : Goes (bnd (turnsO f ts) G) L E st H st0) (hq : isS L kComma st = false) : Goes (G ts) L E st H st0 := by
 refine h.step ?_
 cases st with
 | bad k e => rfl
 | ok i =>
  cases f with
  | zero => exact ⟨rfl, rfl⟩
  | succ f =>
   have hq' : isT L kComma i = false := hq
   simp [Ran, turnsO, bnd, optO, hq', ret]
theorem Goes.turns_more {α} {f : Nat} {ts : List Int} {G : List Int → Op α} {H : Op α} {L : List Tok} {E i : Nat} {st0 t : St} {v : Int} (h : Goes (bnd (turnsO (f + 1) ts) G) L E (.ok i) H st0) (hq : isT L kComma i = true) (h1 : Ran (numO (ts.getLastD 0 + 1) 7) L E (.ok (i + 1)) v t) : Goes (bnd (turnsO f (ts ++ [v])) G) L E t H st0 := by
 intro a u h2
 refine h a u ?_
 have h3 : Ran (bnd (numO (ts.getLastD 0 + 1) 7) fun n => bnd (turnsO f (ts ++ [n])) G) L E (.ok (i + 1)) a u := h1.bnd h2
 unfold Ran at h3 ⊢
 simp only at h3 ⊢
 have e : bnd (turnsO (f + 1) ts) G L i = bnd (numO (ts.getLastD 0 + 1) 7) (fun n => bnd (turnsO f (ts ++ [n])) G) L (i + 1) := by
  simp only [turnsO, bnd, optO, hq, if_true]
  cases numO (ts.getLastD 0 + 1) 7 L (i + 1) <;> rfl
 rw [e]
 exact h3
theorem Goes.holes_end {α} {f : Nat} {hs : List Outline} {G : List Outline → Op α} {H : Op α} {L : List Tok} {E : Nat} {st st0 : St} (h : Goes (bnd (holesO f hs) G) L E st H st0) (hq : isS L kHole st = false) : Goes (G hs) L E st H st0 := by
 refine h.step ?_
 cases st with
 | bad k e => rfl
 | ok i =>
  cases f with
  | zero => exact ⟨rfl, rfl⟩
  | succ f =>
   have hq' : isT L kHole i = false := hq
   simp [Ran, holesO, bnd, optO, hq', ret]
theorem Goes.holes_more {α} {f : Nat} {hs : List Outline} {G : List Outline → Op α} {H : Op α} {L : List Tok} {E i : Nat} {st0 t : St} {v : Outline} (h : Goes (bnd (holesO (f + 1) hs) G) L E (.ok i) H st0) (hq : isT L kHole i = true) (h1 : Ran outlineO L E (.ok (i + 1)) v t) : Goes (bnd (holesO f (hs ++ [v])) G) L E t H st0 := by
 intro a u h2
 refine h a u ?_
 have h3 : Ran (bnd outlineO fun n => bnd (holesO f (hs ++ [n])) G) L E (.ok (i + 1)) a u := h1.bnd h2
 unfold Ran at h3 ⊢
 simp only at h3 ⊢
 have e : bnd (holesO (f + 1) hs) G L i = bnd outlineO (fun n => bnd (holesO f (hs ++ [n])) G) L (i + 1) := by
  simp only [holesO, bnd, optO, hq, if_true]
  cases outlineO L (i + 1) <;> rfl
 rw [e]
 exact h3
theorem Goes.steps_end {α} {f : Nat} {l : List Step} {G : List Step → Op α} {H : Op α} {L : List Tok} {E : Nat} {st st0 : St} (h : Goes (bnd (rstepsO f l) G) L E st H st0) (h1 : isS L kOpen st = false) (h2 : isS L kArc st = false) : Goes (G l) L E st H st0 := by
 refine h.step ?_
 cases st with
 | bad k e => rfl
 | ok i =>
  cases f with
  | zero => exact ⟨rfl, rfl⟩
  | succ f =>
   have h1' : isT L kOpen i = false := h1
   have h2' : isT L kArc i = false := h2
   simp [Ran, rstepsO, h1', h2']
theorem Goes.steps_more {α} {f : Nat} {l : List Step} {G : List Step → Op α} {H : Op α} {L : List Tok} {E i : Nat} {st0 t : St} {v : Step} (h : Goes (bnd (rstepsO (f + 1) l) G) L E (.ok i) H st0) (hq : isT L kOpen i = true ∨ isT L kArc i = true) (h1 : Ran stepO L E (.ok i) v t) : Goes (bnd (rstepsO f (l ++ [v])) G) L E t H st0 := by
 intro a u h2
 refine h a u ?_
 have h3 : Ran (bnd stepO fun n => bnd (rstepsO f (l ++ [n])) G) L E (.ok i) a u := h1.bnd h2
 unfold Ran at h3 ⊢
 simp only at h3 ⊢
 have e : bnd (rstepsO (f + 1) l) G L i = bnd stepO (fun n => bnd (rstepsO f (l ++ [n])) G) L i := by
  unfold bnd
  have e1 : rstepsO (f + 1) l L i = bnd stepO (fun s => rstepsO f (l ++ [s])) L i := by
   show (if isT L kOpen i = true ∨ isT L kArc i = true then _ else _) = _
   rw [if_pos hq]
  rw [e1]
  unfold bnd
  cases stepO L i <;> rfl
 rw [e]
 exact h3
theorem step_ran_arc {L : List Tok} {E i : Nat} {v : Step} {t : St} (ha : isT L kArc i = true) (h : Ran arcO L E (.ok (i + 1)) v t) : Ran stepO L E (.ok i) v t := by
 unfold Ran at h ⊢
 simp only at h ⊢
 rw [show stepO L i = arcO L (i + 1) by simp only [stepO, bnd, optO, ha, if_true]]
 exact h
theorem step_ran_line {L : List Tok} {E i : Nat} {v : Step} {t : St} (ha : isT L kArc i = false) (h : Ran lineO L E (.ok i) v t) : Ran stepO L E (.ok i) v t := by
 unfold Ran at h ⊢
 simp only at h ⊢
 rw [show stepO L i = lineO L i by simp only [stepO, bnd, optO, ha, Bool.false_eq_true, if_false]]
 exact h
/-- How the readers move in the text. -/
theorem Ran.fits {α} {F : Op α} {L : List Tok} {E : Nat} {st t : St} {a : α} (h : Ran F L E st a t) (hA : Adv F) (hf : St.fits L st) : St.fits L t := by
 cases st with
 | bad k e => rw [show t = .bad k e from h]; trivial
 | ok i =>
  unfold Ran at h
  simp only at h
  have := (hA L i).2 hf
  cases hx : F L i with
  | ok x j =>
   rw [hx] at h this
   rw [h.2]
   exact this
  | no k e =>
   rw [hx] at h
   rw [h]
   trivial
theorem Ran.fuel {α} {F : Op α} {L : List Tok} {E i f : Nat} {t : St} {a : α} (h : Ran F L E (.ok i) a t) (hf : L.length < (f + 1) + i) (hlt : ∀ x j, F L i = .ok x j → i < j) : Pa.fuel L f t := by
 unfold Ran at h
 simp only at h
 cases hx : F L i with
 | ok x j =>
  rw [hx] at h
  rw [h.2]
  have := hlt x j hx
  show L.length < f + j
  omega
 | no k e =>
  rw [hx] at h
  rw [h]
  trivial
theorem Ran.fuel0 {α} {F : Op α} {L : List Tok} {E i f : Nat} {t : St} {a : α} (h : Ran F L E (.ok i) a t) (hA : Adv F) (hf : L.length < f + i) : Pa.fuel L f t := by
 unfold Ran at h
 simp only at h
 have h1 := (hA L i).1
 cases hx : F L i with
 | ok x j =>
  rw [hx] at h h1
  rw [h.2]
  simp only [R.idx] at h1
  show L.length < f + j
  omega
 | no k e =>
  rw [hx] at h
  rw [h]
  trivial
theorem ran_grain_no {L : List Tok} {E : Nat} {st : St} (h : isS L kGrain st = false) : Ran grainO L E st 0 st := by
 cases st with
 | bad k e => rfl
 | ok i =>
  have h' : isT L kGrain i = false := h
  simp [Ran, grainO, bnd, optO, h', ret]
theorem ran_grain_x {L : List Tok} {E i : Nat} {u : St} (h1 : isT L kGrain i = true) (h2 : isT L kX (i + 1) = true) (h3 : Ran (need kSemi) L E (.ok (i + 1 + 1)) () u) : Ran grainO L E (.ok i) 1 u := by
 unfold Ran at h3 ⊢
 simp only at h3 ⊢
 simp only [grainO, bnd, optO, h1, h2, if_true]
 cases hx : need kSemi L (i + 1 + 1) with
 | ok a j => rw [hx] at h3; exact ⟨rfl, h3.2⟩
 | no k e => rw [hx] at h3; exact h3
theorem ran_grain_y {L : List Tok} {E i : Nat} {u : St} (h1 : isT L kGrain i = true) (h2 : isT L kX (i + 1) = false) (h3 : isT L kY (i + 1) = true) (h4 : Ran (need kSemi) L E (.ok (i + 1 + 1)) () u) : Ran grainO L E (.ok i) 2 u := by
 unfold Ran at h4 ⊢
 simp only at h4 ⊢
 simp only [grainO, bnd, optO, h1, h2, h3, if_true, Bool.false_eq_true, if_false]
 cases hx : need kSemi L (i + 1 + 1) with
 | ok a j => rw [hx] at h4; exact ⟨rfl, h4.2⟩
 | no k e => rw [hx] at h4; exact h4
theorem ran_grain_bad {L : List Tok} {E i : Nat} {t u : St} (h1 : isT L kGrain i = true) (h2 : isT L kX (i + 1) = false) (h3 : isT L kY (i + 1) = false) (h4 : t = .bad (offs L E (i + 1)) 3) (h5 : Ran (need kSemi) L E t () u) : Ran grainO L E (.ok i) 0 u := by
 subst h4
 have h6 : u = .bad (offs L E (i + 1)) 3 := h5
 subst h6
 unfold Ran
 simp only [grainO, bnd, optO, h1, h2, h3, if_true, Bool.false_eq_true, if_false, failO]
theorem ran_tol_no {L : List Tok} {E : Nat} {st : St} (h : isS L kTol st = false) : Ran tolO L E st 1 st := by
 cases st with
 | bad k e => rfl
 | ok i =>
  have h' : isT L kTol i = false := h
  simp [Ran, tolO, bnd, optO, h', ret]
theorem ran_tol_yes {L : List Tok} {E i : Nat} {t u : St} {n : Int} (h1 : isT L kTol i = true) (h2 : Ran (numO 1 50) L E (.ok (i + 1)) n t) (h3 : Ran (need kSemi) L E t () u) : Ran tolO L E (.ok i) n u := by
 have h4 : Ran (bnd (numO 1 50) fun n => bnd (need kSemi) fun _ => ret n) L E (.ok (i + 1)) n u := h2.bnd (h3.bnd (ran_ret L E u n))
 unfold Ran at h4 ⊢
 simp only at h4 ⊢
 rw [show tolO L i = bnd (numO 1 50) (fun n => bnd (need kSemi) fun _ => ret n) L (i + 1) by simp only [tolO, bnd, optO, h1, if_true]]
 exact h4
theorem ran_circle {L : List Tok} {E i : Nat} {o : Outline} {t : St} (h1 : isT L kCircle i = true) (h : Ran rcircleO L E (.ok (i + 1)) o t) : Ran routlineO L E (.ok i) o t := by
 unfold Ran at h ⊢
 simp only at h ⊢
 rw [show routlineO L i = rcircleO L (i + 1) by simp only [routlineO, bnd, optO, h1, if_true]]
 exact h
theorem ran_path {L : List Tok} {E : Nat} {st : St} {o : Outline} {t : St} (h1 : isS L kCircle st = false) (h : Ran rpathO L E st o t) : Ran routlineO L E st o t := by
 cases st with
 | bad k e => exact h
 | ok i =>
  have h1' : isT L kCircle i = false := h1
  unfold Ran at h ⊢
  simp only at h ⊢
  rw [show routlineO L i = rpathO L i by simp only [routlineO, bnd, optO, h1', Bool.false_eq_true, if_false]]
  exact h
end Go.Proofs.YtnkkcknogkgdkaaGreatDoor.Pa

namespace Go.Proofs.YtnkkcknogkgdkaaGreatDoor.PaW
open Go Go.RowKit Go.Proofs.YtnkkcknogkgdkaaGreatDoor.Mem Go.Proofs.YtnkkcknogkgdkaaGreatDoor.Pa
open Go.Proofs.YtnkkcknogkgdkaaGreatDoor.Ge (V)
open Go.Proofs.YtnkkcknogkgdkaaGreatDoor.Lex (Tok)
open Go.Proofs.YtnkkcknogkgdkaaGreatDoor.LexW (tokCells)
attribute [local go_sem ↓] Go.wp_at_zero Go.wp_at_succ

def robj (A : Option Addr) (n c i E pos : Nat) (e : Int) (m : Bool) : Obj := .cells #[.slice A n c, .int .i64 (i : Int), .int .i64 (E : Int), .int .i64 (pos : Int), .int .i64 e, .bool m] 100 (0, 0)
def StIs (st : St) (mn : Bool) (i pos : Nat) (e : Int) (m : Bool) : Prop := match st with
 | .ok j => i = j ∧ e = 0 ∧ m = mn
 | .bad k er => pos = k ∧ e = er ∧ er ≠ 0
/-- The reference's parser and its tokens in a world. -/
structure Rc (w : World) (b : Nat) (A : Option Addr) (c : Nat) (L : List Tok) (E : Nat) (st : St) (mn : Bool) : Prop where
 obj : ∃ (i pos : Nat) (e : Int) (m : Bool), w.heap[b]? = some (robj A L.length c i E pos e m) ∧ i ≤ L.length ∧ StIs st mn i pos e m
 row : Row w A (L.flatMap tokCells)
 apart : Apart A b
 few : L.length ≤ 20000
theorem Rc.below {w w' : World} {b : Nat} {A : Option Addr} {c : Nat} {L : List Tok} {E : Nat} {st : St} {mn : Bool} (h : Rc w b A c L E st mn) (hb : Below w.heap.size w w') : Rc w' b A c L E st mn := by
 obtain ⟨⟨i, pos, e, m, ho, hi, hs⟩, hr, ha, hf⟩ := h
 exact ⟨⟨i, pos, e, m, p_below ho hb, hi, hs⟩, hr.below hb, ha, hf⟩
theorem Rc.put {w w' : World} {b : Nat} {A : Option Addr} {c : Nat} {L : List Tok} {E : Nat} {st st' : St} {mn mn' : Bool} {i pos : Nat} {e : Int} {m : Bool} (h : Rc w b A c L E st mn) (hg : w.grownBy w' (some b)) (ho : w'.heap[b]? = some (robj A L.length c i E pos e m)) (hi : i ≤ L.length) (hs : StIs st' mn' i pos e m) : Rc w' b A c L E st' mn' :=
 ⟨⟨i, pos, e, m, ho, hi, hs⟩, row_grown h.row h.apart hg, h.apart, h.few⟩
def failO (e : Int) : Pa.Op Unit := fun _ i => .no i e
/-- What a call of the reference's parser does. -/
def RRes {α : Type} (val : α → Value) (F : Pa.Op α) (w : World) (b : Nat) (A : Option Addr) (c : Nat) (L : List Tok) (E : Nat) (mn : Bool) (st : St) (e : Ending) (w' : World) : Prop :=
 ∃ (a : α) (t : St), e = .returned (val a) ∧ Ran F L E st a t ∧ Rc w' b A c L E t mn ∧ w.grownBy w' (some b)
set_option maxRecDepth 100000 in
set_option maxHeartbeats 1000000 in
theorem rfail_any (er : Int) (her : er ≠ 0) (b : Nat) (A : Option Addr) (c : Nat) (L : List Tok) (E : Nat) (mn : Bool) (st : St) (w : World) (h : Rc w b A c L E st mn) :
  Calls Tryz.prog 93 #[.pointer (some ⟨b, 0, none⟩), .int .i64 er] w (RRes (fun _ => .tuple #[]) (failO er) w b A c L E mn st) := by
 obtain ⟨i, pos, er0, m0, ho, hi0, hs⟩ := h.obj
 unfold robj at ho
 have c0 := cell_of ho 0 (.slice A L.length c) rfl
 have c1 := cell_of ho 1 (.int .i64 (i : Int)) rfl
 have c2 := cell_of ho 2 (.int .i64 (E : Int)) rfl
 have c3 := cell_of ho 3 (.int .i64 (pos : Int)) rfl
 have c4 := cell_of ho 4 (.int .i64 er0) rfl
 have hlt := blk_lt ho
 have hfew := h.few
 cases st with
 | bad k e =>
  obtain ⟨rfl, rfl, hne⟩ := hs
  have n1 : (er0 != 0) = true := bne_iff_ne.2 hne
  have H := Lib.hid h
  clear h
  go_enter Tryz.func93, Tryz.ntmps93
  go_wp2
  refine bodyPost_ret (results_none rfl _ _ _) rfl ?_
  exact ⟨(), _, rfl, rfl, H.out, grown_refl _ _⟩
 | ok j =>
  obtain ⟨rfl, rfl, rfl⟩ := hs
  have n1 : ((0 : Int) != 0) = false := rfl
  have f3 := free_of ho 3
  have f4 := free_of ho 4
  have H := Lib.hid h
  have HG := Lib.hid (grown_set (grown_set (grown_refl w (some b)) 4 (.int .i64 er)) 3 (.int .i64 (E : Int)))
  have HO : Hid (((w.setCell ⟨b, 4, none⟩ (.int .i64 er)).setCell ⟨b, 3, none⟩ (.int .i64 (E : Int))).heap[b]? = some (robj A L.length c i E E er m0)) := Lib.hid (by simpa [robj] using block_set (block_set ho 4 (.int .i64 er)) 3 (.int .i64 (E : Int)))
  by_cases hi : i < L.length
  ·have hi1 : (0 : Int) ≤ (i : Int) := by omega
   have hi2 : (i : Int) < (L.length : Int) := by omega
   have HOF := Lib.hid (offs_at (E := E) hi)
   obtain ⟨g, off, rfl, hg, ca⟩ := row_get tok_len (by decide) h.row (by omega)
   have a0 := ca i hi 0 (by decide)
   have a1 := ca i hi 1 (by decide)
   have a2 := ca i hi 2 (by decide)
   have a3 := ca i hi 3 (by decide)
   have hgb : g ≠ b := h.apart g off rfl
   clear ca
   clear h
   generalize L[i] = t at *
   simp only [tokCells, List.getElem?_cons_zero, List.getElem?_cons_succ, Nat.add_zero] at a0 a1 a2 a3
   have HG2 := Lib.hid (grown_set HG.out 3 (.int .i64 (t.pos : Int)))
   have HO2 : Hid ((((w.setCell ⟨b, 4, none⟩ (.int .i64 er)).setCell ⟨b, 3, none⟩ (.int .i64 (E : Int))).setCell ⟨b, 3, none⟩ (.int .i64 (t.pos : Int))).heap[b]? = some (robj (some ⟨g, off, none⟩) L.length c i E t.pos er m0)) := Lib.hid (by simpa [robj] using block_set HO.out 3 (.int .i64 (t.pos : Int)))
   go_enter Tryz.func93, Tryz.ntmps93
   go_wp2_with fail
   go_region
   go_wp2_with fail
   go_region
   go_wp2
   refine bodyPost_ret (results_none rfl _ _ _) rfl ?_
   exact ⟨(), .bad t.pos er, rfl, by show _ = St.bad (offs L E i) er; rw [HOF.out], by first | exact H.out.put (st' := .bad t.pos er) (mn' := m0) HG2.out HO2.out hi0 ⟨rfl, rfl, her⟩ | exact (H.out.put (st' := .bad t.pos er) (mn' := m0) HG2.out HO2.out hi0 ⟨rfl, rfl, her⟩).below (below_drewN (below_drewN (Below.refl _ _) 1) 1), by first | exact HG2.out | exact grown_below HG2.out (below_drewN (below_drewN (Below.refl _ _) 1) 1)⟩
  ·have hi2 : decide ((i : Int) < (L.length : Int)) = false := decide_eq_false (by omega)
   have HOF := Lib.hid (offs_end (E := E) (show L.length ≤ i by omega))
   clear h
   go_enter Tryz.func93, Tryz.ntmps93
   go_wp2_with fail
   go_region
   go_wp2
   refine bodyPost_ret (results_none rfl _ _ _) rfl ?_
   exact ⟨(), .bad E er, rfl, by show _ = St.bad (offs L E i) er; rw [HOF.out], by first | exact H.out.put (st' := .bad E er) (mn' := m0) HG.out HO.out hi0 ⟨rfl, rfl, her⟩ | exact (H.out.put (st' := .bad E er) (mn' := m0) HG.out HO.out hi0 ⟨rfl, rfl, her⟩).below (below_drewN (Below.refl _ _) _), by first | exact HG.out | exact grown_below HG.out (below_drewN (Below.refl _ _) _)⟩
set_option maxRecDepth 100000 in
set_option maxHeartbeats 1000000 in
theorem ris_any (s : List UInt8) (b : Nat) (A : Option Addr) (c : Nat) (L : List Tok) (E : Nat) (mn : Bool) (st : St) (w : World) (h : Rc w b A c L E st mn) :
  Calls Tryz.prog 145 #[.pointer (some ⟨b, 0, none⟩), .string ⟨s.toArray⟩] w fun e w' => e = .returned (.bool (isS L s st)) ∧ Below w.heap.size w w' := by
 obtain ⟨i, pos, er0, m0, ho, hi0, hs⟩ := h.obj
 unfold robj at ho
 have c0 := cell_of ho 0 (.slice A L.length c) rfl
 have c1 := cell_of ho 1 (.int .i64 (i : Int)) rfl
 have c2 := cell_of ho 2 (.int .i64 (E : Int)) rfl
 have c3 := cell_of ho 3 (.int .i64 (pos : Int)) rfl
 have c4 := cell_of ho 4 (.int .i64 er0) rfl
 have hlt := blk_lt ho
 have hfew := h.few
 cases st with
 | bad k e =>
  obtain ⟨rfl, rfl, hne⟩ := hs
  have n1 : (er0 == 0) = false := beq_eq_false_iff_ne.2 hne
  clear h
  unfold isS
  go_enter Tryz.func145, Tryz.ntmps145
  go_wp2_with fail
  go_quiet (fail)
  go_wp2
  go_ret
  exact ⟨rfl, below_drewN (Below.refl _ _) _⟩
 | ok j =>
  obtain ⟨rfl, rfl, rfl⟩ := hs
  have e1 : isS L s (.ok i) = isT L s i := rfl
  rw [e1]
  have hi1 : (0 : Int) ≤ (i : Int) := by omega
  by_cases hi : i < L.length
  ·rw [isT_at hi]
   obtain ⟨g, off, rfl, hg, ca⟩ := row_get tok_len (by decide) h.row (by omega)
   have a0 := ca i hi 0 (by decide)
   have a1 := ca i hi 1 (by decide)
   have a2 := ca i hi 2 (by decide)
   have a3 := ca i hi 3 (by decide)
   have hgb : g ≠ b := h.apart g off rfl
   clear ca
   have hi2 : (i : Int) < (L.length : Int) := by omega
   clear h
   generalize L[i] = t at *
   simp only [tokCells, List.getElem?_cons_zero, List.getElem?_cons_succ, Nat.add_zero] at a0 a1 a2 a3
   have es := text_eq t.text s
   by_cases hk : t.kind = 2
   ·rw [hk] at a0
    rw [decide_eq_false (show ¬ t.kind ≠ 2 by simp [hk]), Bool.false_and]
    go_enter Tryz.func145, Tryz.ntmps145
    go_wp2_with fail
    go_quiet (fail)
    go_wp2
    go_ret
    exact ⟨rfl, below_drewN (Below.refl _ _) _⟩
   ·have n1 : (t.kind != 2) = true := bne_iff_ne.2 hk
    rw [decide_eq_true (show t.kind ≠ 2 from hk), Bool.true_and]
    generalize (ByteArray.mk t.text.toArray) = TB at *
    generalize (ByteArray.mk s.toArray) = SB at *
    go_enter Tryz.func145, Tryz.ntmps145
    go_wp2_with fail
    go_quiet (fail)
    go_wp2
    go_ret
    exact ⟨rfl, below_drewN (Below.refl _ _) _⟩
  ·rw [isT_end (by omega)]
   have hi2 : decide ((i : Int) < (L.length : Int)) = false := decide_eq_false (by omega)
   clear h
   go_enter Tryz.func145, Tryz.ntmps145
   go_wp2_with fail
   go_quiet (fail)
   go_wp2
   go_ret
   exact ⟨rfl, below_drewN (Below.refl _ _) _⟩
set_option maxRecDepth 100000 in
set_option maxHeartbeats 1000000 in
theorem raccept_any (s : List UInt8) (b : Nat) (A : Option Addr) (c : Nat) (L : List Tok) (E : Nat) (mn : Bool) (st : St) (w : World) (h : Rc w b A c L E st mn) :
  Calls Tryz.prog 92 #[.pointer (some ⟨b, 0, none⟩), .string ⟨s.toArray⟩] w fun e w' => e = .returned (.bool (isS L s st)) ∧ Rc w' b A c L E (nextS st (isS L s st)) mn ∧ w.grownBy w' (some b) := by
 have HI := Lib.hid (ris_any s b A c L E mn st w h)
 have HP := Lib.hid h
 have HLT : Hid (isS L s st = true → ∃ i, st = .ok i ∧ i < L.length) := Lib.hid (fun hh => by
  cases st with
  | bad k e => cases hh
  | ok i => exact ⟨i, rfl, isT_lt hh⟩)
 have hfew := h.few
 clear h
 generalize isS L s st = q at *
 generalize (ByteArray.mk s.toArray) = SB at *
 cases q
 ·go_enter Tryz.func92, Tryz.ntmps92
  go_wp2_with fail
  refine HI.out.mono ?_
  rintro e w1 ⟨rfl, hb⟩
  go_wp2
  go_ret
  exact ⟨rfl, by have := HP.out.below hb; cases st <;> exact this, grown_below (grown_refl _ _) hb⟩
 ·obtain ⟨i, rfl, hil⟩ := HLT.out rfl
  go_enter Tryz.func92, Tryz.ntmps92
  go_wp2_with fail
  refine HI.out.mono ?_
  rintro e w1 ⟨rfl, hb⟩
  have HP1 := Lib.hid (HP.out.below hb)
  obtain ⟨j, pos, er0, m0, ho, hi0, hs⟩ := HP1.out.obj
  obtain ⟨rfl, rfl, rfl⟩ := hs
  unfold robj at ho
  have c1 := cell_of ho 1 (.int .i64 (j : Int)) rfl
  have f1 := free_of ho 1
  have hlt := blk_lt ho
  have x1 : (j : Int) + 1 ≤ 9223372036854775807 := by omega
  have HG := Lib.hid (grown_below (grown_refl w (some b)) hb)
  have HO : Hid ((w1.setCell ⟨b, 1, none⟩ (.int .i64 ((j + 1 : Nat) : Int))).heap[b]? = some (robj A L.length c (j + 1) E pos 0 m0)) := Lib.hid (by simpa [robj] using block_set ho 1 (.int .i64 ((j + 1 : Nat) : Int)))
  clear hb
  go_wp2
  go_ret
  exact ⟨rfl, HP1.out.put (grown_set (grown_refl _ _) _ _) HO.out (by omega) ⟨rfl, rfl, rfl⟩, grown_set HG.out _ _⟩
set_option maxRecDepth 100000 in
set_option maxHeartbeats 1000000 in
theorem rneed_any (s : List UInt8) (b : Nat) (A : Option Addr) (c : Nat) (L : List Tok) (E : Nat) (mn : Bool) (st : St) (w : World) (h : Rc w b A c L E st mn) :
  Calls Tryz.prog 90 #[.pointer (some ⟨b, 0, none⟩), .string ⟨s.toArray⟩] w (RRes (fun _ => .tuple #[]) (need s) w b A c L E mn st) := by
 have HI := Lib.hid (raccept_any s b A c L E mn st w h)
 have HF := Lib.hid (fun W hW => rfail_any 3 (by decide) b A c L E mn st W hW)
 have HR := Lib.hid (ran_opt L E s st)
 have HN : Hid (isS L s st = true → Ran (need s) L E st () (nextS st true)) := Lib.hid (fun hq => by
  cases st with
  | bad k e => cases hq
  | ok i => simp [Ran, need, show isT L s i = true from hq, nextS])
 have HM : Hid (isS L s st = false → ∀ t, Ran (failO 3) L E st () t → Ran (need s) L E st () t) := Lib.hid (fun hq t ht => by
  cases st with
  | bad k e => exact ht
  | ok i => simpa [Ran, need, show isT L s i = false from hq, failO] using ht)
 clear h HR
 generalize isS L s st = q at *
 generalize (ByteArray.mk s.toArray) = SB at *
 cases q
 ·go_enter Tryz.func90, Tryz.ntmps90
  go_wp2_with fail
  refine HI.out.mono ?_
  rintro e w1 ⟨rfl, hp, hg⟩
  have HP1 : Hid (Rc w1 b A c L E st mn) := Lib.hid (by cases st <;> exact hp)
  have HG := Lib.hid hg
  clear hp hg
  go_wp2_with fail
  refine (HF.out w1 HP1.out).mono ?_
  rintro e w2 ⟨_, t, rfl, hran, hrc, hg2⟩
  have HX := Lib.hid (And.intro (HM.out (by trivial) t hran) (And.intro hrc (HG.out.trans hg2)))
  clear hran hrc hg2
  go_wp2
  refine bodyPost_ret (results_none rfl _ _ _) rfl ?_
  exact ⟨(), t, rfl, HX.out.1, HX.out.2.1, HX.out.2.2⟩
 ·go_enter Tryz.func90, Tryz.ntmps90
  go_wp2_with fail
  refine HI.out.mono ?_
  rintro e w1 ⟨rfl, hp, hg⟩
  have HX := Lib.hid (And.intro hp hg)
  clear hp hg
  go_wp2
  refine bodyPost_ret (results_none rfl _ _ _) rfl ?_
  exact ⟨(), _, rfl, HN.out (by trivial), HX.out.1, HX.out.2⟩
end Go.Proofs.YtnkkcknogkgdkaaGreatDoor.PaW

namespace Go.Proofs.YtnkkcknogkgdkaaGreatDoor.PaW
open Go Go.RowKit Go.Proofs.YtnkkcknogkgdkaaGreatDoor.Mem Go.Proofs.YtnkkcknogkgdkaaGreatDoor.Pa
open Go.Proofs.YtnkkcknogkgdkaaGreatDoor.Ge (V)
open Go.Proofs.YtnkkcknogkgdkaaGreatDoor.Lex (Tok)
open Go.Proofs.YtnkkcknogkgdkaaGreatDoor.LexW (tokCells)
attribute [local go_sem ↓] Go.wp_at_zero Go.wp_at_succ

set_option maxRecDepth 100000 in
set_option maxHeartbeats 1000000 in
theorem rname_any (b : Nat) (A : Option Addr) (c : Nat) (L : List Tok) (E : Nat) (mn : Bool) (st : St) (w : World) (h : Rc w b A c L E st mn) :
  Calls Tryz.prog 91 #[.pointer (some ⟨b, 0, none⟩)] w (RRes strV nameO w b A c L E mn st) := by
 have HF := Lib.hid (fun W hW => rfail_any 3 (by decide) b A c L E mn st W hW)
 have HP := Lib.hid h
 obtain ⟨i, pos, er0, m0, ho, hi0, hs⟩ := h.obj
 have HO := Lib.hid ho
 unfold robj at ho
 have c0 := cell_of ho 0 (.slice A L.length c) rfl
 have c1 := cell_of ho 1 (.int .i64 (i : Int)) rfl
 have c2 := cell_of ho 2 (.int .i64 (E : Int)) rfl
 have c3 := cell_of ho 3 (.int .i64 (pos : Int)) rfl
 have c4 := cell_of ho 4 (.int .i64 er0) rfl
 have hlt := blk_lt ho
 have hfew := h.few
 cases st with
 | bad k e =>
  obtain ⟨rfl, rfl, hne⟩ := hs
  have n1 : (er0 != 0) = true := bne_iff_ne.2 hne
  have HNO : Hid (∀ t, Ran (failO 3) L E (.bad pos er0) () t → Ran nameO L E (.bad pos er0) [] t) := Lib.hid (fun t ht => ht)
  clear h
  go_enter Tryz.func91, Tryz.ntmps91
  go_wp2_with fail
  go_quiet (fail)
  go_wp2_with fail
  refine (HF.out _ (HP.out.below (below_drewN (Below.refl _ _) _))).mono ?_
  rintro e w1 ⟨_, t, rfl, hran, hrc, hg⟩
  have HX := Lib.hid (And.intro (HNO.out t hran) (And.intro hrc ((grown_below (grown_refl w (some b)) (below_drewN (Below.refl _ _) _)).trans hg)))
  clear hran hrc hg
  go_wp2
  go_ret
  exact ⟨[], t, rfl, HX.out.1, HX.out.2.1, HX.out.2.2⟩
 | ok j =>
  obtain ⟨rfl, rfl, rfl⟩ := hs
  have n1 : ((0 : Int) != 0) = false := rfl
  have hi1 : (0 : Int) ≤ (i : Int) := by omega
  by_cases hi : i < L.length
  ·have HGT := Lib.hid (List.getElem?_eq_getElem hi)
   obtain ⟨g, off, rfl, hg, ca⟩ := row_get tok_len (by decide) h.row (by omega)
   have a0 := ca i hi 0 (by decide)
   have a1 := ca i hi 1 (by decide)
   have a2 := ca i hi 2 (by decide)
   have a3 := ca i hi 3 (by decide)
   have hgb : g ≠ b := h.apart g off rfl
   clear ca
   have hi2 : (i : Int) < (L.length : Int) := by omega
   have hi3 : (L.length ≤ i) = False := eq_false (by omega)
   clear h
   generalize L[i] = t0 at *
   simp only [tokCells, List.getElem?_cons_zero, List.getElem?_cons_succ, Nat.add_zero] at a0 a1 a2 a3
   by_cases hk : t0.kind = 1
   ·have k1 : (t0.kind != 1) = false := by simp [hk]
    have HRN : Hid (Ran nameO L E (.ok i) t0.text (.ok (i + 1))) := Lib.hid (by simp [Ran, nameO, HGT.out, hk])
    have f1 := free_of ho 1
    have x1 : (i : Int) + 1 ≤ 9223372036854775807 := by omega
    have HO2 : Hid ((w.setCell ⟨b, 1, none⟩ (.int .i64 ((i + 1 : Nat) : Int))).heap[b]? = some (robj (some ⟨g, off, none⟩) L.length c (i + 1) E pos 0 m0)) := Lib.hid (by simpa [robj] using block_set ho 1 (.int .i64 ((i + 1 : Nat) : Int)))
    have HG2 := Lib.hid (grown_set (grown_refl w (some b)) 1 (.int .i64 ((i + 1 : Nat) : Int)))
    have HR2 : Hid (Rc (w.setCell ⟨b, 1, none⟩ (.int .i64 ((i + 1 : Nat) : Int))) b (some ⟨g, off, none⟩) c L E (.ok (i + 1)) m0) := Lib.hid (HP.out.put (st' := .ok (i + 1)) (mn' := m0) HG2.out HO2.out (by omega) ⟨rfl, rfl, rfl⟩)
    have hs1 : IntKind.i64.wrap (((i + 1 : Nat) : Int) - 1) = (i : Int) := by rw [wrapEq]; unfold wrap64; omega
    have hs2 : IntKind.i64.wrap (((i : Int) + 1) - 1) = (i : Int) := by rw [wrapEq]; unfold wrap64; omega
    clear HF hk
    go_enter Tryz.func91, Tryz.ntmps91
    go_wp2_with fail
    go_quiet (fail)
    go_wp2_with fail
    go_region
    go_wp2
    go_ret
    exact ⟨t0.text, .ok (i + 1), rfl, HRN.out, HR2.out.below (below_drewN (below_drewN (Below.refl _ _) _) _), grown_below HG2.out (below_drewN (below_drewN (Below.refl _ _) _) _)⟩
   ·have k1 : (t0.kind != 1) = true := bne_iff_ne.2 hk
    have HNO : Hid (∀ t, Ran (failO 3) L E (.ok i) () t → Ran nameO L E (.ok i) [] t) := Lib.hid (fun t ht => by simpa [Ran, nameO, failO, HGT.out, hk] using ht)
    clear hk
    go_enter Tryz.func91, Tryz.ntmps91
    go_wp2_with fail
    go_quiet (fail)
    go_wp2_with fail
    refine (HF.out _ (HP.out.below (below_drewN (Below.refl _ _) _))).mono ?_
    rintro e w1 ⟨_, t, rfl, hran, hrc, hg⟩
    have HX := Lib.hid (And.intro (HNO.out t hran) (And.intro hrc ((grown_below (grown_refl w (some b)) (below_drewN (Below.refl _ _) _)).trans hg)))
    clear hran hrc hg
    go_wp2
    go_ret
    exact ⟨[], t, rfl, HX.out.1, HX.out.2.1, HX.out.2.2⟩
  ·have hi2 : decide ((i : Int) < (L.length : Int)) = false := decide_eq_false (by omega)
   have hi3 : decide ((L.length : Int) ≤ (i : Int)) = true := decide_eq_true (by omega)
   have HNO : Hid (∀ t, Ran (failO 3) L E (.ok i) () t → Ran nameO L E (.ok i) [] t) := Lib.hid (fun t ht => by simpa [Ran, nameO, failO, List.getElem?_eq_none (show L.length ≤ i by omega)] using ht)
   clear h
   go_enter Tryz.func91, Tryz.ntmps91
   go_wp2_with fail
   go_quiet (fail)
   go_wp2_with fail
   refine (HF.out _ (HP.out.below (below_drewN (Below.refl _ _) _))).mono ?_
   rintro e w1 ⟨_, t, rfl, hran, hrc, hg⟩
   have HX := Lib.hid (And.intro (HNO.out t hran) (And.intro hrc ((grown_below (grown_refl w (some b)) (below_drewN (Below.refl _ _) _)).trans hg)))
   clear hran hrc hg
   go_wp2
   go_ret
   exact ⟨[], t, rfl, HX.out.1, HX.out.2.1, HX.out.2.2⟩
end Go.Proofs.YtnkkcknogkgdkaaGreatDoor.PaW

namespace Go.Proofs.YtnkkcknogkgdkaaGreatDoor.PaW
open Go Go.RowKit Go.Proofs.YtnkkcknogkgdkaaGreatDoor.Mem Go.Proofs.YtnkkcknogkgdkaaGreatDoor.Pa
open Go.Proofs.YtnkkcknogkgdkaaGreatDoor.Ge (V)
open Go.Proofs.YtnkkcknogkgdkaaGreatDoor.Lex (Tok)
open Go.Proofs.YtnkkcknogkgdkaaGreatDoor.LexW (tokCells)
attribute [local go_sem ↓] Go.wp_at_zero Go.wp_at_succ

set_option maxRecDepth 100000 in
set_option maxHeartbeats 1000000 in
theorem rnumber_any (lo hi : Int) (b : Nat) (A : Option Addr) (c : Nat) (L : List Tok) (E : Nat) (mn : Bool) (st : St) (w : World) (h : Rc w b A c L E st mn) :
  Calls Tryz.prog 94 #[.pointer (some ⟨b, 0, none⟩), .int .i64 lo, .int .i64 hi] w (RRes (Value.int .i64) (numO lo hi) w b A c L E mn st) := by
 have HF := Lib.hid (fun W hW => rfail_any 3 (by decide) b A c L E mn st W hW)
 have HF2 := Lib.hid (fun W hW => rfail_any 2 (by decide) b A c L E mn st W hW)
 have HP := Lib.hid h
 obtain ⟨i, pos, er0, m0, ho, hi0, hs⟩ := h.obj
 have HO := Lib.hid ho
 unfold robj at ho
 have c0 := cell_of ho 0 (.slice A L.length c) rfl
 have c1 := cell_of ho 1 (.int .i64 (i : Int)) rfl
 have c2 := cell_of ho 2 (.int .i64 (E : Int)) rfl
 have c3 := cell_of ho 3 (.int .i64 (pos : Int)) rfl
 have c4 := cell_of ho 4 (.int .i64 er0) rfl
 have hlt := blk_lt ho
 have hfew := h.few
 cases st with
 | bad k e =>
  obtain ⟨rfl, rfl, hne⟩ := hs
  have n1 : (er0 != 0) = true := bne_iff_ne.2 hne
  have HNO : Hid (∀ t, Ran (failO 3) L E (.bad pos er0) () t → Ran (numO lo hi) L E (.bad pos er0) 0 t) := Lib.hid (fun t ht => ht)
  clear h HF2
  go_enter Tryz.func94, Tryz.ntmps94
  go_wp2_with fail
  go_quiet (fail)
  go_wp2_with fail
  refine (HF.out _ (HP.out.below (below_drewN (Below.refl _ _) _))).mono ?_
  rintro e w1 ⟨_, t, rfl, hran, hrc, hg⟩
  have HX := Lib.hid (And.intro (HNO.out t hran) (And.intro hrc ((grown_below (grown_refl w (some b)) (below_drewN (Below.refl _ _) _)).trans hg)))
  clear hran hrc hg
  go_wp2
  go_ret
  exact ⟨0, t, rfl, HX.out.1, HX.out.2.1, HX.out.2.2⟩
 | ok j =>
  obtain ⟨rfl, rfl, rfl⟩ := hs
  have n1 : ((0 : Int) != 0) = false := rfl
  have hi1 : (0 : Int) ≤ (i : Int) := by omega
  by_cases hi_ : i < L.length
  ·have HGT := Lib.hid (List.getElem?_eq_getElem hi_)
   obtain ⟨g, off, rfl, hg, ca⟩ := row_get tok_len (by decide) h.row (by omega)
   have a0 := ca i hi_ 0 (by decide)
   have a1 := ca i hi_ 1 (by decide)
   have a2 := ca i hi_ 2 (by decide)
   have a3 := ca i hi_ 3 (by decide)
   have hgb : g ≠ b := h.apart g off rfl
   clear ca
   have hi2 : (i : Int) < (L.length : Int) := by omega
   have hi3 : (L.length ≤ i) = False := eq_false (by omega)
   clear h
   generalize L[i] = t0 at *
   simp only [tokCells, List.getElem?_cons_zero, List.getElem?_cons_succ, Nat.add_zero] at a0 a1 a2 a3
   by_cases hk : t0.kind = 2
   ·have k1 : (t0.kind != 2) = false := by simp [hk]
    by_cases hr : t0.n < lo ∨ hi < t0.n
    ·have HNO : Hid (∀ t, Ran (failO 2) L E (.ok i) () t → Ran (numO lo hi) L E (.ok i) 0 t) := Lib.hid (fun t ht => by simpa [Ran, numO, failO, HGT.out, hk, hr] using ht)
     clear hk HF
     by_cases hlo : t0.n < lo
     ·have d1 : (t0.n < lo) = True := eq_true hlo
      clear hr hlo
      go_enter Tryz.func94, Tryz.ntmps94
      go_wp2_with fail
      go_quiet (fail)
      go_wp2_with fail
      go_quiet (fail)
      go_wp2_with fail
      refine (HF2.out _ (HP.out.below (below_drewN (Below.refl _ _) _))).mono ?_
      rintro e w1 ⟨_, t, rfl, hran, hrc, hg⟩
      have HX := Lib.hid (And.intro (HNO.out t hran) (And.intro hrc ((grown_below (grown_refl w (some b)) (below_drewN (Below.refl _ _) _)).trans hg)))
      clear hran hrc hg
      go_wp2
      go_ret
      exact ⟨0, t, rfl, HX.out.1, HX.out.2.1, HX.out.2.2⟩
     ·have d1 : (t0.n < lo) = False := eq_false hlo
      have d2 : (hi < t0.n) = True := eq_true (by omega)
      clear hr hlo
      go_enter Tryz.func94, Tryz.ntmps94
      go_wp2_with fail
      go_quiet (fail)
      go_wp2_with fail
      go_quiet (fail)
      go_wp2_with fail
      refine (HF2.out _ (HP.out.below (below_drewN (Below.refl _ _) _))).mono ?_
      rintro e w1 ⟨_, t, rfl, hran, hrc, hg⟩
      have HX := Lib.hid (And.intro (HNO.out t hran) (And.intro hrc ((grown_below (grown_refl w (some b)) (below_drewN (Below.refl _ _) _)).trans hg)))
      clear hran hrc hg
      go_wp2
      go_ret
      exact ⟨0, t, rfl, HX.out.1, HX.out.2.1, HX.out.2.2⟩
    ·have d1 : (t0.n < lo) = False := eq_false (by omega)
     have d2 : (hi < t0.n) = False := eq_false (by omega)
     have HRN : Hid (Ran (numO lo hi) L E (.ok i) t0.n (.ok (i + 1))) := Lib.hid (by simp [Ran, numO, HGT.out, hk, hr])
     have f1 := free_of ho 1
     have x1 : (i : Int) + 1 ≤ 9223372036854775807 := by omega
     have HR2 : Hid (∀ q, Rc ((w.drewN q).setCell ⟨b, 1, none⟩ (.int .i64 ((i + 1 : Nat) : Int))) b (some ⟨g, off, none⟩) c L E (.ok (i + 1)) m0 ∧ w.grownBy ((w.drewN q).setCell ⟨b, 1, none⟩ (.int .i64 ((i + 1 : Nat) : Int))) (some b)) := Lib.hid (fun q => by
      have hb := below_drewN (Below.refl w.heap.size w) q
      exact ⟨(HP.out.below hb).put (st' := .ok (i + 1)) (mn' := m0) (grown_set (grown_refl _ (some b)) 1 _) (by simpa [robj] using block_set (p_below ho hb) 1 (.int .i64 ((i + 1 : Nat) : Int))) (by omega) ⟨rfl, rfl, rfl⟩, grown_set (grown_below (grown_refl w (some b)) hb) 1 _⟩)
     have hs2 : IntKind.i64.wrap (((i : Int) + 1) - 1) = (i : Int) := by rw [wrapEq]; unfold wrap64; omega
     clear HF HF2 hk hr
     go_enter Tryz.func94, Tryz.ntmps94
     go_wp2_with fail
     go_quiet (fail)
     go_wp2_with fail
     go_quiet (fail)
     go_wp2_with fail
     go_region
     go_wp2
     go_ret
     exact ⟨t0.n, .ok (i + 1), rfl, HRN.out, (HR2.out _).1.below (show Below _ _ (World.drew _) from below_drewN (Below.refl _ _) 1), grown_below (HR2.out _).2 (show Below _ _ (World.drew _) from below_drewN (Below.refl _ _) 1)⟩
   ·have k1 : (t0.kind != 2) = true := bne_iff_ne.2 hk
    have HNO : Hid (∀ t, Ran (failO 3) L E (.ok i) () t → Ran (numO lo hi) L E (.ok i) 0 t) := Lib.hid (fun t ht => by simpa [Ran, numO, failO, HGT.out, hk] using ht)
    clear hk HF2
    go_enter Tryz.func94, Tryz.ntmps94
    go_wp2_with fail
    go_quiet (fail)
    go_wp2_with fail
    refine (HF.out _ (HP.out.below (below_drewN (Below.refl _ _) _))).mono ?_
    rintro e w1 ⟨_, t, rfl, hran, hrc, hg⟩
    have HX := Lib.hid (And.intro (HNO.out t hran) (And.intro hrc ((grown_below (grown_refl w (some b)) (below_drewN (Below.refl _ _) _)).trans hg)))
    clear hran hrc hg
    go_wp2
    go_ret
    exact ⟨0, t, rfl, HX.out.1, HX.out.2.1, HX.out.2.2⟩
  ·have hi2 : decide ((i : Int) < (L.length : Int)) = false := decide_eq_false (by omega)
   have hi3 : decide ((L.length : Int) ≤ (i : Int)) = true := decide_eq_true (by omega)
   have HNO : Hid (∀ t, Ran (failO 3) L E (.ok i) () t → Ran (numO lo hi) L E (.ok i) 0 t) := Lib.hid (fun t ht => by simpa [Ran, numO, failO, List.getElem?_eq_none (show L.length ≤ i by omega)] using ht)
   clear h HF2
   go_enter Tryz.func94, Tryz.ntmps94
   go_wp2_with fail
   go_quiet (fail)
   go_wp2_with fail
   refine (HF.out _ (HP.out.below (below_drewN (Below.refl _ _) _))).mono ?_
   rintro e w1 ⟨_, t, rfl, hran, hrc, hg⟩
   have HX := Lib.hid (And.intro (HNO.out t hran) (And.intro hrc ((grown_below (grown_refl w (some b)) (below_drewN (Below.refl _ _) _)).trans hg)))
   clear hran hrc hg
   go_wp2
   go_ret
   exact ⟨0, t, rfl, HX.out.1, HX.out.2.1, HX.out.2.2⟩
end Go.Proofs.YtnkkcknogkgdkaaGreatDoor.PaW
