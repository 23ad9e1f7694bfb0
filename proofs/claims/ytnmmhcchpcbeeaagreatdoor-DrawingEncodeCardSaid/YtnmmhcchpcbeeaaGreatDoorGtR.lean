/- Drawings as texts, plain laws: a valid drawing is read back from its text; a prefix of a text is wrong at its end. Conditions: none. -/
import Derived.Test.YtnmmhcchpcbeeaaGreatDoorEqV
import Derived.Lib.SplitLaws
import Derived.Lib.AtoiAll
import Derived.Lib.Itoa

namespace Go.Proofs.YtnmmhcchpcbeeaaGreatDoor.Gt
open Go Go.Proofs.YtnmmhcchpcbeeaaGreatDoor.Ge

/-! ### Lines -/
/-- The pieces of a text between line feeds. -/
def pieces : List UInt8 → List (List UInt8)
 | [] => [[]]
 | c :: r => if c = 10 then [] :: pieces r else (c :: (pieces r).headD []) :: (pieces r).tail
theorem pieces_ne : ∀ s, pieces s ≠ []
 | [] => by simp [pieces]
 | c :: r => by unfold pieces; split <;> simp
def lastP (s : List UInt8) : List UInt8 := (pieces s).getLast (pieces_ne s)
def linesOf (s : List UInt8) : List (List UInt8) := (pieces s).dropLast
def textOf (l : List (List UInt8)) : List UInt8 := l.flatMap (· ++ [10])
theorem textOf_cons (x : List UInt8) (l : List (List UInt8)) : textOf (x :: l) = x ++ 10 :: textOf l := by simp [textOf]
theorem textOf_append (a b : List (List UInt8)) : textOf (a ++ b) = textOf a ++ textOf b := by simp [textOf]
theorem pieces_append (x s : List UInt8) (h : (10 : UInt8) ∉ x) : pieces (x ++ 10 :: s) = x :: pieces s := by
 induction x with
 | nil => simp [pieces]
 | cons c r ih =>
  have hc : c ≠ 10 := fun e => h (by simp [e])
  have := ih (fun e => h (by simp [e]))
  rw [List.cons_append, pieces, if_neg hc, this]
  rfl
theorem pieces_one (x : List UInt8) (h : (10 : UInt8) ∉ x) : pieces x = [x] := by
 induction x with
 | nil => rfl
 | cons c r ih =>
  have hc : c ≠ 10 := fun e => h (by simp [e])
  rw [pieces, if_neg hc, ih (fun e => h (by simp [e]))]
  rfl
theorem pieces_text : ∀ (l : List (List UInt8)) (x : List UInt8), (∀ y ∈ l, (10 : UInt8) ∉ y) → (10 : UInt8) ∉ x → pieces (textOf l ++ x) = l ++ [x]
 | [], x, _, hx => by simpa [textOf] using pieces_one x hx
 | y :: l, x, h, hx => by
  rw [textOf_cons, List.append_assoc, List.cons_append, pieces_append y _ (h y (by simp)), pieces_text l x (fun z hz => h z (by simp [hz])) hx]
  rfl
theorem pieces_no : ∀ (s : List UInt8), ∀ y ∈ pieces s, (10 : UInt8) ∉ y
 | [], y, hy => by simp [pieces] at hy; simp [hy]
 | c :: r, y, hy => by
  have ih := pieces_no r
  unfold pieces at hy
  split at hy
  ·rcases List.mem_cons.1 hy with h | h
   ·simp [h]
   ·exact ih y h
  ·rename_i hc
   rcases List.mem_cons.1 hy with h | h
   ·subst h
    intro hm
    rcases List.mem_cons.1 hm with h | h
    ·exact hc h.symm
    ·rcases hp : pieces r with _ | ⟨p, q⟩
     ·exact pieces_ne r hp
     ·rw [hp] at h ih
      exact ih p (by simp) h
   ·exact ih y (List.mem_of_mem_tail h)
theorem pieces_back : ∀ (s : List UInt8), textOf (linesOf s) ++ lastP s = s
 | [] => rfl
 | c :: r => by
  have ih := pieces_back r
  unfold linesOf lastP at ih ⊢
  rcases hp : pieces r with _ | ⟨p, q⟩
  ·exact absurd hp (pieces_ne r)
  ·simp only [hp] at ih
   by_cases hc : c = 10
   ·subst hc
    have e : pieces (10 :: r) = [] :: p :: q := by rw [pieces, if_pos rfl, hp]
    simp only [e, List.dropLast_cons_cons, List.getLast_cons_cons, textOf_cons, List.nil_append, List.cons_append, ih]
   ·have e : pieces (c :: r) = (c :: p) :: q := by rw [pieces, if_neg hc, hp]; rfl
    simp only [e]
    cases q with
    | nil => simp [textOf] at ih ⊢; exact ih
    | cons q1 q2 =>
     simp only [List.dropLast_cons_cons, List.getLast_cons_cons, textOf_cons, List.cons_append] at ih ⊢
     rw [ih]
theorem linesOf_text {l : List (List UInt8)} {x : List UInt8} (h : ∀ y ∈ l, (10 : UInt8) ∉ y) (hx : (10 : UInt8) ∉ x) : linesOf (textOf l ++ x) = l ∧ lastP (textOf l ++ x) = x := by
 unfold linesOf lastP
 have e := pieces_text l x h hx
 constructor
 ·rw [e]; simp
 ·simp only [e]; simp
theorem pieces_len : ∀ (s : List UInt8), (pieces s).length ≤ s.length + 1
 | [] => by simp [pieces]
 | c :: r => by
  have := pieces_len r
  unfold pieces
  split
  ·simp; exact this
  ·have := List.length_tail (l := pieces r)
   simp only [List.length_cons]
   omega
theorem pieces_size : ∀ (s : List UInt8), ∀ y ∈ pieces s, y.length ≤ s.length
 | [], y, hy => by simp [pieces] at hy; simp [hy]
 | c :: r, y, hy => by
  have ih := pieces_size r
  unfold pieces at hy
  split at hy
  ·rcases List.mem_cons.1 hy with h | h
   ·simp [h]
   ·have := ih y h; simp; omega
  ·rcases List.mem_cons.1 hy with h | h
   ·subst h
    rcases hp : pieces r with _ | ⟨p, q⟩
    ·exact absurd hp (pieces_ne r)
    ·have := ih p (by rw [hp]; simp)
     simp; omega
   ·have := ih y (List.mem_of_mem_tail h); simp; omega

/-! ### The reader -/
structure S where
 i : Nat
 bad : Bool
def numOk (lo hi : Int) (x : List UInt8) : Bool := match Lib.atoiAll x with
 | .ok n => decide (Lib.itoa n = x) && (decide (lo ≤ n) && decide (n ≤ hi))
 | _ => false
def numV (x : List UInt8) : Int := match Lib.atoiAll x with
 | .ok n => n
 | _ => 0
def nx (L : List (List UInt8)) (good : List UInt8 → Bool) (s : S) : List UInt8 × S :=
 if s.bad = true then ([], s) else match L[s.i]? with
 | some x => if good x = true then (x, ⟨s.i + 1, false⟩) else ([], ⟨s.i, true⟩)
 | none => ([], ⟨s.i, true⟩)
def cd (L : List (List UInt8)) (n : Int) (s : S) : S := (nx L (fun x => decide (x = Lib.itoa n)) s).2
def nb (L : List (List UInt8)) (c lo hi : Int) (s : S) : Int × S := (numV (nx L (numOk lo hi) (cd L c s)).1, (nx L (numOk lo hi) (cd L c s)).2)
def pt (L : List (List UInt8)) (c : Int) (s : S) : V × S :=
 (((nb L c (-2000) 2000 s).1, (nb L (c + 10) (-2000) 2000 (nb L c (-2000) 2000 s).2).1), (nb L (c + 10) (-2000) 2000 (nb L c (-2000) 2000 s).2).2)
def ck (good : Bool) (s : S) : S := if s.bad = false ∧ good = false then ⟨s.i - 1, true⟩ else s
def kLine : List UInt8 := [76, 73, 78, 69]
def kArc : List UInt8 := [65, 82, 67]
def kPoly : List UInt8 := [80, 79, 76, 89]
def kEof : List UInt8 := [69, 79, 70]
def ent0 (l : List UInt8) : Ent := ⟨0, l, z0, z0, z0, z0, z0, false, []⟩
def rdLine (L : List (List UInt8)) (l : List UInt8) (s : S) : Ent × S :=
 (⟨1, l, (pt L 10 s).1, (pt L 11 (pt L 10 s).2).1, z0, z0, z0, false, []⟩, ck (!decide ((pt L 10 s).1 = (pt L 11 (pt L 10 s).2).1)) (pt L 11 (pt L 10 s).2).2)
def arc1 (L : List (List UInt8)) (s : S) : V × S := pt L 10 s
def arc2 (L : List (List UInt8)) (s : S) : V × S := pt L 11 (arc1 L s).2
def arc3 (L : List (List UInt8)) (s : S) : V × S := pt L 12 (arc2 L s).2
def arc4 (L : List (List UInt8)) (s : S) : Int × S := nb L 70 0 1 (arc3 L s).2
def mkArc (l : List UInt8) (f t c : V) (k : Int) : Ent := ⟨2, l, z0, z0, f, t, c, decide (k = 1), []⟩
def rdArc (L : List (List UInt8)) (l : List UInt8) (s : S) : Ent × S :=
 (mkArc l (arc1 L s).1 (arc2 L s).1 (arc3 L s).1 (arc4 L s).1, ck (arcOk (arc1 L s).1 (arc2 L s).1 (arc3 L s).1) (arc4 L s).2)
def rdPts (L : List (List UInt8)) : Nat → List V → S → List V × S
 | 0, acc, s => (acc, s)
 | n + 1, acc, s => if s.bad = true then (acc, s) else rdPts L n (acc ++ [(pt L 10 s).1]) (pt L 10 s).2
def rdPoly (L : List (List UInt8)) (l : List UInt8) (s : S) : Ent × S :=
 (⟨3, l, z0, z0, z0, z0, z0, false, (rdPts L (nb L 90 3 40 s).1.toNat [] (nb L 90 3 40 s).2).1⟩, (rdPts L (nb L 90 3 40 s).1.toNat [] (nb L 90 3 40 s).2).2)
def rdLay (L : List (List UInt8)) (s : S) : List UInt8 × S := nx L Lex.isName (cd L 8 s)
def rdKind (L : List (List UInt8)) (k l : List UInt8) (s : S) : Ent × S := if k = kLine then rdLine L l s else if k = kArc then rdArc L l s else rdPoly L l s
def rdEnt (L : List (List UInt8)) (k : List UInt8) (s : S) : Ent × S := rdKind L k (rdLay L s).1 (rdLay L s).2
def kindOk (n : Nat) (x : List UInt8) : Bool := decide (x = kEof) || (decide (n < 200) && (decide (x = kLine) || (decide (x = kArc) || decide (x = kPoly))))
def rdName (L : List (List UInt8)) (n : Nat) (s : S) : List UInt8 × S := nx L (kindOk n) (cd L 0 s)
def ents (L : List (List UInt8)) : Nat → S → List Ent → S × List Ent
 | 0, s, d => (s, d)
 | f + 1, s, d =>
  if s.bad = true ∨ (rdName L d.length s).1 = kEof ∨ (rdName L d.length s).2.bad = true then (if s.bad = true then s else (rdName L d.length s).2, d)
  else ents L f (rdEnt L (rdName L d.length s).1 (rdName L d.length s).2).2 (d ++ [(rdEnt L (rdName L d.length s).1 (rdName L d.length s).2).1])
def fin (L : List (List UInt8)) : S × List Ent := ents L 202 ⟨0, false⟩ []
def dec (t : List UInt8) : List Ent × Nat × Int :=
 if (fin (linesOf t)).1.bad = true ∨ (fin (linesOf t)).1.i < (linesOf t).length ∨ lastP t ≠ [] then ([], (fin (linesOf t)).1.i, 4) else ((fin (linesOf t)).2, 0, 0)

/-! ### The text -/
def gr (c : Int) (v : List UInt8) : List (List UInt8) := [Lib.itoa c, v]
def ptL (c : Int) (v : V) : List (List UInt8) := gr c (Lib.itoa v.1) ++ gr (c + 10) (Lib.itoa v.2)
def entL (x : Ent) : List (List UInt8) :=
 if x.kind = 1 then gr 0 kLine ++ (gr 8 x.layer ++ (ptL 10 x.a ++ ptL 11 x.b))
 else if x.kind = 2 then gr 0 kArc ++ (gr 8 x.layer ++ (ptL 10 x.f ++ (ptL 11 x.t ++ (ptL 12 x.c ++ gr 70 (if x.cw = true then [49] else [48])))))
 else gr 0 kPoly ++ (gr 8 x.layer ++ (gr 90 (Lib.itoa x.pts.length) ++ x.pts.flatMap (ptL 10)))
def drawL (d : List Ent) : List (List UInt8) := d.flatMap entL ++ gr 0 kEof
def enc (d : List Ent) : List UInt8 := textOf (drawL d)
end Go.Proofs.YtnmmhcchpcbeeaaGreatDoor.Gt

namespace Go.Proofs.YtnmmhcchpcbeeaaGreatDoor.Gt
open Go Go.Proofs.YtnmmhcchpcbeeaaGreatDoor.Ge

/-! ### Numerals -/
theorem dig_byte : ∀ (u : Nat) (b : UInt8), b ∈ Lib.decDigits u → 48 ≤ b.toNat ∧ b.toNat ≤ 57 := by
 intro u
 induction u using Nat.strongRecOn with
 | ind u ih =>
  intro b hb
  rw [Lib.decDigits] at hb
  split at hb
  ·rename_i h
   simp only [List.mem_cons, List.not_mem_nil, or_false] at hb
   subst hb
   rw [UInt8.toNat_ofNat']
   omega
  ·rename_i h
   rcases List.mem_append.1 hb with h1 | h1
   ·exact ih (u / 10) (by omega) b h1
   ·simp only [List.mem_cons, List.not_mem_nil, or_false] at h1
    subst h1
    rw [UInt8.toNat_ofNat']
    omega
theorem dig_ne (u : Nat) : Lib.decDigits u ≠ [] := by
 rw [Lib.decDigits]
 split <;> simp
theorem itoa_byte (n : Int) (b : UInt8) (hb : b ∈ Lib.itoa n) : b = 45 ∨ (48 ≤ b.toNat ∧ b.toNat ≤ 57) := by
 unfold Lib.itoa at hb
 split at hb
 ·rcases List.mem_cons.1 hb with h | h
  ·exact .inl h
  ·exact .inr (dig_byte _ _ h)
 ·exact .inr (dig_byte _ _ hb)
theorem itoa_no (n : Int) : (10 : UInt8) ∉ Lib.itoa n := fun h => by
 rcases itoa_byte n 10 h with h | h
 ·exact absurd h (by decide)
 ·have : (10 : UInt8).toNat = 10 := rfl
  omega
theorem parse10_snoc : ∀ (l : List UInt8) (acc : Nat) (c : UInt8) (m : Nat), Lib.parseUint10 acc l = .ok m → Lib.parseUint10 acc (l ++ [c]) = Lib.parseUint10 m [c]
 | [], acc, c, m, h => by
  simp only [Lib.parseUint10] at h
  injection h with h
  subst h
  rfl
 | b :: r, acc, c, m, h => by
  rw [List.cons_append, Lib.parseUint10]
  rw [Lib.parseUint10] at h
  split at h
  ·rename_i h1
   rw [if_pos h1]
   split at h
   ·cases h
   ·rename_i h2
    rw [if_neg h2]
    split at h
    ·cases h
    ·rename_i h3
     rw [if_neg h3]
     exact parse10_snoc r _ c m h
  ·cases h
theorem parse10_dec : ∀ (u : Nat), u < 1000000000000000000 → Lib.parseUint10 0 (Lib.decDigits u) = .ok u := by
 intro u
 induction u using Nat.strongRecOn with
 | ind u ih =>
  intro hu
  rw [Lib.decDigits]
  split
  ·rename_i h
   have e : (UInt8.ofNat (48 + u)).toNat = 48 + u := by rw [UInt8.toNat_ofNat']; omega
   rw [Lib.parseUint10, e, if_pos (by omega), if_neg (by omega), if_neg (by omega), Lib.parseUint10]
   congr 1
   omega
  ·rename_i h
   have e : (UInt8.ofNat (48 + u % 10)).toNat = 48 + u % 10 := by rw [UInt8.toNat_ofNat']; omega
   rw [parse10_snoc _ _ _ _ (ih (u / 10) (by omega) (by omega)), Lib.parseUint10, e, if_pos (by omega), if_neg (by omega), if_neg (by omega), Lib.parseUint10]
   congr 1
   omega
theorem mag_dec (u : Nat) (h : u < 1000000000000000000) : Lib.parseMag (Lib.decDigits u) = .ok u := by
 rw [Lib.parseMag, if_neg (dig_ne u), parse10_dec u h]
theorem atoi_pos {l : List UInt8} (hne : l ≠ []) (hd : ∀ b ∈ l, 48 ≤ b.toNat) {u : Nat} (hu : u < 1000000000000000000) (h : Lib.parseMag l = .ok u) : Lib.atoiAll l = .ok u := by
 cases l with
 | nil => exact absurd rfl hne
 | cons c r =>
  have hc := hd c List.mem_cons_self
  rw [Lib.atoiAll]
  rw [if_neg (by omega), h]
  simp only
  rw [if_neg (by omega), if_neg (by omega), if_neg (by omega)]
theorem atoi_itoa (n : Int) (h : -999999999 ≤ n ∧ n ≤ 999999999) : Lib.atoiAll (Lib.itoa n) = .ok n := by
 unfold Lib.itoa
 split
 ·rename_i h0
  rw [Lib.atoiAll]
  rw [if_pos (by decide), mag_dec _ (by omega)]
  simp only
  rw [if_neg (by simp), if_neg (by simp; omega), if_pos (by decide)]
  congr 1
  omega
 ·have := atoi_pos (dig_ne n.toNat) (fun b hb => (dig_byte _ _ hb).1) (u := n.toNat) (by omega) (mag_dec _ (by omega))
  rw [this]
  congr 1
  omega
theorem numOk_itoa {n lo hi : Int} (h : -999999999 ≤ n ∧ n ≤ 999999999) (h1 : lo ≤ n) (h2 : n ≤ hi) : numOk lo hi (Lib.itoa n) = true ∧ numV (Lib.itoa n) = n := by
 unfold numOk numV
 rw [atoi_itoa n h]
 simp [h1, h2]
theorem numOk_back {lo hi : Int} {x : List UInt8} (h : numOk lo hi x = true) : x = Lib.itoa (numV x) ∧ lo ≤ numV x ∧ numV x ≤ hi := by
 unfold numOk numV at *
 split at h
 ·rename_i n hn
  simp only [Bool.and_eq_true, decide_eq_true_eq] at h
  exact ⟨h.1.symm, h.2⟩
 ·cases h

/-! ### Steps that read -/
abbrev Op (α : Type) := List (List UInt8) → S → α × S
def bnd {α β} (F : Op α) (G : α → Op β) : Op β := fun L s => G (F L s).1 L (F L s).2
def Stay {α} (F : Op α) : Prop := ∀ L s, s.bad = true → (F L s).2 = s
theorem Stay.bnd {α β} {F : Op α} {G : α → Op β} (hF : Stay F) (hG : ∀ a, Stay (G a)) : Stay (bnd F G) := fun L s h => by
 have h1 := hF L s h
 have h2 := hG (F L s).1 L (F L s).2 (by rw [h1]; exact h)
 exact h2.trans h1
theorem not_bad {α} {F : Op α} (hF : Stay F) {L s} (h : (F L s).2.bad = false) : s.bad = false := by
 cases hb : s.bad with
 | false => rfl
 | true => rw [hF L s hb, hb] at h; cases h
def opNx (g : List UInt8 → Bool) : Op (List UInt8) := fun L s => nx L g s
def opCd (c : Int) : Op Unit := fun L s => ((), cd L c s)
def opCk (b : Bool) : Op Unit := fun _ s => ((), ck b s)
def opRet {α} (a : α) : Op α := fun _ s => (a, s)
theorem stay_nx (g) : Stay (opNx g) := fun L s h => by unfold opNx nx; rw [if_pos h]
theorem stay_cd (c) : Stay (opCd c) := fun L s h => stay_nx _ L s h
theorem stay_ck (b) : Stay (opCk b) := fun L s h => by unfold opCk ck; rw [if_neg (by simp [h])]
theorem stay_ret {α} (a : α) : Stay (opRet a) := fun _ _ _ => rfl
def opNb (c lo hi : Int) : Op Int := bnd (opCd c) fun _ => bnd (opNx (numOk lo hi)) fun x => opRet (numV x)
def opPt (c : Int) : Op V := bnd (opNb c (-2000) 2000) fun x => bnd (opNb (c + 10) (-2000) 2000) fun y => opRet (x, y)
theorem opNb_eq (c lo hi) (L s) : opNb c lo hi L s = nb L c lo hi s := rfl
theorem opPt_eq (c) (L s) : opPt c L s = pt L c s := rfl
def opPts : Nat → List V → Op (List V)
 | 0, acc => opRet acc
 | n + 1, acc => bnd (opPt 10) fun v => opPts n (acc ++ [v])
theorem stay_nb (c lo hi) : Stay (opNb c lo hi) := (stay_cd c).bnd fun _ => (stay_nx _).bnd fun _ => stay_ret _
theorem stay_pt (c) : Stay (opPt c) := (stay_nb _ _ _).bnd fun _ => (stay_nb _ _ _).bnd fun _ => stay_ret _
theorem stay_pts : ∀ n acc, Stay (opPts n acc)
 | 0, acc => stay_ret acc
 | n + 1, acc => (stay_pt 10).bnd fun v => stay_pts n (acc ++ [v])
/-- The points that are read: the two forms agree in the state, and in the points unless it is bad. -/
theorem rdPts_eq : ∀ n acc L s, (rdPts L n acc s).2 = (opPts n acc L s).2 ∧ ((opPts n acc L s).2.bad = false → (rdPts L n acc s).1 = (opPts n acc L s).1)
 | 0, acc, L, s => ⟨rfl, fun _ => rfl⟩
 | n + 1, acc, L, s => by
  unfold rdPts
  by_cases hb : s.bad = true
  ·rw [if_pos hb]
   have := stay_pts (n + 1) acc L s hb
   exact ⟨this.symm, fun h => by rw [this, hb] at h; cases h⟩
  ·rw [if_neg hb]
   exact rdPts_eq n (acc ++ [(pt L 10 s).1]) L (pt L 10 s).2
def opLine (l : List UInt8) : Op Ent := bnd (opPt 10) fun a => bnd (opPt 11) fun b => bnd (opCk (!decide (a = b))) fun _ => opRet ⟨1, l, a, b, z0, z0, z0, false, []⟩
def opArc (l : List UInt8) : Op Ent := bnd (opPt 10) fun f => bnd (opPt 11) fun t => bnd (opPt 12) fun c => bnd (opNb 70 0 1) fun k => bnd (opCk (arcOk f t c)) fun _ => opRet (mkArc l f t c k)
def opPoly (l : List UInt8) : Op Ent := bnd (opNb 90 3 40) fun n => bnd (opPts n.toNat []) fun p => opRet ⟨3, l, z0, z0, z0, z0, z0, false, p⟩
def opKind (k l : List UInt8) : Op Ent := if k = kLine then opLine l else if k = kArc then opArc l else opPoly l
def opEnt (k : List UInt8) : Op Ent := bnd (opCd 8) fun _ => bnd (opNx Lex.isName) fun l => opKind k l
theorem stay_line (l) : Stay (opLine l) := (stay_pt 10).bnd fun _ => (stay_pt 11).bnd fun _ => (stay_ck _).bnd fun _ => stay_ret _
theorem stay_arc (l) : Stay (opArc l) := (stay_pt 10).bnd fun _ => (stay_pt 11).bnd fun _ => (stay_pt 12).bnd fun _ => (stay_nb _ _ _).bnd fun _ => (stay_ck _).bnd fun _ => stay_ret _
theorem stay_poly (l) : Stay (opPoly l) := (stay_nb _ _ _).bnd fun _ => (stay_pts _ _).bnd fun _ => stay_ret _
theorem stay_kind (k l) : Stay (opKind k l) := by
 unfold opKind
 split
 ·exact stay_line l
 ·split
  ·exact stay_arc l
  ·exact stay_poly l
theorem rdArc_eq (L l s) : rdArc L l s = opArc l L s := by
 unfold rdArc opArc arc4 arc3 arc2 arc1
 simp only [bnd, opNb_eq, opPt_eq, opRet, opCk]
theorem rdPoly_eq (L l s) : (rdPoly L l s).2 = (opPoly l L s).2 ∧ ((opPoly l L s).2.bad = false → (rdPoly L l s).1 = (opPoly l L s).1) := by
 have h := rdPts_eq (nb L 90 3 40 s).1.toNat [] L (nb L 90 3 40 s).2
 unfold rdPoly opPoly
 simp only [bnd, opNb_eq, opRet]
 generalize (nb L 90 3 40 s).1.toNat = n at *
 generalize (nb L 90 3 40 s).2 = s2 at *
 exact ⟨h.1, fun hb => by rw [h.2 hb]⟩
theorem rdEnt_eq (L k s) : (rdEnt L k s).2 = (opEnt k L s).2 ∧ ((opEnt k L s).2.bad = false → (rdEnt L k s).1 = (opEnt k L s).1) := by
 have e : opEnt k L s = opKind k (rdLay L s).1 L (rdLay L s).2 := rfl
 rw [e]
 unfold rdEnt rdKind opKind
 by_cases h1 : k = kLine
 ·simp only [if_pos h1]; exact ⟨rfl, fun _ => rfl⟩
 ·simp only [if_neg h1]
  by_cases h2 : k = kArc
  ·simp only [if_pos h2, rdArc_eq]; exact ⟨trivial, fun _ => trivial⟩
  ·simp only [if_neg h2]; exact rdPoly_eq ..
def opName (n : Nat) : Op (List UInt8) := bnd (opCd 0) fun _ => opNx (kindOk n)
/-! ### What is read lies in the lines -/
def Eats {α} (F : Op α) (Q : α → List (List UInt8) → Prop) : Prop := ∀ L s, (F L s).2.bad = false → ∃ ls, Q (F L s).1 ls ∧ L.drop s.i = ls ++ L.drop (F L s).2.i
theorem Eats.bnd {α β} {F : Op α} {G : α → Op β} {Q : α → List (List UInt8) → Prop} {Q2 : α → β → List (List UInt8) → Prop} (hF : Eats F Q) (hG : ∀ a, Eats (G a) (Q2 a)) (hS : ∀ a, Stay (G a)) :
  Eats (bnd F G) (fun b ls => ∃ a l1 l2, Q a l1 ∧ Q2 a b l2 ∧ ls = l1 ++ l2) := fun L s h => by
 have hb : (F L s).2.bad = false := not_bad (hS _) h
 obtain ⟨l1, q1, e1⟩ := hF L s hb
 obtain ⟨l2, q2, e2⟩ := hG (F L s).1 L (F L s).2 h
 exact ⟨l1 ++ l2, ⟨_, l1, l2, q1, q2, rfl⟩, by rw [e1, e2, List.append_assoc]; rfl⟩
theorem Eats.mono {α} {F : Op α} {Q Q2 : α → List (List UInt8) → Prop} (h : Eats F Q) (hq : ∀ a l, Q a l → Q2 a l) : Eats F Q2 := fun L s hb => by
 obtain ⟨ls, q, e⟩ := h L s hb
 exact ⟨ls, hq _ _ q, e⟩
def kN (x : Ent) : List UInt8 := if x.kind = 1 then kLine else if x.kind = 2 then kArc else kPoly
def bodyL (x : Ent) : List (List UInt8) :=
 if x.kind = 1 then ptL 10 x.a ++ ptL 11 x.b
 else if x.kind = 2 then ptL 10 x.f ++ (ptL 11 x.t ++ (ptL 12 x.c ++ gr 70 (if x.cw = true then [49] else [48])))
 else gr 90 (Lib.itoa x.pts.length) ++ x.pts.flatMap (ptL 10)
theorem entL_eq (x : Ent) : entL x = gr 0 (kN x) ++ (gr 8 x.layer ++ bodyL x) := by
 unfold entL kN bodyL
 split
 ·rfl
 ·split <;> rfl
theorem kind_go {n : Nat} {k : List UInt8} (h : kindOk n k = true) (hk : k ≠ kEof) : n < 200 ∧ (k = kLine ∨ k = kArc ∨ k = kPoly) := by
 unfold kindOk at h
 simpa [hk] using h
end Go.Proofs.YtnmmhcchpcbeeaaGreatDoor.Gt

namespace Go.Proofs.YtnmmhcchpcbeeaaGreatDoor.Gt
open Go Go.Proofs.YtnmmhcchpcbeeaaGreatDoor.Ge

/-! ### What is written is read -/
def Reads {α} (F : Op α) (v : α) (ls : List (List UInt8)) : Prop := ∀ L s r, s.bad = false → L.drop s.i = ls ++ r → (F L s).1 = v ∧ (F L s).2.bad = false ∧ L.drop (F L s).2.i = r
theorem Reads.bnd {α β} {F : Op α} {G : α → Op β} {a : α} {b : β} {l1 l2 : List (List UInt8)} (h1 : Reads F a l1) (h2 : Reads (G a) b l2) : Reads (bnd F G) b (l1 ++ l2) := fun L s r hb hd => by
 rw [List.append_assoc] at hd
 obtain ⟨e1, e2, e3⟩ := h1 L s (l2 ++ r) hb hd
 have h := h2 L (F L s).2 r e2 e3
 unfold Gt.bnd
 rw [e1]
 exact h
theorem reads_nx {g : List UInt8 → Bool} {x : List UInt8} (h : g x = true) : Reads (opNx g) x [x] := fun L s r hb hd => by
 have hx : L[s.i]? = some x := by
  have := List.getElem?_drop (xs := L) (i := s.i) (j := 0)
  rw [hd] at this
  simpa using this.symm
 have e : opNx g L s = (x, ⟨s.i + 1, false⟩) := by
  unfold opNx nx
  simp only [hb, hx, if_pos h]
  rfl
 rw [e]
 refine ⟨rfl, rfl, ?_⟩
 have := congrArg (List.drop 1) hd
 rw [List.drop_drop] at this
 simpa using this
theorem reads_cd (c : Int) : Reads (opCd c) () [Lib.itoa c] := fun L s r hb hd => by
 obtain ⟨_, h2, h3⟩ := reads_nx (g := fun x => decide (x = Lib.itoa c)) (x := Lib.itoa c) (by simp) L s r hb hd
 exact ⟨rfl, h2, h3⟩
theorem reads_ret {α} (a : α) : Reads (opRet a) a [] := fun _ _ _ hb hd => ⟨rfl, hb, hd⟩
theorem reads_ck : Reads (opCk true) () [] := fun _ s _ hb hd => by
 unfold opCk ck
 rw [if_neg (by simp)]
 exact ⟨rfl, hb, hd⟩
theorem reads_nb {c lo hi n : Int} (h : -999999999 ≤ n ∧ n ≤ 999999999) (h1 : lo ≤ n) (h2 : n ≤ hi) : Reads (opNb c lo hi) n (gr c (Lib.itoa n)) := by
 obtain ⟨e1, e2⟩ := numOk_itoa h h1 h2
 have := (reads_cd c).bnd (G := fun _ => bnd (opNx (numOk lo hi)) fun x => opRet (numV x)) ((reads_nx e1).bnd (G := fun x => opRet (numV x)) (reads_ret _))
 rw [e2] at this
 exact this
theorem within_iff {v : V} : within v 2000 = true ↔ (-2000 ≤ v.1 ∧ v.1 ≤ 2000 ∧ -2000 ≤ v.2 ∧ v.2 ≤ 2000) := by
 simp [within]
theorem reads_pt {c : Int} {v : V} (h : within v 2000 = true) : Reads (opPt c) v (ptL c v) := by
 obtain ⟨h1, h2, h3, h4⟩ := within_iff.1 h
 have := (reads_nb (c := c) (n := v.1) (by omega) h1 h2).bnd (G := fun x => bnd (opNb (c + 10) (-2000) 2000) fun y => opRet (x, y)) ((reads_nb (c := c + 10) (n := v.2) (by omega) h3 h4).bnd (G := fun y => opRet (v.1, y)) (reads_ret _))
 rw [List.append_nil] at this
 exact this
theorem reads_pts : ∀ (q acc : List V), near q = true → Reads (opPts q.length acc) (acc ++ q) (q.flatMap (ptL 10))
 | [], acc, _ => by simpa [opPts] using reads_ret acc
 | v :: q, acc, h => by
  unfold near at h
  simp only [List.all_cons, Bool.and_eq_true] at h
  have := (reads_pt (c := 10) h.1).bnd (G := fun v => opPts q.length (acc ++ [v])) (reads_pts q (acc ++ [v]) h.2)
  simp only [List.append_assoc, List.cons_append, List.nil_append] at this
  exact this
theorem ent_ext {x y : Ent} (h1 : x.kind = y.kind) (h2 : x.layer = y.layer) (h3 : x.a = y.a) (h4 : x.b = y.b) (h5 : x.f = y.f) (h6 : x.t = y.t) (h7 : x.c = y.c) (h8 : x.cw = y.cw) (h9 : x.pts = y.pts) : x = y := by
 cases x; cases y; simp_all
theorem noArc_eq {x : Ent} (h : noArc x = true) : x.f = z0 ∧ x.t = z0 ∧ x.c = z0 ∧ x.cw = false := by
 simpa [noArc] using h
theorem noLine_eq {x : Ent} (h : noLine x = true) : x.a = z0 ∧ x.b = z0 := by
 simp only [noLine, Bool.and_eq_true, decide_eq_true_eq] at h
 exact ⟨h.2, h.1 ▸ h.2⟩
theorem noPts_eq {x : Ent} (h : noPts x = true) : x.pts = [] := by
 simpa [noPts] using h
theorem reads_line {x : Ent} (hk : x.kind = 1) (h : lineOk x = true) : Reads (opLine x.layer) x (bodyL x) := by
 unfold lineOk at h
 simp only [Bool.and_eq_true] at h
 obtain ⟨hne, ha, hb, hA, hP⟩ := h
 obtain ⟨h1, h2, h3, h4⟩ := noArc_eq hA
 have := (reads_pt (c := 10) ha).bnd (G := fun a => bnd (opPt 11) fun b => bnd (opCk (!decide (a = b))) fun _ => opRet (⟨1, x.layer, a, b, z0, z0, z0, false, []⟩ : Ent))
  ((reads_pt (c := 11) hb).bnd (G := fun b => bnd (opCk (!decide (x.a = b))) fun _ => opRet (⟨1, x.layer, x.a, b, z0, z0, z0, false, []⟩ : Ent))
   (Reads.bnd (F := opCk (!decide (x.a = x.b))) (a := ()) (G := fun _ => opRet (⟨1, x.layer, x.a, x.b, z0, z0, z0, false, []⟩ : Ent)) (by rw [hne]; exact reads_ck) (reads_ret _)))
 rw [show (⟨1, x.layer, x.a, x.b, z0, z0, z0, false, []⟩ : Ent) = x from ent_ext hk.symm rfl rfl rfl h1.symm h2.symm h3.symm h4.symm (noPts_eq hP).symm] at this
 unfold bodyL opLine
 rw [if_pos hk]
 simpa using this
theorem reads_arc {x : Ent} (hk : x.kind = 2) (h : turnOk x = true) : Reads (opArc x.layer) x (bodyL x) := by
 unfold turnOk at h
 simp only [Bool.and_eq_true] at h
 obtain ⟨hL, hA, hP⟩ := h
 have hw := hA
 unfold arcOk at hw
 simp only [Bool.and_eq_true] at hw
 obtain ⟨hf, ht, hc, _⟩ := hw
 obtain ⟨h1, h2⟩ := noLine_eq hL
 have hcw : Lib.itoa (if x.cw = true then 1 else 0) = (if x.cw = true then [49] else [48]) := by
  cases x.cw <;> simp [Lib.itoa, Lib.decDigits]
 have hq : mkArc x.layer x.f x.t x.c (if x.cw = true then 1 else 0) = x := by
  refine ent_ext hk.symm rfl h1.symm h2.symm rfl rfl rfl ?_ (noPts_eq hP).symm
  show decide ((if x.cw = true then (1 : Int) else 0) = 1) = x.cw
  cases x.cw <;> simp
 have := (reads_pt (c := 10) hf).bnd (G := fun f => bnd (opPt 11) fun t => bnd (opPt 12) fun c => bnd (opNb 70 0 1) fun k => bnd (opCk (arcOk f t c)) fun _ => opRet (mkArc x.layer f t c k))
  ((reads_pt (c := 11) ht).bnd (G := fun t => bnd (opPt 12) fun c => bnd (opNb 70 0 1) fun k => bnd (opCk (arcOk x.f t c)) fun _ => opRet (mkArc x.layer x.f t c k))
  ((reads_pt (c := 12) hc).bnd (G := fun c => bnd (opNb 70 0 1) fun k => bnd (opCk (arcOk x.f x.t c)) fun _ => opRet (mkArc x.layer x.f x.t c k))
  ((reads_nb (c := 70) (lo := 0) (hi := 1) (n := if x.cw = true then 1 else 0) (by split <;> omega) (by split <;> omega) (by split <;> omega)).bnd (G := fun k => bnd (opCk (arcOk x.f x.t x.c)) fun _ => opRet (mkArc x.layer x.f x.t x.c k))
   (Reads.bnd (F := opCk (arcOk x.f x.t x.c)) (a := ()) (G := fun _ => opRet (mkArc x.layer x.f x.t x.c (if x.cw = true then 1 else 0))) (by rw [hA]; exact reads_ck) (reads_ret _)))))
 rw [hq, hcw] at this
 unfold bodyL opArc
 rw [if_neg (by omega), if_pos hk]
 simpa using this
theorem reads_poly {x : Ent} (hk : x.kind = 3) (h : polyOk x = true) : Reads (opPoly x.layer) x (bodyL x) := by
 unfold polyOk at h
 simp only [Bool.and_eq_true, decide_eq_true_eq] at h
 obtain ⟨hL, hA, h3, h40, hn⟩ := h
 obtain ⟨h1, h2⟩ := noLine_eq hL
 obtain ⟨a1, a2, a3, a4⟩ := noArc_eq hA
 have := (reads_nb (c := 90) (lo := 3) (hi := 40) (n := x.pts.length) (by omega) (by omega) (by omega)).bnd (G := fun n => bnd (opPts n.toNat []) fun p => opRet (⟨3, x.layer, z0, z0, z0, z0, z0, false, p⟩ : Ent))
  (Reads.bnd (F := opPts (x.pts.length : Int).toNat []) (G := fun p => opRet (⟨3, x.layer, z0, z0, z0, z0, z0, false, p⟩ : Ent)) (by rw [Int.toNat_natCast]; exact reads_pts x.pts [] hn) (reads_ret _))
 rw [List.nil_append, show (⟨3, x.layer, z0, z0, z0, z0, z0, false, x.pts⟩ : Ent) = x from ent_ext hk.symm rfl h1.symm h2.symm a1.symm a2.symm a3.symm a4.symm rfl] at this
 unfold bodyL opPoly
 rw [if_neg (by omega), if_neg (by omega)]
 simpa using this
theorem reads_ent {x : Ent} (h : entOk x = true) : Reads (opEnt (kN x)) x (gr 8 x.layer ++ bodyL x) ∧ (kN x = kLine ∨ kN x = kArc ∨ kN x = kPoly) := by
 unfold entOk at h
 simp only [Bool.and_eq_true] at h
 obtain ⟨hn, hk⟩ := h
 have hfin : Reads (opKind (kN x) x.layer) x (bodyL x) ∧ (kN x = kLine ∨ kN x = kArc ∨ kN x = kPoly) := by
  by_cases h1 : x.kind = 1
  ·rw [if_pos h1] at hk
   have e : kN x = kLine := by simp [kN, h1]
   refine ⟨?_, .inl e⟩
   rw [e]; unfold opKind; rw [if_pos rfl]
   exact reads_line h1 hk
  ·rw [if_neg h1] at hk
   by_cases h2 : x.kind = 2
   ·rw [if_pos h2] at hk
    have e : kN x = kArc := by simp [kN, h2]
    refine ⟨?_, .inr (.inl e)⟩
    rw [e]; unfold opKind; rw [if_neg (by decide), if_pos rfl]
    exact reads_arc h2 hk
   ·rw [if_neg h2] at hk
    by_cases h3 : x.kind = 3
    ·rw [if_pos h3] at hk
     have e : kN x = kPoly := by simp [kN, h1, h2]
     refine ⟨?_, .inr (.inr e)⟩
     rw [e]; unfold opKind; rw [if_neg (by decide), if_neg (by decide)]
     exact reads_poly h3 hk
    ·rw [if_neg h3] at hk; cases hk
 refine ⟨?_, hfin.2⟩
 have := (reads_cd 8).bnd (G := fun _ => bnd (opNx Lex.isName) fun l => opKind (kN x) l) ((reads_nx hn).bnd (G := fun l => opKind (kN x) l) hfin.1)
 exact this
theorem reads_name {n : Nat} {k : List UInt8} (h : kindOk n k = true) : Reads (opName n) k (gr 0 k) := by
 have := (reads_cd 0).bnd (G := fun _ => opNx (kindOk n)) (reads_nx h)
 exact this
theorem kind_yes {n : Nat} {k : List UInt8} (hn : n < 200) (h : k = kLine ∨ k = kArc ∨ k = kPoly) : kindOk n k = true ∧ k ≠ kEof := by
 unfold kindOk
 rcases h with rfl | rfl | rfl <;> simp [hn, kLine, kArc, kPoly, kEof]
theorem ents_reads : ∀ (q : List Ent) (f : Nat) (L : List (List UInt8)) (s : S) (d : List Ent), q.length < f → (d ++ q).length ≤ 200 → q.all entOk = true → s.bad = false → L.drop s.i = drawL q →
  (ents L f s d).2 = d ++ q ∧ (ents L f s d).1.bad = false ∧ L.length ≤ (ents L f s d).1.i
 | [], 0, _, _, _, hf, _, _, _, _ => by simp at hf
 | _ :: _, 0, _, _, _, hf, _, _, _, _ => by simp at hf
 | [], f + 1, L, s, d, _, _, _, hb, hd => by
  obtain ⟨e1, e2, e3⟩ := reads_name (n := d.length) (k := kEof) (by simp [kindOk]) L s [] hb (by rw [hd]; rfl)
  unfold ents
  rw [if_pos (.inr (.inl e1)), if_neg (by simp [hb])]
  refine ⟨by simp, e2, ?_⟩
  have := congrArg List.length e3
  rw [List.length_drop] at this
  have h2 : L.length - (rdName L d.length s).2.i = 0 := this
  show L.length ≤ (rdName L d.length s).2.i
  omega
 | x :: q, f + 1, L, s, d, hf, hl, ho, hb, hd => by
  simp only [List.all_cons, Bool.and_eq_true] at ho
  obtain ⟨hr, hk⟩ := reads_ent ho.1
  have hn : d.length < 200 := by simp at hl; omega
  obtain ⟨hk1, hk2⟩ := kind_yes hn hk
  have hd' : L.drop s.i = gr 0 (kN x) ++ ((gr 8 x.layer ++ bodyL x) ++ drawL q) := by
   rw [hd]; unfold drawL; rw [List.flatMap_cons, entL_eq]; simp only [List.append_assoc]
  obtain ⟨e1, e2, e3⟩ := reads_name hk1 L s _ hb hd'
  obtain ⟨e4, e5, e6⟩ := hr L _ _ e2 e3
  have e1' : (rdName L d.length s).1 = kN x := e1
  have e2' : (rdName L d.length s).2.bad = false := e2
  have hE := rdEnt_eq L (kN x) (rdName L d.length s).2
  have e5' : (opEnt (kN x) L (rdName L d.length s).2).2.bad = false := e5
  have e4' : (rdEnt L (kN x) (rdName L d.length s).2).1 = x := (hE.2 e5').trans e4
  unfold ents
  rw [if_neg (by simp [hb, e1', hk2, e2']), e1', e4']
  have ih := ents_reads q f L (rdEnt L (kN x) (rdName L d.length s).2).2 (d ++ [x]) (by simp at hf; omega) (by simp at hl ⊢; omega) ho.2 (by rw [hE.1]; exact e5') (by rw [hE.1]; exact e6)
  simpa using ih
theorem itoa_line (c n : Int) : ∀ y ∈ gr c (Lib.itoa n), (10 : UInt8) ∉ y := by
 intro y hy
 simp only [gr, List.mem_cons, List.not_mem_nil, or_false] at hy
 rcases hy with rfl | rfl <;> exact itoa_no _
theorem gr_line (c : Int) {v : List UInt8} (h : (10 : UInt8) ∉ v) : ∀ y ∈ gr c v, (10 : UInt8) ∉ y := by
 intro y hy
 simp only [gr, List.mem_cons, List.not_mem_nil, or_false] at hy
 rcases hy with rfl | rfl
 ·exact itoa_no _
 ·exact h
theorem pt_line (c : Int) (v : V) : ∀ y ∈ ptL c v, (10 : UInt8) ∉ y := by
 intro y hy
 rcases List.mem_append.1 hy with h | h <;> exact itoa_line _ _ y h
theorem name_line {l : List UInt8} (h : Lex.isName l = true) : (10 : UInt8) ∉ l := by
 unfold Lex.isName at h
 simp only [Bool.and_eq_true] at h
 intro hm
 have := List.all_eq_true.1 h.2 10 hm
 revert this
 decide
theorem ent_line {x : Ent} (h : entOk x = true) : ∀ y ∈ entL x, (10 : UInt8) ∉ y := by
 have hn : Lex.isName x.layer = true := by
  unfold entOk at h
  simp only [Bool.and_eq_true] at h
  exact h.1
 intro y hy
 rw [entL_eq] at hy
 rcases List.mem_append.1 hy with h1 | h1
 ·refine gr_line 0 ?_ y h1
  unfold kN
  split
  ·decide
  ·split <;> decide
 ·rcases List.mem_append.1 h1 with h2 | h2
  ·exact gr_line 8 (name_line hn) y h2
  ·unfold bodyL at h2
   split at h2
   ·rcases List.mem_append.1 h2 with h3 | h3 <;> exact pt_line _ _ y h3
   ·split at h2
    ·simp only [List.mem_append] at h2
     rcases h2 with h3 | h3 | h3 | h3
     ·exact pt_line _ _ y h3
     ·exact pt_line _ _ y h3
     ·exact pt_line _ _ y h3
     ·refine gr_line 70 ?_ y h3
      split <;> decide
    ·rcases List.mem_append.1 h2 with h3 | h3
     ·exact itoa_line _ _ y h3
     ·obtain ⟨v, _, h4⟩ := List.mem_flatMap.1 h3
      exact pt_line _ _ y h4
theorem draw_line {d : List Ent} (h : d.all entOk = true) : ∀ y ∈ drawL d, (10 : UInt8) ∉ y := by
 intro y hy
 rcases List.mem_append.1 hy with h1 | h1
 ·obtain ⟨x, hx, h2⟩ := List.mem_flatMap.1 h1
  exact ent_line (List.all_eq_true.1 h x hx) y h2
 ·exact gr_line 0 (by decide) y h1
theorem draw_parts {d : List Ent} (h : drawOk d = true) : d.length ≤ 200 ∧ d.all entOk = true := by
 unfold drawOk at h
 simpa using h
theorem dec_enc {d : List Ent} (h : drawOk d = true) : dec (enc d) = (d, 0, 0) := by
 obtain ⟨h1, h2⟩ := draw_parts h
 have hl := linesOf_text (l := drawL d) (x := []) (draw_line h2) (by simp)
 rw [List.append_nil] at hl
 unfold dec
 unfold enc
 rw [hl.1, hl.2]
 obtain ⟨e1, e2, e3⟩ := ents_reads d 202 (drawL d) ⟨0, false⟩ [] (by omega) (by simpa using h1) h2 rfl (by simp)
 have e1' : (fin (drawL d)).2 = d := by rw [← List.nil_append d]; exact e1
 have e2' : (fin (drawL d)).1.bad = false := e2
 have e3' : ¬ (fin (drawL d)).1.i < (drawL d).length := Nat.not_lt.2 e3
 rw [if_neg (by simp [e2', e3']), e1']
end Go.Proofs.YtnmmhcchpcbeeaaGreatDoor.Gt
