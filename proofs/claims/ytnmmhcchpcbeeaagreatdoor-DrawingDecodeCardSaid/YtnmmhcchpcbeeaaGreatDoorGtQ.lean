/- Drawings as texts, plain laws: a drawing is read back from its text; what is read is the text of the drawing; a prefix is wrong at its end. Conditions: none. -/
import Derived.Test.YtnmmhcchpcbeeaaGreatDoorEqV
import Derived.Lib.SplitLaws
import Derived.Lib.AtoiAll
import Derived.Lib.Itoa

namespace Go.Proofs.YtnmmhcchpcbeeaaGreatDoor.Gt
open Go Go.Proofs.YtnmmhcchpcbeeaaGreatDoor.Ge

/-! ### Lines -/
/-- The pieces of a text between line feeds. -/
def pieces : List UInt8 → List (List UInt8)
 | [] => [[]]
 | c :: r => if c = 10 then [] :: pieces r else (c :: (pieces r).headD []) :: (pieces r).tail
theorem pieces_ne : ∀ s, pieces s ≠ []
 | [] => by simp [pieces]
 | c :: r => by unfold pieces; split <;> simp
def lastP (s : List UInt8) : List UInt8 := (pieces s).getLast (pieces_ne s)
def linesOf (s : List UInt8) : List (List UInt8) := (pieces s).dropLast
def textOf (l : List (List UInt8)) : List UInt8 := l.flatMap (· ++ [10])
theorem textOf_nil : textOf [] = [] := rfl
theorem textOf_cons (x : List UInt8) (l : List (List UInt8)) : textOf (x :: l) = x ++ 10 :: textOf l := by simp [textOf]
theorem textOf_append (a b : List (List UInt8)) : textOf (a ++ b) = textOf a ++ textOf b := by simp [textOf]
theorem pieces_append (x s : List UInt8) (h : (10 : UInt8) ∉ x) : pieces (x ++ 10 :: s) = x :: pieces s := by
 induction x with
 | nil => simp [pieces]
 | cons c r ih =>
  have hc : c ≠ 10 := fun e => h (by simp [e])
  have := ih (fun e => h (by simp [e]))
  rw [List.cons_append, pieces, if_neg hc, this]
  rfl
theorem pieces_one (x : List UInt8) (h : (10 : UInt8) ∉ x) : pieces x = [x] := by
 induction x with
 | nil => rfl
 | cons c r ih =>
  have hc : c ≠ 10 := fun e => h (by simp [e])
  rw [pieces, if_neg hc, ih (fun e => h (by simp [e]))]
  rfl
theorem pieces_text : ∀ (l : List (List UInt8)) (x : List UInt8), (∀ y ∈ l, (10 : UInt8) ∉ y) → (10 : UInt8) ∉ x → pieces (textOf l ++ x) = l ++ [x]
 | [], x, _, hx => by simpa [textOf] using pieces_one x hx
 | y :: l, x, h, hx => by
  rw [textOf_cons, List.append_assoc, List.cons_append, pieces_append y _ (h y (by simp)), pieces_text l x (fun z hz => h z (by simp [hz])) hx]
  rfl
theorem pieces_no : ∀ (s : List UInt8), ∀ y ∈ pieces s, (10 : UInt8) ∉ y
 | [], y, hy => by simp [pieces] at hy; simp [hy]
 | c :: r, y, hy => by
  have ih := pieces_no r
  unfold pieces at hy
  split at hy
  ·rcases List.mem_cons.1 hy with h | h
   ·simp [h]
   ·exact ih y h
  ·rename_i hc
   rcases List.mem_cons.1 hy with h | h
   ·subst h
    intro hm
    rcases List.mem_cons.1 hm with h | h
    ·exact hc h.symm
    ·rcases hp : pieces r with _ | ⟨p, q⟩
     ·exact pieces_ne r hp
     ·rw [hp] at h ih
      exact ih p (by simp) h
   ·exact ih y (List.mem_of_mem_tail h)
theorem pieces_back : ∀ (s : List UInt8), textOf (linesOf s) ++ lastP s = s
 | [] => rfl
 | c :: r => by
  have ih := pieces_back r
  unfold linesOf lastP at ih ⊢
  rcases hp : pieces r with _ | ⟨p, q⟩
  ·exact absurd hp (pieces_ne r)
  ·simp only [hp] at ih
   by_cases hc : c = 10
   ·subst hc
    have e : pieces (10 :: r) = [] :: p :: q := by rw [pieces, if_pos rfl, hp]
    simp only [e, List.dropLast_cons_cons, List.getLast_cons_cons, textOf_cons, List.nil_append, List.cons_append, ih]
   ·have e : pieces (c :: r) = (c :: p) :: q := by rw [pieces, if_neg hc, hp]; rfl
    simp only [e]
    cases q with
    | nil => simp [textOf] at ih ⊢; exact ih
    | cons q1 q2 =>
     simp only [List.dropLast_cons_cons, List.getLast_cons_cons, textOf_cons, List.cons_append] at ih ⊢
     rw [ih]
theorem linesOf_text {l : List (List UInt8)} {x : List UInt8} (h : ∀ y ∈ l, (10 : UInt8) ∉ y) (hx : (10 : UInt8) ∉ x) : linesOf (textOf l ++ x) = l ∧ lastP (textOf l ++ x) = x := by
 unfold linesOf lastP
 have e := pieces_text l x h hx
 constructor
 ·rw [e]; simp
 ·simp only [e]; simp
theorem pieces_len : ∀ (s : List UInt8), (pieces s).length ≤ s.length + 1
 | [] => by simp [pieces]
 | c :: r => by
  have := pieces_len r
  unfold pieces
  split
  ·simp; exact this
  ·have := List.length_tail (l := pieces r)
   simp only [List.length_cons]
   omega
theorem pieces_size : ∀ (s : List UInt8), ∀ y ∈ pieces s, y.length ≤ s.length
 | [], y, hy => by simp [pieces] at hy; simp [hy]
 | c :: r, y, hy => by
  have ih := pieces_size r
  unfold pieces at hy
  split at hy
  ·rcases List.mem_cons.1 hy with h | h
   ·simp [h]
   ·have := ih y h; simp; omega
  ·rcases List.mem_cons.1 hy with h | h
   ·subst h
    rcases hp : pieces r with _ | ⟨p, q⟩
    ·exact absurd hp (pieces_ne r)
    ·have := ih p (by rw [hp]; simp)
     simp; omega
   ·have := ih y (List.mem_of_mem_tail h); simp; omega

/-! ### The reader -/
structure S where
 i : Nat
 bad : Bool
def numOk (lo hi : Int) (x : List UInt8) : Bool := match Lib.atoiAll x with
 | .ok n => decide (Lib.itoa n = x) && (decide (lo ≤ n) && decide (n ≤ hi))
 | _ => false
def numV (x : List UInt8) : Int := match Lib.atoiAll x with
 | .ok n => n
 | _ => 0
def nx (L : List (List UInt8)) (good : List UInt8 → Bool) (s : S) : List UInt8 × S :=
 if s.bad = true then ([], s) else match L[s.i]? with
 | some x => if good x = true then (x, ⟨s.i + 1, false⟩) else ([], ⟨s.i, true⟩)
 | none => ([], ⟨s.i, true⟩)
def cd (L : List (List UInt8)) (n : Int) (s : S) : S := (nx L (fun x => decide (x = Lib.itoa n)) s).2
def nb (L : List (List UInt8)) (c lo hi : Int) (s : S) : Int × S := (numV (nx L (numOk lo hi) (cd L c s)).1, (nx L (numOk lo hi) (cd L c s)).2)
def pt (L : List (List UInt8)) (c : Int) (s : S) : V × S :=
 (((nb L c (-2000) 2000 s).1, (nb L (c + 10) (-2000) 2000 (nb L c (-2000) 2000 s).2).1), (nb L (c + 10) (-2000) 2000 (nb L c (-2000) 2000 s).2).2)
def ck (good : Bool) (s : S) : S := if s.bad = false ∧ good = false then ⟨s.i - 1, true⟩ else s
def kLine : List UInt8 := [76, 73, 78, 69]
def kArc : List UInt8 := [65, 82, 67]
def kPoly : List UInt8 := [80, 79, 76, 89]
def kEof : List UInt8 := [69, 79, 70]
def ent0 (l : List UInt8) : Ent := ⟨0, l, z0, z0, z0, z0, z0, false, []⟩
def rdLine (L : List (List UInt8)) (l : List UInt8) (s : S) : Ent × S :=
 (⟨1, l, (pt L 10 s).1, (pt L 11 (pt L 10 s).2).1, z0, z0, z0, false, []⟩, ck (!decide ((pt L 10 s).1 = (pt L 11 (pt L 10 s).2).1)) (pt L 11 (pt L 10 s).2).2)
def arc1 (L : List (List UInt8)) (s : S) : V × S := pt L 10 s
def arc2 (L : List (List UInt8)) (s : S) : V × S := pt L 11 (arc1 L s).2
def arc3 (L : List (List UInt8)) (s : S) : V × S := pt L 12 (arc2 L s).2
def arc4 (L : List (List UInt8)) (s : S) : Int × S := nb L 70 0 1 (arc3 L s).2
def mkArc (l : List UInt8) (f t c : V) (k : Int) : Ent := ⟨2, l, z0, z0, f, t, c, decide (k = 1), []⟩
def rdArc (L : List (List UInt8)) (l : List UInt8) (s : S) : Ent × S :=
 (mkArc l (arc1 L s).1 (arc2 L s).1 (arc3 L s).1 (arc4 L s).1, ck (arcOk (arc1 L s).1 (arc2 L s).1 (arc3 L s).1) (arc4 L s).2)
def rdPts (L : List (List UInt8)) : Nat → List V → S → List V × S
 | 0, acc, s => (acc, s)
 | n + 1, acc, s => if s.bad = true then (acc, s) else rdPts L n (acc ++ [(pt L 10 s).1]) (pt L 10 s).2
def rdPoly (L : List (List UInt8)) (l : List UInt8) (s : S) : Ent × S :=
 (⟨3, l, z0, z0, z0, z0, z0, false, (rdPts L (nb L 90 3 40 s).1.toNat [] (nb L 90 3 40 s).2).1⟩, (rdPts L (nb L 90 3 40 s).1.toNat [] (nb L 90 3 40 s).2).2)
def rdLay (L : List (List UInt8)) (s : S) : List UInt8 × S := nx L Lex.isName (cd L 8 s)
def rdKind (L : List (List UInt8)) (k l : List UInt8) (s : S) : Ent × S := if k = kLine then rdLine L l s else if k = kArc then rdArc L l s else rdPoly L l s
def rdEnt (L : List (List UInt8)) (k : List UInt8) (s : S) : Ent × S := rdKind L k (rdLay L s).1 (rdLay L s).2
def kindOk (n : Nat) (x : List UInt8) : Bool := decide (x = kEof) || (decide (n < 200) && (decide (x = kLine) || (decide (x = kArc) || decide (x = kPoly))))
def rdName (L : List (List UInt8)) (n : Nat) (s : S) : List UInt8 × S := nx L (kindOk n) (cd L 0 s)
def ents (L : List (List UInt8)) : Nat → S → List Ent → S × List Ent
 | 0, s, d => (s, d)
 | f + 1, s, d =>
  if s.bad = true ∨ (rdName L d.length s).1 = kEof ∨ (rdName L d.length s).2.bad = true then (if s.bad = true then s else (rdName L d.length s).2, d)
  else ents L f (rdEnt L (rdName L d.length s).1 (rdName L d.length s).2).2 (d ++ [(rdEnt L (rdName L d.length s).1 (rdName L d.length s).2).1])
def fin (L : List (List UInt8)) : S × List Ent := ents L 202 ⟨0, false⟩ []
def dec (t : List UInt8) : List Ent × Nat × Int :=
 if (fin (linesOf t)).1.bad = true ∨ (fin (linesOf t)).1.i < (linesOf t).length ∨ lastP t ≠ [] then ([], (fin (linesOf t)).1.i, 4) else ((fin (linesOf t)).2, 0, 0)

/-! ### The text -/
def gr (c : Int) (v : List UInt8) : List (List UInt8) := [Lib.itoa c, v]
def ptL (c : Int) (v : V) : List (List UInt8) := gr c (Lib.itoa v.1) ++ gr (c + 10) (Lib.itoa v.2)
def entL (x : Ent) : List (List UInt8) :=
 if x.kind = 1 then gr 0 kLine ++ (gr 8 x.layer ++ (ptL 10 x.a ++ ptL 11 x.b))
 else if x.kind = 2 then gr 0 kArc ++ (gr 8 x.layer ++ (ptL 10 x.f ++ (ptL 11 x.t ++ (ptL 12 x.c ++ gr 70 (if x.cw = true then [49] else [48])))))
 else gr 0 kPoly ++ (gr 8 x.layer ++ (gr 90 (Lib.itoa x.pts.length) ++ x.pts.flatMap (ptL 10)))
def drawL (d : List Ent) : List (List UInt8) := d.flatMap entL ++ gr 0 kEof
def enc (d : List Ent) : List UInt8 := textOf (drawL d)
end Go.Proofs.YtnmmhcchpcbeeaaGreatDoor.Gt

namespace Go.Proofs.YtnmmhcchpcbeeaaGreatDoor.Gt
open Go Go.Proofs.YtnmmhcchpcbeeaaGreatDoor.Ge

/-! ### Numerals -/
theorem dig_byte : ∀ (u : Nat) (b : UInt8), b ∈ Lib.decDigits u → 48 ≤ b.toNat ∧ b.toNat ≤ 57 := by
 intro u
 induction u using Nat.strongRecOn with
 | ind u ih =>
  intro b hb
  rw [Lib.decDigits] at hb
  split at hb
  ·rename_i h
   simp only [List.mem_cons, List.not_mem_nil, or_false] at hb
   subst hb
   rw [UInt8.toNat_ofNat']
   omega
  ·rename_i h
   rcases List.mem_append.1 hb with h1 | h1
   ·exact ih (u / 10) (by omega) b h1
   ·simp only [List.mem_cons, List.not_mem_nil, or_false] at h1
    subst h1
    rw [UInt8.toNat_ofNat']
    omega
theorem dig_ne (u : Nat) : Lib.decDigits u ≠ [] := by
 rw [Lib.decDigits]
 split <;> simp
theorem parse10_snoc : ∀ (l : List UInt8) (acc : Nat) (c : UInt8) (m : Nat), Lib.parseUint10 acc l = .ok m → Lib.parseUint10 acc (l ++ [c]) = Lib.parseUint10 m [c]
 | [], acc, c, m, h => by
  simp only [Lib.parseUint10] at h
  injection h with h
  subst h
  rfl
 | b :: r, acc, c, m, h => by
  rw [List.cons_append, Lib.parseUint10]
  rw [Lib.parseUint10] at h
  split at h
  ·rename_i h1
   rw [if_pos h1]
   split at h
   ·cases h
   ·rename_i h2
    rw [if_neg h2]
    split at h
    ·cases h
    ·rename_i h3
     rw [if_neg h3]
     exact parse10_snoc r _ c m h
  ·cases h
theorem parse10_dec : ∀ (u : Nat), u < 1000000000000000000 → Lib.parseUint10 0 (Lib.decDigits u) = .ok u := by
 intro u
 induction u using Nat.strongRecOn with
 | ind u ih =>
  intro hu
  rw [Lib.decDigits]
  split
  ·rename_i h
   have e : (UInt8.ofNat (48 + u)).toNat = 48 + u := by rw [UInt8.toNat_ofNat']; omega
   rw [Lib.parseUint10, e, if_pos (by omega), if_neg (by omega), if_neg (by omega), Lib.parseUint10]
   congr 1
   omega
  ·rename_i h
   have e : (UInt8.ofNat (48 + u % 10)).toNat = 48 + u % 10 := by rw [UInt8.toNat_ofNat']; omega
   rw [parse10_snoc _ _ _ _ (ih (u / 10) (by omega) (by omega)), Lib.parseUint10, e, if_pos (by omega), if_neg (by omega), if_neg (by omega), Lib.parseUint10]
   congr 1
   omega
theorem mag_dec (u : Nat) (h : u < 1000000000000000000) : Lib.parseMag (Lib.decDigits u) = .ok u := by
 rw [Lib.parseMag, if_neg (dig_ne u), parse10_dec u h]
theorem atoi_pos {l : List UInt8} (hne : l ≠ []) (hd : ∀ b ∈ l, 48 ≤ b.toNat) {u : Nat} (hu : u < 1000000000000000000) (h : Lib.parseMag l = .ok u) : Lib.atoiAll l = .ok u := by
 cases l with
 | nil => exact absurd rfl hne
 | cons c r =>
  have hc := hd c List.mem_cons_self
  rw [Lib.atoiAll]
  rw [if_neg (by omega), h]
  simp only
  rw [if_neg (by omega), if_neg (by omega), if_neg (by omega)]
theorem atoi_itoa (n : Int) (h : -999999999 ≤ n ∧ n ≤ 999999999) : Lib.atoiAll (Lib.itoa n) = .ok n := by
 unfold Lib.itoa
 split
 ·rename_i h0
  rw [Lib.atoiAll]
  rw [if_pos (by decide), mag_dec _ (by omega)]
  simp only
  rw [if_neg (by simp), if_neg (by simp; omega), if_pos (by decide)]
  congr 1
  omega
 ·have := atoi_pos (dig_ne n.toNat) (fun b hb => (dig_byte _ _ hb).1) (u := n.toNat) (by omega) (mag_dec _ (by omega))
  rw [this]
  congr 1
  omega
theorem numOk_itoa {n lo hi : Int} (h : -999999999 ≤ n ∧ n ≤ 999999999) (h1 : lo ≤ n) (h2 : n ≤ hi) : numOk lo hi (Lib.itoa n) = true ∧ numV (Lib.itoa n) = n := by
 unfold numOk numV
 rw [atoi_itoa n h]
 simp [h1, h2]
theorem numOk_back {lo hi : Int} {x : List UInt8} (h : numOk lo hi x = true) : x = Lib.itoa (numV x) ∧ lo ≤ numV x ∧ numV x ≤ hi := by
 unfold numOk numV at *
 split at h
 ·rename_i n hn
  simp only [Bool.and_eq_true, decide_eq_true_eq] at h
  exact ⟨h.1.symm, h.2⟩
 ·cases h

/-! ### Steps that read -/
abbrev Op (α : Type) := List (List UInt8) → S → α × S
def bnd {α β} (F : Op α) (G : α → Op β) : Op β := fun L s => G (F L s).1 L (F L s).2
def Stay {α} (F : Op α) : Prop := ∀ L s, s.bad = true → (F L s).2 = s
theorem Stay.bnd {α β} {F : Op α} {G : α → Op β} (hF : Stay F) (hG : ∀ a, Stay (G a)) : Stay (bnd F G) := fun L s h => by
 have h1 := hF L s h
 have h2 := hG (F L s).1 L (F L s).2 (by rw [h1]; exact h)
 exact h2.trans h1
theorem not_bad {α} {F : Op α} (hF : Stay F) {L s} (h : (F L s).2.bad = false) : s.bad = false := by
 cases hb : s.bad with
 | false => rfl
 | true => rw [hF L s hb, hb] at h; cases h
def opNx (g : List UInt8 → Bool) : Op (List UInt8) := fun L s => nx L g s
def opCd (c : Int) : Op Unit := fun L s => ((), cd L c s)
def opCk (b : Bool) : Op Unit := fun _ s => ((), ck b s)
def opRet {α} (a : α) : Op α := fun _ s => (a, s)
theorem stay_nx (g) : Stay (opNx g) := fun L s h => by unfold opNx nx; rw [if_pos h]
theorem stay_cd (c) : Stay (opCd c) := fun L s h => stay_nx _ L s h
theorem stay_ck (b) : Stay (opCk b) := fun L s h => by unfold opCk ck; rw [if_neg (by simp [h])]
theorem stay_ret {α} (a : α) : Stay (opRet a) := fun _ _ _ => rfl
def opNb (c lo hi : Int) : Op Int := bnd (opCd c) fun _ => bnd (opNx (numOk lo hi)) fun x => opRet (numV x)
def opPt (c : Int) : Op V := bnd (opNb c (-2000) 2000) fun x => bnd (opNb (c + 10) (-2000) 2000) fun y => opRet (x, y)
theorem opNb_eq (c lo hi) (L s) : opNb c lo hi L s = nb L c lo hi s := rfl
theorem opPt_eq (c) (L s) : opPt c L s = pt L c s := rfl
def opPts : Nat → List V → Op (List V)
 | 0, acc => opRet acc
 | n + 1, acc => bnd (opPt 10) fun v => opPts n (acc ++ [v])
theorem stay_nb (c lo hi) : Stay (opNb c lo hi) := (stay_cd c).bnd fun _ => (stay_nx _).bnd fun _ => stay_ret _
theorem stay_pt (c) : Stay (opPt c) := (stay_nb _ _ _).bnd fun _ => (stay_nb _ _ _).bnd fun _ => stay_ret _
theorem stay_pts : ∀ n acc, Stay (opPts n acc)
 | 0, acc => stay_ret acc
 | n + 1, acc => (stay_pt 10).bnd fun v => stay_pts n (acc ++ [v])
/-- The points that are read: the two forms agree in the state, and in the points unless it is bad. -/
theorem rdPts_eq : ∀ n acc L s, (rdPts L n acc s).2 = (opPts n acc L s).2 ∧ ((opPts n acc L s).2.bad = false → (rdPts L n acc s).1 = (opPts n acc L s).1)
 | 0, acc, L, s => ⟨rfl, fun _ => rfl⟩
 | n + 1, acc, L, s => by
  unfold rdPts
  by_cases hb : s.bad = true
  ·rw [if_pos hb]
   have := stay_pts (n + 1) acc L s hb
   exact ⟨this.symm, fun h => by rw [this, hb] at h; cases h⟩
  ·rw [if_neg hb]
   exact rdPts_eq n (acc ++ [(pt L 10 s).1]) L (pt L 10 s).2
def opLine (l : List UInt8) : Op Ent := bnd (opPt 10) fun a => bnd (opPt 11) fun b => bnd (opCk (!decide (a = b))) fun _ => opRet ⟨1, l, a, b, z0, z0, z0, false, []⟩
def opArc (l : List UInt8) : Op Ent := bnd (opPt 10) fun f => bnd (opPt 11) fun t => bnd (opPt 12) fun c => bnd (opNb 70 0 1) fun k => bnd (opCk (arcOk f t c)) fun _ => opRet (mkArc l f t c k)
def opPoly (l : List UInt8) : Op Ent := bnd (opNb 90 3 40) fun n => bnd (opPts n.toNat []) fun p => opRet ⟨3, l, z0, z0, z0, z0, z0, false, p⟩
def opKind (k l : List UInt8) : Op Ent := if k = kLine then opLine l else if k = kArc then opArc l else opPoly l
def opEnt (k : List UInt8) : Op Ent := bnd (opCd 8) fun _ => bnd (opNx Lex.isName) fun l => opKind k l
theorem stay_line (l) : Stay (opLine l) := (stay_pt 10).bnd fun _ => (stay_pt 11).bnd fun _ => (stay_ck _).bnd fun _ => stay_ret _
theorem stay_arc (l) : Stay (opArc l) := (stay_pt 10).bnd fun _ => (stay_pt 11).bnd fun _ => (stay_pt 12).bnd fun _ => (stay_nb _ _ _).bnd fun _ => (stay_ck _).bnd fun _ => stay_ret _
theorem stay_poly (l) : Stay (opPoly l) := (stay_nb _ _ _).bnd fun _ => (stay_pts _ _).bnd fun _ => stay_ret _
theorem stay_kind (k l) : Stay (opKind k l) := by
 unfold opKind
 split
 ·exact stay_line l
 ·split
  ·exact stay_arc l
  ·exact stay_poly l
theorem rdArc_eq (L l s) : rdArc L l s = opArc l L s := by
 unfold rdArc opArc arc4 arc3 arc2 arc1
 simp only [bnd, opNb_eq, opPt_eq, opRet, opCk]
theorem rdPoly_eq (L l s) : (rdPoly L l s).2 = (opPoly l L s).2 ∧ ((opPoly l L s).2.bad = false → (rdPoly L l s).1 = (opPoly l L s).1) := by
 have h := rdPts_eq (nb L 90 3 40 s).1.toNat [] L (nb L 90 3 40 s).2
 unfold rdPoly opPoly
 simp only [bnd, opNb_eq, opRet]
 generalize (nb L 90 3 40 s).1.toNat = n at *
 generalize (nb L 90 3 40 s).2 = s2 at *
 exact ⟨h.1, fun hb => by rw [h.2 hb]⟩
theorem rdEnt_eq (L k s) : (rdEnt L k s).2 = (opEnt k L s).2 ∧ ((opEnt k L s).2.bad = false → (rdEnt L k s).1 = (opEnt k L s).1) := by
 have e : opEnt k L s = opKind k (rdLay L s).1 L (rdLay L s).2 := rfl
 rw [e]
 unfold rdEnt rdKind opKind
 by_cases h1 : k = kLine
 ·simp only [if_pos h1]; exact ⟨rfl, fun _ => rfl⟩
 ·simp only [if_neg h1]
  by_cases h2 : k = kArc
  ·simp only [if_pos h2, rdArc_eq]; exact ⟨trivial, fun _ => trivial⟩
  ·simp only [if_neg h2]; exact rdPoly_eq ..
def opName (n : Nat) : Op (List UInt8) := bnd (opCd 0) fun _ => opNx (kindOk n)
/-! ### What is read lies in the lines -/
def Eats {α} (F : Op α) (Q : α → List (List UInt8) → Prop) : Prop := ∀ L s, (F L s).2.bad = false → ∃ ls, Q (F L s).1 ls ∧ L.drop s.i = ls ++ L.drop (F L s).2.i
theorem Eats.bnd {α β} {F : Op α} {G : α → Op β} {Q : α → List (List UInt8) → Prop} {Q2 : α → β → List (List UInt8) → Prop} (hF : Eats F Q) (hG : ∀ a, Eats (G a) (Q2 a)) (hS : ∀ a, Stay (G a)) :
  Eats (bnd F G) (fun b ls => ∃ a l1 l2, Q a l1 ∧ Q2 a b l2 ∧ ls = l1 ++ l2) := fun L s h => by
 have hb : (F L s).2.bad = false := not_bad (hS _) h
 obtain ⟨l1, q1, e1⟩ := hF L s hb
 obtain ⟨l2, q2, e2⟩ := hG (F L s).1 L (F L s).2 h
 exact ⟨l1 ++ l2, ⟨_, l1, l2, q1, q2, rfl⟩, by rw [e1, e2, List.append_assoc]; rfl⟩
theorem Eats.mono {α} {F : Op α} {Q Q2 : α → List (List UInt8) → Prop} (h : Eats F Q) (hq : ∀ a l, Q a l → Q2 a l) : Eats F Q2 := fun L s hb => by
 obtain ⟨ls, q, e⟩ := h L s hb
 exact ⟨ls, hq _ _ q, e⟩
theorem eats_nx (g) : Eats (opNx g) (fun x ls => ls = [x] ∧ g x = true) := fun L s h => by
 unfold opNx nx at h ⊢
 by_cases hb : s.bad = true
 ·rw [if_pos hb] at h; rw [hb] at h; cases h
 ·simp only [if_neg hb] at h ⊢
  rcases hx : L[s.i]? with _ | x
  ·simp only [hx] at h; cases h
  ·simp only [hx] at h ⊢
   by_cases hg : g x = true
   ·simp only [if_pos hg]
    refine ⟨[x], ⟨rfl, hg⟩, ?_⟩
    obtain ⟨hi, rfl⟩ := List.getElem?_eq_some_iff.1 hx
    exact List.drop_eq_getElem_cons hi
   ·simp only [if_neg hg] at h; cases h
theorem eats_cd (c) : Eats (opCd c) (fun _ ls => ls = [Lib.itoa c]) := fun L s h => by
 obtain ⟨ls, ⟨rfl, q⟩, e⟩ := eats_nx (fun x => decide (x = Lib.itoa c)) L s h
 simp only [decide_eq_true_eq] at q
 exact ⟨_, rfl, by rw [← q]; exact e⟩
theorem eats_ret {α} (a : α) : Eats (opRet a) (fun b ls => b = a ∧ ls = []) := fun _ _ _ => ⟨[], ⟨rfl, rfl⟩, rfl⟩
theorem eats_ck (b) : Eats (opCk b) (fun _ ls => b = true ∧ ls = []) := fun L s h => by
 unfold opCk ck at h ⊢
 by_cases hc : s.bad = false ∧ b = false
 ·simp only [if_pos hc] at h; cases h
 ·simp only [if_neg hc] at h ⊢
  refine ⟨[], ⟨?_, rfl⟩, rfl⟩
  cases b with
  | true => rfl
  | false => exact absurd ⟨h, rfl⟩ hc
theorem eats_nb (c lo hi) : Eats (opNb c lo hi) (fun n ls => ls = gr c (Lib.itoa n) ∧ lo ≤ n ∧ n ≤ hi) := by
 refine ((eats_cd c).bnd (fun _ => (eats_nx _).bnd (fun x => eats_ret _) (fun _ => stay_ret _)) (fun _ => (stay_nx _).bnd fun _ => stay_ret _)).mono ?_
 rintro n l ⟨_, l1, l2, rfl, ⟨x, l3, l4, ⟨rfl, hg⟩, ⟨rfl, rfl⟩, rfl⟩, rfl⟩
 obtain ⟨e, h1, h2⟩ := numOk_back hg
 refine ⟨?_, h1, h2⟩
 show [Lib.itoa c, x] = [Lib.itoa c, Lib.itoa (numV x)]
 rw [← e]
theorem eats_pt (c) : Eats (opPt c) (fun v ls => ls = ptL c v ∧ within v 2000 = true) := by
 refine ((eats_nb c _ _).bnd (fun _ => (eats_nb _ _ _).bnd (fun _ => eats_ret _) (fun _ => stay_ret _)) (fun _ => (stay_nb _ _ _).bnd fun _ => stay_ret _)).mono ?_
 rintro v l ⟨x, l1, l2, ⟨rfl, hx1, hx2⟩, ⟨y, l3, l4, ⟨rfl, hy1, hy2⟩, ⟨rfl, rfl⟩, rfl⟩, rfl⟩
 refine ⟨by simp [ptL], ?_⟩
 simp [within]
 omega
theorem eats_pts : ∀ n acc, Eats (opPts n acc) (fun p ls => ∃ q, p = acc ++ q ∧ q.length = n ∧ near q = true ∧ ls = q.flatMap (ptL 10))
 | 0, acc => (eats_ret acc).mono fun p l h => ⟨[], by simp [h.1], rfl, rfl, h.2⟩
 | n + 1, acc => by
  refine ((eats_pt 10).bnd (fun v => eats_pts n (acc ++ [v])) (fun _ => stay_pts _ _)).mono ?_
  rintro p l ⟨v, l1, l2, ⟨rfl, hv⟩, ⟨q, rfl, hq, hn, rfl⟩, rfl⟩
  refine ⟨v :: q, by simp, by simp [hq], ?_, rfl⟩
  unfold near at hn ⊢
  simp only [List.all_cons, hn, Bool.and_true]
  exact hv
def kN (x : Ent) : List UInt8 := if x.kind = 1 then kLine else if x.kind = 2 then kArc else kPoly
def bodyL (x : Ent) : List (List UInt8) :=
 if x.kind = 1 then ptL 10 x.a ++ ptL 11 x.b
 else if x.kind = 2 then ptL 10 x.f ++ (ptL 11 x.t ++ (ptL 12 x.c ++ gr 70 (if x.cw = true then [49] else [48])))
 else gr 90 (Lib.itoa x.pts.length) ++ x.pts.flatMap (ptL 10)
theorem entL_eq (x : Ent) : entL x = gr 0 (kN x) ++ (gr 8 x.layer ++ bodyL x) := by
 unfold entL kN bodyL
 split
 ·rfl
 ·split <;> rfl
theorem itoa01 {n : Int} (h0 : 0 ≤ n) (h1 : n ≤ 1) : Lib.itoa n = (if decide (n = 1) = true then [49] else [48]) := by
 have : n = 0 ∨ n = 1 := by omega
 rcases this with rfl | rfl
 ·simp [Lib.itoa, Lib.decDigits]
 ·simp [Lib.itoa, Lib.decDigits]
theorem eats_line (l) (hl : Lex.isName l = true) : Eats (opLine l) (fun x ls => x.layer = l ∧ x.kind = 1 ∧ entOk x = true ∧ ls = bodyL x) := by
 refine ((eats_pt 10).bnd (fun a => (eats_pt 11).bnd (fun b => (eats_ck _).bnd (fun _ => eats_ret _) (fun _ => stay_ret _)) (fun _ => (stay_ck _).bnd fun _ => stay_ret _)) (fun _ => (stay_pt 11).bnd fun _ => (stay_ck _).bnd fun _ => stay_ret _)).mono ?_
 rintro x ls ⟨a, l1, l2, ⟨rfl, ha⟩, ⟨b, l3, l4, ⟨rfl, hb⟩, ⟨_, l5, l6, ⟨hc, rfl⟩, ⟨rfl, rfl⟩, rfl⟩, rfl⟩, rfl⟩
 refine ⟨rfl, rfl, ?_, by simp [bodyL]⟩
 unfold entOk lineOk
 simp only [hl, Bool.true_and, if_pos, hc, ha, hb]
 rfl
theorem eats_arc (l) (hl : Lex.isName l = true) : Eats (opArc l) (fun x ls => x.layer = l ∧ x.kind = 2 ∧ entOk x = true ∧ ls = bodyL x) := by
 refine ((eats_pt 10).bnd (fun f => (eats_pt 11).bnd (fun t => (eats_pt 12).bnd (fun c => (eats_nb 70 0 1).bnd (fun k => (eats_ck _).bnd (fun _ => eats_ret _) (fun _ => stay_ret _)) (fun _ => (stay_ck _).bnd fun _ => stay_ret _)) (fun _ => (stay_nb _ _ _).bnd fun _ => (stay_ck _).bnd fun _ => stay_ret _)) (fun _ => (stay_pt 12).bnd fun _ => (stay_nb _ _ _).bnd fun _ => (stay_ck _).bnd fun _ => stay_ret _)) (fun _ => (stay_pt 11).bnd fun _ => (stay_pt 12).bnd fun _ => (stay_nb _ _ _).bnd fun _ => (stay_ck _).bnd fun _ => stay_ret _)).mono ?_
 rintro x ls ⟨f, l1, l2, ⟨rfl, hf⟩, ⟨t, l3, l4, ⟨rfl, ht⟩, ⟨c, l5, l6, ⟨rfl, hc⟩, ⟨k, l7, l8, ⟨rfl, hk0, hk1⟩, ⟨_, l9, l10, ⟨hk, rfl⟩, ⟨rfl, rfl⟩, rfl⟩, rfl⟩, rfl⟩, rfl⟩, rfl⟩
 refine ⟨rfl, rfl, ?_, by simp [bodyL, mkArc, itoa01 hk0 hk1]⟩
 show (Lex.isName l && (noLine (mkArc l f t c k) && (arcOk f t c && noPts (mkArc l f t c k)))) = true
 simp only [hl, Bool.true_and, hk]
 rfl
theorem eats_poly (l) (hl : Lex.isName l = true) : Eats (opPoly l) (fun x ls => x.layer = l ∧ x.kind = 3 ∧ entOk x = true ∧ ls = bodyL x) := by
 refine ((eats_nb 90 3 40).bnd (fun n => (eats_pts n.toNat []).bnd (fun _ => eats_ret _) (fun _ => stay_ret _)) (fun _ => (stay_pts _ _).bnd fun _ => stay_ret _)).mono ?_
 rintro x ls ⟨n, l1, l2, ⟨rfl, h3, h40⟩, ⟨p', l3, l4, ⟨p, rfl, hq, hn, rfl⟩, ⟨rfl, rfl⟩, rfl⟩, rfl⟩
 refine ⟨rfl, rfl, ?_, ?_⟩
 ·unfold entOk polyOk
  simp only [hl, Bool.true_and, hn, Bool.and_true]
  have h1 : 3 ≤ p'.length := by omega
  have h2 : p'.length ≤ 40 := by omega
  simp [h1, h2, noLine, noArc]
 ·have : (p'.length : Int) = n := by omega
  simp [bodyL, this]
theorem eats_kind (k l) (hk : k = kLine ∨ k = kArc ∨ k = kPoly) (hl : Lex.isName l = true) : Eats (opKind k l) (fun x ls => x.layer = l ∧ kN x = k ∧ entOk x = true ∧ ls = bodyL x) := by
 unfold opKind
 rcases hk with rfl | rfl | rfl
 ·rw [if_pos rfl]
  exact (eats_line l hl).mono fun x ls ⟨h1, h2, h3, h4⟩ => ⟨h1, by simp [kN, h2], h3, h4⟩
 ·rw [if_neg (by decide), if_pos rfl]
  exact (eats_arc l hl).mono fun x ls ⟨h1, h2, h3, h4⟩ => ⟨h1, by simp [kN, h2], h3, h4⟩
 ·rw [if_neg (by decide), if_neg (by decide)]
  exact (eats_poly l hl).mono fun x ls ⟨h1, h2, h3, h4⟩ => ⟨h1, by simp [kN, h2], h3, h4⟩
theorem eats_ent (k) (hk : k = kLine ∨ k = kArc ∨ k = kPoly) : Eats (opEnt k) (fun x ls => kN x = k ∧ entOk x = true ∧ ls = gr 8 x.layer ++ bodyL x) := by
 intro L s h
 have e : opEnt k L s = opKind k (rdLay L s).1 L (rdLay L s).2 := rfl
 rw [e] at h ⊢
 have hb := not_bad (stay_kind k _) h
 obtain ⟨l1, q1, e1⟩ := ((eats_cd 8).bnd (fun _ => eats_nx Lex.isName) (fun _ => stay_nx _)) L s hb
 obtain ⟨_, l2, l3, rfl, ⟨rfl, hl⟩, rfl⟩ := q1
 obtain ⟨l4, ⟨h1, h2, h3, rfl⟩, e2⟩ := eats_kind k _ hk hl L _ h
 refine ⟨_, ⟨h2, h3, rfl⟩, ?_⟩
 have h1' : (opKind k (rdLay L s).1 L (rdLay L s).2).1.layer = (rdLay L s).1 := h1
 have e1' : L.drop s.i = [Lib.itoa 8] ++ [(rdLay L s).1] ++ L.drop (rdLay L s).2.i := e1
 have e2' : L.drop (rdLay L s).2.i = bodyL (opKind k (rdLay L s).1 L (rdLay L s).2).1 ++ L.drop (opKind k (rdLay L s).1 L (rdLay L s).2).2.i := e2
 rw [e1', e2', h1']
 simp [gr]
theorem eats_name (n) : Eats (opName n) (fun k ls => kindOk n k = true ∧ ls = gr 0 k) := by
 refine ((eats_cd 0).bnd (fun _ => eats_nx _) (fun _ => stay_nx _)).mono ?_
 rintro k ls ⟨_, l1, l2, rfl, ⟨rfl, hk⟩, rfl⟩
 exact ⟨hk, rfl⟩
theorem kind_go {n : Nat} {k : List UInt8} (h : kindOk n k = true) (hk : k ≠ kEof) : n < 200 ∧ (k = kLine ∨ k = kArc ∨ k = kPoly) := by
 unfold kindOk at h
 simpa [hk] using h
/-- What is read from a place on is the text of what is added. -/
theorem ents_eats : ∀ (f : Nat) (L : List (List UInt8)) (s : S) (d : List Ent), f + d.length = 202 → d.length ≤ 200 → d.all entOk = true → (ents L f s d).1.bad = false →
  ∃ q, (ents L f s d).2 = d ++ q ∧ (d ++ q).length ≤ 200 ∧ (d ++ q).all entOk = true ∧ L.drop s.i = drawL q ++ L.drop (ents L f s d).1.i
 | 0, L, s, d, h1, h2, _, _ => by omega
 | f + 1, L, s, d, h1, h2, h3, h => by
  unfold ents at h ⊢
  by_cases hc : s.bad = true ∨ (rdName L d.length s).1 = kEof ∨ (rdName L d.length s).2.bad = true
  ·rw [if_pos hc] at h ⊢
   by_cases hb : s.bad = true
   ·simp only [if_pos hb] at h; rw [hb] at h; cases h
   ·simp only [if_neg hb] at h ⊢
    have hk : (rdName L d.length s).1 = kEof := by
     rcases hc with hc | hc | hc
     ·exact absurd hc hb
     ·exact hc
     ·rw [hc] at h; cases h
    obtain ⟨ls, ⟨_, rfl⟩, e⟩ := eats_name d.length L s h
    refine ⟨[], by simp, by simpa using h2, by simpa using h3, ?_⟩
    have e' : L.drop s.i = gr 0 (rdName L d.length s).1 ++ L.drop (rdName L d.length s).2.i := e
    rw [e', hk]
    rfl
  ·rw [if_neg hc] at h ⊢
   have hb : (rdName L d.length s).2.bad = false := by
    cases hx : (rdName L d.length s).2.bad with
    | false => rfl
    | true => exact absurd (.inr (.inr hx)) hc
   obtain ⟨ls, ⟨hk, rfl⟩, e⟩ := eats_name d.length L s hb
   have hk' : kindOk d.length (rdName L d.length s).1 = true := hk
   obtain ⟨hn, hk3⟩ := kind_go hk' (fun e => hc (.inr (.inl e)))
   have he := rdEnt_eq L (rdName L d.length s).1 (rdName L d.length s).2
   have hb2 : (rdEnt L (rdName L d.length s).1 (rdName L d.length s).2).2.bad = false := by
    cases hx : (rdEnt L (rdName L d.length s).1 (rdName L d.length s).2).2.bad with
    | false => rfl
    | true =>
     exfalso
     cases f with
     | zero => simp at h1; omega
     | succ f =>
      unfold ents at h
      rw [if_pos (.inl hx)] at h
      simp only [if_pos hx] at h
      rw [hx] at h; cases h
   obtain ⟨l2, ⟨q1, q2, rfl⟩, e2⟩ := eats_ent _ hk3 L (rdName L d.length s).2 (by rw [← he.1]; exact hb2)
   rw [← he.2 (by rw [← he.1]; exact hb2)] at q1 q2 e2
   rw [← he.1] at e2
   have ih := ents_eats f L _ (d ++ [(rdEnt L (rdName L d.length s).1 (rdName L d.length s).2).1]) (by simp; omega) (by simp; omega) (by simp only [List.all_append, List.all_cons, List.all_nil, h3, q2]; rfl) h
   obtain ⟨q, i1, i2, i3, i4⟩ := ih
   refine ⟨(rdEnt L (rdName L d.length s).1 (rdName L d.length s).2).1 :: q, by rw [i1]; simp, by simpa using i2, by simpa using i3, ?_⟩
   have e' : L.drop s.i = gr 0 (rdName L d.length s).1 ++ L.drop (rdName L d.length s).2.i := e
   rw [e', e2, i4]
   unfold drawL
   rw [List.flatMap_cons, entL_eq, q1]
   simp only [List.append_assoc]
theorem dec_back {t : List UInt8} (h : (dec t).2.2 = 0) : drawOk (dec t).1 = true ∧ enc (dec t).1 = t ∧ (dec t).2.1 = 0 := by
 unfold dec at h ⊢
 by_cases hc : (fin (linesOf t)).1.bad = true ∨ (fin (linesOf t)).1.i < (linesOf t).length ∨ lastP t ≠ []
 ·rw [if_pos hc] at h; exact absurd (show (4 : Int) = 0 from h) (by decide)
 ·rw [if_neg hc] at h ⊢
  have hb : (fin (linesOf t)).1.bad = false := by
   cases hx : (fin (linesOf t)).1.bad with
   | false => rfl
   | true => exact absurd (.inl hx) hc
  have hi : (linesOf t).length ≤ (fin (linesOf t)).1.i := by
   rcases Nat.lt_or_ge (fin (linesOf t)).1.i (linesOf t).length with hx | hx
   ·exact absurd (.inr (.inl hx)) hc
   ·exact hx
  have hl : lastP t = [] := by
   rcases Decidable.em (lastP t = []) with hx | hx
   ·exact hx
   ·exact absurd (.inr (.inr hx)) hc
  obtain ⟨q, e1, e2, e3, e4⟩ := ents_eats 202 (linesOf t) ⟨0, false⟩ [] (by rfl) (by decide) (by rfl) hb
  have e1' : (fin (linesOf t)).2 = [] ++ q := e1
  rw [e1']
  rw [List.nil_append] at e2 e3 ⊢
  refine ⟨by simp only [drawOk, e3, e2, decide_true, Bool.and_true], ?_, rfl⟩
  have e4' : (linesOf t).drop 0 = drawL q ++ (linesOf t).drop (fin (linesOf t)).1.i := e4
  rw [List.drop_eq_nil_of_le hi, List.append_nil, List.drop_zero] at e4'
  have := pieces_back t
  rw [hl, List.append_nil, e4'] at this
  exact this
end Go.Proofs.YtnmmhcchpcbeeaaGreatDoor.Gt
