/- Numerals, names and marks are words of the lexer; no program is in sight. Conditions: none. -/
import Derived.Test.YtnkkcknogkgdkaaGreatDoorLexLaws

namespace Go.Proofs.YtnkkcknogkgdkaaGreatDoor.Wd
open Go
open Go.Proofs.YtnkkcknogkgdkaaGreatDoor.Lex (Tok LR key Word stop)

/-! ### Numerals -/
theorem dec_digits:∀ (n v:Nat),v≤n→(Lib.decDigits v).all Lex.digit=true
 | 0,v,h=>by
  obtain rfl:v=0:=by omega
  rw [Lib.decDigits,dif_pos (by decide)]
  decide
 | n+1,v,h=>by
  have hd:∀ d:Nat,d < 10→Lex.digit (UInt8.ofNat (48+d))=true:=by
   intro d hd
   have:∀ d:Fin 10,Lex.digit (UInt8.ofNat (48+d.val))=true:=by decide
   exact this ⟨d,hd⟩
  by_cases h1:v < 10
  ·rw [Lib.decDigits,dif_pos h1]
   simp only [List.all_cons,List.all_nil,Bool.and_true]
   exact hd v h1
  ·rw [Lib.decDigits,dif_neg h1,List.all_append,dec_digits n (v / 10) (by omega)]
   simp only [List.all_cons,List.all_nil,Bool.and_true,Bool.true_and]
   exact hd (v % 10) (by omega)
theorem dec_head:∀ (n v:Nat),v≤n→1≤v→∃ c r,Lib.decDigits v=c::r∧c≠48∧Lex.digit c=true
 | 0,v,h,h1=>by omega
 | n+1,v,h,h1=>by
  have hd:∀ d:Nat,d < 10→1≤d→UInt8.ofNat (48+d)≠48∧Lex.digit (UInt8.ofNat (48+d))=true:=by
   intro d hd h1
   have:∀ d:Fin 10,1≤d.val→UInt8.ofNat (48+d.val)≠48∧Lex.digit (UInt8.ofNat (48+d.val))=true:=by decide
   exact this ⟨d,hd⟩ h1
  by_cases h2:v < 10
  ·rw [Lib.decDigits,dif_pos h2]
   exact ⟨_,_,rfl,(hd v h2 h1).1,(hd v h2 h1).2⟩
  ·obtain ⟨c,r,e,h3⟩:=dec_head n (v / 10) (by omega) (by omega)
   rw [Lib.decDigits,dif_neg h2,e]
   exact ⟨c,r++[UInt8.ofNat (48+v % 10)],rfl,h3⟩
theorem dec_ne (x:Nat):1≤(Lib.decDigits x).length:=by
 rw [Lib.decDigits]
 split<;>simp
theorem dec_inj:∀ (n u v:Nat),u≤n→Lib.decDigits u=Lib.decDigits v→u=v
 | 0,u,v,h,e=>by
  obtain rfl:u=0:=by omega
  apply Classical.byContradiction
  intro hn
  obtain ⟨c,r,e2,h3,_⟩:=dec_head v v (Nat.le_refl _) (by omega)
  rw [e2,Lib.decDigits,dif_pos (by decide)] at e
  exact h3 (List.cons.inj e).1.symm
 | n+1,u,v,h,e=>by
  have hb:∀ a b:Nat,a < 10→b < 10→UInt8.ofNat (48+a)=UInt8.ofNat (48+b)→a=b:=by
   intro a b ha hb he
   have:=congrArg UInt8.toNat he
   rw [UInt8.toNat_ofNat',UInt8.toNat_ofNat'] at this
   omega
  have el:=congrArg List.length e
  by_cases h1:u < 10<;>by_cases h2:v < 10
  ·rw [Lib.decDigits,dif_pos h1,Lib.decDigits,dif_pos h2] at e
   exact hb u v h1 h2 (List.cons.inj e).1
  ·have e1:Lib.decDigits u=[UInt8.ofNat (48+u)]:=by rw [Lib.decDigits,dif_pos h1]
   have e2:Lib.decDigits v=Lib.decDigits (v / 10)++[UInt8.ofNat (48+v % 10)]:=by rw [Lib.decDigits,dif_neg h2]
   rw [e1,e2] at el
   have:=dec_ne (v / 10)
   simp only [List.length_append,List.length_cons,List.length_nil] at el
   omega
  ·have e1:Lib.decDigits v=[UInt8.ofNat (48+v)]:=by rw [Lib.decDigits,dif_pos h2]
   have e2:Lib.decDigits u=Lib.decDigits (u / 10)++[UInt8.ofNat (48+u % 10)]:=by rw [Lib.decDigits,dif_neg h1]
   rw [e1,e2] at el
   have:=dec_ne (u / 10)
   simp only [List.length_append,List.length_cons,List.length_nil] at el
   omega
  ·have e1:Lib.decDigits u=Lib.decDigits (u / 10)++[UInt8.ofNat (48+u % 10)]:=by rw [Lib.decDigits,dif_neg h1]
   have e2:Lib.decDigits v=Lib.decDigits (v / 10)++[UInt8.ofNat (48+v % 10)]:=by rw [Lib.decDigits,dif_neg h2]
   rw [e1,e2] at e
   obtain ⟨e3,e4⟩:=List.append_inj' e rfl
   have e5:=dec_inj n (u / 10) (v / 10) (by omega) e3
   have e6:=hb (u % 10) (v % 10) (by omega) (by omega) (List.cons.inj e4).1
   omega
theorem not_letter {c:UInt8} (h:Lex.digit c=true):Lex.letter c=false:=by
 unfold Lex.digit at h
 simp only [Bool.and_eq_true,decide_eq_true_eq] at h
 unfold Lex.letter
 simp;omega
theorem dec_len:∀ (k u:Nat),u < 10 ^ (k+1)→(Lib.decDigits u).length≤k+1
 | 0,u,h=>by
  rw [Lib.decDigits,dif_pos (by simpa using h)];simp
 | k+1,u,h=>by
  rw [Lib.decDigits]
  split
  ·simp
  ·have:=dec_len k (u / 10) (by rw [Nat.pow_succ] at h;omega)
   simp;omega
theorem itoa_inj {m n:Int} (h:Lib.itoa m=Lib.itoa n):m=n:=by
 have hp:∀ u:Nat,∃ c r,Lib.decDigits u=c::r∧c≠45:=fun u=>by
  by_cases hu:u=0
  ·subst hu
   rw [Lib.decDigits,dif_pos (by decide)]
   exact ⟨_,_,rfl,by decide⟩
  ·obtain ⟨c,r,e,_,h3⟩:=dec_head u u (Nat.le_refl _) (by omega)
   exact ⟨c,r,e,by rintro rfl;exact absurd h3 (by decide)⟩
 unfold Lib.itoa at h
 by_cases h1:m < 0<;>by_cases h2:n < 0
 ·rw [if_pos h1,if_pos h2] at h
  have:=dec_inj _ _ _ (Nat.le_refl _) (List.cons.inj h).2
  omega
 ·rw [if_pos h1,if_neg h2] at h
  obtain ⟨c,r,e,h3⟩:=hp n.toNat
  rw [e] at h
  exact absurd (List.cons.inj h).1.symm h3
 ·rw [if_neg h1,if_pos h2] at h
  obtain ⟨c,r,e,h3⟩:=hp m.toNat
  rw [e] at h
  exact absurd (List.cons.inj h).1 h3
 ·rw [if_neg h1,if_neg h2] at h
  have:=dec_inj _ _ _ (Nat.le_refl _) h
  omega
theorem itoa_parts {n:Int} (h : -999999999≤n∧n≤999999999):∃ c r,Lib.itoa n=c::r∧Lex.letter c=false∧(Lex.digit c || decide (c=45))=true∧Lex.numRun r=r∧Lex.numBad c r=false∧(Lex.numDigs c r).length≤9:=by
 by_cases hn:n < 0
 ·obtain ⟨d,q,e,h2,h3⟩:=dec_head n.natAbs n.natAbs (Nat.le_refl _) (by omega)
  have ha:=dec_digits n.natAbs n.natAbs (Nat.le_refl _)
  have hlen:=dec_len 8 n.natAbs (by omega)
  have hrun:Lex.numRun (Lib.decDigits n.natAbs)=Lib.decDigits n.natAbs:=by
   have:=Lex.takeWhile_stop (p:=Lex.digit) (fun _ h=>Lex.inner_of_digit h) (w:=Lib.decDigits n.natAbs) (rest:=[]) ha rfl
   rwa [List.append_nil] at this
  refine ⟨45,Lib.decDigits n.natAbs,by unfold Lib.itoa;rw [if_pos hn],by decide,by decide,hrun,?_,?_⟩
  ·unfold Lex.numBad Lex.numDigs
   rw [if_pos rfl,hrun,List.drop_length,e]
   simp [h2]
  ·unfold Lex.numDigs
   rw [if_pos rfl,hrun]
   exact hlen
 ·have hlen:=dec_len 8 n.toNat (by omega)
  have hi:Lib.itoa n=Lib.decDigits n.toNat:=by unfold Lib.itoa;rw [if_neg hn]
  obtain ⟨c,r,e,hz,hd⟩:∃ c r,Lib.decDigits n.toNat=c::r∧((c=48)→r=[])∧Lex.digit c=true:=by
   by_cases hn:n.toNat=0
   ·rw [hn,Lib.decDigits,dif_pos (by decide)]
    exact ⟨48,[],rfl,fun _=>rfl,by decide⟩
   ·obtain ⟨c,r,e,h2,h3⟩:=dec_head n.toNat n.toNat (Nat.le_refl _) (by omega)
    exact ⟨c,r,e,fun h=>absurd h h2,h3⟩
  have ha:=dec_digits n.toNat n.toNat (Nat.le_refl _)
  rw [e] at ha hlen
  simp only [List.all_cons,Bool.and_eq_true,List.length_cons] at ha hlen
  have hrun:Lex.numRun r=r:=by
   have:=Lex.takeWhile_stop (p:=Lex.digit) (fun _ h=>Lex.inner_of_digit h) (w:=r) (rest:=[]) ha.2 rfl
   rwa [List.append_nil] at this
  have h45:c≠45:=by rintro rfl;exact absurd hd (by decide)
  have hdg:Lex.numDigs c r=c::r:=by unfold Lex.numDigs;rw [if_neg h45,hrun]
  refine ⟨c,r,by rw [hi,e],not_letter hd,by rw [hd];rfl,hrun,?_,by rw [hdg,List.length_cons];omega⟩
  unfold Lex.numBad
  rw [hdg,hrun,List.drop_length]
  simp only [List.head?_nil,Option.any_none,List.isEmpty_cons,Bool.false_or,List.headD_cons]
  by_cases hc:c=48
  ·rw [hz hc,hc];decide
  ·simp [hc]
/-- A numeral is a word. -/
theorem word_num {n:Int} (h : -999999999≤n∧n≤999999999):Word ⟨2,[],n,0⟩ (Lib.itoa n):=by
 obtain ⟨c,r,e,hl,hc,hrun,hbad,h9⟩:=itoa_parts h
 have hT:=Lex.tokL_num hl hc hbad h9
 have hlen2:Lex.numLen r=(c::r).length:=by unfold Lex.numLen;rw [hrun];rfl
 have hv:=(Lex.itoa_num hc hbad).1
 rw [hrun,← e] at hv
 rw [e]
 refine ⟨c,r,by rw [hT],by rw [hT],by rw [hT],?_,by rw [hT];simp only;rw [hlen2,List.take_length]⟩
 rw [hT]
 exact (itoa_inj hv).symm
theorem word_name {w:List UInt8} (h:Lex.isName w=true):Word ⟨1,w,0,0⟩ w:=by
 unfold Lex.isName at h
 simp only [Bool.and_eq_true,decide_eq_true_eq] at h
 obtain ⟨⟨⟨h1,h2⟩,h3⟩,h4⟩:=h
 cases w with
 | nil=>simp at h1
 | cons c r =>
  have ht:(c::r).takeWhile Lex.inner=c::r:=by
   have:=Lex.takeWhile_stop (p:=Lex.inner) (fun _ h=>h) (w:=c::r) (rest:=[]) h4 rfl
   rwa [List.append_nil] at this
  have e:=Lex.tokL_name (c:=c) (r:=r) h3 (by rw [ht];exact h2)
  rw [ht] at e
  exact ⟨c,r,by rw [e],by rw [e],by rw [e],by rw [e],by rw [e];simp only;rw [List.take_length]⟩
end Go.Proofs.YtnkkcknogkgdkaaGreatDoor.Wd
