/- Walks: the reference's reader of a number, where it reads one, and whole. Conditions: the offset lies in the text; the text has at most a million bytes. -/
import Derived.Test.YtnkkcknogkgdkaaGreatDoorLexW7

namespace Go.Proofs.YtnkkcknogkgdkaaGreatDoor.LexW
open Lib (hid)
open Go Go.RowKit

/-- What the reference's reader of a number hands back. -/
def rnV (t:Lex.TR):Value:=if t.err=0 then .tuple #[.int .i64 t.n,.int .i64 (t.len:Int),.int .i64 0] else .tuple #[.int .i64 0,.int .i64 0,.int .i64 t.err]

/-- The value of the digits from an offset on, as the loop makes it. -/
def part (s:ByteArray) (a j:Nat):Nat:=(Lib.decFrom 0 ((s.data.toList.drop a).take j)).getD 0
theorem part_zero (s:ByteArray) (a:Nat):part s a 0=0:=by simp [part,Lib.decFrom]
theorem dec_part {s:ByteArray} {a:Nat} : ∀ {j:Nat},(∀ q,q < j→∃ h:a+q < s.size,Lex.digit (s[a+q]'h)=true)→Lib.decFrom 0 ((s.data.toList.drop a).take j)=some (part s a j)∧part s a j < 10 ^ j
 | 0,_=>⟨by simp [part,Lib.decFrom],by rw [part_zero];simp⟩
 | j+1,h=>by
  obtain ⟨h1,h2⟩:=dec_part (j:=j) fun q hq=>h q (by omega)
  obtain ⟨hs,hd⟩:=h j (by omega)
  have hb:(s.data.toList.drop a)[j]? = some (s[a+j]'hs):=by
   rw [List.getElem?_drop]
   exact List.getElem?_eq_getElem (by rw [size_list];exact hs)
  have e:=Lib.decFrom_take _ j 0 _ _ _ h1 hb (Lex.digitVal_of hd)
  have e2:part s a (j+1)=part s a j*10+((s[a+j]'hs).toNat - 48):=by unfold part at *;rw [e];rfl
  rw [e2]
  refine ⟨e,?_⟩
  simp only [Lex.digit,Bool.and_eq_true,decide_eq_true_eq] at hd
  rw [Nat.pow_succ]
  omega
theorem part_succ {s:ByteArray} {a j:Nat} (h:∀ q,q < j+1→∃ h:a+q < s.size,Lex.digit (s[a+q]'h)=true) (hs:a+j < s.size):part s a (j+1)=part s a j*10+((s[a+j]'hs).toNat - 48):=by
 obtain ⟨h1,_⟩:=dec_part (j:=j) fun q hq=>h q (by omega)
 obtain ⟨hs,hd⟩:=h j (by omega)
 have hb:(s.data.toList.drop a)[j]? = some (s[a+j]'hs):=by
  rw [List.getElem?_drop]
  exact List.getElem?_eq_getElem (by rw [size_list];exact hs)
 have e:=Lib.decFrom_take _ j 0 _ _ _ h1 hb (Lex.digitVal_of hd)
 unfold part at *;rw [e];rfl
theorem part_small {s:ByteArray} {a j:Nat} (h:∀ q,q < j→∃ h:a+q < s.size,Lex.digit (s[a+q]'h)=true) (hj:j≤9):part s a j < 1000000000:=by
 have h1:=(dec_part h).2
 have h2:10 ^ j≤10 ^ 9:=Nat.pow_le_pow_right (by decide) hj
 omega

theorem run_hit1 {p:UInt8→Bool} {s:ByteArray} {q i:Nat} (hq:q < run p s (i+1)):∃ h:i+(q+1) < s.size,p (s[i+(q+1)]'h)=true:=by
 obtain ⟨h1,h2⟩:=run_hit hq
 have e:i+1+q=i+(q+1):=by omega
 simp only [e] at h1 h2
 exact ⟨h1,h2⟩
theorem run_stop1 {p:UInt8→Bool} {s:ByteArray} {q i:Nat} (hq:q=run p s (i+1)) (h:i+(q+1) < s.size):p (s[i+(q+1)]'h)=false:=by
 have h2:=run_stop hq (by omega)
 have e:i+1+q=i+(q+1):=by omega
 simp only [e] at h2
 exact h2

/-- Nothing of a name follows. -/
def Free (s:ByteArray) (k:Nat):Prop:=∀ h:k < s.size,Lex.letter (s[k]'h)=false∧(((s[k]'h).toNat:Int) == 95)=false
/-- A letter or an underscore follows. -/
def Glued (s:ByteArray) (k:Nat):Prop:=∃ h:k < s.size,Lex.letter (s[k]'h)=true∨(Lex.letter (s[k]'h)=false∧(((s[k]'h).toNat:Int) == 95)=true)

set_option maxRecDepth 100000 in
set_option maxHeartbeats 1000000 in
theorem rnum_minus_none (s:ByteArray) (i:Nat) (w:World) (hi:i < s.size) (hs:s.size≤1000000) (hm:((s[i].toNat:Int) == 45)=true) (h0:run Lex.digit s (i+1)≤0) :
  Calls Tryz.prog 125 #[.string s,.int .i64 (i:Int)] w (Returns w (.tuple #[.int .i64 0,.int .i64 0,.int .i64 3])):=by
 have hr:=run_le Lex.digit s (i+1) (by omega)
 have hin:=fun q=>run_hit1 (p:=Lex.digit) (s:=s) (q:=q) (i:=i)
 have hst:=run_stop1 (p:=Lex.digit) (s:=s) (i:=i) (q:=run Lex.digit s (i+1)) rfl
 generalize hR:run Lex.digit s (i+1)=R at *
 have HIN:=hid hin
 have HST:=hid hst
 clear hin hst hR
 go_enter Tryz.func125,Tryz.ntmps125
 go_wp2
 go_loop [7] (fun t=>∃ q:Nat,q≤R∧t=.int .i64 ((q:Int)+1)) (fun t=>R+1 - (intOf t).toNat)
 case atStart=>exact ⟨0,Nat.zero_le _,rfl⟩
 case round =>
  obtain ⟨q,hq,rfl⟩:=hrel
  by_cases hlt:q < R
  ·exact absurd hlt (by omega)
  ·obtain rfl:q=R:=by omega
   by_cases hsz:i+(q+1) < s.size
   ·have hp:=HST.out hsz
    have HP:=hid hp
    clear hp
    go_wp2_with (go_at_call 124;refine (rdigit_no _ HP.out _).mono ?_;rintro e w' ⟨rfl,rfl⟩)
    all_goals (go_ret3;exact ⟨rfl,rfl⟩)
   ·go_wp2
    all_goals (go_ret3;exact ⟨rfl,rfl⟩)

set_option maxRecDepth 100000 in
set_option maxHeartbeats 1000000 in
theorem rnum_minus_nought (s:ByteArray) (i:Nat) (w:World) (hi:i < s.size) (hs:s.size≤1000000) (hm:((s[i].toNat:Int) == 45)=true) (h0:1≤run Lex.digit s (i+1)) (hz:i+1 < s.size) (h48:(((s[i+1]'hz).toNat:Int) == 48)=true) :
  Calls Tryz.prog 125 #[.string s,.int .i64 (i:Int)] w (Returns w (.tuple #[.int .i64 0,.int .i64 0,.int .i64 3])):=by
 have hr:=run_le Lex.digit s (i+1) (by omega)
 have hin:=fun q=>run_hit1 (p:=Lex.digit) (s:=s) (q:=q) (i:=i)
 have hst:=run_stop1 (p:=Lex.digit) (s:=s) (i:=i) (q:=run Lex.digit s (i+1)) rfl
 generalize hR:run Lex.digit s (i+1)=R at *
 have HIN:=hid hin
 have HST:=hid hst
 clear hin hst hR
 go_enter Tryz.func125,Tryz.ntmps125
 go_wp2
 go_loop [7] (fun t=>∃ q:Nat,q≤R∧t=.int .i64 ((q:Int)+1)) (fun t=>R+1 - (intOf t).toNat)
 case atStart=>exact ⟨0,Nat.zero_le _,rfl⟩
 case round =>
  obtain ⟨q,hq,rfl⟩:=hrel
  by_cases hlt:q < R
  ·obtain ⟨hsz,hp⟩:=HIN.out q hlt
   have HP:=hid hp
   clear hp
   go_wp2_with (go_at_call 124;refine (rdigit_yes _ HP.out _).mono ?_;rintro e w' ⟨rfl,rfl⟩)
   go_round
   case rel=>exact ⟨q+1,by omega,by go_num⟩
   case measure=>simp [intOf];omega
  ·obtain rfl:q=R:=by omega
   by_cases hsz:i+(q+1) < s.size
   ·have hp:=HST.out hsz
    have HP:=hid hp
    clear hp
    go_wp2_with (go_at_call 124;refine (rdigit_no _ HP.out _).mono ?_;rintro e w' ⟨rfl,rfl⟩)
    all_goals (go_ret3;exact ⟨rfl,rfl⟩)
   ·go_wp2
    all_goals (go_ret3;exact ⟨rfl,rfl⟩)

set_option maxRecDepth 100000 in
set_option maxHeartbeats 1000000 in
theorem rnum_nought (s:ByteArray) (i:Nat) (w:World) (hi:i < s.size) (hs:s.size≤1000000) (hm:((s[i].toNat:Int) == 45)=false) (h0:1≤run Lex.digit s (i+1)) (h48:((s[i].toNat:Int) == 48)=true) :
  Calls Tryz.prog 125 #[.string s,.int .i64 (i:Int)] w (Returns w (.tuple #[.int .i64 0,.int .i64 0,.int .i64 3])):=by
 have hr:=run_le Lex.digit s (i+1) (by omega)
 have hin:=fun q=>run_hit1 (p:=Lex.digit) (s:=s) (q:=q) (i:=i)
 have hst:=run_stop1 (p:=Lex.digit) (s:=s) (i:=i) (q:=run Lex.digit s (i+1)) rfl
 generalize hR:run Lex.digit s (i+1)=R at *
 have HIN:=hid hin
 have HST:=hid hst
 clear hin hst hR
 go_enter Tryz.func125,Tryz.ntmps125
 go_wp2
 go_loop [7] (fun t=>∃ q:Nat,q≤R∧t=.int .i64 ((q:Int)+1)) (fun t=>R+1 - (intOf t).toNat)
 case atStart=>exact ⟨0,Nat.zero_le _,rfl⟩
 case round =>
  obtain ⟨q,hq,rfl⟩:=hrel
  by_cases hlt:q < R
  ·obtain ⟨hsz,hp⟩:=HIN.out q hlt
   have HP:=hid hp
   clear hp
   go_wp2_with (go_at_call 124;refine (rdigit_yes _ HP.out _).mono ?_;rintro e w' ⟨rfl,rfl⟩)
   go_round
   case rel=>exact ⟨q+1,by omega,by go_num⟩
   case measure=>simp [intOf];omega
  ·obtain rfl:q=R:=by omega
   by_cases hsz:i+(q+1) < s.size
   ·have hp:=HST.out hsz
    have HP:=hid hp
    clear hp
    go_wp2_with (go_at_call 124;refine (rdigit_no _ HP.out _).mono ?_;rintro e w' ⟨rfl,rfl⟩)
    all_goals (go_ret3;exact ⟨rfl,rfl⟩)
   ·go_wp2
    all_goals (go_ret3;exact ⟨rfl,rfl⟩)

set_option maxRecDepth 100000 in
set_option maxHeartbeats 1000000 in
theorem rnum_glued_m (s:ByteArray) (i:Nat) (w:World) (hi:i < s.size) (hs:s.size≤1000000) (hm:((s[i].toNat:Int) == 45)=true) (h0:1≤run Lex.digit s (i+1)) (hz:i+1 < s.size) (h48:(((s[i+1]'hz).toNat:Int) == 48)=false) (hg:Glued s (i+(run Lex.digit s (i+1)+1))) :
  Calls Tryz.prog 125 #[.string s,.int .i64 (i:Int)] w (Returns w (.tuple #[.int .i64 0,.int .i64 0,.int .i64 3])):=by
 have hr:=run_le Lex.digit s (i+1) (by omega)
 have hin:=fun q=>run_hit1 (p:=Lex.digit) (s:=s) (q:=q) (i:=i)
 have hst:=run_stop1 (p:=Lex.digit) (s:=s) (i:=i) (q:=run Lex.digit s (i+1)) rfl
 generalize hR:run Lex.digit s (i+1)=R at *
 have HIN:=hid hin
 have HST:=hid hst
 clear hin hst hR
 have HG:=hid hg
 clear hg
 go_enter Tryz.func125,Tryz.ntmps125
 go_wp2
 go_loop [7] (fun t=>∃ q:Nat,q≤R∧t=.int .i64 ((q:Int)+1)) (fun t=>R+1 - (intOf t).toNat)
 case atStart=>exact ⟨0,Nat.zero_le _,rfl⟩
 case round =>
  obtain ⟨q,hq,rfl⟩:=hrel
  by_cases hlt:q < R
  ·obtain ⟨hsz,hp⟩:=HIN.out q hlt
   have HP:=hid hp
   clear hp
   go_wp2_with (go_at_call 124;refine (rdigit_yes _ HP.out _).mono ?_;rintro e w' ⟨rfl,rfl⟩)
   go_round
   case rel=>exact ⟨q+1,by omega,by go_num⟩
   case measure=>simp [intOf];omega
  ·obtain rfl:q=R:=by omega
   by_cases hsz:i+(q+1) < s.size
   ·have hp:=HST.out hsz
    have HP:=hid hp
    clear hp
    obtain ⟨hx,hl | ⟨hl,hu⟩⟩:=HG.out
    ·have HL:=hid hl
     clear hl
     go_wp2_with (first | (go_at_call 124;refine (rdigit_no _ HP.out _).mono ?_;rintro e w' ⟨rfl,rfl⟩) | (go_at_call 116;refine (rletter_yes _ HL.out _).mono ?_;rintro e w' ⟨rfl,rfl⟩))
     all_goals (go_ret3;exact ⟨rfl,rfl⟩)
    ·have HL:=hid hl
     clear hl
     go_wp2_with (first | (go_at_call 124;refine (rdigit_no _ HP.out _).mono ?_;rintro e w' ⟨rfl,rfl⟩) | (go_at_call 116;refine (rletter_no _ HL.out _).mono ?_;rintro e w' ⟨rfl,rfl⟩))
     all_goals (go_ret3;exact ⟨rfl,rfl⟩)
   ·exact absurd HG.out.1 hsz

set_option maxRecDepth 100000 in
set_option maxHeartbeats 1000000 in
theorem rnum_long_m (s:ByteArray) (i:Nat) (w:World) (hi:i < s.size) (hs:s.size≤1000000) (hm:((s[i].toNat:Int) == 45)=true) (h0:1≤run Lex.digit s (i+1)) (hz:i+1 < s.size) (h48:(((s[i+1]'hz).toNat:Int) == 48)=false) (hf:Free s (i+(run Lex.digit s (i+1)+1))) (h9:9 < run Lex.digit s (i+1)) :
  Calls Tryz.prog 125 #[.string s,.int .i64 (i:Int)] w (Returns w (.tuple #[.int .i64 0,.int .i64 0,.int .i64 9])):=by
 have hr:=run_le Lex.digit s (i+1) (by omega)
 have hin:=fun q=>run_hit1 (p:=Lex.digit) (s:=s) (q:=q) (i:=i)
 have hst:=run_stop1 (p:=Lex.digit) (s:=s) (i:=i) (q:=run Lex.digit s (i+1)) rfl
 generalize hR:run Lex.digit s (i+1)=R at *
 have HIN:=hid hin
 have HST:=hid hst
 clear hin hst hR
 have HF:=hid hf
 clear hf
 go_enter Tryz.func125,Tryz.ntmps125
 go_wp2
 go_loop [7] (fun t=>∃ q:Nat,q≤R∧t=.int .i64 ((q:Int)+1)) (fun t=>R+1 - (intOf t).toNat)
 case atStart=>exact ⟨0,Nat.zero_le _,rfl⟩
 case round =>
  obtain ⟨q,hq,rfl⟩:=hrel
  by_cases hlt:q < R
  ·obtain ⟨hsz,hp⟩:=HIN.out q hlt
   have HP:=hid hp
   clear hp
   go_wp2_with (go_at_call 124;refine (rdigit_yes _ HP.out _).mono ?_;rintro e w' ⟨rfl,rfl⟩)
   go_round
   case rel=>exact ⟨q+1,by omega,by go_num⟩
   case measure=>simp [intOf];omega
  ·obtain rfl:q=R:=by omega
   by_cases hsz:i+(q+1) < s.size
   ·have hp:=HST.out hsz
    have HP:=hid hp
    clear hp
    obtain ⟨hl,hu⟩:=HF.out hsz
    have HL:=hid hl
    clear hl
    go_wp2_with (first | (go_at_call 124;refine (rdigit_no _ HP.out _).mono ?_;rintro e w' ⟨rfl,rfl⟩) | (go_at_call 116;refine (rletter_no _ HL.out _).mono ?_;rintro e w' ⟨rfl,rfl⟩))
    all_goals (go_ret3;exact ⟨rfl,rfl⟩)
   ·go_wp2
    all_goals (go_ret3;exact ⟨rfl,rfl⟩)

set_option maxRecDepth 100000 in
set_option maxHeartbeats 1000000 in
theorem rnum_glued_z (s:ByteArray) (i:Nat) (w:World) (hi:i < s.size) (hs:s.size≤1000000) (hm:((s[i].toNat:Int) == 45)=false) (h0:run Lex.digit s (i+1)≤0) (h48:((s[i].toNat:Int) == 48)=true) (hg:Glued s (i+(run Lex.digit s (i+1)+1))) :
  Calls Tryz.prog 125 #[.string s,.int .i64 (i:Int)] w (Returns w (.tuple #[.int .i64 0,.int .i64 0,.int .i64 3])):=by
 have hr:=run_le Lex.digit s (i+1) (by omega)
 have hin:=fun q=>run_hit1 (p:=Lex.digit) (s:=s) (q:=q) (i:=i)
 have hst:=run_stop1 (p:=Lex.digit) (s:=s) (i:=i) (q:=run Lex.digit s (i+1)) rfl
 generalize hR:run Lex.digit s (i+1)=R at *
 have HIN:=hid hin
 have HST:=hid hst
 clear hin hst hR
 have HG:=hid hg
 clear hg
 go_enter Tryz.func125,Tryz.ntmps125
 go_wp2
 go_loop [7] (fun t=>∃ q:Nat,q≤R∧t=.int .i64 ((q:Int)+1)) (fun t=>R+1 - (intOf t).toNat)
 case atStart=>exact ⟨0,Nat.zero_le _,rfl⟩
 case round =>
  obtain ⟨q,hq,rfl⟩:=hrel
  by_cases hlt:q < R
  ·exact absurd hlt (by omega)
  ·obtain rfl:q=R:=by omega
   by_cases hsz:i+(q+1) < s.size
   ·have hp:=HST.out hsz
    have HP:=hid hp
    clear hp
    obtain ⟨hx,hl | ⟨hl,hu⟩⟩:=HG.out
    ·have HL:=hid hl
     clear hl
     go_wp2_with (first | (go_at_call 124;refine (rdigit_no _ HP.out _).mono ?_;rintro e w' ⟨rfl,rfl⟩) | (go_at_call 116;refine (rletter_yes _ HL.out _).mono ?_;rintro e w' ⟨rfl,rfl⟩))
     all_goals (go_ret3;exact ⟨rfl,rfl⟩)
    ·have HL:=hid hl
     clear hl
     go_wp2_with (first | (go_at_call 124;refine (rdigit_no _ HP.out _).mono ?_;rintro e w' ⟨rfl,rfl⟩) | (go_at_call 116;refine (rletter_no _ HL.out _).mono ?_;rintro e w' ⟨rfl,rfl⟩))
     all_goals (go_ret3;exact ⟨rfl,rfl⟩)
   ·exact absurd HG.out.1 hsz

set_option maxRecDepth 100000 in
set_option maxHeartbeats 1000000 in
theorem rnum_glued_d (s:ByteArray) (i:Nat) (w:World) (hi:i < s.size) (hs:s.size≤1000000) (hm:((s[i].toNat:Int) == 45)=false) (h48:((s[i].toNat:Int) == 48)=false) (hg:Glued s (i+(run Lex.digit s (i+1)+1))) :
  Calls Tryz.prog 125 #[.string s,.int .i64 (i:Int)] w (Returns w (.tuple #[.int .i64 0,.int .i64 0,.int .i64 3])):=by
 have hr:=run_le Lex.digit s (i+1) (by omega)
 have hin:=fun q=>run_hit1 (p:=Lex.digit) (s:=s) (q:=q) (i:=i)
 have hst:=run_stop1 (p:=Lex.digit) (s:=s) (i:=i) (q:=run Lex.digit s (i+1)) rfl
 generalize hR:run Lex.digit s (i+1)=R at *
 have HIN:=hid hin
 have HST:=hid hst
 clear hin hst hR
 have HG:=hid hg
 clear hg
 go_enter Tryz.func125,Tryz.ntmps125
 go_wp2
 go_loop [7] (fun t=>∃ q:Nat,q≤R∧t=.int .i64 ((q:Int)+1)) (fun t=>R+1 - (intOf t).toNat)
 case atStart=>exact ⟨0,Nat.zero_le _,rfl⟩
 case round =>
  obtain ⟨q,hq,rfl⟩:=hrel
  by_cases hlt:q < R
  ·obtain ⟨hsz,hp⟩:=HIN.out q hlt
   have HP:=hid hp
   clear hp
   go_wp2_with (go_at_call 124;refine (rdigit_yes _ HP.out _).mono ?_;rintro e w' ⟨rfl,rfl⟩)
   go_round
   case rel=>exact ⟨q+1,by omega,by go_num⟩
   case measure=>simp [intOf];omega
  ·obtain rfl:q=R:=by omega
   by_cases hsz:i+(q+1) < s.size
   ·have hp:=HST.out hsz
    have HP:=hid hp
    clear hp
    obtain ⟨hx,hl | ⟨hl,hu⟩⟩:=HG.out
    ·have HL:=hid hl
     clear hl
     go_wp2_with (first | (go_at_call 124;refine (rdigit_no _ HP.out _).mono ?_;rintro e w' ⟨rfl,rfl⟩) | (go_at_call 116;refine (rletter_yes _ HL.out _).mono ?_;rintro e w' ⟨rfl,rfl⟩))
     all_goals (go_ret3;exact ⟨rfl,rfl⟩)
    ·have HL:=hid hl
     clear hl
     go_wp2_with (first | (go_at_call 124;refine (rdigit_no _ HP.out _).mono ?_;rintro e w' ⟨rfl,rfl⟩) | (go_at_call 116;refine (rletter_no _ HL.out _).mono ?_;rintro e w' ⟨rfl,rfl⟩))
     all_goals (go_ret3;exact ⟨rfl,rfl⟩)
   ·exact absurd HG.out.1 hsz

set_option maxRecDepth 100000 in
set_option maxHeartbeats 1000000 in
theorem rnum_long_d (s:ByteArray) (i:Nat) (w:World) (hi:i < s.size) (hs:s.size≤1000000) (hm:((s[i].toNat:Int) == 45)=false) (h48:((s[i].toNat:Int) == 48)=false) (hf:Free s (i+(run Lex.digit s (i+1)+1))) (h9:8 < run Lex.digit s (i+1)) :
  Calls Tryz.prog 125 #[.string s,.int .i64 (i:Int)] w (Returns w (.tuple #[.int .i64 0,.int .i64 0,.int .i64 9])):=by
 have hr:=run_le Lex.digit s (i+1) (by omega)
 have hin:=fun q=>run_hit1 (p:=Lex.digit) (s:=s) (q:=q) (i:=i)
 have hst:=run_stop1 (p:=Lex.digit) (s:=s) (i:=i) (q:=run Lex.digit s (i+1)) rfl
 generalize hR:run Lex.digit s (i+1)=R at *
 have HIN:=hid hin
 have HST:=hid hst
 clear hin hst hR
 have HF:=hid hf
 clear hf
 go_enter Tryz.func125,Tryz.ntmps125
 go_wp2
 go_loop [7] (fun t=>∃ q:Nat,q≤R∧t=.int .i64 ((q:Int)+1)) (fun t=>R+1 - (intOf t).toNat)
 case atStart=>exact ⟨0,Nat.zero_le _,rfl⟩
 case round =>
  obtain ⟨q,hq,rfl⟩:=hrel
  by_cases hlt:q < R
  ·obtain ⟨hsz,hp⟩:=HIN.out q hlt
   have HP:=hid hp
   clear hp
   go_wp2_with (go_at_call 124;refine (rdigit_yes _ HP.out _).mono ?_;rintro e w' ⟨rfl,rfl⟩)
   go_round
   case rel=>exact ⟨q+1,by omega,by go_num⟩
   case measure=>simp [intOf];omega
  ·obtain rfl:q=R:=by omega
   by_cases hsz:i+(q+1) < s.size
   ·have hp:=HST.out hsz
    have HP:=hid hp
    clear hp
    obtain ⟨hl,hu⟩:=HF.out hsz
    have HL:=hid hl
    clear hl
    go_wp2_with (first | (go_at_call 124;refine (rdigit_no _ HP.out _).mono ?_;rintro e w' ⟨rfl,rfl⟩) | (go_at_call 116;refine (rletter_no _ HL.out _).mono ?_;rintro e w' ⟨rfl,rfl⟩))
    all_goals (go_ret3;exact ⟨rfl,rfl⟩)
   ·go_wp2
    all_goals (go_ret3;exact ⟨rfl,rfl⟩)
theorem digit_bounds {c:UInt8} (h:Lex.digit c=true):48≤c.toNat∧c.toNat≤57:=by
 simpa only [Lex.digit,Bool.and_eq_true,decide_eq_true_eq] using h
theorem digits_minus (s:ByteArray) (i:Nat):∀ q,q < run Lex.digit s (i+1)→∃ h:i+1+q < s.size,Lex.digit (s[i+1+q]'h)=true:=fun _ hq=>run_hit hq
theorem digits_plain (s:ByteArray) (i:Nat) (hi:i < s.size) (hd:Lex.digit s[i]=true):∀ q,q < run Lex.digit s (i+1)+1→∃ h:i+q < s.size,Lex.digit (s[i+q]'h)=true
 | 0,_=>⟨hi,hd⟩
 | _+1,hq=>run_hit1 (by omega)

set_option maxRecDepth 100000 in
set_option maxHeartbeats 2000000 in
theorem rnum_ok_m (s:ByteArray) (i:Nat) (w:World) (hi:i < s.size) (hs:s.size≤1000000) (hm:((s[i].toNat:Int) == 45)=true) (h0:1≤run Lex.digit s (i+1)) (hz:i+1 < s.size) (h48:(((s[i+1]'hz).toNat:Int) == 48)=false) (h9:run Lex.digit s (i+1)≤9) (hf:Free s (i+(run Lex.digit s (i+1)+1))) :
  Calls Tryz.prog 125 #[.string s,.int .i64 (i:Int)] w (Returns w (.tuple #[.int .i64 (-(part s (i+1) (run Lex.digit s (i+1)):Int)),.int .i64 ((run Lex.digit s (i+1)+1:Nat):Int),.int .i64 0])):=by
 have hdg:=digits_minus s i
 have hr:=run_le Lex.digit s (i+1) (by omega)
 have hin:=fun q=>run_hit1 (p:=Lex.digit) (s:=s) (q:=q) (i:=i)
 have hst:=run_stop1 (p:=Lex.digit) (s:=s) (i:=i) (q:=run Lex.digit s (i+1)) rfl
 generalize hR:run Lex.digit s (i+1)=R at *
 have HIN:=hid hin
 have HST:=hid hst
 clear hin hst hR
 have HF:=hid hf
 have HD:=hid hdg
 clear hf hdg
 go_enter Tryz.func125,Tryz.ntmps125
 go_wp2
 go_loop [7] (fun t=>∃ q:Nat,q≤R∧t=.int .i64 ((q:Int)+1)) (fun t=>R+1 - (intOf t).toNat)
 case atStart=>exact ⟨0,Nat.zero_le _,rfl⟩
 case round =>
  obtain ⟨q,hq,rfl⟩:=hrel
  by_cases hlt:q < R
  ·obtain ⟨hsz,hp⟩:=HIN.out q hlt
   have HP:=hid hp
   clear hp
   go_wp2_with (go_at_call 124;refine (rdigit_yes _ HP.out _).mono ?_;rintro e w' ⟨rfl,rfl⟩)
   go_round
   case rel=>exact ⟨q+1,by omega,by go_num⟩
   case measure=>simp [intOf];omega
  ·obtain rfl:q=R:=by omega
   by_cases hsz:i+(q+1) < s.size
   ·have hp:=HST.out hsz
    have HP:=hid hp
    clear hp
    obtain ⟨hl,hu⟩:=HF.out hsz
    have HL:=hid hl
    clear hl
    go_wp2_with (first | (go_at_call 124;refine (rdigit_no _ HP.out _).mono ?_;rintro e w' ⟨rfl,rfl⟩) | (go_at_call 116;refine (rletter_no _ HL.out _).mono ?_;rintro e w' ⟨rfl,rfl⟩))
    go_loop [10,11] (fun v t=>∃ j:Nat,j≤q∧t=.int .i64 (((i+1)+j:Nat):Int)∧v=.int .i64 ((part s (i+1) j:Nat):Int)) (fun _ t=>(i+1)+q - (intOf t).toNat)
    case atStart=>exact ⟨0,Nat.zero_le _,by go_num,by rw [part_zero];rfl⟩
    case round =>
     obtain ⟨j,hj,rfl,rfl⟩:=hrel
     have hsm:=part_small (s:=s) (a:=i+1) (j:=j) (fun r hr=>HD.out r (by omega)) (by omega)
     by_cases hjl:j < q
     ·obtain ⟨hx,hdx⟩:=HD.out j hjl
      have hb:=digit_bounds hdx
      have HS:=hid (part_succ (s:=s) (a:=i+1) (j:=j) (fun r hr=>HD.out r (by omega)) hx)
      clear hdx
      generalize part s (i+1) j=p at *
      go_wp2
      go_round
      case rel=>exact ⟨j+1,by omega,by go_num,by rw [HS.out];go_num⟩
      case measure=>simp [intOf];omega
     ·obtain rfl:j=q:=by omega
      generalize part s (i+1) j=p at *
      go_wp2
      go_ret3
      exact ⟨rfl,rfl⟩
   ·go_wp2
    go_loop [10,11] (fun v t=>∃ j:Nat,j≤q∧t=.int .i64 (((i+1)+j:Nat):Int)∧v=.int .i64 ((part s (i+1) j:Nat):Int)) (fun _ t=>(i+1)+q - (intOf t).toNat)
    case atStart=>exact ⟨0,Nat.zero_le _,by go_num,by rw [part_zero];rfl⟩
    case round =>
     obtain ⟨j,hj,rfl,rfl⟩:=hrel
     have hsm:=part_small (s:=s) (a:=i+1) (j:=j) (fun r hr=>HD.out r (by omega)) (by omega)
     by_cases hjl:j < q
     ·obtain ⟨hx,hdx⟩:=HD.out j hjl
      have hb:=digit_bounds hdx
      have HS:=hid (part_succ (s:=s) (a:=i+1) (j:=j) (fun r hr=>HD.out r (by omega)) hx)
      clear hdx
      generalize part s (i+1) j=p at *
      go_wp2
      go_round
      case rel=>exact ⟨j+1,by omega,by go_num,by rw [HS.out];go_num⟩
      case measure=>simp [intOf];omega
     ·obtain rfl:j=q:=by omega
      generalize part s (i+1) j=p at *
      go_wp2
      go_ret3
      exact ⟨rfl,rfl⟩

set_option maxRecDepth 100000 in
set_option maxHeartbeats 2000000 in
theorem rnum_ok_z (s:ByteArray) (i:Nat) (w:World) (hi:i < s.size) (hs:s.size≤1000000) (hm:((s[i].toNat:Int) == 45)=false) (h0:run Lex.digit s (i+1)≤0) (h48:((s[i].toNat:Int) == 48)=true) (hd:Lex.digit s[i]=true) (hf:Free s (i+(run Lex.digit s (i+1)+1))) :
  Calls Tryz.prog 125 #[.string s,.int .i64 (i:Int)] w (Returns w (.tuple #[.int .i64 ((part s i (run Lex.digit s (i+1)+1):Int)),.int .i64 ((run Lex.digit s (i+1)+1:Nat):Int),.int .i64 0])):=by
 have hdg:=digits_plain s i hi hd
 have hr:=run_le Lex.digit s (i+1) (by omega)
 have hin:=fun q=>run_hit1 (p:=Lex.digit) (s:=s) (q:=q) (i:=i)
 have hst:=run_stop1 (p:=Lex.digit) (s:=s) (i:=i) (q:=run Lex.digit s (i+1)) rfl
 generalize hR:run Lex.digit s (i+1)=R at *
 have HIN:=hid hin
 have HST:=hid hst
 clear hin hst hR
 have HF:=hid hf
 have HD:=hid hdg
 clear hf hdg
 clear hd
 go_enter Tryz.func125,Tryz.ntmps125
 go_wp2
 go_loop [7] (fun t=>∃ q:Nat,q≤R∧t=.int .i64 ((q:Int)+1)) (fun t=>R+1 - (intOf t).toNat)
 case atStart=>exact ⟨0,Nat.zero_le _,rfl⟩
 case round =>
  obtain ⟨q,hq,rfl⟩:=hrel
  by_cases hlt:q < R
  ·exact absurd hlt (by omega)
  ·obtain rfl:q=R:=by omega
   have hx0:(((i:Int)+((q:Int)+1) - (i:Int)) == 0)=false:=by rw [beq_eq_false_iff_ne];omega
   have hx1 : ¬ (1:Int) < (i:Int)+((q:Int)+1) - (i:Int):=by omega
   by_cases hsz:i+(q+1) < s.size
   ·have hp:=HST.out hsz
    have HP:=hid hp
    clear hp
    obtain ⟨hl,hu⟩:=HF.out hsz
    have HL:=hid hl
    clear hl
    go_wp2_with (first | (go_at_call 124;refine (rdigit_no _ HP.out _).mono ?_;rintro e w' ⟨rfl,rfl⟩) | (go_at_call 116;refine (rletter_no _ HL.out _).mono ?_;rintro e w' ⟨rfl,rfl⟩))
    go_loop [10,11] (fun v t=>∃ j:Nat,j≤(q+1)∧t=.int .i64 (((i)+j:Nat):Int)∧v=.int .i64 ((part s (i) j:Nat):Int)) (fun _ t=>(i)+(q+1) - (intOf t).toNat)
    case atStart=>exact ⟨0,Nat.zero_le _,by go_num,by rw [part_zero];rfl⟩
    case round =>
     obtain ⟨j,hj,rfl,rfl⟩:=hrel
     have hsm:=part_small (s:=s) (a:=i) (j:=j) (fun r hr=>HD.out r (by omega)) (by omega)
     by_cases hjl:j < (q+1)
     ·obtain ⟨hx,hdx⟩:=HD.out j hjl
      have hb:=digit_bounds hdx
      have HS:=hid (part_succ (s:=s) (a:=i) (j:=j) (fun r hr=>HD.out r (by omega)) hx)
      clear hdx
      generalize part s (i) j=p at *
      go_wp2
      go_round
      case rel=>exact ⟨j+1,by omega,by go_num,by rw [HS.out];go_num⟩
      case measure=>simp [intOf];omega
     ·obtain rfl:j=(q+1):=by omega
      generalize part s (i) (q+1)=p at *
      go_wp2
      go_ret3
      exact ⟨rfl,rfl⟩
   ·go_wp2
    go_loop [10,11] (fun v t=>∃ j:Nat,j≤(q+1)∧t=.int .i64 (((i)+j:Nat):Int)∧v=.int .i64 ((part s (i) j:Nat):Int)) (fun _ t=>(i)+(q+1) - (intOf t).toNat)
    case atStart=>exact ⟨0,Nat.zero_le _,by go_num,by rw [part_zero];rfl⟩
    case round =>
     obtain ⟨j,hj,rfl,rfl⟩:=hrel
     have hsm:=part_small (s:=s) (a:=i) (j:=j) (fun r hr=>HD.out r (by omega)) (by omega)
     by_cases hjl:j < (q+1)
     ·obtain ⟨hx,hdx⟩:=HD.out j hjl
      have hb:=digit_bounds hdx
      have HS:=hid (part_succ (s:=s) (a:=i) (j:=j) (fun r hr=>HD.out r (by omega)) hx)
      clear hdx
      generalize part s (i) j=p at *
      go_wp2
      go_round
      case rel=>exact ⟨j+1,by omega,by go_num,by rw [HS.out];go_num⟩
      case measure=>simp [intOf];omega
     ·obtain rfl:j=(q+1):=by omega
      generalize part s (i) (q+1)=p at *
      go_wp2
      go_ret3
      exact ⟨rfl,rfl⟩

set_option maxRecDepth 100000 in
set_option maxHeartbeats 2000000 in
theorem rnum_ok_d (s:ByteArray) (i:Nat) (w:World) (hi:i < s.size) (hs:s.size≤1000000) (hm:((s[i].toNat:Int) == 45)=false) (h48:((s[i].toNat:Int) == 48)=false) (h9:run Lex.digit s (i+1)≤8) (hd:Lex.digit s[i]=true) (hf:Free s (i+(run Lex.digit s (i+1)+1))) :
  Calls Tryz.prog 125 #[.string s,.int .i64 (i:Int)] w (Returns w (.tuple #[.int .i64 ((part s i (run Lex.digit s (i+1)+1):Int)),.int .i64 ((run Lex.digit s (i+1)+1:Nat):Int),.int .i64 0])):=by
 have hdg:=digits_plain s i hi hd
 have hr:=run_le Lex.digit s (i+1) (by omega)
 have hin:=fun q=>run_hit1 (p:=Lex.digit) (s:=s) (q:=q) (i:=i)
 have hst:=run_stop1 (p:=Lex.digit) (s:=s) (i:=i) (q:=run Lex.digit s (i+1)) rfl
 generalize hR:run Lex.digit s (i+1)=R at *
 have HIN:=hid hin
 have HST:=hid hst
 clear hin hst hR
 have HF:=hid hf
 have HD:=hid hdg
 clear hf hdg
 clear hd
 go_enter Tryz.func125,Tryz.ntmps125
 go_wp2
 go_loop [7] (fun t=>∃ q:Nat,q≤R∧t=.int .i64 ((q:Int)+1)) (fun t=>R+1 - (intOf t).toNat)
 case atStart=>exact ⟨0,Nat.zero_le _,rfl⟩
 case round =>
  obtain ⟨q,hq,rfl⟩:=hrel
  by_cases hlt:q < R
  ·obtain ⟨hsz,hp⟩:=HIN.out q hlt
   have HP:=hid hp
   clear hp
   go_wp2_with (go_at_call 124;refine (rdigit_yes _ HP.out _).mono ?_;rintro e w' ⟨rfl,rfl⟩)
   go_round
   case rel=>exact ⟨q+1,by omega,by go_num⟩
   case measure=>simp [intOf];omega
  ·obtain rfl:q=R:=by omega
   by_cases hsz:i+(q+1) < s.size
   ·have hp:=HST.out hsz
    have HP:=hid hp
    clear hp
    obtain ⟨hl,hu⟩:=HF.out hsz
    have HL:=hid hl
    clear hl
    go_wp2_with (first | (go_at_call 124;refine (rdigit_no _ HP.out _).mono ?_;rintro e w' ⟨rfl,rfl⟩) | (go_at_call 116;refine (rletter_no _ HL.out _).mono ?_;rintro e w' ⟨rfl,rfl⟩))
    go_loop [10,11] (fun v t=>∃ j:Nat,j≤(q+1)∧t=.int .i64 (((i)+j:Nat):Int)∧v=.int .i64 ((part s (i) j:Nat):Int)) (fun _ t=>(i)+(q+1) - (intOf t).toNat)
    case atStart=>exact ⟨0,Nat.zero_le _,by go_num,by rw [part_zero];rfl⟩
    case round =>
     obtain ⟨j,hj,rfl,rfl⟩:=hrel
     have hsm:=part_small (s:=s) (a:=i) (j:=j) (fun r hr=>HD.out r (by omega)) (by omega)
     by_cases hjl:j < (q+1)
     ·obtain ⟨hx,hdx⟩:=HD.out j hjl
      have hb:=digit_bounds hdx
      have HS:=hid (part_succ (s:=s) (a:=i) (j:=j) (fun r hr=>HD.out r (by omega)) hx)
      clear hdx
      generalize part s (i) j=p at *
      go_wp2
      go_round
      case rel=>exact ⟨j+1,by omega,by go_num,by rw [HS.out];go_num⟩
      case measure=>simp [intOf];omega
     ·obtain rfl:j=(q+1):=by omega
      generalize part s (i) (q+1)=p at *
      go_wp2
      go_ret3
      exact ⟨rfl,rfl⟩
   ·go_wp2
    go_loop [10,11] (fun v t=>∃ j:Nat,j≤(q+1)∧t=.int .i64 (((i)+j:Nat):Int)∧v=.int .i64 ((part s (i) j:Nat):Int)) (fun _ t=>(i)+(q+1) - (intOf t).toNat)
    case atStart=>exact ⟨0,Nat.zero_le _,by go_num,by rw [part_zero];rfl⟩
    case round =>
     obtain ⟨j,hj,rfl,rfl⟩:=hrel
     have hsm:=part_small (s:=s) (a:=i) (j:=j) (fun r hr=>HD.out r (by omega)) (by omega)
     by_cases hjl:j < (q+1)
     ·obtain ⟨hx,hdx⟩:=HD.out j hjl
      have hb:=digit_bounds hdx
      have HS:=hid (part_succ (s:=s) (a:=i) (j:=j) (fun r hr=>HD.out r (by omega)) hx)
      clear hdx
      generalize part s (i) j=p at *
      go_wp2
      go_round
      case rel=>exact ⟨j+1,by omega,by go_num,by rw [HS.out];go_num⟩
      case measure=>simp [intOf];omega
     ·obtain rfl:j=(q+1):=by omega
      generalize part s (i) (q+1)=p at *
      go_wp2
      go_ret3
      exact ⟨rfl,rfl⟩

theorem take_run (s:ByteArray) (k:Nat):(s.data.toList.drop k).take (run Lex.digit s k)=Lex.numRun (s.data.toList.drop k):=Lex.takeWhile_len _ _
theorem numVal_m (s:ByteArray) (i:Nat) (h0:1≤run Lex.digit s (i+1)):Lex.numVal 45 (s.data.toList.drop (i+1)) = -(part s (i+1) (run Lex.digit s (i+1)):Int):=by
 have hd:=(dec_part (digits_minus s i)).1
 rw [take_run] at hd
 have hne:(Lex.numRun (s.data.toList.drop (i+1))).isEmpty=false:=by
  cases h:Lex.numRun (s.data.toList.drop (i+1)) with
  | nil =>
   have:run Lex.digit s (i+1)=0:=by
    show (Lex.numRun (s.data.toList.drop (i+1))).length=0
    rw [h];rfl
   omega
  | cons _ _=>rfl
 unfold Lex.numVal
 have ea:Lib.atoi (45::Lex.numRun (s.data.toList.drop (i+1)))=(Lib.decNat (Lex.numRun (s.data.toList.drop (i+1)))).map fun (m:Nat) => -(m:Int):=by simp [Lib.atoi]
 rw [ea]
 unfold Lib.decNat
 rw [hne,hd];rfl
theorem numVal_d (s:ByteArray) (i:Nat) (hi:i < s.size) (hd:Lex.digit s[i]=true):Lex.numVal s[i] (s.data.toList.drop (i+1))=(part s i (run Lex.digit s (i+1)+1):Int):=by
 have h1:=(dec_part (digits_plain s i hi hd)).1
 rw [drop_at s i hi,List.take_succ_cons,take_run] at h1
 have hb:=digit_bounds hd
 unfold Lex.numVal
 have ea:Lib.atoi (s[i]::Lex.numRun (s.data.toList.drop (i+1)))=(Lib.decNat (s[i]::Lex.numRun (s.data.toList.drop (i+1)))).map fun (m:Nat)=>(m:Int):=by
  simp only [Lib.atoi]
  rw [if_neg,if_neg]
  ·intro h
   rw [beq_iff_eq] at h
   rw [h] at hb;exact absurd hb.1 (by decide)
  ·intro h
   rw [beq_iff_eq] at h
   rw [h] at hb;exact absurd hb.1 (by decide)
 rw [ea]
 unfold Lib.decNat
 rw [if_neg (by simp),h1];rfl
end Go.Proofs.YtnkkcknogkgdkaaGreatDoor.LexW
