/- Walks: a token's text; names. Conditions: numbers are ints; the text of a name has at most a million bytes. -/
import Derived.Test.YtnkkcknogkgdkaaGreatDoorLexW7
import Derived.Lib.LaidTab
import Derived.WalkSmall
import Derived.Laws.BytesString
import Derived.Laws.Concat
import Derived.Lib.AppendIntMem
import Derived.Test.YtnkkcknogkgdkaaGreatDoorShelf

namespace Go.Proofs.YtnkkcknogkgdkaaGreatDoor.LexW
open Lib (hid)
open Go Go.RowKit Go.Proofs.YtnkkcknogkgdkaaGreatDoor.Mem

theorem str_size (a:List UInt8):(ByteArray.mk a.toArray).size=a.length:=by
 show a.toArray.size=_;simp

/-- Where the loop of digits stands. -/
def DigAt (full:List UInt8) (m:Nat) (acc:List UInt8):Prop:=(m=0→acc=full)∧(1≤m→Lib.decDigits m++acc=full)
theorem DigAt.step {full:List UInt8} {m:Nat} {acc:List UInt8} (h:DigAt full m acc) (hm:1≤m):DigAt full (m / 10) (UInt8.ofNat (48+m % 10)::acc):=by
 have h2:=h.2 hm
 rw [Lib.decDigits] at h2
 by_cases hs:m < 10
 ·rw [dif_pos hs] at h2
  have e:m % 10=m:=by omega
  rw [e]
  exact ⟨fun _=>h2,fun h=>absurd h (by omega)⟩
 ·rw [dif_neg hs,List.append_assoc] at h2
  exact ⟨fun h=>absurd h (by omega),fun _=>h2⟩

/-! ### The table that strconv.Itoa reads -/
theorem gPow : Tryz.prog.globalNamed "internal/strconv.uint64pow10" = some 1:=by kernel_rfl
/-- The library's table of powers of ten holds what its text lays. -/
structure Laid (w:World):Prop where
 tab:Lib.TabIs Tryz.prog w "internal/strconv.uint64pow10" .u64 Lib.pow10Tab
 lt : 1 < w.heap.size
theorem Laid.below {w w':World} (h:Laid w) (hb:Below w.heap.size w w'):Laid w' :=
 ⟨var?_below hb gPow h.lt h.tab,Nat.lt_of_lt_of_le h.lt hb.size⟩
def tokV (t:Lex.Tok):Value:=.agg #[.int .i64 t.kind,.string ⟨t.text.toArray⟩,.int .i64 t.n,.int .i64 (t.pos:Int)]

theorem isName_eq (s:ByteArray) (h0:0 < s.size):Lex.isName s.data.toList=(decide (s.size≤16)&&Lex.letter s[0]&&decide (run Lex.inner s 0=s.size)):=by
 have hl:=get_list s h0
 have ha:s.data.toList.all Lex.inner=decide (run Lex.inner s 0=s.size):=by
  rw [Bool.eq_iff_iff,decide_eq_true_eq]
  unfold run
  rw [List.drop_zero,← size_list]
  constructor
  ·intro h
   have:=Lex.takeWhile_stop (p:=Lex.inner) (fun _ h=>h) (w:=s.data.toList) (rest:=[]) h rfl
   rw [List.append_nil] at this
   rw [this]
  ·intro h
   have h1:=Lex.takeWhile_len Lex.inner s.data.toList
   rw [h,List.take_length] at h1
   have h2:=Lex.takeWhile_all Lex.inner s.data.toList
   rw [← h1] at h2
   exact h2
 unfold Lex.isName
 rw [ha,size_list]
 have h1:s.data.toList.headD 0=s[0]:=by rw [hl];rfl
 rw [h1]
 have:decide (1≤s.size)=true:=decide_eq_true (by omega)
 rw [this,Bool.true_and]

theorem toList_empty (s:ByteArray):s.toList.isEmpty=decide (s.size=0):=by
 rw [Go.ByteArray.toList_eq,Bool.eq_iff_iff,decide_eq_true_eq,List.isEmpty_iff,← size_list]
 exact ⟨fun h=>by rw [h];rfl,fun h=>List.eq_nil_of_length_eq_zero h⟩

set_option maxRecDepth 100000 in
theorem isName_any (s:ByteArray) (w:World) (hs:s.size≤1000000):Calls Tryz.prog 112 #[.string s] w (Returns w (.bool (Lex.isName s.data.toList))):=by
 have he:=toList_empty s
 by_cases h0:s.size=0
 ·have hF:Lex.isName s.data.toList=false:=by unfold Lex.isName;rw [size_list,h0];rfl
  rw [hF]
  have h1:s.toList.isEmpty=true:=by rw [he];simpa using h0
  clear he h0 hF
  go_enter Tryz.func112,Tryz.ntmps112
  go_wp2
  go_ret
  exact ⟨rfl,rfl⟩
 ·have h1:s.toList.isEmpty=false:=by rw [he];simpa using h0
  have hp:0 < s.size:=by omega
  have hI:=isName_eq s hp
  by_cases h16:s.size≤16
  ·cases hl:Lex.letter s[0]
   ·have hF:Lex.isName s.data.toList=false:=by rw [hI,hl];simp
    rw [hF]
    have HL:=hid hl
    clear he h0 hF hI hl
    go_enter Tryz.func112,Tryz.ntmps112
    go_wp2_with (go_at_call 119;refine (letter_no _ HL.out _).mono ?_;rintro e w' ⟨rfl,rfl⟩)
    go_ret
    exact ⟨rfl,rfl⟩
   ·have hF:Lex.isName s.data.toList=((run Lex.inner s 0:Int) == (s.size:Int)):=by
     rw [hI,hl,Bool.eq_iff_iff];simp [h16];omega
    rw [hF]
    have HL:=hid hl
    have hW:=fun w=>while_inner s 0 w (Nat.zero_le _) hs
    rw [Nat.zero_add] at hW
    have HW:=hid hW
    clear he h0 hF hI hl hW
    generalize run Lex.inner s 0=r at *
    cases hr:((r:Int) == (s.size:Int))
    all_goals
     go_enter Tryz.func112,Tryz.ntmps112
     go_wp2_with (first | (go_at_call 119;refine (letter_yes _ HL.out _).mono ?_;rintro e w' ⟨rfl,rfl⟩) | (go_at_call 60;refine (HW.out _).mono ?_;rintro e w' ⟨rfl,rfl⟩))
     go_ret
     exact ⟨rfl,rfl⟩
  ·have hF:Lex.isName s.data.toList=false:=by rw [hI];simp [h16]
   rw [hF]
   clear he h0 hF hI
   go_enter Tryz.func112,Tryz.ntmps112
   go_wp2
   go_ret
   exact ⟨rfl,rfl⟩

set_option maxRecDepth 100000 in
theorem risName_any (s:ByteArray) (w:World) (hs:s.size≤1000000):Calls Tryz.prog 58 #[.string s] w (Returns w (.bool (Lex.isName s.data.toList))):=by
 by_cases h0:s.size=0
 ·have hF:Lex.isName s.data.toList=false:=by unfold Lex.isName;rw [size_list,h0];rfl
  rw [hF]
  have h1:s.size≤0:=by omega
  clear h0 hF
  go_enter Tryz.func58,Tryz.ntmps58
  go_wp2
  go_ret
  exact ⟨rfl,rfl⟩
 ·have hp:0 < s.size:=by omega
  have hp1:1≤s.size:=by omega
  have hI:=isName_eq s hp
  by_cases h16:s.size≤16
  ·cases hl:Lex.letter s[0]
   ·have hF:Lex.isName s.data.toList=false:=by rw [hI,hl];simp
    rw [hF]
    have HL:=hid hl
    clear h0 hF hI hl
    go_enter Tryz.func58,Tryz.ntmps58
    go_wp2_with (go_at_call 116;refine (rletter_no _ HL.out _).mono ?_;rintro e w' ⟨rfl,rfl⟩)
    go_ret
    exact ⟨rfl,rfl⟩
   ·have hF:Lex.isName s.data.toList=((run Lex.inner s 0:Int) == (s.size:Int)):=by
     rw [hI,hl,Bool.eq_iff_iff];simp [h16];omega
    rw [hF]
    have HL:=hid hl
    have hW:=fun w=>rnamed_any s 0 w (Nat.zero_le _) hs
    have HW:=hid hW
    clear h0 hF hI hl hW
    generalize run Lex.inner s 0=r at *
    cases hr:((r:Int) == (s.size:Int))
    all_goals
     go_enter Tryz.func58,Tryz.ntmps58
     go_wp2_with (first | (go_at_call 116;refine (rletter_yes _ HL.out _).mono ?_;rintro e w' ⟨rfl,rfl⟩) | (go_at_call 117;refine (HW.out _).mono ?_;rintro e w' ⟨rfl,rfl⟩))
     go_ret
     exact ⟨rfl,rfl⟩
  ·have hF:Lex.isName s.data.toList=false:=by rw [hI];simp [h16]
   rw [hF]
   clear h0 hF hI
   go_enter Tryz.func58,Tryz.ntmps58
   go_wp2
   go_ret
   exact ⟨rfl,rfl⟩
end Go.Proofs.YtnkkcknogkgdkaaGreatDoor.LexW
