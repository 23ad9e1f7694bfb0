/- Walks: the reference's marks, names and numbers. Conditions: the offset lies in the text; the text has at most a million bytes. -/
import Derived.Test.YtnkkcknogkgdkaaGreatDoorProg
import Derived.Test.YtnkkcknogkgdkaaGreatDoorLexLaws
import Derived.WalkKit
import Derived.WalkLawsBesides
import Derived.WalkSpells
import Derived.Lib.Hide
import Derived.BigQuiet
import Derived.Deep.QuietTactic
import Derived.Shelf.Abstract
import Derived.Test.YtnkkcknogkgdkaaGreatDoorShelf
import Derived.Lib.AtoiErrMem
import Derived.Test.YtnkkcknogkgdkaaGreatDoorMem2

namespace Go.Proofs.YtnkkcknogkgdkaaGreatDoor.LexW
open Lib (hid)
open Go Go.RowKit

abbrev Returns (w:World) (v:Value):Ending→World→Prop:=fun e w'=>e=.returned v∧w=w'

theorem ret_bool {a b:Bool} (h:a=b):Ending.returned (.bool a)=.returned (.bool b):=by rw [h]
theorem ret_int {k:IntKind} {a b:Int} (h:a=b):Ending.returned (.int k a)=.returned (.int k b):=by rw [h]
theorem letter_any (c:UInt8) (w:World):Calls Tryz.prog 119 #[.int .u8 (c.toNat:Int)] w (Returns w (.bool (Lex.letter c))):=by
 rcases (show (97≤c.toNat∧c.toNat≤122)∨(122 < c.toNat)∨(c.toNat < 97∧65≤c.toNat∧c.toNat≤90)∨(90 < c.toNat∧c.toNat < 97)∨c.toNat < 65 by omega) with h | h | h | h | h
 all_goals
  go_enter Tryz.func119,Tryz.ntmps119
  go_wp2
  go_ret
  refine ⟨ret_bool ?_,rfl⟩
  rw [Bool.eq_iff_iff]
  simp [Lex.letter]
  omega
theorem digit_any (c:UInt8) (w:World):Calls Tryz.prog 121 #[.int .u8 (c.toNat:Int)] w (Returns w (.bool (Lex.digit c))):=by
 rcases (show (48≤c.toNat∧c.toNat≤57)∨(57 < c.toNat)∨c.toNat < 48 by omega) with h | h | h
 all_goals
  go_enter Tryz.func121,Tryz.ntmps121
  go_wp2
  go_ret
  refine ⟨ret_bool ?_,rfl⟩
  rw [Bool.eq_iff_iff]
  simp [Lex.digit]
  omega
theorem letter_yes (c:UInt8) (h:Lex.letter c=true) (w:World):Calls Tryz.prog 119 #[.int .u8 (c.toNat:Int)] w (Returns w (.bool true)):=by
 have:=letter_any c w;rwa [h] at this
theorem letter_no (c:UInt8) (h:Lex.letter c=false) (w:World):Calls Tryz.prog 119 #[.int .u8 (c.toNat:Int)] w (Returns w (.bool false)):=by
 have:=letter_any c w;rwa [h] at this
theorem digit_yes (c:UInt8) (h:Lex.digit c=true) (w:World):Calls Tryz.prog 121 #[.int .u8 (c.toNat:Int)] w (Returns w (.bool true)):=by
 have:=digit_any c w;rwa [h] at this
theorem digit_no (c:UInt8) (h:Lex.digit c=false) (w:World):Calls Tryz.prog 121 #[.int .u8 (c.toNat:Int)] w (Returns w (.bool false)):=by
 have:=digit_any c w;rwa [h] at this
theorem inner_any (c:UInt8) (w:World):Calls Tryz.prog 120 #[.int .u8 (c.toNat:Int)] w (Returns w (.bool (Lex.inner c))):=by
 cases h1:Lex.letter c
 ·cases h2:Lex.digit c
  ·have H1:=hid h1
   have H2:=hid h2
   have hI:Lex.inner c=((c.toNat:Int) == 95):=by
    rw [Bool.eq_iff_iff];simp [Lex.inner,h1,h2];omega
   rw [hI]
   clear h1 h2 hI
   cases h3:((c.toNat:Int) == 95)
   all_goals
    go_enter Tryz.func120,Tryz.ntmps120
    go_wp2_with (first | (go_at_call 119;refine (letter_no _ H1.out _).mono ?_;rintro e w' ⟨rfl,rfl⟩) | (go_at_call 121;refine (digit_no _ H2.out _).mono ?_;rintro e w' ⟨rfl,rfl⟩))
    go_ret
    exact ⟨rfl,rfl⟩
  ·have H1:=hid h1
   have H2:=hid h2
   have hI:Lex.inner c=true:=by simp [Lex.inner,h2]
   rw [hI]
   clear h1 h2 hI
   go_enter Tryz.func120,Tryz.ntmps120
   go_wp2_with (first | (go_at_call 119;refine (letter_no _ H1.out _).mono ?_;rintro e w' ⟨rfl,rfl⟩) | (go_at_call 121;refine (digit_yes _ H2.out _).mono ?_;rintro e w' ⟨rfl,rfl⟩))
   go_ret
   exact ⟨rfl,rfl⟩
 ·have H1:=hid h1
  have hI:Lex.inner c=true:=by simp [Lex.inner,h1]
  rw [hI]
  clear h1 hI
  go_enter Tryz.func120,Tryz.ntmps120
  go_wp2_with (go_at_call 119;refine (letter_yes _ H1.out _).mono ?_;rintro e w' ⟨rfl,rfl⟩)
  go_ret
  exact ⟨rfl,rfl⟩
theorem inner_yes (c:UInt8) (h:Lex.inner c=true) (w:World):Calls Tryz.prog 120 #[.int .u8 (c.toNat:Int)] w (Returns w (.bool true)):=by
 have:=inner_any c w;rwa [h] at this
theorem inner_no (c:UInt8) (h:Lex.inner c=false) (w:World):Calls Tryz.prog 120 #[.int .u8 (c.toNat:Int)] w (Returns w (.bool false)):=by
 have:=inner_any c w;rwa [h] at this
theorem feed_any (c:UInt8) (w:World):Calls Tryz.prog 61 #[.int .u8 (c.toNat:Int)] w (Returns w (.bool (Lex.notFeed c))):=by
 by_cases h:c.toNat=10
 all_goals
  go_enter Tryz.func61,Tryz.ntmps61
  go_wp2
  go_ret
  refine ⟨ret_bool ?_,rfl⟩
  rw [Bool.eq_iff_iff]
  simp [Lex.notFeed]
  omega

/-! ### The reference -/
theorem rletter_any (c:UInt8) (w:World):Calls Tryz.prog 116 #[.int .u8 (c.toNat:Int)] w (Returns w (.bool (Lex.letter c))):=by
 rcases (show (97≤c.toNat∧c.toNat≤122)∨(122 < c.toNat)∨(c.toNat < 97∧65≤c.toNat∧c.toNat≤90)∨(90 < c.toNat∧c.toNat < 97)∨c.toNat < 65 by omega) with h | h | h | h | h
 all_goals
  go_enter Tryz.func116,Tryz.ntmps116
  go_wp2
  go_ret
  refine ⟨ret_bool ?_,rfl⟩
  rw [Bool.eq_iff_iff]
  simp [Lex.letter]
  omega
theorem rdigit_any (c:UInt8) (w:World):Calls Tryz.prog 124 #[.int .u8 (c.toNat:Int)] w (Returns w (.bool (Lex.digit c))):=by
 rcases (show (48≤c.toNat∧c.toNat≤57)∨(57 < c.toNat)∨c.toNat < 48 by omega) with h | h | h
 all_goals
  go_enter Tryz.func124,Tryz.ntmps124
  go_wp2
  go_ret
  refine ⟨ret_bool ?_,rfl⟩
  rw [Bool.eq_iff_iff]
  simp [Lex.digit]
  omega
theorem rblank_any (c:UInt8) (w:World):Calls Tryz.prog 63 #[.int .u8 (c.toNat:Int)] w (Returns w (.bool (Lex.blank c))):=by
 rcases (show c.toNat=32∨c.toNat=9∨c.toNat=10∨(c.toNat≠32∧c.toNat≠9∧c.toNat≠10) by omega) with h | h | h | h
 all_goals
  go_enter Tryz.func63,Tryz.ntmps63
  go_wp2
  go_ret
  refine ⟨ret_bool ?_,rfl⟩
  rw [Bool.eq_iff_iff]
  simp [Lex.blank]
  omega
theorem rletter_yes (c:UInt8) (h:Lex.letter c=true) (w:World):Calls Tryz.prog 116 #[.int .u8 (c.toNat:Int)] w (Returns w (.bool true)):=by
 have:=rletter_any c w;rwa [h] at this
theorem rletter_no (c:UInt8) (h:Lex.letter c=false) (w:World):Calls Tryz.prog 116 #[.int .u8 (c.toNat:Int)] w (Returns w (.bool false)):=by
 have:=rletter_any c w;rwa [h] at this
theorem rdigit_yes (c:UInt8) (h:Lex.digit c=true) (w:World):Calls Tryz.prog 124 #[.int .u8 (c.toNat:Int)] w (Returns w (.bool true)):=by
 have:=rdigit_any c w;rwa [h] at this
theorem rdigit_no (c:UInt8) (h:Lex.digit c=false) (w:World):Calls Tryz.prog 124 #[.int .u8 (c.toNat:Int)] w (Returns w (.bool false)):=by
 have:=rdigit_any c w;rwa [h] at this
theorem rblank_yes (c:UInt8) (h:Lex.blank c=true) (w:World):Calls Tryz.prog 63 #[.int .u8 (c.toNat:Int)] w (Returns w (.bool true)):=by
 have:=rblank_any c w;rwa [h] at this
theorem rblank_no (c:UInt8) (h:Lex.blank c=false) (w:World):Calls Tryz.prog 63 #[.int .u8 (c.toNat:Int)] w (Returns w (.bool false)):=by
 have:=rblank_any c w;rwa [h] at this
/-- How many bytes of a kind stand from an offset on. -/
def run (p:UInt8→Bool) (s:ByteArray) (k:Nat):Nat:=((s.data.toList.drop k).takeWhile p).length
theorem size_list (s:ByteArray):s.data.toList.length=s.size:=Array.length_toList
theorem drop_at (s:ByteArray) (k:Nat) (h:k < s.size):s.data.toList.drop k=s[k]::s.data.toList.drop (k+1):=by
 rw [List.drop_eq_getElem_cons (by rw [size_list];exact h)]
 rfl
theorem run_yes {p:UInt8→Bool} {s:ByteArray} {k:Nat} (h:k < s.size) (hp:p s[k]=true):run p s k=run p s (k+1)+1:=by
 unfold run
 rw [drop_at s k h,List.takeWhile_cons,if_pos hp,List.length_cons]
theorem run_no {p:UInt8→Bool} {s:ByteArray} {k:Nat} (h:k < s.size) (hp:p s[k]=false):run p s k=0:=by
 unfold run
 rw [drop_at s k h,List.takeWhile_cons,if_neg (by simp [hp]),List.length_nil]
theorem run_end {p:UInt8→Bool} {s:ByteArray} {k:Nat} (h:s.size≤k):run p s k=0:=by
 unfold run
 rw [List.drop_of_length_le (by rw [size_list];exact h)];rfl
theorem run_le (p:UInt8→Bool) (s:ByteArray) (k:Nat) (h:k≤s.size):k+run p s k≤s.size:=by
 have h1:=(List.takeWhile_prefix p (l:=s.data.toList.drop k)).length_le
 rw [List.length_drop,size_list] at h1
 unfold run;omega

theorem while_any (g:FuncId) (p:UInt8→Bool) (eg:Enters Tryz.prog g) (hg:Hid (∀ (c:UInt8) (w:World),Calls Tryz.prog g #[.int .u8 (c.toNat:Int)] w (Returns w (.bool (p c)))))
  (s:ByteArray) (i:Nat) (w:World) (hi:i≤s.size) (hs:s.size≤1000000) :
  Calls Tryz.prog 60 #[.string s,.int .i64 (i:Int),.func (.func g) #[] #[]] w (Returns w (.int .i64 ((i+run p s i:Nat):Int))):=by
 unfold Enters at eg
 go_enter Tryz.func60,Tryz.ntmps60
 go_wp2
 go_loop [1] (fun t=>∃ k:Nat,k≤s.size∧t=.int .i64 k∧i+run p s i=k+run p s k) (fun t=>s.size - (intOf t).toNat)
 case atStart=>exact ⟨i,hi,rfl,rfl⟩
 case round =>
  obtain ⟨k,hk,rfl,he⟩:=hrel
  have HE:=hid he
  clear he
  by_cases hlt:k < s.size
  ·cases hp:p s[k]
   ·have hc:∀ w,Calls Tryz.prog g #[.int .u8 (s[k].toNat:Int)] w (Returns w (.bool false)):=fun w=>by have:=hg.out s[k] w;rwa [hp] at this
    have HC:=hid hc
    have hz:=hid (run_no hlt hp)
    clear hc hp
    go_wp2_with ((with_reducible refine (HC.out _).mono ?_);rintro e w' ⟨rfl,rfl⟩)
    go_ret
    refine ⟨ret_int ?_,rfl⟩
    have e1:=HE.out
    have e2:=hz.out
    omega
   ·have hc:∀ w,Calls Tryz.prog g #[.int .u8 (s[k].toNat:Int)] w (Returns w (.bool true)):=fun w=>by have:=hg.out s[k] w;rwa [hp] at this
    have HC:=hid hc
    have hz:=hid (run_yes hlt hp)
    clear hc hp
    go_wp2_with ((with_reducible refine (HC.out _).mono ?_);rintro e w' ⟨rfl,rfl⟩)
    go_round
    case rel=>exact ⟨k+1,by omega,by go_num,by rw [HE.out,hz.out];omega⟩
    case measure=>simp [intOf];omega
  ·have hz:=hid (run_end (p:=p) (s:=s) (k:=k) (by omega))
   go_wp2
   go_ret
   refine ⟨ret_int ?_,rfl⟩
   have e1:=HE.out
   have e2:=hz.out
   omega
theorem while_inner (s:ByteArray) (i:Nat) (w:World) (hi:i≤s.size) (hs:s.size≤1000000) :
  Calls Tryz.prog 60 #[.string s,.int .i64 (i:Int),.func (.func 120) #[] #[]] w (Returns w (.int .i64 ((i+run Lex.inner s i:Nat):Int))) :=
 while_any _ _ (enters_of Tryz.func120 (by kernel_rfl) rfl) inner_any s i w hi hs
theorem while_digit (s:ByteArray) (i:Nat) (w:World) (hi:i≤s.size) (hs:s.size≤1000000) :
  Calls Tryz.prog 60 #[.string s,.int .i64 (i:Int),.func (.func 121) #[] #[]] w (Returns w (.int .i64 ((i+run Lex.digit s i:Nat):Int))) :=
 while_any _ _ (enters_of Tryz.func121 (by kernel_rfl) rfl) digit_any s i w hi hs
theorem while_feed (s:ByteArray) (i:Nat) (w:World) (hi:i≤s.size) (hs:s.size≤1000000) :
  Calls Tryz.prog 60 #[.string s,.int .i64 (i:Int),.func (.func 61) #[] #[]] w (Returns w (.int .i64 ((i+run Lex.notFeed s i:Nat):Int))) :=
 while_any _ _ (enters_of Tryz.func61 (by kernel_rfl) rfl) feed_any s i w hi hs
def zeroTok:Value:=.agg #[.int .i64 0,.string ⟨#[]⟩,.int .i64 0,.int .i64 0]
def okTok (t:Lex.TR) (i:Nat):Value:=.agg #[.int .i64 t.kind,.string ⟨t.text.toArray⟩,.int .i64 t.n,.int .i64 (i:Int)]
/-- What a reader of one token hands back, 'end' being the offset behind it or its length. -/
def trV (t:Lex.TR) (i j:Nat):Value:=if t.err=0 then .tuple #[okTok t i,.int .i64 (j:Int),.int .i64 0] else .tuple #[zeroTok,.int .i64 0,.int .i64 t.err]

theorem extract_list (s:ByteArray) (a b:Nat):(s.extract a b).data.toList=(s.data.toList.drop a).take (b - a):=by
 simp only [ByteArray.data_extract,Array.toList_extract,List.extract_eq_take_drop]
theorem toList_isEmpty (b:ByteArray):b.toList.isEmpty=b.data.toList.isEmpty:=by rw [Go.ByteArray.toList_eq]
theorem get_list (b:ByteArray) (h:0 < b.size):b.data.toList=b[0]::b.data.toList.drop 1:=by
 have:=drop_at b 0 h
 simpa using this

theorem text_list (s:ByteArray) (i:Nat) (hi:i < s.size):(s.extract i (i+1+run Lex.digit s (i+1))).data.toList=s[i]::Lex.numRun (s.data.toList.drop (i+1)):=by
 rw [extract_list,drop_at s i hi,show i+1+run Lex.digit s (i+1) - i=run Lex.digit s (i+1)+1 by omega,List.take_succ_cons]
 congr 1
 unfold run Lex.numRun
 exact Lex.takeWhile_len _ _
theorem trim_list (c:UInt8) (r:List UInt8):Lib.trimPrefix (c::Lex.numRun r) [45]=Lex.numDigs c r:=by
 unfold Lib.trimPrefix Lib.hasPrefix Lex.numDigs
 by_cases h:c=45
 ·subst h;simp [List.isPrefixOf]
 ·rw [if_neg h,if_neg (by simpa [List.isPrefixOf] using Ne.symm h)]
theorem next_inner (s:ByteArray) (i:Nat) (h:i+1+run Lex.digit s (i+1) < s.size) :
  (((s.data.toList.drop (i+1)).drop (Lex.numRun (s.data.toList.drop (i+1))).length).head?.any Lex.inner)=Lex.inner (s[i+1+run Lex.digit s (i+1)]'h):=by
 rw [List.drop_drop]
 show ((s.data.toList.drop (i+1+run Lex.digit s (i+1))).head?.any Lex.inner)=_
 rw [drop_at s _ h];rfl
theorem next_none (s:ByteArray) (i:Nat) (h:s.size≤i+1+run Lex.digit s (i+1)) :
  (((s.data.toList.drop (i+1)).drop (Lex.numRun (s.data.toList.drop (i+1))).length).head?.any Lex.inner)=false:=by
 rw [List.drop_drop]
 show ((s.data.toList.drop (i+1+run Lex.digit s (i+1))).head?.any Lex.inner)=_
 rw [List.drop_of_length_le (by rw [size_list];exact h)];rfl

theorem atoi_some {c:UInt8} {r:List UInt8} (hc:(Lex.digit c || decide (c=45))=true) (hb:Lex.numBad c r=false):Lib.atoi (c::Lex.numRun r)=some (Lex.numVal c r):=by
 obtain ⟨h1,h2⟩:=Lex.itoa_num hc hb
 unfold Lex.numVal at *
 cases h:Lib.atoi (c::Lex.numRun r) with
 | some v=>rfl
 | none =>
  rw [h] at h1
  simp only [Option.getD_none] at h1
  have:Lib.itoa 0=[48]:=by
   unfold Lib.itoa
   rw [if_neg (by decide),Lib.decDigits,dif_pos (by decide)];rfl
  rw [this] at h1
  rw [← h1] at h
  exact absurd h (by decide)

def bad3:Lex.TR:=⟨0,[],0,0,3⟩
def bad9:Lex.TR:=⟨0,[],0,0,9⟩
def okN (c:UInt8) (r:List UInt8):Lex.TR:=⟨2,[],Lex.numVal c r,Lex.numLen r,0⟩

/-- The five ways of a number whose next byte is none of a name's. -/
theorem num_cases (c:UInt8) (r:List UInt8) (hc:(Lex.digit c || decide (c=45))=true) (tb db:ByteArray) (ht:tb.data.toList=c::Lex.numRun r) (hd:db.data.toList=Lex.numDigs c r)
  (hn:((r.drop (Lex.numRun r).length).head?.any Lex.inner)=false) :
  (db.toList.isEmpty=true∧Lex.numL c r=bad3) ∨
  (∃ h:0 < db.size,db.toList.isEmpty=false∧((db[0].toNat:Int) == 48)=true∧(!tb.toList == [48])=true∧Lex.numL c r=bad3) ∨
  (∃ h:0 < db.size,db.toList.isEmpty=false∧((db[0].toNat:Int) == 48)=true∧(!tb.toList == [48])=false∧db.size≤9∧Lex.numL c r=okN c r∧Lib.atoi tb.data.toList=some (Lex.numVal c r)) ∨
  (∃ h:0 < db.size,db.toList.isEmpty=false∧((db[0].toNat:Int) == 48)=false∧9 < db.size∧Lex.numL c r=bad9) ∨
  (∃ h:0 < db.size,db.toList.isEmpty=false∧((db[0].toNat:Int) == 48)=false∧db.size≤9∧Lex.numL c r=okN c r∧Lib.atoi tb.data.toList=some (Lex.numVal c r)):=by
 have hlen:(Lex.numDigs c r).length=db.size:=by rw [← hd,size_list]
 rw [toList_isEmpty,hd,Go.ByteArray.toList_eq,ht]
 by_cases h0:db.size=0
 ·left
  have he:Lex.numDigs c r=[]:=List.eq_nil_of_length_eq_zero (by omega)
  refine ⟨by rw [he];rfl,?_⟩
  unfold Lex.numL
  rw [if_pos (by unfold Lex.numBad;rw [he];simp)];rfl
 ·right
  have hp:0 < db.size:=by omega
  have hl:=get_list db hp
  rw [hd] at hl
  have hemp:(Lex.numDigs c r).isEmpty=false:=by rw [hl];rfl
  have hhd:(Lex.numDigs c r).headD 0=db[0]:=by rw [hl];rfl
  have h48:(db[0]=48) ↔ ((db[0].toNat:Int) == 48)=true:=by
   rw [beq_iff_eq]
   refine ⟨fun h=>by rw [h];rfl,fun h=>Lex.byte_eq (k:=48) (by decide) (by omega)⟩
  have hbad:Lex.numBad c r=(decide (db[0]=48)&&decide (c::Lex.numRun r≠[48])):=by
   unfold Lex.numBad
   rw [hn,hemp,hhd];simp
  cases hb:((db[0].toNat:Int) == 48)
  ·right;right
   have hne : ¬ db[0]=48:=fun h=>by rw [h48.1 h] at hb;cases hb
   have hbf:Lex.numBad c r=false:=by rw [hbad];simp [hne]
   by_cases h9:9 < db.size
   ·left
    refine ⟨hp,hemp,hb,h9,?_⟩
    unfold Lex.numL
    rw [if_neg (by simp [hbf]),if_pos (by omega)];rfl
   ·right
    refine ⟨hp,hemp,hb,by omega,?_,atoi_some hc hbf⟩
    unfold Lex.numL
    rw [if_neg (by simp [hbf]),if_neg (by omega)];rfl
  ·have he:db[0]=48:=h48.2 hb
   by_cases hz:c::Lex.numRun r=[48]
   ·right;left
    have hbf:Lex.numBad c r=false:=by rw [hbad];simp [hz]
    have hsz:db.size≤9:=by
     rw [← hlen]
     have h1:=congrArg List.length hz
     unfold Lex.numDigs
     simp only [List.length_cons,List.length_nil] at h1
     split
     ·omega
     ·simp only [List.length_cons];omega
    refine ⟨hp,hemp,hb,by rw [hz];rfl,hsz,?_,atoi_some hc hbf⟩
    unfold Lex.numL
    rw [if_neg (by simp [hbf]),if_neg (by omega)];rfl
   ·left
    refine ⟨hp,hemp,hb,by rw [Bool.not_eq_true',beq_eq_false_iff_ne];exact hz,?_⟩
    unfold Lex.numL
    rw [if_pos (by rw [hbad];simp [he,hz])];rfl

theorem trV_bad3 (i j:Nat):trV bad3 i j=.tuple #[zeroTok,.int .i64 0,.int .i64 3]:=rfl
theorem trV_bad9 (i j:Nat):trV bad9 i j=.tuple #[zeroTok,.int .i64 0,.int .i64 9]:=rfl
theorem atoi_text (tb:ByteArray) (v:Int) (hl:tb.size≤18) (h:Lib.atoi tb.data.toList=some v) (w:World) :
  Calls Tryz.prog 183 #[.string tb] w fun e w'=>e=.returned (.tuple #[.int .i64 v,.nilIface])∧Below w.heap.size w w' :=
 (Tryz.strconv_Atoi tb v hl h w).mono fun e w' ⟨he,t,ht⟩=>⟨he,by subst ht;exact Lib.bytesWorld_below _ _ _⟩
set_option maxRecDepth 100000 in
/-- The next byte is one of a name's: refused. -/
theorem number_glued (s:ByteArray) (i:Nat) (w:World) (hi:i < s.size) (hs:s.size≤1000000) (hend:i+1+run Lex.digit s (i+1) < s.size) (hin:Lex.inner (s[i+1+run Lex.digit s (i+1)]'hend)=true) :
  Calls Tryz.prog 122 #[.string s,.int .i64 (i:Int)] w fun e w'=>e=.returned (.tuple #[zeroTok,.int .i64 0,.int .i64 3])∧Below w.heap.size w w':=by
 have hr:=run_le Lex.digit s (i+1) (by omega)
 generalize hk:run Lex.digit s (i+1)=k at *
 have HK:=hid hk
 have HN:=hid hin
 clear hk hin
 go_enter Tryz.func122,Tryz.ntmps122
 go_wp2_with fail
 refine (while_digit s (i+1) _ (by omega) hs).mono ?_
 rintro e w' ⟨rfl,rfl⟩
 rw [HK.out]
 go_wp2_with fail
 refine (Tryz.strings_TrimPrefix _ _ _).mono ?_
 rintro e w' ⟨rfl,rfl⟩
 go_wp2_with (go_at_call 120;refine (inner_yes _ HN.out _).mono ?_;rintro e w' ⟨rfl,rfl⟩)
 exact bodyPost_ret (v:=.tuple #[zeroTok,.int .i64 0,.int .i64 3]) (by simp [results,Tryz.results122,go_sem,zeroTok]) rfl ⟨rfl,(Below.refl _ _).alloc (Nat.le_refl _) _⟩
/-- What a world above a new block of four cells still reads there. -/
theorem tok_cells {w w1:World} {a b c d:Value} {T:TypeId} (hb:Below (w.alloc (.cells #[a,b,c,d] T)).heap.size (w.alloc (.cells #[a,b,c,d] T)) w1) :
  w1.cell? ⟨w.heap.size,0,none⟩=some a∧w1.cell? ⟨w.heap.size,1,none⟩=some b∧w1.cell? ⟨w.heap.size,2,none⟩=some c∧w1.cell? ⟨w.heap.size,3,none⟩=some d:=by
 have h:∀ j,w1.cell? ⟨w.heap.size,j,none⟩=(w.alloc (.cells #[a,b,c,d] T)).cell? ⟨w.heap.size,j,none⟩:=fun j=>hb.cell (p:=⟨w.heap.size,j,none⟩) (by simp)
 refine ⟨?_,?_,?_,?_⟩<;>rw [h]<;>simp
theorem tok_frozen {w w1:World} {a b c d:Value} {T:TypeId} (hb:Below (w.alloc (.cells #[a,b,c,d] T)).heap.size (w.alloc (.cells #[a,b,c,d] T)) w1) (j:Nat) :
  w1.frozen? ⟨w.heap.size,j,none⟩=false:=by
 have h:w1.frozen? ⟨w.heap.size,j,none⟩=(w.alloc (.cells #[a,b,c,d] T)).frozen? ⟨w.heap.size,j,none⟩:=hb.frozen (p:=⟨w.heap.size,j,none⟩) (by simp)
 rw [h];simp
set_option maxRecDepth 100000 in
set_option maxHeartbeats 1000000 in
theorem number_in (s:ByteArray) (i:Nat) (w:World) (hi:i < s.size) (hs:s.size≤1000000) (hc:(Lex.digit s[i] || decide (s[i]=45))=true) (hend:i+1+run Lex.digit s (i+1) < s.size) (hin:Lex.inner (s[i+1+run Lex.digit s (i+1)]'hend)=false) :
  Calls Tryz.prog 122 #[.string s,.int .i64 (i:Int)] w fun e w'=>e=.returned (trV (Lex.numL s[i] (s.data.toList.drop (i+1))) i (i+1+run Lex.digit s (i+1)))∧Below w.heap.size w w':=by
 have hr:=run_le Lex.digit s (i+1) (by omega)
 obtain ⟨tb,ht⟩:∃ tb,s.extract i (i+1+run Lex.digit s (i+1))=tb:=⟨_,rfl⟩
 obtain ⟨db,hd⟩:∃ db:ByteArray,⟨(Lib.trimPrefix tb.data.toList (ByteArray.mk #[45]).data.toList).toArray⟩=db:=⟨_,rfl⟩
 have htl:=text_list s i hi
 rw [ht] at htl
 have hdl:db.data.toList=Lex.numDigs s[i] (s.data.toList.drop (i+1)):=by
  rw [← hd,htl];exact trim_list _ _
 have htz:tb.size=1+run Lex.digit s (i+1):=by rw [← size_list,htl,List.length_cons,Nat.add_comm];rfl
 have hcases:=num_cases s[i] _ hc tb db htl hdl ((next_inner s i hend).trans hin)
 have hsz:db.size+1 ≥ tb.size:=by
  rw [← size_list,hdl,htz]
  show (Lex.numDigs s[i] _).length+1 ≥ 1+(Lex.numRun _).length
  unfold Lex.numDigs
  split
  ·omega
  ·simp only [List.length_cons];omega
 generalize hk:run Lex.digit s (i+1)=k at *
 generalize Lex.numL s[i] (s.data.toList.drop (i+1))=t at *
 have HK:=hid hk
 have HT:=hid ht
 have HD:=hid hd
 have HN:=hid hin
 clear hin
 clear hk ht hd htl hdl htz hc
 rcases hcases with ⟨e1,hF⟩ | ⟨hp,e1,e2,e3,hF⟩ | ⟨hp,e1,e2,e3,h9,hF,hA⟩ | ⟨hp,e1,e2,h9,hF⟩ | ⟨hp,e1,e2,h9,hF,hA⟩
 ·have HF:=hid hF
  clear hF
  go_enter Tryz.func122,Tryz.ntmps122
  go_wp2_with fail
  refine (while_digit s (i+1) _ (by omega) hs).mono ?_
  rintro e w' ⟨rfl,rfl⟩
  rw [HK.out]
  go_wp2_with fail
  rw [HT.out]
  refine (Tryz.strings_TrimPrefix _ _ _).mono ?_
  rintro e w' ⟨rfl,rfl⟩
  rw [HD.out]
  go_wp2_with (go_at_call 120;refine (inner_no _ HN.out _).mono ?_;rintro e w' ⟨rfl,rfl⟩)
  rw [HF.out]
  exact bodyPost_ret (v:=.tuple #[zeroTok,.int .i64 0,.int .i64 3]) (by simp [results,Tryz.results122,go_sem,zeroTok]) rfl ⟨rfl,(Below.refl _ _).alloc (Nat.le_refl _) _⟩
 ·have HF:=hid hF
  clear hF
  go_enter Tryz.func122,Tryz.ntmps122
  go_wp2_with fail
  refine (while_digit s (i+1) _ (by omega) hs).mono ?_
  rintro e w' ⟨rfl,rfl⟩
  rw [HK.out]
  go_wp2_with fail
  rw [HT.out]
  refine (Tryz.strings_TrimPrefix _ _ _).mono ?_
  rintro e w' ⟨rfl,rfl⟩
  rw [HD.out]
  go_wp2_with (go_at_call 120;refine (inner_no _ HN.out _).mono ?_;rintro e w' ⟨rfl,rfl⟩)
  rw [HF.out]
  exact bodyPost_ret (v:=.tuple #[zeroTok,.int .i64 0,.int .i64 3]) (by simp [results,Tryz.results122,go_sem,zeroTok]) rfl ⟨rfl,(Below.refl _ _).alloc (Nat.le_refl _) _⟩
 ·have HF:=hid hF
  clear hF
  have HA:=hid hA
  clear hA
  go_enter Tryz.func122,Tryz.ntmps122
  go_wp2_with fail
  refine (while_digit s (i+1) _ (by omega) hs).mono ?_
  rintro e w' ⟨rfl,rfl⟩
  rw [HK.out]
  go_wp2_with fail
  rw [HT.out]
  refine (Tryz.strings_TrimPrefix _ _ _).mono ?_
  rintro e w' ⟨rfl,rfl⟩
  rw [HD.out]
  go_wp2_with (go_at_call 120;refine (inner_no _ HN.out _).mono ?_;rintro e w' ⟨rfl,rfl⟩)
  refine (atoi_text tb _ (by omega) HA.out _).mono ?_
  rintro e w1 ⟨rfl,hb⟩
  obtain ⟨q0,q1,q2,q3⟩:=tok_cells hb
  have f0:=tok_frozen hb 0
  have f1:=tok_frozen hb 1
  have f2:=tok_frozen hb 2
  have f3:=tok_frozen hb 3
  have hz:=hb.size
  simp only [World.size_alloc] at hz
  go_wp2_with fail
  rw [HF.out]
  refine bodyPost_ret (v:=.tuple #[.agg #[.int .i64 2,.string ⟨#[]⟩,.int .i64 (Lex.numVal s[i] (s.data.toList.drop (i+1))),.int .i64 (i:Int)],.int .i64 (i+1+k:Nat),.int .i64 0]) (by simp [results,Tryz.results122,go_sem,q0,q1,q2,q3]) rfl ⟨rfl,?_⟩
  exact (((((((Below.refl _ _).alloc (Nat.le_refl _) _).trans (hb.mono (by simp))).setCell (by simp) _).setCell (by simp) _).setCell (by simp) _).setCell (by simp) _)
 ·have HF:=hid hF
  clear hF
  go_enter Tryz.func122,Tryz.ntmps122
  go_wp2_with fail
  refine (while_digit s (i+1) _ (by omega) hs).mono ?_
  rintro e w' ⟨rfl,rfl⟩
  rw [HK.out]
  go_wp2_with fail
  rw [HT.out]
  refine (Tryz.strings_TrimPrefix _ _ _).mono ?_
  rintro e w' ⟨rfl,rfl⟩
  rw [HD.out]
  go_wp2_with (go_at_call 120;refine (inner_no _ HN.out _).mono ?_;rintro e w' ⟨rfl,rfl⟩)
  rw [HF.out]
  exact bodyPost_ret (v:=.tuple #[zeroTok,.int .i64 0,.int .i64 9]) (by simp [results,Tryz.results122,go_sem,zeroTok]) rfl ⟨rfl,(Below.refl _ _).alloc (Nat.le_refl _) _⟩
 ·have HF:=hid hF
  clear hF
  have HA:=hid hA
  clear hA
  go_enter Tryz.func122,Tryz.ntmps122
  go_wp2_with fail
  refine (while_digit s (i+1) _ (by omega) hs).mono ?_
  rintro e w' ⟨rfl,rfl⟩
  rw [HK.out]
  go_wp2_with fail
  rw [HT.out]
  refine (Tryz.strings_TrimPrefix _ _ _).mono ?_
  rintro e w' ⟨rfl,rfl⟩
  rw [HD.out]
  go_wp2_with (go_at_call 120;refine (inner_no _ HN.out _).mono ?_;rintro e w' ⟨rfl,rfl⟩)
  refine (atoi_text tb _ (by omega) HA.out _).mono ?_
  rintro e w1 ⟨rfl,hb⟩
  obtain ⟨q0,q1,q2,q3⟩:=tok_cells hb
  have f0:=tok_frozen hb 0
  have f1:=tok_frozen hb 1
  have f2:=tok_frozen hb 2
  have f3:=tok_frozen hb 3
  have hz:=hb.size
  simp only [World.size_alloc] at hz
  go_wp2_with fail
  rw [HF.out]
  refine bodyPost_ret (v:=.tuple #[.agg #[.int .i64 2,.string ⟨#[]⟩,.int .i64 (Lex.numVal s[i] (s.data.toList.drop (i+1))),.int .i64 (i:Int)],.int .i64 (i+1+k:Nat),.int .i64 0]) (by simp [results,Tryz.results122,go_sem,q0,q1,q2,q3]) rfl ⟨rfl,?_⟩
  exact (((((((Below.refl _ _).alloc (Nat.le_refl _) _).trans (hb.mono (by simp))).setCell (by simp) _).setCell (by simp) _).setCell (by simp) _).setCell (by simp) _)

set_option maxRecDepth 100000 in
set_option maxHeartbeats 1000000 in
theorem number_end (s:ByteArray) (i:Nat) (w:World) (hi:i < s.size) (hs:s.size≤1000000) (hc:(Lex.digit s[i] || decide (s[i]=45))=true) (hend:s.size≤i+1+run Lex.digit s (i+1)) :
  Calls Tryz.prog 122 #[.string s,.int .i64 (i:Int)] w fun e w'=>e=.returned (trV (Lex.numL s[i] (s.data.toList.drop (i+1))) i (i+1+run Lex.digit s (i+1)))∧Below w.heap.size w w':=by
 have hr:=run_le Lex.digit s (i+1) (by omega)
 obtain ⟨tb,ht⟩:∃ tb,s.extract i (i+1+run Lex.digit s (i+1))=tb:=⟨_,rfl⟩
 obtain ⟨db,hd⟩:∃ db:ByteArray,⟨(Lib.trimPrefix tb.data.toList (ByteArray.mk #[45]).data.toList).toArray⟩=db:=⟨_,rfl⟩
 have htl:=text_list s i hi
 rw [ht] at htl
 have hdl:db.data.toList=Lex.numDigs s[i] (s.data.toList.drop (i+1)):=by
  rw [← hd,htl];exact trim_list _ _
 have htz:tb.size=1+run Lex.digit s (i+1):=by rw [← size_list,htl,List.length_cons,Nat.add_comm];rfl
 have hcases:=num_cases s[i] _ hc tb db htl hdl ((next_none s i hend))
 have hsz:db.size+1 ≥ tb.size:=by
  rw [← size_list,hdl,htz]
  show (Lex.numDigs s[i] _).length+1 ≥ 1+(Lex.numRun _).length
  unfold Lex.numDigs
  split
  ·omega
  ·simp only [List.length_cons];omega
 generalize hk:run Lex.digit s (i+1)=k at *
 generalize Lex.numL s[i] (s.data.toList.drop (i+1))=t at *
 have HK:=hid hk
 have HT:=hid ht
 have HD:=hid hd
 clear hk ht hd htl hdl htz hc
 rcases hcases with ⟨e1,hF⟩ | ⟨hp,e1,e2,e3,hF⟩ | ⟨hp,e1,e2,e3,h9,hF,hA⟩ | ⟨hp,e1,e2,h9,hF⟩ | ⟨hp,e1,e2,h9,hF,hA⟩
 ·have HF:=hid hF
  clear hF
  go_enter Tryz.func122,Tryz.ntmps122
  go_wp2_with fail
  refine (while_digit s (i+1) _ (by omega) hs).mono ?_
  rintro e w' ⟨rfl,rfl⟩
  rw [HK.out]
  go_wp2_with fail
  rw [HT.out]
  refine (Tryz.strings_TrimPrefix _ _ _).mono ?_
  rintro e w' ⟨rfl,rfl⟩
  rw [HD.out]
  go_wp2_with fail
  rw [HF.out]
  exact bodyPost_ret (v:=.tuple #[zeroTok,.int .i64 0,.int .i64 3]) (by simp [results,Tryz.results122,go_sem,zeroTok]) rfl ⟨rfl,(Below.refl _ _).alloc (Nat.le_refl _) _⟩
 ·have HF:=hid hF
  clear hF
  go_enter Tryz.func122,Tryz.ntmps122
  go_wp2_with fail
  refine (while_digit s (i+1) _ (by omega) hs).mono ?_
  rintro e w' ⟨rfl,rfl⟩
  rw [HK.out]
  go_wp2_with fail
  rw [HT.out]
  refine (Tryz.strings_TrimPrefix _ _ _).mono ?_
  rintro e w' ⟨rfl,rfl⟩
  rw [HD.out]
  go_wp2_with fail
  rw [HF.out]
  exact bodyPost_ret (v:=.tuple #[zeroTok,.int .i64 0,.int .i64 3]) (by simp [results,Tryz.results122,go_sem,zeroTok]) rfl ⟨rfl,(Below.refl _ _).alloc (Nat.le_refl _) _⟩
 ·have HF:=hid hF
  clear hF
  have HA:=hid hA
  clear hA
  go_enter Tryz.func122,Tryz.ntmps122
  go_wp2_with fail
  refine (while_digit s (i+1) _ (by omega) hs).mono ?_
  rintro e w' ⟨rfl,rfl⟩
  rw [HK.out]
  go_wp2_with fail
  rw [HT.out]
  refine (Tryz.strings_TrimPrefix _ _ _).mono ?_
  rintro e w' ⟨rfl,rfl⟩
  rw [HD.out]
  go_wp2_with fail
  refine (atoi_text tb _ (by omega) HA.out _).mono ?_
  rintro e w1 ⟨rfl,hb⟩
  obtain ⟨q0,q1,q2,q3⟩:=tok_cells hb
  have f0:=tok_frozen hb 0
  have f1:=tok_frozen hb 1
  have f2:=tok_frozen hb 2
  have f3:=tok_frozen hb 3
  have hz:=hb.size
  simp only [World.size_alloc] at hz
  go_wp2_with fail
  rw [HF.out]
  refine bodyPost_ret (v:=.tuple #[.agg #[.int .i64 2,.string ⟨#[]⟩,.int .i64 (Lex.numVal s[i] (s.data.toList.drop (i+1))),.int .i64 (i:Int)],.int .i64 (i+1+k:Nat),.int .i64 0]) (by simp [results,Tryz.results122,go_sem,q0,q1,q2,q3]) rfl ⟨rfl,?_⟩
  exact (((((((Below.refl _ _).alloc (Nat.le_refl _) _).trans (hb.mono (by simp))).setCell (by simp) _).setCell (by simp) _).setCell (by simp) _).setCell (by simp) _)
 ·have HF:=hid hF
  clear hF
  go_enter Tryz.func122,Tryz.ntmps122
  go_wp2_with fail
  refine (while_digit s (i+1) _ (by omega) hs).mono ?_
  rintro e w' ⟨rfl,rfl⟩
  rw [HK.out]
  go_wp2_with fail
  rw [HT.out]
  refine (Tryz.strings_TrimPrefix _ _ _).mono ?_
  rintro e w' ⟨rfl,rfl⟩
  rw [HD.out]
  go_wp2_with fail
  rw [HF.out]
  exact bodyPost_ret (v:=.tuple #[zeroTok,.int .i64 0,.int .i64 9]) (by simp [results,Tryz.results122,go_sem,zeroTok]) rfl ⟨rfl,(Below.refl _ _).alloc (Nat.le_refl _) _⟩
 ·have HF:=hid hF
  clear hF
  have HA:=hid hA
  clear hA
  go_enter Tryz.func122,Tryz.ntmps122
  go_wp2_with fail
  refine (while_digit s (i+1) _ (by omega) hs).mono ?_
  rintro e w' ⟨rfl,rfl⟩
  rw [HK.out]
  go_wp2_with fail
  rw [HT.out]
  refine (Tryz.strings_TrimPrefix _ _ _).mono ?_
  rintro e w' ⟨rfl,rfl⟩
  rw [HD.out]
  go_wp2_with fail
  refine (atoi_text tb _ (by omega) HA.out _).mono ?_
  rintro e w1 ⟨rfl,hb⟩
  obtain ⟨q0,q1,q2,q3⟩:=tok_cells hb
  have f0:=tok_frozen hb 0
  have f1:=tok_frozen hb 1
  have f2:=tok_frozen hb 2
  have f3:=tok_frozen hb 3
  have hz:=hb.size
  simp only [World.size_alloc] at hz
  go_wp2_with fail
  rw [HF.out]
  refine bodyPost_ret (v:=.tuple #[.agg #[.int .i64 2,.string ⟨#[]⟩,.int .i64 (Lex.numVal s[i] (s.data.toList.drop (i+1))),.int .i64 (i:Int)],.int .i64 (i+1+k:Nat),.int .i64 0]) (by simp [results,Tryz.results122,go_sem,q0,q1,q2,q3]) rfl ⟨rfl,?_⟩
  exact (((((((Below.refl _ _).alloc (Nat.le_refl _) _).trans (hb.mono (by simp))).setCell (by simp) _).setCell (by simp) _).setCell (by simp) _).setCell (by simp) _)
theorem trV_ok {t:Lex.TR} (h:t.err=0) (i j:Nat):trV t i j=.tuple #[okTok t i,.int .i64 (j:Int),.int .i64 0]:=by unfold trV;rw [if_pos h]
theorem trV_bad {t:Lex.TR} (h:t.err≠0) (i j:Nat):trV t i j=.tuple #[zeroTok,.int .i64 0,.int .i64 t.err]:=by unfold trV;rw [if_neg h]

theorem number_any (s:ByteArray) (i:Nat) (w:World) (hi:i < s.size) (hs:s.size≤1000000) (hc:(Lex.digit s[i] || decide (s[i]=45))=true) :
  Calls Tryz.prog 122 #[.string s,.int .i64 (i:Int)] w fun e w'=>e=.returned (trV (Lex.numL s[i] (s.data.toList.drop (i+1))) i (i+1+run Lex.digit s (i+1)))∧Below w.heap.size w w':=by
 by_cases hend:i+1+run Lex.digit s (i+1) < s.size
 ·cases hin:Lex.inner (s[i+1+run Lex.digit s (i+1)]'hend)
  ·exact number_in s i w hi hs hc hend hin
  ·have hb:Lex.numL s[i] (s.data.toList.drop (i+1))=bad3:=by
    unfold Lex.numL
    rw [if_pos (by unfold Lex.numBad;rw [(next_inner s i hend).trans hin];simp)];rfl
   rw [hb,trV_bad3]
   exact number_glued s i w hi hs hend hin
 ·exact number_end s i w hi hs hc (by omega)
theorem number_ok (s:ByteArray) (i:Nat) (w:World) (hi:i < s.size) (hs:s.size≤1000000) (hc:(Lex.digit s[i] || decide (s[i]=45))=true) (h:(Lex.numL s[i] (s.data.toList.drop (i+1))).err=0) :
  Calls Tryz.prog 122 #[.string s,.int .i64 (i:Int)] w fun e w'=>e=.returned (.tuple #[okTok (Lex.numL s[i] (s.data.toList.drop (i+1))) i,.int .i64 ((i+1+run Lex.digit s (i+1):Nat):Int),.int .i64 0])∧Below w.heap.size w w':=by
 have:=number_any s i w hi hs hc
 rwa [trV_ok h] at this
theorem number_bad (s:ByteArray) (i:Nat) (w:World) (hi:i < s.size) (hs:s.size≤1000000) (hc:(Lex.digit s[i] || decide (s[i]=45))=true) (h:(Lex.numL s[i] (s.data.toList.drop (i+1))).err≠0) :
  Calls Tryz.prog 122 #[.string s,.int .i64 (i:Int)] w fun e w'=>e=.returned (.tuple #[zeroTok,.int .i64 0,.int .i64 (Lex.numL s[i] (s.data.toList.drop (i+1))).err])∧Below w.heap.size w w':=by
 have:=number_any s i w hi hs hc
 rwa [trV_bad h] at this

theorem str_eq {b:ByteArray} {l:List UInt8} (h:b.data.toList=l):b=⟨l.toArray⟩:=by
 cases b;subst h;simp
theorem name_text (s:ByteArray) (i:Nat):s.extract i (i+run Lex.inner s i)=⟨((s.data.toList.drop i).takeWhile Lex.inner).toArray⟩:=by
 apply str_eq
 rw [extract_list,show i+run Lex.inner s i - i=run Lex.inner s i by omega]
 exact Lex.takeWhile_len _ _
theorem one_text (s:ByteArray) (i:Nat) (hi:i < s.size):s.extract i (i+1)=⟨[s[i]].toArray⟩:=by
 apply str_eq
 rw [extract_list,drop_at s i hi,show i+1 - i=1 by omega];rfl

theorem index_mark (l:List UInt8) (c:UInt8):(l.contains c=true→0≤Lib.indexByte l c)∧(l.contains c=false→Lib.indexByte l c = -1):=by
 induction l with
 | nil=>exact ⟨fun h=>by simp at h,fun _=>rfl⟩
 | cons b t ih =>
  simp only [Lib.indexByte,List.contains_cons]
  by_cases hb:b=c
  ·subst hb;simp
  ·have h1:(b == c)=false:=by simpa using hb
   have h2:(c == b)=false:=by simpa using Ne.symm hb
   rw [h1,h2]
   simp only [Bool.false_or,Bool.false_eq_true,if_false]
   refine ⟨fun h=>?_,fun h=>?_⟩
   ·have:=ih.1 h
    split<;>rename_i hx
    ·simp only [beq_iff_eq] at hx;omega
    ·omega
   ·rw [ih.2 h];rfl
def marks:ByteArray:=⟨#[123,125,40,41,44,59,58,61]⟩
theorem index_yes (c:UInt8) (h:Lex.mark c=true) (w:World):Calls Tryz.prog 123 #[.string ⟨#[123,125,40,41,44,59,58,61]⟩,.int .u8 (c.toNat:Int)] w fun e w'=>(∃ m:Int,e=.returned (.int .i64 m)∧0≤m)∧w=w':=by
 refine (Tryz.strings_IndexByte _ _ _).mono fun e w' ⟨he,hw⟩=>⟨⟨_,he,?_⟩,hw.symm⟩
 rw [Int.toNat_natCast,show c.toNat.toUInt8=c by simp [Nat.toUInt8]]
 exact (index_mark _ c).1 h
theorem index_no (c:UInt8) (h:Lex.mark c=false) (w:World):Calls Tryz.prog 123 #[.string ⟨#[123,125,40,41,44,59,58,61]⟩,.int .u8 (c.toNat:Int)] w (Returns w (.int .i64 (-1))):=by
 refine (Tryz.strings_IndexByte _ _ _).mono fun e w' ⟨he,hw⟩=>⟨?_,hw.symm⟩
 rw [he,Int.toNat_natCast,show c.toNat.toUInt8=c by simp [Nat.toUInt8]]
 exact ret_int ((index_mark _ c).2 h)

theorem digit_45 (c:UInt8) (h:Lex.digit c=false):(Lex.digit c || decide (c=45))=((c.toNat:Int) == 45):=by
 rw [h,Bool.false_or,Bool.eq_iff_iff,decide_eq_true_eq,beq_iff_eq]
 exact ⟨fun h=>by rw [h];rfl,fun h=>Lex.byte_eq (k:=45) (by decide) (by omega)⟩

set_option maxRecDepth 100000 in
theorem token_long (s:ByteArray) (i:Nat) (w:World) (hi:i < s.size) (hs:s.size≤1000000) (h1:Lex.letter s[i]=true) (h2:16 < run Lex.inner s i) :
  Calls Tryz.prog 62 #[.string s,.int .i64 (i:Int)] w fun e w'=>e=.returned (.tuple #[zeroTok,.int .i64 0,.int .i64 9])∧Below w.heap.size w w':=by
 have hr:=run_le Lex.inner s i (by omega)
 generalize hk:run Lex.inner s i=k at *
 have HK:=hid hk
 have H1:=hid h1
 clear hk h1
 go_enter Tryz.func62,Tryz.ntmps62
 go_wp2_with (first | (go_at_call 119;refine (letter_yes _ H1.out _).mono ?_;rintro e w' ⟨rfl,rfl⟩) | (go_at_call 60;refine (while_inner s i _ (by omega) hs).mono ?_;rintro e w' ⟨rfl,rfl⟩;rw [HK.out]))
 exact bodyPost_ret (v:=.tuple #[zeroTok,.int .i64 0,.int .i64 9]) (by simp [results,Tryz.results62,go_sem,zeroTok]) rfl ⟨rfl,(Below.refl _ _).alloc (Nat.le_refl _) _⟩

set_option maxRecDepth 100000 in
theorem token_name (s:ByteArray) (i:Nat) (w:World) (hi:i < s.size) (hs:s.size≤1000000) (h1:Lex.letter s[i]=true) (h2:run Lex.inner s i≤16) :
  Calls Tryz.prog 62 #[.string s,.int .i64 (i:Int)] w fun e w'=>e=.returned (.tuple #[.agg #[.int .i64 1,.string (s.extract i (i+run Lex.inner s i)),.int .i64 0,.int .i64 (i:Int)],.int .i64 ((i+run Lex.inner s i:Nat):Int),.int .i64 0])∧Below w.heap.size w w':=by
 have hr:=run_le Lex.inner s i (by omega)
 generalize hk:run Lex.inner s i=k at *
 have HK:=hid hk
 have H1:=hid h1
 clear hk h1
 go_enter Tryz.func62,Tryz.ntmps62
 go_wp2_with (first | (go_at_call 119;refine (letter_yes _ H1.out _).mono ?_;rintro e w' ⟨rfl,rfl⟩) | (go_at_call 60;refine (while_inner s i _ (by omega) hs).mono ?_;rintro e w' ⟨rfl,rfl⟩;rw [HK.out]))
 exact bodyPost_ret (v:=.tuple #[.agg #[.int .i64 1,.string (s.extract i (i+k)),.int .i64 0,.int .i64 (i:Int)],.int .i64 ((i+k:Nat):Int),.int .i64 0]) (by simp [results,Tryz.results62,go_sem]) rfl ⟨rfl,(Below.refl _ _).alloc (Nat.le_refl _) _⟩

set_option maxRecDepth 100000 in
theorem token_mark (s:ByteArray) (i:Nat) (w:World) (hi:i < s.size) (hs:s.size≤1000000) (h1:Lex.letter s[i]=false) (h2:Lex.digit s[i]=false) (h3:((s[i].toNat:Int) == 45)=false) (h4:Lex.mark s[i]=true) :
  Calls Tryz.prog 62 #[.string s,.int .i64 (i:Int)] w fun e w'=>e=.returned (.tuple #[.agg #[.int .i64 3,.string (s.extract i (i+1)),.int .i64 0,.int .i64 (i:Int)],.int .i64 ((i+1:Nat):Int),.int .i64 0])∧Below w.heap.size w w':=by
 have H1:=hid h1
 have H2:=hid h2
 have H4:=hid h4
 clear h1 h2 h4
 go_enter Tryz.func62,Tryz.ntmps62
 go_wp2_with (first | (go_at_call 119;refine (letter_no _ H1.out _).mono ?_;rintro e w' ⟨rfl,rfl⟩) | (go_at_call 121;refine (digit_no _ H2.out _).mono ?_;rintro e w' ⟨rfl,rfl⟩) | (go_at_call 123;refine (index_yes _ H4.out _).mono ?_;rintro e w' ⟨⟨m,rfl,hm⟩,rfl⟩))
 exact bodyPost_ret (v:=.tuple #[.agg #[.int .i64 3,.string (s.extract i (i+1)),.int .i64 0,.int .i64 (i:Int)],.int .i64 ((i+1:Nat):Int),.int .i64 0]) (by simp [results,Tryz.results62,go_sem]) rfl ⟨rfl,(Below.refl _ _).alloc (Nat.le_refl _) _⟩

set_option maxRecDepth 100000 in
theorem token_none (s:ByteArray) (i:Nat) (w:World) (hi:i < s.size) (_hs:s.size≤1000000) (h1:Lex.letter s[i]=false) (h2:Lex.digit s[i]=false) (h3:((s[i].toNat:Int) == 45)=false) (h4:Lex.mark s[i]=false) :
  Calls Tryz.prog 62 #[.string s,.int .i64 (i:Int)] w fun e w'=>e=.returned (.tuple #[zeroTok,.int .i64 0,.int .i64 3])∧Below w.heap.size w w':=by
 have H1:=hid h1
 have H2:=hid h2
 have H4:=hid h4
 clear h1 h2 h4
 go_enter Tryz.func62,Tryz.ntmps62
 go_wp2_with (first | (go_at_call 119;refine (letter_no _ H1.out _).mono ?_;rintro e w' ⟨rfl,rfl⟩) | (go_at_call 121;refine (digit_no _ H2.out _).mono ?_;rintro e w' ⟨rfl,rfl⟩) | (go_at_call 123;refine (index_no _ H4.out _).mono ?_;rintro e w' ⟨rfl,rfl⟩))
 exact bodyPost_ret (v:=.tuple #[zeroTok,.int .i64 0,.int .i64 3]) (by simp [results,Tryz.results62,go_sem,zeroTok]) rfl ⟨rfl,(Below.refl _ _).alloc (Nat.le_refl _) _⟩

/-- What the reader of a number is told: a digit, or a minus sign. -/
theorem token_num (s:ByteArray) (i:Nat) (w:World) (hi:i < s.size) (h1:Lex.letter s[i]=false) (hc:(Lex.digit s[i] || decide (s[i]=45))=true)
  (a b c d:Value) (j e0:Int) (hn:Hid (∀ w,Calls Tryz.prog 122 #[.string s,.int .i64 (i:Int)] w fun e w'=>e=.returned (.tuple #[.agg #[a,b,c,d],.int .i64 j,.int .i64 e0])∧Below w.heap.size w w'))
  (ha:∃ k x,a=.int k x) (hb:∃ x,b=.string x) (hc':∃ k x,c=.int k x) (hd:∃ k x,d=.int k x) :
  Calls Tryz.prog 62 #[.string s,.int .i64 (i:Int)] w fun e w'=>e=.returned (.tuple #[.agg #[a,b,c,d],.int .i64 j,.int .i64 e0])∧Below w.heap.size w w':=by
 obtain ⟨ka,xa,rfl⟩:=ha
 obtain ⟨xb,rfl⟩:=hb
 obtain ⟨kc,xc,rfl⟩:=hc'
 obtain ⟨kd,xd,rfl⟩:=hd
 have H1:=hid h1
 cases h2:Lex.digit s[i]
 ·have h3:=(digit_45 s[i] h2).symm.trans hc
  have H2:=hid h2
  clear h1 h2 hc
  go_enter Tryz.func62,Tryz.ntmps62
  go_wp2_with (first | (go_at_call 119;refine (letter_no _ H1.out _).mono ?_;rintro e w' ⟨rfl,rfl⟩) | (go_at_call 121;refine (digit_no _ H2.out _).mono ?_;rintro e w' ⟨rfl,rfl⟩) | (go_at_call 122;refine (hn.out _).mono ?_;rintro e w1 ⟨rfl,hb⟩;obtain ⟨q0,q1,q2,q3⟩:=tok_cells hb;have f0:=tok_frozen hb 0;have f1:=tok_frozen hb 1;have f2:=tok_frozen hb 2;have f3:=tok_frozen hb 3;have hz:=hb.size;simp only [World.size_alloc] at hz))
  refine bodyPost_ret (v:=.tuple #[.agg #[.int ka xa,.string xb,.int kc xc,.int kd xd],.int .i64 j,.int .i64 e0]) (by simp [results,Tryz.results62,go_sem,q0,q1,q2,q3]) rfl ⟨rfl,?_⟩
  exact (((((((Below.refl _ _).alloc (Nat.le_refl _) _).trans (hb.mono (by simp))).setCell (by simp) _).setCell (by simp) _).setCell (by simp) _).setCell (by simp) _)
 ·have H2:=hid h2
  clear h1 h2 hc
  go_enter Tryz.func62,Tryz.ntmps62
  go_wp2_with (first | (go_at_call 119;refine (letter_no _ H1.out _).mono ?_;rintro e w' ⟨rfl,rfl⟩) | (go_at_call 121;refine (digit_yes _ H2.out _).mono ?_;rintro e w' ⟨rfl,rfl⟩) | (go_at_call 122;refine (hn.out _).mono ?_;rintro e w1 ⟨rfl,hb⟩;obtain ⟨q0,q1,q2,q3⟩:=tok_cells hb;have f0:=tok_frozen hb 0;have f1:=tok_frozen hb 1;have f2:=tok_frozen hb 2;have f3:=tok_frozen hb 3;have hz:=hb.size;simp only [World.size_alloc] at hz))
  refine bodyPost_ret (v:=.tuple #[.agg #[.int ka xa,.string xb,.int kc xc,.int kd xd],.int .i64 j,.int .i64 e0]) (by simp [results,Tryz.results62,go_sem,q0,q1,q2,q3]) rfl ⟨rfl,?_⟩
  exact (((((((Below.refl _ _).alloc (Nat.le_refl _) _).trans (hb.mono (by simp))).setCell (by simp) _).setCell (by simp) _).setCell (by simp) _).setCell (by simp) _)

theorem token_any (s:ByteArray) (i:Nat) (w:World) (hi:i < s.size) (hs:s.size≤1000000) :
  Calls Tryz.prog 62 #[.string s,.int .i64 (i:Int)] w fun e w'=>e=.returned (trV (Lex.tokL (s.data.toList.drop i)) i (i+(Lex.tokL (s.data.toList.drop i)).len))∧Below w.heap.size w w':=by
 have hd:=drop_at s i hi
 cases h1:Lex.letter s[i]
 ·cases hc:(Lex.digit s[i] || decide (s[i]=45))
  ·have h2:Lex.digit s[i]=false:=by
    cases h:Lex.digit s[i]
    ·rfl
    ·rw [h] at hc;simp at hc
   have h3:=(digit_45 s[i] h2).symm.trans hc
   cases h4:Lex.mark s[i]
   ·have e:Lex.tokL (s.data.toList.drop i)=bad3:=by
     rw [hd];simp only [Lex.tokL]
     rw [if_neg (by simp [h1]),if_neg (by rw [hc];simp),if_neg (by simp [h4])];rfl
    rw [e,trV_bad3]
    exact token_none s i w hi hs h1 h2 h3 h4
   ·have e:Lex.tokL (s.data.toList.drop i)=⟨3,[s[i]],0,1,0⟩:=by rw [hd];exact Lex.tokL_mark h1 hc h4
    rw [e,trV_ok rfl]
    have:=token_mark s i w hi hs h1 h2 h3 h4
    rw [one_text s i hi] at this
    exact this
  ·have e:Lex.tokL (s.data.toList.drop i)=Lex.numL s[i] (s.data.toList.drop (i+1)):=by
    rw [hd];simp only [Lex.tokL]
    rw [if_neg (by simp [h1]),if_pos hc]
   rw [e]
   by_cases h0:(Lex.numL s[i] (s.data.toList.drop (i+1))).err=0
   ·rw [trV_ok h0]
    have hl:i+(Lex.numL s[i] (s.data.toList.drop (i+1))).len=i+1+run Lex.digit s (i+1):=by
     unfold Lex.numL at h0 ⊢
     split at h0
     ·simp at h0
     ·rename_i hb
      rw [if_neg hb]
      split at h0
      ·simp at h0
      ·rename_i hb
       rw [if_neg hb]
       show i+((Lex.numRun _).length+1)=i+1+(Lex.numRun _).length
       omega
    rw [hl]
    exact token_num s i w hi h1 hc _ _ _ _ _ _ (hid fun w=>number_ok s i w hi hs hc h0) ⟨_,_,rfl⟩ ⟨_,rfl⟩ ⟨_,_,rfl⟩ ⟨_,_,rfl⟩
   ·rw [trV_bad h0]
    exact token_num s i w hi h1 hc _ _ _ _ _ _ (hid fun w=>number_bad s i w hi hs hc h0) ⟨_,_,rfl⟩ ⟨_,rfl⟩ ⟨_,_,rfl⟩ ⟨_,_,rfl⟩
 ·have hrun:(s[i]::s.data.toList.drop (i+1)).takeWhile Lex.inner=(s.data.toList.drop i).takeWhile Lex.inner:=by rw [hd]
  have hlen:((s.data.toList.drop i).takeWhile Lex.inner).length=run Lex.inner s i:=rfl
  by_cases h2:run Lex.inner s i≤16
  ·have e:Lex.tokL (s.data.toList.drop i)=⟨1,(s.data.toList.drop i).takeWhile Lex.inner,0,run Lex.inner s i,0⟩:=by
    rw [← hlen,hd]
    exact Lex.tokL_name h1 (by rw [hrun,hlen];exact h2)
   rw [e,trV_ok rfl]
   have:=token_name s i w hi hs h1 h2
   rw [name_text] at this
   exact this
  ·have e:Lex.tokL (s.data.toList.drop i)=bad9:=by
    rw [hd];simp only [Lex.tokL]
    rw [if_pos h1,hrun,hlen,if_pos (by omega)];rfl
   rw [e,trV_bad9]
   exact token_long s i w hi hs h1 (by omega)
open Go Go.RowKit Go.Proofs.YtnkkcknogkgdkaaGreatDoor.Mem
def tokCells (t:Lex.Tok):List Value:=[.int .i64 t.kind,.string ⟨t.text.toArray⟩,.int .i64 t.n,.int .i64 (t.pos:Int)]
def toksCells (l:List Lex.Tok):List Value:=l.flatMap tokCells
theorem toksCells_snoc (l:List Lex.Tok) (t:Lex.Tok):toksCells (l++[t])=toksCells l++tokCells t:=by simp [toksCells]
theorem token_ok (s:ByteArray) (i:Nat) (w:World) (hi:i < s.size) (hs:s.size≤1000000) (h:(Lex.tokL (s.data.toList.drop i)).err=0) :
  Calls Tryz.prog 62 #[.string s,.int .i64 (i:Int)] w fun e w'=>e=.returned (.tuple #[okTok (Lex.tokL (s.data.toList.drop i)) i,.int .i64 ((i+(Lex.tokL (s.data.toList.drop i)).len:Nat):Int),.int .i64 0])∧Below w.heap.size w w':=by
 have:=token_any s i w hi hs
 rwa [trV_ok h] at this
theorem token_bad (s:ByteArray) (i:Nat) (w:World) (hi:i < s.size) (hs:s.size≤1000000) (h:(Lex.tokL (s.data.toList.drop i)).err≠0) :
  Calls Tryz.prog 62 #[.string s,.int .i64 (i:Int)] w fun e w'=>e=.returned (.tuple #[zeroTok,.int .i64 0,.int .i64 (Lex.tokL (s.data.toList.drop i)).err])∧Below w.heap.size w w':=by
 have:=token_any s i w hi hs
 rwa [trV_bad h] at this

/-- Where a round of the lexer stands: what is read so far, and what is still to come, give the whole. -/
def At (S:List UInt8) (k:Nat) (acc:List Lex.Tok):Prop:=Lex.LR.fin acc (Lex.lex (S.drop k) k)=Lex.lex S 0
theorem At.start (S:List UInt8):At S 0 []:=by
 unfold At
 rw [List.drop_zero,Lex.LR.fin_nil (Lex.lex_ok _ _)]
theorem At.blank {s:ByteArray} {k:Nat} {acc:List Lex.Tok} (h:At s.data.toList k acc) (hk:k < s.size) (hb:Lex.blank s[k]=true):At s.data.toList (k+1) acc:=by
 unfold At at *
 rw [drop_at s k hk,Lex.lex_blank _ _ hb] at h
 exact h
theorem At.note {s:ByteArray} {k:Nat} {acc:List Lex.Tok} (h:At s.data.toList k acc) (hk:k < s.size) (hb:s[k]=35):At s.data.toList (k+run Lex.notFeed s k) acc:=by
 unfold At at *
 rw [drop_at s k hk,Lex.lex_comment _ _ hb,← drop_at s k hk] at h
 have hd:=List.drop_left (l₁:=(s.data.toList.drop k).takeWhile Lex.notFeed) (l₂:=(s.data.toList.drop k).dropWhile Lex.notFeed)
 rw [List.takeWhile_append_dropWhile,List.drop_drop] at hd
 rw [← hd] at h
 exact h
theorem At.tok {s:ByteArray} {k:Nat} {acc:List Lex.Tok} (h:At s.data.toList k acc) (hk:k < s.size) (h0:(Lex.tokL (s.data.toList.drop k)).err=0) :
  At s.data.toList (k+(Lex.tokL (s.data.toList.drop k)).len) (acc++[⟨(Lex.tokL (s.data.toList.drop k)).kind,(Lex.tokL (s.data.toList.drop k)).text,(Lex.tokL (s.data.toList.drop k)).n,k⟩]):=by
 unfold At at *
 have hd:=drop_at s k hk
 have h1:(Lex.tokL (s[k]::s.data.toList.drop (k+1))).err=0:=by rw [← hd];exact h0
 have hh:=Lex.tok_head h1
 have e:=Lex.lex_tok _ k hh.1 hh.2 h1
 rw [← hd,List.drop_drop] at e
 rw [e,Lex.LR.fin_cons] at h
 exact h
theorem At.bad {s:ByteArray} {k:Nat} {acc:List Lex.Tok} (h:At s.data.toList k acc) (hk:k < s.size) (hb:Lex.blank s[k]=false) (hc:s[k]≠35) (h0:(Lex.tokL (s.data.toList.drop k)).err≠0) :
  Lex.lex s.data.toList 0=⟨[],k,(Lex.tokL (s.data.toList.drop k)).err⟩:=by
 unfold At at *
 have hd:=drop_at s k hk
 have e:=Lex.lex_bad (c:=s[k]) (s.data.toList.drop (k+1)) k hb hc (by rw [← hd];exact h0)
 rw [← hd] at e
 rw [e] at h
 rw [← h]
 unfold Lex.LR.fin
 rw [if_neg h0]
theorem At.done {s:ByteArray} {k:Nat} {acc:List Lex.Tok} (h:At s.data.toList k acc) (hk:s.size≤k):Lex.lex s.data.toList 0=⟨acc,0,0⟩:=by
 unfold At at h
 rw [List.drop_of_length_le (by rw [size_list];exact hk),Lex.lex_nil] at h
 rw [← h]
 simp [Lex.LR.fin]

theorem byte_test (c:UInt8) (k:Nat) (hk:k < 256):((c.toNat:Int) == (k:Int))=decide (c=UInt8.ofNat k):=by
 rw [Bool.eq_iff_iff,beq_iff_eq,decide_eq_true_eq]
 exact ⟨fun h=>Lex.byte_eq hk (by omega),fun h=>by rw [h,UInt8.toNat_ofNat',Nat.mod_eq_of_lt hk]⟩
/-- The ways of a byte at a token's beginning. -/
theorem byte_ways (c:UInt8) :
  (Lex.blank c=true∧((c.toNat:Int) == 32)=true) ∨
  (Lex.blank c=true∧((c.toNat:Int) == 32)=false∧((c.toNat:Int) == 9)=true) ∨
  (Lex.blank c=true∧((c.toNat:Int) == 32)=false∧((c.toNat:Int) == 9)=false∧((c.toNat:Int) == 10)=true) ∨
  (Lex.blank c=false∧c=35∧((c.toNat:Int) == 32)=false∧((c.toNat:Int) == 9)=false∧((c.toNat:Int) == 10)=false∧((c.toNat:Int) == 35)=true) ∨
  (Lex.blank c=false∧c≠35∧((c.toNat:Int) == 32)=false∧((c.toNat:Int) == 9)=false∧((c.toNat:Int) == 10)=false∧((c.toNat:Int) == 35)=false):=by
 have e1:((c.toNat:Int) == 32)=decide (c.toNat=32):=by rw [Bool.eq_iff_iff];simp;omega
 have e2:((c.toNat:Int) == 9)=decide (c.toNat=9):=by rw [Bool.eq_iff_iff];simp;omega
 have e3:((c.toNat:Int) == 10)=decide (c.toNat=10):=by rw [Bool.eq_iff_iff];simp;omega
 have e4:((c.toNat:Int) == 35)=decide (c.toNat=35):=by rw [Bool.eq_iff_iff];simp;omega
 have e5:c=35 ↔ c.toNat=35:=⟨fun h=>by rw [h];rfl,fun h=>Lex.byte_eq (k:=35) (by decide) h⟩
 rw [e1,e2,e3,e4]
 unfold Lex.blank
 rw [Ne,e5]
 by_cases h1:c.toNat=32
 ·simp [h1]
 ·by_cases h2:c.toNat=9
  ·simp [h2]
  ·by_cases h3:c.toNat=10
   ·simp [h3]
   ·by_cases h4:c.toNat=35
    ·simp [h4]
    ·simp [h1,h2,h3,h4]

theorem tok_info:(Tryz.prog.info? 69).map (fun i=>(i.zero,i.size,i.bytes))=some (some (.agg #[.int .i64 0,.string ⟨#[]⟩,.int .i64 0,.int .i64 0]),4,40):=by kernel_rfl

/-- What the lexer hands back. -/
def TokensPost (T:TypeId) (w:World) (r:Lex.LR) (e:Ending) (w':World):Prop :=
 ∃ v,e=.returned (.tuple #[v,.int .i64 (r.pos:Int),.int .i64 r.err])∧w'.ownsRow w.heap.size T 4 v r.toks.length (toksCells r.toks)∧Below w.heap.size w w'

set_option maxRecDepth 100000 in
theorem tokens_long (s:ByteArray) (w:World) (hs:20000 < s.size) :
  Calls Tryz.prog 26 #[.string s] w (TokensPost 69 w (Lex.tokens s.data.toList)):=by
 have e:Lex.tokens s.data.toList=⟨[],0,9⟩:=by unfold Lex.tokens;rw [size_list,if_pos hs]
 have E:=hid e
 clear e
 go_enter Tryz.func26,Tryz.ntmps26
 go_wp2
 go_step3
 go_wp2
 rw [Exit.noGoto_ret]
 go_ret3
 rw [E.out]
 exact ⟨_,rfl,World.ownsRow_nil _ _ _ _,Below.refl _ _⟩

set_option maxRecDepth 100000 in
set_option maxHeartbeats 1000000 in
theorem tokens_short (s:ByteArray) (w:World) (hs:s.size≤20000) :
  Calls Tryz.prog 26 #[.string s] w (TokensPost 69 w (Lex.tokens s.data.toList)):=by
 have e:Lex.tokens s.data.toList=Lex.lex s.data.toList 0:=by unfold Lex.tokens;rw [size_list,if_neg (by omega)]
 rw [e]
 clear e
 obtain ⟨i0,ia,ib,ic,id⟩:=info_parts tok_info
 have hst:=hid (At.start s.data.toList)
 obtain ⟨B,hB⟩:∃ B,B=w.heap.size:=⟨_,rfl⟩
 go_enter Tryz.func26,Tryz.ntmps26
 go_wp2
 go_step3
 go_wp2
 go_step3
 go_wp2
 go_loopw [2,5] (fun v i wr=>∃ (k:Nat) (acc:List Lex.Tok),k≤s.size∧acc.length≤k∧i=.int .i64 k∧wr.ownsRow w.heap.size 69 4 v acc.length (toksCells acc)∧Below w.heap.size w wr∧Hid (At s.data.toList k acc)) (fun _ i _=>s.size - (intOf i).toNat)
 case atStart=>exact ⟨0,[],Nat.zero_le _,Nat.zero_le _,rfl,World.ownsRow_nil _ _ _ _,Below.refl _ _,hst⟩
 case round =>
  obtain ⟨k,acc,hk,hacc,rfl,hown,hbel,hat⟩:=hrel
  by_cases hlt:k < s.size
  ·rcases byte_ways s[k] with ⟨hb,e1⟩ | ⟨hb,e1,e2⟩ | ⟨hb,e1,e2,e3⟩ | ⟨hb,h35,e1,e2,e3,e4⟩ | ⟨hb,h35,e1,e2,e3,e4⟩
   ·have hat':=hid (hat.out.blank hlt hb)
    clear hb
    go_wp2
    go_roundw
    case rel=>exact ⟨k+1,acc,by omega,by omega,by go_num,hown,hbel,hat'⟩
    case measure=>simp [intOf];omega
   ·have hat':=hid (hat.out.blank hlt hb)
    clear hb
    go_wp2
    go_roundw
    case rel=>exact ⟨k+1,acc,by omega,by omega,by go_num,hown,hbel,hat'⟩
    case measure=>simp [intOf];omega
   ·have hat':=hid (hat.out.blank hlt hb)
    clear hb
    go_wp2
    go_roundw
    case rel=>exact ⟨k+1,acc,by omega,by omega,by go_num,hown,hbel,hat'⟩
    case measure=>simp [intOf];omega
   ·have hat':=hid (hat.out.note hlt h35)
    have hr:=run_le Lex.notFeed s k (by omega)
    have hr1:1≤run Lex.notFeed s k:=by
     rw [run_yes hlt (by rw [h35];decide)];omega
    clear hb h35
    generalize hrk:run Lex.notFeed s k=q at *
    have HQ:=hid hrk
    clear hrk
    go_wp2_with (go_at_call 60;refine (while_feed s k _ (by omega) (by omega)).mono ?_;rintro e w' ⟨rfl,rfl⟩;rw [HQ.out])
    go_roundw
    case rel=>exact ⟨k+q,acc,by omega,by omega,by go_num,hown,hbel,hat'⟩
    case measure=>simp [intOf];omega
   ·by_cases h0:(Lex.tokL (s.data.toList.drop k)).err=0
    ·have hat':=hid (hat.out.tok hlt h0)
     have hlen:1≤(Lex.tokL (s.data.toList.drop k)).len∧k+(Lex.tokL (s.data.toList.drop k)).len≤s.size:=by
      have hd:=drop_at s k hlt
      have h0':(Lex.tokL (s[k]::s.data.toList.drop (k+1))).err=0:=by rw [← hd];exact h0
      have:=Lex.tok_len h0'
      rw [← hd,List.length_drop,size_list] at this
      omega
     have htok:∀ W:World,Calls Tryz.prog 62 #[.string s,.int .i64 (k:Int)] W fun e w'=>e=.returned (.tuple #[okTok (Lex.tokL (s.data.toList.drop k)) k,.int .i64 ((k+(Lex.tokL (s.data.toList.drop k)).len:Nat):Int),.int .i64 0])∧Below W.heap.size W w':=fun W=>token_ok s k W hlt (by omega) h0
     have HT:=hid htok
     clear htok hb h35 h0
     generalize Lex.tokL (s.data.toList.drop k)=t at *
     obtain ⟨tk,tt,tn,tl,te⟩:=t
     simp only [okTok] at HT hlen hat'
     go_wp2_with (first
      | (go_at_call 62;refine (HT.out _).mono ?_;rintro e w1 ⟨rfl,hb1⟩;have hown1:=own_below hown hb1;have hbel1:=hbel.trans (hb1.mono hbel.size);have hz1:=hb1.size;have hz0:=hbel.size)
      | (at_builtin;go_must (refine wpList_append_own _ rfl _ _ 65 rfl w.heap.size 69 i0 _ 4 40 Tryz.underlying65 ia ib ic id rfl (by omega) _ _ _ rfl ((hown1.alloc _).alloc _) ⟨w1.heap.size+1,0,none⟩ 1 1 [.int .i64 tk,.string ⟨tt.toArray⟩,.int .i64 tn,.int .i64 (k:Int)] rfl rfl ?c1 ?c2 ?c3 ?c4 ?c5 ?_)))
     case c1=>intro j u hj;have:=cells_new4 (w1.alloc (.cells #[.int .i64 tk,.string ⟨tt.toArray⟩,.int .i64 tn,.int .i64 (k:Int)] 69)) _ _ _ _ 69 j u hj;simpa using this
     case c2=>intro u hu;simp at hu;rcases hu with rfl | rfl | rfl | rfl<;>rfl
     case c3=>unfold maxLen;omega
     case c4=>omega
     case c5=>simp;omega
     ·intro v' w2 hown2 hg2 _
      have hb2:Below w.heap.size w w2:=below_append ((hbel1.alloc (by omega) _).alloc (by simp;omega) _) (by simp;omega) ((hown1.alloc _).alloc _) hg2 (Nat.le_refl _)
      have hown3:w2.ownsRow w.heap.size 69 4 v' (acc++[(⟨tk,tt,tn,k⟩:Lex.Tok)]).length (toksCells (acc++[(⟨tk,tt,tn,k⟩:Lex.Tok)])):=by
       rw [toksCells_snoc,List.length_append];exact hown2
      clear hown2 hg2 hown hown1 hbel hbel1 hb1
      go_wp2
      go_roundw
      case rel=>exact ⟨k+tl,acc++[⟨tk,tt,tn,k⟩],by omega,by rw [List.length_append];simp;omega,by go_num,hown3,hb2,hat'⟩
      case measure=>simp [intOf];omega
    ·have hbad:=hid (hat.out.bad hlt hb h35 h0)
     have htok:∀ W:World,Calls Tryz.prog 62 #[.string s,.int .i64 (k:Int)] W fun e w'=>e=.returned (.tuple #[zeroTok,.int .i64 0,.int .i64 (Lex.tokL (s.data.toList.drop k)).err])∧Below W.heap.size W w':=fun W=>token_bad s k W hlt (by omega) h0
     have HT:=hid htok
     have hne:((Lex.tokL (s.data.toList.drop k)).err != 0)=true:=by simpa using h0
     clear htok hb h35 h0
     generalize (Lex.tokL (s.data.toList.drop k)).err=er at *
     simp only [zeroTok] at HT
     go_wp2_with (go_at_call 62;refine (HT.out _).mono ?_;rintro e w1 ⟨rfl,hb1⟩;have hbel1:=hbel.trans (hb1.mono hbel.size);have hz1:=hb1.size;have hz0:=hbel.size)
     go_ret3
     rw [hbad.out]
     exact ⟨_,rfl,World.ownsRow_nil _ _ _ _,hbel1.alloc (by omega) _⟩
  ·have hd:=hid (hat.out.done (by omega))
   go_wp2
   go_ret3
   rw [hd.out]
   exact ⟨_,rfl,hown,hbel⟩
end Go.Proofs.YtnkkcknogkgdkaaGreatDoor.LexW

namespace Go.Proofs.YtnkkcknogkgdkaaGreatDoor.LexW
open Lib (hid)
open Go Go.RowKit

theorem tokens_any (s:ByteArray) (w:World):Calls Tryz.prog 26 #[.string s] w (TokensPost 69 w (Lex.tokens s.data.toList)):=by
 by_cases h:20000 < s.size
 ·exact tokens_long s w h
 ·exact tokens_short s w (by omega)

theorem run_hit {p:UInt8→Bool} {s:ByteArray} : ∀ {q k:Nat},q < run p s k→∃ h:k+q < s.size,p (s[k+q]'h)=true
 | 0,k,hq=>by
  by_cases h:k < s.size
  ·cases hp:p s[k]
   ·rw [run_no h hp] at hq;omega
   ·exact ⟨h,hp⟩
  ·rw [run_end (by omega)] at hq;omega
 | q+1,k,hq=>by
  by_cases h:k < s.size
  ·cases hp:p s[k]
   ·rw [run_no h hp] at hq;omega
   ·rw [run_yes h hp] at hq
    obtain ⟨h1,h2⟩:=run_hit (p:=p) (s:=s) (q:=q) (k:=k+1) (by omega)
    have e:k+1+q=k+(q+1):=by omega
    simp only [e] at h1 h2
    exact ⟨h1,h2⟩
  ·rw [run_end (by omega)] at hq;omega
theorem run_stop {p:UInt8→Bool} {s:ByteArray} {k:Nat} : ∀ {q:Nat},q=run p s k→∀ h:k+q < s.size,p (s[k+q]'h)=false:=by
 intro q
 induction q generalizing k with
 | zero =>
  intro hq h
  cases hp:p s[k]
  ·rfl
  ·have:=run_yes (k:=k) h hp;omega
 | succ q ih =>
  intro hq h
  have hk:k < s.size:=by omega
  cases hp:p s[k]
  ·rw [run_no hk hp] at hq;omega
  ·rw [run_yes hk hp] at hq
   have e:k+1+q=k+(q+1):=by omega
   have:=ih (k:=k+1) (by omega) (by omega)
   simp only [e] at this
   exact this

theorem rnamed_any (s:ByteArray) (i:Nat) (w:World) (hi:i≤s.size) (hs:s.size≤1000000) :
  Calls Tryz.prog 117 #[.string s,.int .i64 (i:Int)] w (Returns w (.int .i64 ((run Lex.inner s i:Nat):Int))):=by
 have hr:=run_le Lex.inner s i hi
 have hin:=fun q=>run_hit (p:=Lex.inner) (s:=s) (q:=q) (k:=i)
 have hst:=run_stop (p:=Lex.inner) (s:=s) (k:=i) (q:=run Lex.inner s i) rfl
 generalize hR:run Lex.inner s i=R at *
 have HIN:=hid hin
 have HST:=hid hst
 clear hin hst hR
 go_enter Tryz.func117,Tryz.ntmps117
 go_wp2
 go_loop [5] (fun t=>∃ q:Nat,q≤R∧t=.int .i64 q) (fun t=>R - (intOf t).toNat)
 case atStart=>exact ⟨0,Nat.zero_le _,rfl⟩
 case round =>
  obtain ⟨q,hq,rfl⟩:=hrel
  by_cases hlt:q < R
  ·obtain ⟨hsz,hp⟩:=HIN.out q hlt
   cases h1:Lex.letter (s[i+q]'hsz)
   ·cases h2:Lex.digit (s[i+q]'hsz)
    ·have h3:(((s[i+q]'hsz).toNat:Int) == 95)=true:=by
      unfold Lex.inner at hp;rw [h1,h2] at hp
      simp at hp
      simp;omega
     have H1:=hid h1
     have H2:=hid h2
     clear h1 h2 hp
     go_wp2_with (first | (go_at_call 116;refine (rletter_no _ H1.out _).mono ?_;rintro e w' ⟨rfl,rfl⟩) | (go_at_call 124;refine (rdigit_no _ H2.out _).mono ?_;rintro e w' ⟨rfl,rfl⟩))
     go_round
     case rel=>exact ⟨q+1,by omega,by go_num⟩
     case measure=>simp [intOf];omega
    ·have H1:=hid h1
     have H2:=hid h2
     clear h1 h2 hp
     go_wp2_with (first | (go_at_call 116;refine (rletter_no _ H1.out _).mono ?_;rintro e w' ⟨rfl,rfl⟩) | (go_at_call 124;refine (rdigit_yes _ H2.out _).mono ?_;rintro e w' ⟨rfl,rfl⟩))
     go_round
     case rel=>exact ⟨q+1,by omega,by go_num⟩
     case measure=>simp [intOf];omega
   ·have H1:=hid h1
    clear h1 hp
    go_wp2_with (go_at_call 116;refine (rletter_yes _ H1.out _).mono ?_;rintro e w' ⟨rfl,rfl⟩)
    go_round
    case rel=>exact ⟨q+1,by omega,by go_num⟩
    case measure=>simp [intOf];omega
  ·obtain rfl:q=R:=by omega
   by_cases hsz:i+q < s.size
   ·have hp:=HST.out hsz
    have h1:Lex.letter (s[i+q]'hsz)=false:=by
     cases h:Lex.letter (s[i+q]'hsz)
     ·rfl
     ·rw [Lex.inner_of_letter h] at hp;cases hp
    have h2:Lex.digit (s[i+q]'hsz)=false:=by
     cases h:Lex.digit (s[i+q]'hsz)
     ·rfl
     ·rw [Lex.inner_of_digit h] at hp;cases hp
    have h3:(((s[i+q]'hsz).toNat:Int) == 95)=false:=by
     unfold Lex.inner at hp;rw [h1,h2] at hp
     rw [beq_eq_false_iff_ne]
     simp at hp;omega
    have H1:=hid h1
    have H2:=hid h2
    clear h1 h2 hp
    go_wp2_with (first | (go_at_call 116;refine (rletter_no _ H1.out _).mono ?_;rintro e w' ⟨rfl,rfl⟩) | (go_at_call 124;refine (rdigit_no _ H2.out _).mono ?_;rintro e w' ⟨rfl,rfl⟩))
    go_ret
    exact ⟨rfl,rfl⟩
   ·go_wp2
    go_ret
    exact ⟨rfl,rfl⟩

/-- The marks, place for place. -/
theorem rmark_any (c:UInt8) (w:World):Calls Tryz.prog 126 #[.int .u8 (c.toNat:Int)] w (Returns w (.bool (Lex.mark c))):=by
 have key:Lex.mark c=(((123:Int) == (c.toNat:Int)) || ((125:Int) == (c.toNat:Int)) || ((40:Int) == (c.toNat:Int)) || ((41:Int) == (c.toNat:Int)) || ((44:Int) == (c.toNat:Int)) || ((59:Int) == (c.toNat:Int)) || ((58:Int) == (c.toNat:Int)) || ((61:Int) == (c.toNat:Int))):=by
  rw [Bool.eq_iff_iff]
  simp only [Lex.mark,List.contains_iff_mem,List.mem_cons,List.not_mem_nil,or_false,Bool.or_eq_true,beq_iff_eq]
  have e:∀ k:Nat,k < 256→(c=UInt8.ofNat k ↔ (k:Int)=(c.toNat:Int)):=fun k hk=>⟨fun h=>by rw [h,UInt8.toNat_ofNat',Nat.mod_eq_of_lt hk],fun h=>Lex.byte_eq hk (by omega)⟩
  have a1:=e 123 (by decide)
  have a2:=e 125 (by decide)
  have a3:=e 40 (by decide)
  have a4:=e 41 (by decide)
  have a5:=e 44 (by decide)
  have a6:=e 59 (by decide)
  have a7:=e 58 (by decide)
  have a8:=e 61 (by decide)
  simp only [or_assoc]
  exact or_congr a1 (or_congr a2 (or_congr a3 (or_congr a4 (or_congr a5 (or_congr a6 (or_congr a7 a8))))))
 go_enter Tryz.func126,Tryz.ntmps126
 go_wp2
 refine wp_loop_rounds 9 ?_
 rw [rounds_succ]
 go_wp2
 ·have h:((((ByteArray.mk #[123,125,40,41,44,59,58,61])[0]'(by decide)).toNat:Int) == (c.toNat:Int))=true:=by assumption
  have h':((123:Int) == (c.toNat:Int))=true:=h
  go_ret
  refine ⟨ret_bool ?_,rfl⟩
  rw [key,h'];simp
 have m0:((((ByteArray.mk #[123,125,40,41,44,59,58,61])[0]'(by decide)).toNat:Int) == (c.toNat:Int))=false:=by assumption
 have n0:((123:Int) == (c.toNat:Int))=false:=m0
 have N0:=hid n0
 clear m0 n0
 rw [rounds_succ]
 go_wp2
 ·have h:((((ByteArray.mk #[123,125,40,41,44,59,58,61])[1]'(by decide)).toNat:Int) == (c.toNat:Int))=true:=by assumption
  have h':((125:Int) == (c.toNat:Int))=true:=h
  go_ret
  refine ⟨ret_bool ?_,rfl⟩
  rw [key,h'];simp
 have m1:((((ByteArray.mk #[123,125,40,41,44,59,58,61])[1]'(by decide)).toNat:Int) == (c.toNat:Int))=false:=by assumption
 have n1:((125:Int) == (c.toNat:Int))=false:=m1
 have N1:=hid n1
 clear m1 n1
 rw [rounds_succ]
 go_wp2
 ·have h:((((ByteArray.mk #[123,125,40,41,44,59,58,61])[2]'(by decide)).toNat:Int) == (c.toNat:Int))=true:=by assumption
  have h':((40:Int) == (c.toNat:Int))=true:=h
  go_ret
  refine ⟨ret_bool ?_,rfl⟩
  rw [key,h'];simp
 have m2:((((ByteArray.mk #[123,125,40,41,44,59,58,61])[2]'(by decide)).toNat:Int) == (c.toNat:Int))=false:=by assumption
 have n2:((40:Int) == (c.toNat:Int))=false:=m2
 have N2:=hid n2
 clear m2 n2
 rw [rounds_succ]
 go_wp2
 ·have h:((((ByteArray.mk #[123,125,40,41,44,59,58,61])[3]'(by decide)).toNat:Int) == (c.toNat:Int))=true:=by assumption
  have h':((41:Int) == (c.toNat:Int))=true:=h
  go_ret
  refine ⟨ret_bool ?_,rfl⟩
  rw [key,h'];simp
 have m3:((((ByteArray.mk #[123,125,40,41,44,59,58,61])[3]'(by decide)).toNat:Int) == (c.toNat:Int))=false:=by assumption
 have n3:((41:Int) == (c.toNat:Int))=false:=m3
 have N3:=hid n3
 clear m3 n3
 rw [rounds_succ]
 go_wp2
 ·have h:((((ByteArray.mk #[123,125,40,41,44,59,58,61])[4]'(by decide)).toNat:Int) == (c.toNat:Int))=true:=by assumption
  have h':((44:Int) == (c.toNat:Int))=true:=h
  go_ret
  refine ⟨ret_bool ?_,rfl⟩
  rw [key,h'];simp
 have m4:((((ByteArray.mk #[123,125,40,41,44,59,58,61])[4]'(by decide)).toNat:Int) == (c.toNat:Int))=false:=by assumption
 have n4:((44:Int) == (c.toNat:Int))=false:=m4
 have N4:=hid n4
 clear m4 n4
 rw [rounds_succ]
 go_wp2
 ·have h:((((ByteArray.mk #[123,125,40,41,44,59,58,61])[5]'(by decide)).toNat:Int) == (c.toNat:Int))=true:=by assumption
  have h':((59:Int) == (c.toNat:Int))=true:=h
  go_ret
  refine ⟨ret_bool ?_,rfl⟩
  rw [key,h'];simp
 have m5:((((ByteArray.mk #[123,125,40,41,44,59,58,61])[5]'(by decide)).toNat:Int) == (c.toNat:Int))=false:=by assumption
 have n5:((59:Int) == (c.toNat:Int))=false:=m5
 have N5:=hid n5
 clear m5 n5
 rw [rounds_succ]
 go_wp2
 ·have h:((((ByteArray.mk #[123,125,40,41,44,59,58,61])[6]'(by decide)).toNat:Int) == (c.toNat:Int))=true:=by assumption
  have h':((58:Int) == (c.toNat:Int))=true:=h
  go_ret
  refine ⟨ret_bool ?_,rfl⟩
  rw [key,h'];simp
 have m6:((((ByteArray.mk #[123,125,40,41,44,59,58,61])[6]'(by decide)).toNat:Int) == (c.toNat:Int))=false:=by assumption
 have n6:((58:Int) == (c.toNat:Int))=false:=m6
 have N6:=hid n6
 clear m6 n6
 rw [rounds_succ]
 go_wp2
 ·have h:((((ByteArray.mk #[123,125,40,41,44,59,58,61])[7]'(by decide)).toNat:Int) == (c.toNat:Int))=true:=by assumption
  have h':((61:Int) == (c.toNat:Int))=true:=h
  go_ret
  refine ⟨ret_bool ?_,rfl⟩
  rw [key,h'];simp
 have m7:((((ByteArray.mk #[123,125,40,41,44,59,58,61])[7]'(by decide)).toNat:Int) == (c.toNat:Int))=false:=by assumption
 have n7:((61:Int) == (c.toNat:Int))=false:=m7
 have N7:=hid n7
 clear m7 n7
 rw [rounds_succ]
 go_wp2
 go_ret
 refine ⟨ret_bool ?_,rfl⟩
 rw [key,N0.out,N1.out,N2.out,N3.out,N4.out,N5.out,N6.out,N7.out];rfl
end Go.Proofs.YtnkkcknogkgdkaaGreatDoor.LexW
