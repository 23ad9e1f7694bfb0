/- Walks: names, of the program and of the reference. Conditions: as stated. -/
import Derived.Test.YtnmmhcchpcbeeaaGreatProg
import Derived.Test.YtnmmhcchpcbeeaaGreatLexLaws
import Derived.Test.YtnmmhcchpcbeeaaGreatMem2
import Derived.Lib.Strings
import Derived.Lib.Bytealg
import Derived.Shelf.Abstract
import Derived.WalkKit
import Derived.WalkLawsBesides
import Derived.WalkSpells
import Derived.Lib.Hide
import Derived.BigQuiet
import Derived.Deep.QuietTactic

namespace Go.Proofs.YtnmmhcchpcbeeaaGreat.LexW
open Lib (hid)
open Go Go.RowKit Go.Proofs.YtnmmhcchpcbeeaaGreat.Mem

abbrev Returns (w:World) (v:Value):Ending→World→Prop:=fun e w'=>e=.returned v∧w=w'

theorem ret_bool {a b:Bool} (h:a=b):Ending.returned (.bool a)=.returned (.bool b):=by rw [h]
theorem ret_int {k:IntKind} {a b:Int} (h:a=b):Ending.returned (.int k a)=.returned (.int k b):=by rw [h]
theorem letter_any (c:UInt8) (w:World):Calls Tryz.prog 86 #[.int .u8 (c.toNat:Int)] w (Returns w (.bool (Lex.letter c))):=by
 rcases (show (97≤c.toNat∧c.toNat≤122)∨(122 < c.toNat)∨(c.toNat < 97∧65≤c.toNat∧c.toNat≤90)∨(90 < c.toNat∧c.toNat < 97)∨c.toNat < 65 by omega) with h | h | h | h | h
 all_goals
  go_enter Tryz.func86,Tryz.ntmps86
  go_wp2
  go_ret
  refine ⟨ret_bool ?_,rfl⟩
  rw [Bool.eq_iff_iff]
  simp [Lex.letter]
  omega
theorem digit_any (c:UInt8) (w:World):Calls Tryz.prog 144 #[.int .u8 (c.toNat:Int)] w (Returns w (.bool (Lex.digit c))):=by
 rcases (show (48≤c.toNat∧c.toNat≤57)∨(57 < c.toNat)∨c.toNat < 48 by omega) with h | h | h
 all_goals
  go_enter Tryz.func144,Tryz.ntmps144
  go_wp2
  go_ret
  refine ⟨ret_bool ?_,rfl⟩
  rw [Bool.eq_iff_iff]
  simp [Lex.digit]
  omega
theorem letter_yes (c:UInt8) (h:Lex.letter c=true) (w:World):Calls Tryz.prog 86 #[.int .u8 (c.toNat:Int)] w (Returns w (.bool true)):=by
 have:=letter_any c w;rwa [h] at this
theorem letter_no (c:UInt8) (h:Lex.letter c=false) (w:World):Calls Tryz.prog 86 #[.int .u8 (c.toNat:Int)] w (Returns w (.bool false)):=by
 have:=letter_any c w;rwa [h] at this
theorem digit_yes (c:UInt8) (h:Lex.digit c=true) (w:World):Calls Tryz.prog 144 #[.int .u8 (c.toNat:Int)] w (Returns w (.bool true)):=by
 have:=digit_any c w;rwa [h] at this
theorem digit_no (c:UInt8) (h:Lex.digit c=false) (w:World):Calls Tryz.prog 144 #[.int .u8 (c.toNat:Int)] w (Returns w (.bool false)):=by
 have:=digit_any c w;rwa [h] at this
theorem inner_any (c:UInt8) (w:World):Calls Tryz.prog 88 #[.int .u8 (c.toNat:Int)] w (Returns w (.bool (Lex.inner c))):=by
 cases h1:Lex.letter c
 ·cases h2:Lex.digit c
  ·have H1:=hid h1
   have H2:=hid h2
   have hI:Lex.inner c=((c.toNat:Int) == 95):=by
    rw [Bool.eq_iff_iff];simp [Lex.inner,h1,h2];omega
   rw [hI]
   clear h1 h2 hI
   cases h3:((c.toNat:Int) == 95)
   all_goals
    go_enter Tryz.func88,Tryz.ntmps88
    go_wp2_with (first | (go_at_call 86;refine (letter_no _ H1.out _).mono ?_;rintro e w' ⟨rfl,rfl⟩) | (go_at_call 144;refine (digit_no _ H2.out _).mono ?_;rintro e w' ⟨rfl,rfl⟩))
    go_ret
    exact ⟨rfl,rfl⟩
  ·have H1:=hid h1
   have H2:=hid h2
   have hI:Lex.inner c=true:=by simp [Lex.inner,h2]
   rw [hI]
   clear h1 h2 hI
   go_enter Tryz.func88,Tryz.ntmps88
   go_wp2_with (first | (go_at_call 86;refine (letter_no _ H1.out _).mono ?_;rintro e w' ⟨rfl,rfl⟩) | (go_at_call 144;refine (digit_yes _ H2.out _).mono ?_;rintro e w' ⟨rfl,rfl⟩))
   go_ret
   exact ⟨rfl,rfl⟩
 ·have H1:=hid h1
  have hI:Lex.inner c=true:=by simp [Lex.inner,h1]
  rw [hI]
  clear h1 hI
  go_enter Tryz.func88,Tryz.ntmps88
  go_wp2_with (go_at_call 86;refine (letter_yes _ H1.out _).mono ?_;rintro e w' ⟨rfl,rfl⟩)
  go_ret
  exact ⟨rfl,rfl⟩
/-! ### The reference -/
theorem rletter_any (c:UInt8) (w:World):Calls Tryz.prog 90 #[.int .u8 (c.toNat:Int)] w (Returns w (.bool (Lex.letter c))):=by
 rcases (show (97≤c.toNat∧c.toNat≤122)∨(122 < c.toNat)∨(c.toNat < 97∧65≤c.toNat∧c.toNat≤90)∨(90 < c.toNat∧c.toNat < 97)∨c.toNat < 65 by omega) with h | h | h | h | h
 all_goals
  go_enter Tryz.func90,Tryz.ntmps90
  go_wp2
  go_ret
  refine ⟨ret_bool ?_,rfl⟩
  rw [Bool.eq_iff_iff]
  simp [Lex.letter]
  omega
theorem rdigit_any (c:UInt8) (w:World):Calls Tryz.prog 145 #[.int .u8 (c.toNat:Int)] w (Returns w (.bool (Lex.digit c))):=by
 rcases (show (48≤c.toNat∧c.toNat≤57)∨(57 < c.toNat)∨c.toNat < 48 by omega) with h | h | h
 all_goals
  go_enter Tryz.func145,Tryz.ntmps145
  go_wp2
  go_ret
  refine ⟨ret_bool ?_,rfl⟩
  rw [Bool.eq_iff_iff]
  simp [Lex.digit]
  omega
theorem rletter_yes (c:UInt8) (h:Lex.letter c=true) (w:World):Calls Tryz.prog 90 #[.int .u8 (c.toNat:Int)] w (Returns w (.bool true)):=by
 have:=rletter_any c w;rwa [h] at this
theorem rletter_no (c:UInt8) (h:Lex.letter c=false) (w:World):Calls Tryz.prog 90 #[.int .u8 (c.toNat:Int)] w (Returns w (.bool false)):=by
 have:=rletter_any c w;rwa [h] at this
theorem rdigit_yes (c:UInt8) (h:Lex.digit c=true) (w:World):Calls Tryz.prog 145 #[.int .u8 (c.toNat:Int)] w (Returns w (.bool true)):=by
 have:=rdigit_any c w;rwa [h] at this
theorem rdigit_no (c:UInt8) (h:Lex.digit c=false) (w:World):Calls Tryz.prog 145 #[.int .u8 (c.toNat:Int)] w (Returns w (.bool false)):=by
 have:=rdigit_any c w;rwa [h] at this

/-- How many bytes of a kind stand from an offset on. -/
def run (p:UInt8→Bool) (s:ByteArray) (k:Nat):Nat:=((s.data.toList.drop k).takeWhile p).length
theorem size_list (s:ByteArray):s.data.toList.length=s.size:=Array.length_toList
theorem drop_at (s:ByteArray) (k:Nat) (h:k < s.size):s.data.toList.drop k=s[k]::s.data.toList.drop (k+1):=by
 rw [List.drop_eq_getElem_cons (by rw [size_list];exact h)]
 rfl
theorem run_yes {p:UInt8→Bool} {s:ByteArray} {k:Nat} (h:k < s.size) (hp:p s[k]=true):run p s k=run p s (k+1)+1:=by
 unfold run
 rw [drop_at s k h,List.takeWhile_cons,if_pos hp,List.length_cons]
theorem run_no {p:UInt8→Bool} {s:ByteArray} {k:Nat} (h:k < s.size) (hp:p s[k]=false):run p s k=0:=by
 unfold run
 rw [drop_at s k h,List.takeWhile_cons,if_neg (by simp [hp]),List.length_nil]
theorem run_end {p:UInt8→Bool} {s:ByteArray} {k:Nat} (h:s.size≤k):run p s k=0:=by
 unfold run
 rw [List.drop_of_length_le (by rw [size_list];exact h)];rfl
theorem run_le (p:UInt8→Bool) (s:ByteArray) (k:Nat) (h:k≤s.size):k+run p s k≤s.size:=by
 have h1:=(List.takeWhile_prefix p (l:=s.data.toList.drop k)).length_le
 rw [List.length_drop,size_list] at h1
 unfold run;omega

theorem while_any (g:FuncId) (p:UInt8→Bool) (eg:Enters Tryz.prog g) (hg:Hid (∀ (c:UInt8) (w:World),Calls Tryz.prog g #[.int .u8 (c.toNat:Int)] w (Returns w (.bool (p c)))))
  (s:ByteArray) (i:Nat) (w:World) (hi:i≤s.size) (hs:s.size≤1000000) :
  Calls Tryz.prog 87 #[.string s,.int .i64 (i:Int),.func (.func g) #[] #[]] w (Returns w (.int .i64 ((i+run p s i:Nat):Int))):=by
 unfold Enters at eg
 go_enter Tryz.func87,Tryz.ntmps87
 go_wp2
 go_loop [1] (fun t=>∃ k:Nat,k≤s.size∧t=.int .i64 k∧i+run p s i=k+run p s k) (fun t=>s.size - (intOf t).toNat)
 case atStart=>exact ⟨i,hi,rfl,rfl⟩
 case round =>
  obtain ⟨k,hk,rfl,he⟩:=hrel
  have HE:=hid he
  clear he
  by_cases hlt:k < s.size
  ·cases hp:p s[k]
   ·have hc:∀ w,Calls Tryz.prog g #[.int .u8 (s[k].toNat:Int)] w (Returns w (.bool false)):=fun w=>by have:=hg.out s[k] w;rwa [hp] at this
    have HC:=hid hc
    have hz:=hid (run_no hlt hp)
    clear hc hp
    go_wp2_with ((with_reducible refine (HC.out _).mono ?_);rintro e w' ⟨rfl,rfl⟩)
    go_ret
    refine ⟨ret_int ?_,rfl⟩
    have e1:=HE.out
    have e2:=hz.out
    omega
   ·have hc:∀ w,Calls Tryz.prog g #[.int .u8 (s[k].toNat:Int)] w (Returns w (.bool true)):=fun w=>by have:=hg.out s[k] w;rwa [hp] at this
    have HC:=hid hc
    have hz:=hid (run_yes hlt hp)
    clear hc hp
    go_wp2_with ((with_reducible refine (HC.out _).mono ?_);rintro e w' ⟨rfl,rfl⟩)
    go_round
    case rel=>exact ⟨k+1,by omega,by go_num,by rw [HE.out,hz.out];omega⟩
    case measure=>simp [intOf];omega
  ·have hz:=hid (run_end (p:=p) (s:=s) (k:=k) (by omega))
   go_wp2
   go_ret
   refine ⟨ret_int ?_,rfl⟩
   have e1:=HE.out
   have e2:=hz.out
   omega
theorem while_inner (s:ByteArray) (i:Nat) (w:World) (hi:i≤s.size) (hs:s.size≤1000000) :
  Calls Tryz.prog 87 #[.string s,.int .i64 (i:Int),.func (.func 88) #[] #[]] w (Returns w (.int .i64 ((i+run Lex.inner s i:Nat):Int))) :=
 while_any _ _ (enters_of Tryz.func88 (by kernel_rfl) rfl) inner_any s i w hi hs
theorem get_list (b:ByteArray) (h:0 < b.size):b.data.toList=b[0]::b.data.toList.drop 1:=by
 have:=drop_at b 0 h
 simpa using this

/-- Where a round of the lexer stands: what is read so far, and what is still to come, give the whole. -/
def At (S:List UInt8) (k:Nat) (acc:List Lex.Tok):Prop:=Lex.LR.fin acc (Lex.lex (S.drop k) k)=Lex.lex S 0
theorem At.start (S:List UInt8):At S 0 []:=by
 unfold At
 rw [List.drop_zero,Lex.LR.fin_nil (Lex.lex_ok _ _)]
theorem At.blank {s:ByteArray} {k:Nat} {acc:List Lex.Tok} (h:At s.data.toList k acc) (hk:k < s.size) (hb:Lex.blank s[k]=true):At s.data.toList (k+1) acc:=by
 unfold At at *
 rw [drop_at s k hk,Lex.lex_blank _ _ hb] at h
 exact h
theorem At.tok {s:ByteArray} {k:Nat} {acc:List Lex.Tok} (h:At s.data.toList k acc) (hk:k < s.size) (h0:(Lex.tokL (s.data.toList.drop k)).err=0) :
  At s.data.toList (k+(Lex.tokL (s.data.toList.drop k)).len) (acc++[⟨(Lex.tokL (s.data.toList.drop k)).kind,(Lex.tokL (s.data.toList.drop k)).text,(Lex.tokL (s.data.toList.drop k)).n,k⟩]):=by
 unfold At at *
 have hd:=drop_at s k hk
 have h1:(Lex.tokL (s[k]::s.data.toList.drop (k+1))).err=0:=by rw [← hd];exact h0
 have hh:=Lex.tok_head h1
 have e:=Lex.lex_tok _ k hh.1 hh.2 h1
 rw [← hd,List.drop_drop] at e
 rw [e,Lex.LR.fin_cons] at h
 exact h
theorem At.bad {s:ByteArray} {k:Nat} {acc:List Lex.Tok} (h:At s.data.toList k acc) (hk:k < s.size) (hb:Lex.blank s[k]=false) (hc:s[k]≠35) (h0:(Lex.tokL (s.data.toList.drop k)).err≠0) :
  Lex.lex s.data.toList 0=⟨[],k,(Lex.tokL (s.data.toList.drop k)).err⟩:=by
 unfold At at *
 have hd:=drop_at s k hk
 have e:=Lex.lex_bad (c:=s[k]) (s.data.toList.drop (k+1)) k hb hc (by rw [← hd];exact h0)
 rw [← hd] at e
 rw [e] at h
 rw [← h]
 unfold Lex.LR.fin
 rw [if_neg h0]
theorem At.done {s:ByteArray} {k:Nat} {acc:List Lex.Tok} (h:At s.data.toList k acc) (hk:s.size≤k):Lex.lex s.data.toList 0=⟨acc,0,0⟩:=by
 unfold At at h
 rw [List.drop_of_length_le (by rw [size_list];exact hk),Lex.lex_nil] at h
 rw [← h]
 simp [Lex.LR.fin]

theorem run_hit {p:UInt8→Bool} {s:ByteArray} : ∀ {q k:Nat},q < run p s k→∃ h:k+q < s.size,p (s[k+q]'h)=true
 | 0,k,hq=>by
  by_cases h:k < s.size
  ·cases hp:p s[k]
   ·rw [run_no h hp] at hq;omega
   ·exact ⟨h,hp⟩
  ·rw [run_end (by omega)] at hq;omega
 | q+1,k,hq=>by
  by_cases h:k < s.size
  ·cases hp:p s[k]
   ·rw [run_no h hp] at hq;omega
   ·rw [run_yes h hp] at hq
    obtain ⟨h1,h2⟩:=run_hit (p:=p) (s:=s) (q:=q) (k:=k+1) (by omega)
    have e:k+1+q=k+(q+1):=by omega
    simp only [e] at h1 h2
    exact ⟨h1,h2⟩
  ·rw [run_end (by omega)] at hq;omega
theorem run_stop {p:UInt8→Bool} {s:ByteArray} {k:Nat} : ∀ {q:Nat},q=run p s k→∀ h:k+q < s.size,p (s[k+q]'h)=false:=by
 intro q
 induction q generalizing k with
 | zero =>
  intro hq h
  cases hp:p s[k]
  ·rfl
  ·have:=run_yes (k:=k) h hp;omega
 | succ q ih =>
  intro hq h
  have hk:k < s.size:=by omega
  cases hp:p s[k]
  ·rw [run_no hk hp] at hq;omega
  ·rw [run_yes hk hp] at hq
   have e:k+1+q=k+(q+1):=by omega
   have:=ih (k:=k+1) (by omega) (by omega)
   simp only [e] at this
   exact this

theorem rnamed_any (s:ByteArray) (i:Nat) (w:World) (hi:i≤s.size) (hs:s.size≤1000000) :
  Calls Tryz.prog 91 #[.string s,.int .i64 (i:Int)] w (Returns w (.int .i64 ((run Lex.inner s i:Nat):Int))):=by
 have hr:=run_le Lex.inner s i hi
 have hin:=fun q=>run_hit (p:=Lex.inner) (s:=s) (q:=q) (k:=i)
 have hst:=run_stop (p:=Lex.inner) (s:=s) (k:=i) (q:=run Lex.inner s i) rfl
 generalize hR:run Lex.inner s i=R at *
 have HIN:=hid hin
 have HST:=hid hst
 clear hin hst hR
 go_enter Tryz.func91,Tryz.ntmps91
 go_wp2
 go_loop [5] (fun t=>∃ q:Nat,q≤R∧t=.int .i64 q) (fun t=>R - (intOf t).toNat)
 case atStart=>exact ⟨0,Nat.zero_le _,rfl⟩
 case round =>
  obtain ⟨q,hq,rfl⟩:=hrel
  by_cases hlt:q < R
  ·obtain ⟨hsz,hp⟩:=HIN.out q hlt
   cases h1:Lex.letter (s[i+q]'hsz)
   ·cases h2:Lex.digit (s[i+q]'hsz)
    ·have h3:(((s[i+q]'hsz).toNat:Int) == 95)=true:=by
      unfold Lex.inner at hp;rw [h1,h2] at hp
      simp at hp
      simp;omega
     have H1:=hid h1
     have H2:=hid h2
     clear h1 h2 hp
     go_wp2_with (first | (go_at_call 90;refine (rletter_no _ H1.out _).mono ?_;rintro e w' ⟨rfl,rfl⟩) | (go_at_call 145;refine (rdigit_no _ H2.out _).mono ?_;rintro e w' ⟨rfl,rfl⟩))
     go_round
     case rel=>exact ⟨q+1,by omega,by go_num⟩
     case measure=>simp [intOf];omega
    ·have H1:=hid h1
     have H2:=hid h2
     clear h1 h2 hp
     go_wp2_with (first | (go_at_call 90;refine (rletter_no _ H1.out _).mono ?_;rintro e w' ⟨rfl,rfl⟩) | (go_at_call 145;refine (rdigit_yes _ H2.out _).mono ?_;rintro e w' ⟨rfl,rfl⟩))
     go_round
     case rel=>exact ⟨q+1,by omega,by go_num⟩
     case measure=>simp [intOf];omega
   ·have H1:=hid h1
    clear h1 hp
    go_wp2_with (go_at_call 90;refine (rletter_yes _ H1.out _).mono ?_;rintro e w' ⟨rfl,rfl⟩)
    go_round
    case rel=>exact ⟨q+1,by omega,by go_num⟩
    case measure=>simp [intOf];omega
  ·obtain rfl:q=R:=by omega
   by_cases hsz:i+q < s.size
   ·have hp:=HST.out hsz
    have h1:Lex.letter (s[i+q]'hsz)=false:=by
     cases h:Lex.letter (s[i+q]'hsz)
     ·rfl
     ·rw [Lex.inner_of_letter h] at hp;cases hp
    have h2:Lex.digit (s[i+q]'hsz)=false:=by
     cases h:Lex.digit (s[i+q]'hsz)
     ·rfl
     ·rw [Lex.inner_of_digit h] at hp;cases hp
    have h3:(((s[i+q]'hsz).toNat:Int) == 95)=false:=by
     unfold Lex.inner at hp;rw [h1,h2] at hp
     rw [beq_eq_false_iff_ne]
     simp at hp;omega
    have H1:=hid h1
    have H2:=hid h2
    clear h1 h2 hp
    go_wp2_with (first | (go_at_call 90;refine (rletter_no _ H1.out _).mono ?_;rintro e w' ⟨rfl,rfl⟩) | (go_at_call 145;refine (rdigit_no _ H2.out _).mono ?_;rintro e w' ⟨rfl,rfl⟩))
    go_ret
    exact ⟨rfl,rfl⟩
   ·go_wp2
    go_ret
    exact ⟨rfl,rfl⟩

theorem isName_eq (s:ByteArray) (h0:0 < s.size):Lex.isName s.data.toList=(decide (s.size≤16)&&Lex.letter s[0]&&decide (run Lex.inner s 0=s.size)):=by
 have hl:=get_list s h0
 have ha:s.data.toList.all Lex.inner=decide (run Lex.inner s 0=s.size):=by
  rw [Bool.eq_iff_iff,decide_eq_true_eq]
  unfold run
  rw [List.drop_zero,← size_list]
  constructor
  ·intro h
   have:=Lex.takeWhile_stop (p:=Lex.inner) (fun _ h=>h) (w:=s.data.toList) (rest:=[]) h rfl
   rw [List.append_nil] at this
   rw [this]
  ·intro h
   have h1:=Lex.takeWhile_len Lex.inner s.data.toList
   rw [h,List.take_length] at h1
   have h2:=Lex.takeWhile_all Lex.inner s.data.toList
   rw [← h1] at h2
   exact h2
 unfold Lex.isName
 rw [ha,size_list]
 have h1:s.data.toList.headD 0=s[0]:=by rw [hl];rfl
 rw [h1]
 have:decide (1≤s.size)=true:=decide_eq_true (by omega)
 rw [this,Bool.true_and]

theorem toList_empty (s:ByteArray):s.toList.isEmpty=decide (s.size=0):=by
 rw [Go.ByteArray.toList_eq,Bool.eq_iff_iff,decide_eq_true_eq,List.isEmpty_iff,← size_list]
 exact ⟨fun h=>by rw [h];rfl,fun h=>List.eq_nil_of_length_eq_zero h⟩

set_option maxRecDepth 100000 in
theorem isName_any (s:ByteArray) (w:World) (hs:s.size≤1000000):Calls Tryz.prog 35 #[.string s] w (Returns w (.bool (Lex.isName s.data.toList))):=by
 have he:=toList_empty s
 by_cases h0:s.size=0
 ·have hF:Lex.isName s.data.toList=false:=by unfold Lex.isName;rw [size_list,h0];rfl
  rw [hF]
  have h1:s.toList.isEmpty=true:=by rw [he];simpa using h0
  clear he h0 hF
  go_enter Tryz.func35,Tryz.ntmps35
  go_wp2
  go_ret
  exact ⟨rfl,rfl⟩
 ·have h1:s.toList.isEmpty=false:=by rw [he];simpa using h0
  have hp:0 < s.size:=by omega
  have hI:=isName_eq s hp
  by_cases h16:s.size≤16
  ·cases hl:Lex.letter s[0]
   ·have hF:Lex.isName s.data.toList=false:=by rw [hI,hl];simp
    rw [hF]
    have HL:=hid hl
    clear he h0 hF hI hl
    go_enter Tryz.func35,Tryz.ntmps35
    go_wp2_with (go_at_call 86;refine (letter_no _ HL.out _).mono ?_;rintro e w' ⟨rfl,rfl⟩)
    go_ret
    exact ⟨rfl,rfl⟩
   ·have hF:Lex.isName s.data.toList=((run Lex.inner s 0:Int) == (s.size:Int)):=by
     rw [hI,hl,Bool.eq_iff_iff];simp [h16];omega
    rw [hF]
    have HL:=hid hl
    have hW:=fun w=>while_inner s 0 w (Nat.zero_le _) hs
    rw [Nat.zero_add] at hW
    have HW:=hid hW
    clear he h0 hF hI hl hW
    generalize run Lex.inner s 0=r at *
    cases hr:((r:Int) == (s.size:Int))
    all_goals
     go_enter Tryz.func35,Tryz.ntmps35
     go_wp2_with (first | (go_at_call 86;refine (letter_yes _ HL.out _).mono ?_;rintro e w' ⟨rfl,rfl⟩) | (go_at_call 87;refine (HW.out _).mono ?_;rintro e w' ⟨rfl,rfl⟩))
     go_ret
     exact ⟨rfl,rfl⟩
  ·have hF:Lex.isName s.data.toList=false:=by rw [hI];simp [h16]
   rw [hF]
   clear he h0 hF hI
   go_enter Tryz.func35,Tryz.ntmps35
   go_wp2
   go_ret
   exact ⟨rfl,rfl⟩

set_option maxRecDepth 100000 in
theorem risName_any (s:ByteArray) (w:World) (hs:s.size≤1000000):Calls Tryz.prog 38 #[.string s] w (Returns w (.bool (Lex.isName s.data.toList))):=by
 by_cases h0:s.size=0
 ·have hF:Lex.isName s.data.toList=false:=by unfold Lex.isName;rw [size_list,h0];rfl
  rw [hF]
  have h1:s.size≤0:=by omega
  clear h0 hF
  go_enter Tryz.func38,Tryz.ntmps38
  go_wp2
  go_ret
  exact ⟨rfl,rfl⟩
 ·have hp:0 < s.size:=by omega
  have hp1:1≤s.size:=by omega
  have hI:=isName_eq s hp
  by_cases h16:s.size≤16
  ·cases hl:Lex.letter s[0]
   ·have hF:Lex.isName s.data.toList=false:=by rw [hI,hl];simp
    rw [hF]
    have HL:=hid hl
    clear h0 hF hI hl
    go_enter Tryz.func38,Tryz.ntmps38
    go_wp2_with (go_at_call 90;refine (rletter_no _ HL.out _).mono ?_;rintro e w' ⟨rfl,rfl⟩)
    go_ret
    exact ⟨rfl,rfl⟩
   ·have hF:Lex.isName s.data.toList=((run Lex.inner s 0:Int) == (s.size:Int)):=by
     rw [hI,hl,Bool.eq_iff_iff];simp [h16];omega
    rw [hF]
    have HL:=hid hl
    have hW:=fun w=>rnamed_any s 0 w (Nat.zero_le _) hs
    have HW:=hid hW
    clear h0 hF hI hl hW
    generalize run Lex.inner s 0=r at *
    cases hr:((r:Int) == (s.size:Int))
    all_goals
     go_enter Tryz.func38,Tryz.ntmps38
     go_wp2_with (first | (go_at_call 90;refine (rletter_yes _ HL.out _).mono ?_;rintro e w' ⟨rfl,rfl⟩) | (go_at_call 91;refine (HW.out _).mono ?_;rintro e w' ⟨rfl,rfl⟩))
     go_ret
     exact ⟨rfl,rfl⟩
  ·have hF:Lex.isName s.data.toList=false:=by rw [hI];simp [h16]
   rw [hF]
   clear h0 hF hI
   go_enter Tryz.func38,Tryz.ntmps38
   go_wp2
   go_ret
   exact ⟨rfl,rfl⟩

end Go.Proofs.YtnmmhcchpcbeeaaGreat.LexW
