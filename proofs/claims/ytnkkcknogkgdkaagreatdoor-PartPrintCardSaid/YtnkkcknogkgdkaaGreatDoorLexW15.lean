/- Walks: a token's text; names. Conditions: numbers are ints; the text of a name has at most a million bytes. -/
import Derived.Test.YtnkkcknogkgdkaaGreatDoorLexW7
import Derived.Lib.LaidTab
import Derived.WalkSmall
import Derived.Laws.BytesString
import Derived.Laws.Concat
import Derived.Lib.AppendIntMem
import Derived.Test.YtnkkcknogkgdkaaGreatDoorShelf

namespace Go.Proofs.YtnkkcknogkgdkaaGreatDoor.LexW
open Lib (hid)
open Go Go.RowKit Go.Proofs.YtnkkcknogkgdkaaGreatDoor.Mem

theorem dec_len:∀ (k u:Nat),u < 10 ^ (k+1)→(Lib.decDigits u).length≤k+1
 | 0,u,h=>by
  rw [Lib.decDigits,dif_pos (by simpa using h)];simp
 | k+1,u,h=>by
  rw [Lib.decDigits]
  split
  ·simp
  ·have:u / 10 < 10 ^ (k+1):=by rw [Nat.pow_succ] at h;omega
   have:=dec_len k (u / 10) this
   rw [List.length_append];simp;omega

/-- 'string([]byte{d})' -/
theorem conv_byte (w:World) (d:Int):(convert 82 9 (.slice (some ⟨w.heap.size,0,none⟩) 1 1)).run Tryz.prog (w.alloc (.cells #[.int .u8 d] 5))=.ok (.string ⟨#[UInt8.ofNat d.toNat]⟩) (w.alloc (.cells #[.int .u8 d] 5)):=by
 rw [run_convert_bytes_string _ _ _ 5 _ _ _ Tryz.underlying82 Tryz.underlying5 Tryz.underlying9]
 rw [run_bytesToString _ _ 1 1 [d] (by go_simp)]
 rfl
theorem str_append (a b:List UInt8):(ByteArray.mk a.toArray)++(ByteArray.mk b.toArray)=⟨(a++b).toArray⟩:=by
 apply str_eq
 rw [ByteArray.data_append];simp
theorem str_size (a:List UInt8):(ByteArray.mk a.toArray).size=a.length:=by
 show a.toArray.size=_;simp

/-- Where the loop of digits stands. -/
def DigAt (full:List UInt8) (m:Nat) (acc:List UInt8):Prop:=(m=0→acc=full)∧(1≤m→Lib.decDigits m++acc=full)
theorem DigAt.step {full:List UInt8} {m:Nat} {acc:List UInt8} (h:DigAt full m acc) (hm:1≤m):DigAt full (m / 10) (UInt8.ofNat (48+m % 10)::acc):=by
 have h2:=h.2 hm
 rw [Lib.decDigits] at h2
 by_cases hs:m < 10
 ·rw [dif_pos hs] at h2
  have e:m % 10=m:=by omega
  rw [e]
  exact ⟨fun _=>h2,fun h=>absurd h (by omega)⟩
 ·rw [dif_neg hs,List.append_assoc] at h2
  exact ⟨fun h=>absurd h (by omega),fun _=>h2⟩

set_option maxRecDepth 100000 in
set_option maxHeartbeats 1000000 in
theorem ritoa_pos (n:Nat) (w:World) (h0:1≤n) (h1:(n:Int)≤9223372036854775807) :
  Calls Tryz.prog 132 #[.int .i64 (n:Int)] w fun e w'=>e=.returned (.string ⟨(Lib.decDigits n).toArray⟩)∧Below w.heap.size w w':=by
 have hz:((n:Int) == 0)=false:=by simp;omega
 have hlen:=dec_len 19 n (by omega)
 generalize hfull:Lib.decDigits n=full at *
 have hst:Hid (DigAt full n []):=hid ⟨fun h=>absurd h (by omega),fun _=>by simpa using hfull⟩
 clear hfull
 go_enter Tryz.func132,Tryz.ntmps132
 go_wp2
 go_loopw [3,5] (fun u v wr=>∃ (m:Nat) (acc:List UInt8),m≤n∧u=.int .u64 m∧v=.string ⟨acc.toArray⟩∧Hid (DigAt full m acc)∧Below w.heap.size w wr) (fun u _ _=>(intOf u).toNat)
 case atStart=>exact ⟨n,[],Nat.le_refl _,rfl,rfl,hst,Below.refl _ _⟩
 case round =>
  obtain ⟨m,acc,hm,rfl,rfl,hd,hbel⟩:=hrel
  by_cases hlt:1≤m
  ·have hal:acc.length≤20:=by
    have:=congrArg List.length (hd.out.2 hlt)
    rw [List.length_append] at this;omega
   have hd':=hid (hd.out.step hlt)
   have hcv:=conv_byte wr (48+(m:Int) % 10)
   have hz1:(ByteArray.mk #[UInt8.ofNat (48+(m:Int) % 10).toNat]).size=1:=rfl
   have hz2:(ByteArray.mk acc.toArray).size=acc.length:=str_size acc
   go_wp2
   go_roundw
   case rel =>
    refine ⟨m / 10,UInt8.ofNat (48+m % 10)::acc,by omega,by go_num,?_,hd',hbel.alloc hbel.size _⟩
    rw [show (48:UInt8)+UInt8.ofNat (m % 10)=UInt8.ofNat (48+m % 10) by rw [UInt8.ofNat_add];rfl]
    exact congrArg Value.string (str_append [UInt8.ofNat (48+m % 10)] acc)
   case measure=>simp [intOf];omega
  ·obtain rfl:m=0:=by omega
   have hal:acc.length≤20:=by rw [hd.out.1 rfl];omega
   have hz2:(ByteArray.mk acc.toArray).size=acc.length:=str_size acc
   have hz3:(ByteArray.mk #[]).size=0:=rfl
   have hf:=hid (hd.out.1 rfl)
   go_wp2
   go_ret
   rw [← hf.out]
   exact ⟨congrArg (fun x=>Ending.returned (.string x)) (str_append [] acc),hbel⟩

theorem wrap_neg (n:Int) (h0:n < 0) (h1 : -9223372036854775808≤n):IntKind.u64.wrap (-(IntKind.u64.wrap n)) = -n:=by
 simp only [IntKind.wrap_u64]
 omega

set_option maxRecDepth 100000 in
set_option maxHeartbeats 1000000 in
theorem ritoa_neg (n:Int) (w:World) (h0:n < 0) (h1 : -9223372036854775808≤n) :
  Calls Tryz.prog 132 #[.int .i64 n] w fun e w'=>e=.returned (.string ⟨(45::Lib.decDigits n.natAbs).toArray⟩)∧Below w.heap.size w w':=by
 have hz:(n == 0)=false:=by simp;omega
 have hw:=wrap_neg n h0 h1
 obtain ⟨k,hk⟩:∃ k:Nat,-n=(k:Int):=⟨n.natAbs,by omega⟩
 have hk2:n.natAbs=k:=by omega
 have hk0:1≤k:=by omega
 have hk9:(k:Int)≤9223372036854775808:=by omega
 have hlen:=dec_len 19 k (by omega)
 rw [hk2]
 rw [hk] at hw
 generalize hfull:Lib.decDigits k=full at *
 have hst:Hid (DigAt full k []):=hid ⟨fun h=>absurd h (by omega),fun _=>by simpa using hfull⟩
 clear hfull h1 hk hk2
 go_enter Tryz.func132,Tryz.ntmps132
 go_wp2
 go_loopw [3,5] (fun u v wr=>∃ (m:Nat) (acc:List UInt8),m≤k∧u=.int .u64 m∧v=.string ⟨acc.toArray⟩∧Hid (DigAt full m acc)∧Below w.heap.size w wr) (fun u _ _=>(intOf u).toNat)
 case atStart=>exact ⟨k,[],Nat.le_refl _,rfl,rfl,hst,Below.refl _ _⟩
 case round =>
  obtain ⟨m,acc,hm,rfl,rfl,hd,hbel⟩:=hrel
  by_cases hlt:1≤m
  ·have hal:acc.length≤20:=by
    have:=congrArg List.length (hd.out.2 hlt)
    rw [List.length_append] at this;omega
   have hd':=hid (hd.out.step hlt)
   have hcv:=conv_byte wr (48+(m:Int) % 10)
   have hz1:(ByteArray.mk #[UInt8.ofNat (48+(m:Int) % 10).toNat]).size=1:=rfl
   have hz2:(ByteArray.mk acc.toArray).size=acc.length:=str_size acc
   go_wp2
   go_roundw
   case rel =>
    refine ⟨m / 10,UInt8.ofNat (48+m % 10)::acc,by omega,by go_num,?_,hd',hbel.alloc hbel.size _⟩
    rw [show (48:UInt8)+UInt8.ofNat (m % 10)=UInt8.ofNat (48+m % 10) by rw [UInt8.ofNat_add];rfl]
    exact congrArg Value.string (str_append [UInt8.ofNat (48+m % 10)] acc)
   case measure=>simp [intOf];omega
  ·obtain rfl:m=0:=by omega
   have hal:acc.length≤20:=by rw [hd.out.1 rfl];omega
   have hz2:(ByteArray.mk acc.toArray).size=acc.length:=str_size acc
   have hz3:(ByteArray.mk #[45]).size=1:=rfl
   have hf:=hid (hd.out.1 rfl)
   go_wp2
   go_ret
   rw [← hf.out]
   exact ⟨congrArg (fun x=>Ending.returned (.string x)) (str_append [45] acc),hbel⟩

theorem ritoa_zero (w:World):Calls Tryz.prog 132 #[.int .i64 0] w fun e w'=>e=.returned (.string ⟨#[48]⟩)∧Below w.heap.size w w':=by
 go_enter Tryz.func132,Tryz.ntmps132
 go_wp2
 go_ret
 exact ⟨rfl,Below.refl _ _⟩
theorem dec_zero:Lib.decDigits 0=[48]:=by rw [Lib.decDigits,dif_pos (by decide)];rfl
theorem ritoa_any (n:Int) (w:World) (h0 : -9223372036854775808≤n) (h1:n≤9223372036854775807) :
  Calls Tryz.prog 132 #[.int .i64 n] w fun e w'=>e=.returned (.string ⟨(Lib.itoa n).toArray⟩)∧Below w.heap.size w w':=by
 unfold Lib.itoa
 by_cases hn:n < 0
 ·rw [if_pos hn]
  exact ritoa_neg n w hn h0
 ·rw [if_neg hn]
  obtain ⟨k,rfl⟩:=Int.eq_ofNat_of_zero_le (by omega:0≤n)
  rw [Int.toNat_natCast]
  by_cases hk:k=0
  ·subst hk
   rw [dec_zero]
   exact ritoa_zero w
  ·exact ritoa_pos k w (by omega) h1

/-! ### The table that strconv.Itoa reads -/
theorem gPow : Tryz.prog.globalNamed "internal/strconv.uint64pow10" = some 1:=by kernel_rfl
/-- The library's table of powers of ten holds what its text lays. -/
structure Laid (w:World):Prop where
 tab:Lib.TabIs Tryz.prog w "internal/strconv.uint64pow10" .u64 Lib.pow10Tab
 lt : 1 < w.heap.size
theorem Laid.below {w w':World} (h:Laid w) (hb:Below w.heap.size w w'):Laid w' :=
 ⟨var?_below hb gPow h.lt h.tab,Nat.lt_of_lt_of_le h.lt hb.size⟩
theorem itoa_any (n:Int) (w:World) (hL:Laid w) (h0 : -9223372036854775808≤n) (h1:n≤9223372036854775807) :
  Calls Tryz.prog 70 #[.int .i64 n] w fun e w'=>e=.returned (.string ⟨(Lib.itoa n).toArray⟩)∧Below w.heap.size w w' :=
 (Tryz.strconv_Itoa n h0 h1 w hL.tab).mono fun e w' ⟨he,k,os,hw⟩=>⟨he,by subst hw;exact Lib.below_grow _ _ (Nat.le_refl _) _ _⟩
def tokV (t:Lex.Tok):Value:=.agg #[.int .i64 t.kind,.string ⟨t.text.toArray⟩,.int .i64 t.n,.int .i64 (t.pos:Int)]

theorem isName_eq (s:ByteArray) (h0:0 < s.size):Lex.isName s.data.toList=(decide (s.size≤16)&&Lex.letter s[0]&&decide (run Lex.inner s 0=s.size)):=by
 have hl:=get_list s h0
 have ha:s.data.toList.all Lex.inner=decide (run Lex.inner s 0=s.size):=by
  rw [Bool.eq_iff_iff,decide_eq_true_eq]
  unfold run
  rw [List.drop_zero,← size_list]
  constructor
  ·intro h
   have:=Lex.takeWhile_stop (p:=Lex.inner) (fun _ h=>h) (w:=s.data.toList) (rest:=[]) h rfl
   rw [List.append_nil] at this
   rw [this]
  ·intro h
   have h1:=Lex.takeWhile_len Lex.inner s.data.toList
   rw [h,List.take_length] at h1
   have h2:=Lex.takeWhile_all Lex.inner s.data.toList
   rw [← h1] at h2
   exact h2
 unfold Lex.isName
 rw [ha,size_list]
 have h1:s.data.toList.headD 0=s[0]:=by rw [hl];rfl
 rw [h1]
 have:decide (1≤s.size)=true:=decide_eq_true (by omega)
 rw [this,Bool.true_and]

theorem toList_empty (s:ByteArray):s.toList.isEmpty=decide (s.size=0):=by
 rw [Go.ByteArray.toList_eq,Bool.eq_iff_iff,decide_eq_true_eq,List.isEmpty_iff,← size_list]
 exact ⟨fun h=>by rw [h];rfl,fun h=>List.eq_nil_of_length_eq_zero h⟩

set_option maxRecDepth 100000 in
theorem isName_any (s:ByteArray) (w:World) (hs:s.size≤1000000):Calls Tryz.prog 112 #[.string s] w (Returns w (.bool (Lex.isName s.data.toList))):=by
 have he:=toList_empty s
 by_cases h0:s.size=0
 ·have hF:Lex.isName s.data.toList=false:=by unfold Lex.isName;rw [size_list,h0];rfl
  rw [hF]
  have h1:s.toList.isEmpty=true:=by rw [he];simpa using h0
  clear he h0 hF
  go_enter Tryz.func112,Tryz.ntmps112
  go_wp2
  go_ret
  exact ⟨rfl,rfl⟩
 ·have h1:s.toList.isEmpty=false:=by rw [he];simpa using h0
  have hp:0 < s.size:=by omega
  have hI:=isName_eq s hp
  by_cases h16:s.size≤16
  ·cases hl:Lex.letter s[0]
   ·have hF:Lex.isName s.data.toList=false:=by rw [hI,hl];simp
    rw [hF]
    have HL:=hid hl
    clear he h0 hF hI hl
    go_enter Tryz.func112,Tryz.ntmps112
    go_wp2_with (go_at_call 119;refine (letter_no _ HL.out _).mono ?_;rintro e w' ⟨rfl,rfl⟩)
    go_ret
    exact ⟨rfl,rfl⟩
   ·have hF:Lex.isName s.data.toList=((run Lex.inner s 0:Int) == (s.size:Int)):=by
     rw [hI,hl,Bool.eq_iff_iff];simp [h16];omega
    rw [hF]
    have HL:=hid hl
    have hW:=fun w=>while_inner s 0 w (Nat.zero_le _) hs
    rw [Nat.zero_add] at hW
    have HW:=hid hW
    clear he h0 hF hI hl hW
    generalize run Lex.inner s 0=r at *
    cases hr:((r:Int) == (s.size:Int))
    all_goals
     go_enter Tryz.func112,Tryz.ntmps112
     go_wp2_with (first | (go_at_call 119;refine (letter_yes _ HL.out _).mono ?_;rintro e w' ⟨rfl,rfl⟩) | (go_at_call 60;refine (HW.out _).mono ?_;rintro e w' ⟨rfl,rfl⟩))
     go_ret
     exact ⟨rfl,rfl⟩
  ·have hF:Lex.isName s.data.toList=false:=by rw [hI];simp [h16]
   rw [hF]
   clear he h0 hF hI
   go_enter Tryz.func112,Tryz.ntmps112
   go_wp2
   go_ret
   exact ⟨rfl,rfl⟩

set_option maxRecDepth 100000 in
theorem risName_any (s:ByteArray) (w:World) (hs:s.size≤1000000):Calls Tryz.prog 58 #[.string s] w (Returns w (.bool (Lex.isName s.data.toList))):=by
 by_cases h0:s.size=0
 ·have hF:Lex.isName s.data.toList=false:=by unfold Lex.isName;rw [size_list,h0];rfl
  rw [hF]
  have h1:s.size≤0:=by omega
  clear h0 hF
  go_enter Tryz.func58,Tryz.ntmps58
  go_wp2
  go_ret
  exact ⟨rfl,rfl⟩
 ·have hp:0 < s.size:=by omega
  have hp1:1≤s.size:=by omega
  have hI:=isName_eq s hp
  by_cases h16:s.size≤16
  ·cases hl:Lex.letter s[0]
   ·have hF:Lex.isName s.data.toList=false:=by rw [hI,hl];simp
    rw [hF]
    have HL:=hid hl
    clear h0 hF hI hl
    go_enter Tryz.func58,Tryz.ntmps58
    go_wp2_with (go_at_call 116;refine (rletter_no _ HL.out _).mono ?_;rintro e w' ⟨rfl,rfl⟩)
    go_ret
    exact ⟨rfl,rfl⟩
   ·have hF:Lex.isName s.data.toList=((run Lex.inner s 0:Int) == (s.size:Int)):=by
     rw [hI,hl,Bool.eq_iff_iff];simp [h16];omega
    rw [hF]
    have HL:=hid hl
    have hW:=fun w=>rnamed_any s 0 w (Nat.zero_le _) hs
    have HW:=hid hW
    clear h0 hF hI hl hW
    generalize run Lex.inner s 0=r at *
    cases hr:((r:Int) == (s.size:Int))
    all_goals
     go_enter Tryz.func58,Tryz.ntmps58
     go_wp2_with (first | (go_at_call 116;refine (rletter_yes _ HL.out _).mono ?_;rintro e w' ⟨rfl,rfl⟩) | (go_at_call 117;refine (HW.out _).mono ?_;rintro e w' ⟨rfl,rfl⟩))
     go_ret
     exact ⟨rfl,rfl⟩
  ·have hF:Lex.isName s.data.toList=false:=by rw [hI];simp [h16]
   rw [hF]
   clear h0 hF hI
   go_enter Tryz.func58,Tryz.ntmps58
   go_wp2
   go_ret
   exact ⟨rfl,rfl⟩
end Go.Proofs.YtnkkcknogkgdkaaGreatDoor.LexW
