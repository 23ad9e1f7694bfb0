/- Walks: the reference's lexer. Conditions: none. -/
import Derived.Test.YtnkkcknogkgdkaaGreatDoorLexW9

namespace Go.Proofs.YtnkkcknogkgdkaaGreatDoor.LexW
open Lib (hid)
open Go Go.RowKit Go.Proofs.YtnkkcknogkgdkaaGreatDoor.Mem

theorem rnV_ok {t:Lex.TR} (h:t.err=0):rnV t=.tuple #[.int .i64 t.n,.int .i64 (t.len:Int),.int .i64 0]:=by unfold rnV;rw [if_pos h]
theorem rnV_bad {t:Lex.TR} (h:t.err≠0):rnV t=.tuple #[.int .i64 0,.int .i64 0,.int .i64 t.err]:=by unfold rnV;rw [if_neg h]

theorem next_ways (s:ByteArray) (i:Nat) :
  ((((s.data.toList.drop (i+1)).drop (Lex.numRun (s.data.toList.drop (i+1))).length).head?.any Lex.inner)=true∧Glued s (i+(run Lex.digit s (i+1)+1))) ∨
  ((((s.data.toList.drop (i+1)).drop (Lex.numRun (s.data.toList.drop (i+1))).length).head?.any Lex.inner)=false∧Free s (i+(run Lex.digit s (i+1)+1))):=by
 have e:i+(run Lex.digit s (i+1)+1)=i+1+run Lex.digit s (i+1):=by omega
 rw [e]
 by_cases h:i+1+run Lex.digit s (i+1) < s.size
 ·rw [next_inner s i h]
  have hd:=run_stop (p:=Lex.digit) (s:=s) (k:=i+1) rfl h
  have h95:(((s[i+1+run Lex.digit s (i+1)]'h).toNat:Int) == 95)=decide ((s[i+1+run Lex.digit s (i+1)]'h).toNat=95):=by rw [Bool.eq_iff_iff];simp;omega
  cases hl:Lex.letter (s[i+1+run Lex.digit s (i+1)]'h)
  ·by_cases hu:(s[i+1+run Lex.digit s (i+1)]'h).toNat=95
   ·left
    exact ⟨by simp [Lex.inner,hu],h,.inr ⟨hl,by rw [h95];simpa using hu⟩⟩
   ·right
    exact ⟨by simp [Lex.inner,hu,hl,hd],fun _=>⟨hl,by rw [h95];simpa using hu⟩⟩
  ·left
   exact ⟨Lex.inner_of_letter hl,h,.inl hl⟩
 ·right
  exact ⟨next_none s i (by omega),fun h'=>absurd h' h⟩
theorem eq48 (c:UInt8):((c.toNat:Int) == 48)=decide (c=48):=byte_test c 48 (by decide)
theorem eq45 (c:UInt8):((c.toNat:Int) == 45)=decide (c=45):=byte_test c 45 (by decide)

theorem rnumber_any (s:ByteArray) (i:Nat) (w:World) (hi:i < s.size) (hs:s.size≤1000000) (hc:(Lex.digit s[i] || decide (s[i]=45))=true) :
  Calls Tryz.prog 125 #[.string s,.int .i64 (i:Int)] w (Returns w (rnV (Lex.numL s[i] (s.data.toList.drop (i+1))))):=by
 have hR:(Lex.numRun (s.data.toList.drop (i+1))).length=run Lex.digit s (i+1):=rfl
 have bad:Lex.numBad s[i] (s.data.toList.drop (i+1))=true→Lex.numL s[i] (s.data.toList.drop (i+1))=bad3:=fun h=>by unfold Lex.numL;rw [if_pos h];rfl
 have long:Lex.numBad s[i] (s.data.toList.drop (i+1))=false→9 < (Lex.numDigs s[i] (s.data.toList.drop (i+1))).length→Lex.numL s[i] (s.data.toList.drop (i+1))=bad9:=fun h h9=>by
  unfold Lex.numL;rw [if_neg (by simp [h]),if_pos h9];rfl
 have good:Lex.numBad s[i] (s.data.toList.drop (i+1))=false→(Lex.numDigs s[i] (s.data.toList.drop (i+1))).length≤9→rnV (Lex.numL s[i] (s.data.toList.drop (i+1)))=.tuple #[.int .i64 (Lex.numVal s[i] (s.data.toList.drop (i+1))),.int .i64 ((run Lex.digit s (i+1)+1:Nat):Int),.int .i64 0]:=fun h h9=>by
  unfold Lex.numL;rw [if_neg (by simp [h]),if_neg (by omega)];rfl
 have r3:rnV bad3=.tuple #[.int .i64 0,.int .i64 0,.int .i64 3]:=rfl
 have r9:rnV bad9=.tuple #[.int .i64 0,.int .i64 0,.int .i64 9]:=rfl
 by_cases h45:s[i]=45
 ·have hm:((s[i].toNat:Int) == 45)=true:=by rw [eq45];simpa using h45
  have hdigs:Lex.numDigs s[i] (s.data.toList.drop (i+1))=Lex.numRun (s.data.toList.drop (i+1)):=by unfold Lex.numDigs;rw [if_pos h45]
  have hne:s[i]::Lex.numRun (s.data.toList.drop (i+1))≠[48]:=by rw [h45];simp
  by_cases h0:1≤run Lex.digit s (i+1)
  ·obtain ⟨hz,hdz⟩:=run_hit (p:=Lex.digit) (s:=s) (k:=i+1) (q:=0) (by omega)
   have hz':i+1 < s.size:=hz
   have hhd:(Lex.numRun (s.data.toList.drop (i+1))).headD 0=s[i+1]:=by
    unfold Lex.numRun
    rw [drop_at s (i+1) hz',List.takeWhile_cons,if_pos hdz];rfl
   have hemp:(Lex.numRun (s.data.toList.drop (i+1))).isEmpty=false:=by
    cases h:Lex.numRun (s.data.toList.drop (i+1)) with
    | nil=>rw [h] at hR;simp at hR;omega
    | cons _ _=>rfl
   by_cases h48:s[i+1]=48
   ·rw [bad (by unfold Lex.numBad;rw [hdigs,hhd];simp [h48,h45]),r3]
    exact rnum_minus_nought s i w hi hs hm h0 hz' (by rw [eq48];simpa using h48)
   ·have h48':(((s[i+1]'hz').toNat:Int) == 48)=false:=by rw [eq48];simpa using h48
    rcases next_ways s i with ⟨hn,hg⟩ | ⟨hn,hf⟩
    ·rw [bad (by unfold Lex.numBad;rw [hn];simp),r3]
     exact rnum_glued_m s i w hi hs hm h0 hz' h48' hg
    ·have hb:Lex.numBad s[i] (s.data.toList.drop (i+1))=false:=by
      unfold Lex.numBad
      rw [hn,hdigs,hemp,hhd];simp [h48]
     by_cases h9:9 < run Lex.digit s (i+1)
     ·rw [long hb (by rw [hdigs,hR];exact h9),r9]
      exact rnum_long_m s i w hi hs hm h0 hz' h48' hf h9
     ·rw [good hb (by rw [hdigs,hR];omega)]
      have:=rnum_ok_m s i w hi hs hm h0 hz' h48' (by omega) hf
      rw [← numVal_m s i h0] at this
      rw [h45]
      exact this
  ·have hemp:Lex.numRun (s.data.toList.drop (i+1))=[]:=List.eq_nil_of_length_eq_zero (by rw [hR];omega)
   rw [bad (by unfold Lex.numBad;rw [hdigs,hemp];simp),r3]
   exact rnum_minus_none s i w hi hs hm (by omega)
 ·have hm:((s[i].toNat:Int) == 45)=false:=by rw [eq45];simpa using h45
  have hd:Lex.digit s[i]=true:=by simpa [h45] using hc
  have hdigs:Lex.numDigs s[i] (s.data.toList.drop (i+1))=s[i]::Lex.numRun (s.data.toList.drop (i+1)):=by unfold Lex.numDigs;rw [if_neg h45]
  have hlen:(Lex.numDigs s[i] (s.data.toList.drop (i+1))).length=run Lex.digit s (i+1)+1:=by rw [hdigs,List.length_cons,hR]
  by_cases h48:s[i]=48
  ·have h48':((s[i].toNat:Int) == 48)=true:=by rw [eq48];simpa using h48
   by_cases h0:1≤run Lex.digit s (i+1)
   ·have hne:s[i]::Lex.numRun (s.data.toList.drop (i+1))≠[48]:=by
     intro h
     have:=congrArg List.length h
     rw [List.length_cons,hR] at this;simp at this;omega
    rw [bad (by unfold Lex.numBad;rw [hdigs];simp only [List.headD_cons];simp [h48];right;intro h;rw [h] at hR;simp at hR;omega),r3]
    exact rnum_nought s i w hi hs hm h0 h48'
   ·have hemp:Lex.numRun (s.data.toList.drop (i+1))=[]:=List.eq_nil_of_length_eq_zero (by rw [hR];omega)
    rcases next_ways s i with ⟨hn,hg⟩ | ⟨hn,hf⟩
    ·rw [bad (by unfold Lex.numBad;rw [hn];simp),r3]
     exact rnum_glued_z s i w hi hs hm (by omega) h48' hg
    ·have hb:Lex.numBad s[i] (s.data.toList.drop (i+1))=false:=by
      unfold Lex.numBad
      rw [hn,hdigs,hemp,h48];rfl
     rw [good hb (by rw [hlen];omega)]
     have:=rnum_ok_z s i w hi hs hm (by omega) h48' hd hf
     rw [← numVal_d s i hi hd] at this
     exact this
  ·have h48':((s[i].toNat:Int) == 48)=false:=by rw [eq48];simpa using h48
   rcases next_ways s i with ⟨hn,hg⟩ | ⟨hn,hf⟩
   ·rw [bad (by unfold Lex.numBad;rw [hn];simp),r3]
    exact rnum_glued_d s i w hi hs hm h48' hg
   ·have hb:Lex.numBad s[i] (s.data.toList.drop (i+1))=false:=by
     unfold Lex.numBad
     rw [hn,hdigs];simp [h48]
    by_cases h9:8 < run Lex.digit s (i+1)
    ·rw [long hb (by rw [hlen];omega),r9]
     exact rnum_long_d s i w hi hs hm h48' hf h9
    ·rw [good hb (by rw [hlen];omega)]
     have:=rnum_ok_d s i w hi hs hm h48' (by omega) hd hf
     rw [← numVal_d s i hi hd] at this
     exact this

theorem rmark_yes (c:UInt8) (h:Lex.mark c=true) (w:World):Calls Tryz.prog 126 #[.int .u8 (c.toNat:Int)] w (Returns w (.bool true)):=by
 have:=rmark_any c w;rwa [h] at this
theorem rmark_no (c:UInt8) (h:Lex.mark c=false) (w:World):Calls Tryz.prog 126 #[.int .u8 (c.toNat:Int)] w (Returns w (.bool false)):=by
 have:=rmark_any c w;rwa [h] at this

set_option maxRecDepth 100000 in
theorem rtoken_long (s:ByteArray) (i:Nat) (w:World) (hi:i < s.size) (hs:s.size≤1000000) (h1:Lex.letter s[i]=true) (h2:16 < run Lex.inner s i) :
  Calls Tryz.prog 64 #[.string s,.int .i64 (i:Int)] w fun e w'=>e=.returned (.tuple #[zeroTok,.int .i64 0,.int .i64 9])∧Below w.heap.size w w':=by
 have hr:=run_le Lex.inner s i (by omega)
 generalize hk:run Lex.inner s i=k at *
 have HK:=hid hk
 have H1:=hid h1
 clear hk h1
 go_enter Tryz.func64,Tryz.ntmps64
 go_wp2_with (first | (go_at_call 116;refine (rletter_yes _ H1.out _).mono ?_;rintro e w' ⟨rfl,rfl⟩) | (go_at_call 117;refine (rnamed_any s i _ (by omega) hs).mono ?_;rintro e w' ⟨rfl,rfl⟩;rw [HK.out]))
 exact bodyPost_ret (v:=.tuple #[zeroTok,.int .i64 0,.int .i64 9]) (by simp [results,Tryz.results64,go_sem,zeroTok]) rfl ⟨rfl,(Below.refl _ _).alloc (Nat.le_refl _) _⟩

set_option maxRecDepth 100000 in
theorem rtoken_name (s:ByteArray) (i:Nat) (w:World) (hi:i < s.size) (hs:s.size≤1000000) (h1:Lex.letter s[i]=true) (h2:run Lex.inner s i≤16) :
  Calls Tryz.prog 64 #[.string s,.int .i64 (i:Int)] w fun e w'=>e=.returned (.tuple #[.agg #[.int .i64 1,.string (s.extract i (i+run Lex.inner s i)),.int .i64 0,.int .i64 (i:Int)],.int .i64 ((run Lex.inner s i:Nat):Int),.int .i64 0])∧Below w.heap.size w w':=by
 have hr:=run_le Lex.inner s i (by omega)
 generalize hk:run Lex.inner s i=k at *
 have HK:=hid hk
 have H1:=hid h1
 clear hk h1
 go_enter Tryz.func64,Tryz.ntmps64
 go_wp2_with (first | (go_at_call 116;refine (rletter_yes _ H1.out _).mono ?_;rintro e w' ⟨rfl,rfl⟩) | (go_at_call 117;refine (rnamed_any s i _ (by omega) hs).mono ?_;rintro e w' ⟨rfl,rfl⟩;rw [HK.out]))
 exact bodyPost_ret (v:=.tuple #[.agg #[.int .i64 1,.string (s.extract i (i+k)),.int .i64 0,.int .i64 (i:Int)],.int .i64 ((k:Nat):Int),.int .i64 0]) (by simp [results,Tryz.results64,go_sem]) rfl ⟨rfl,(Below.refl _ _).alloc (Nat.le_refl _) _⟩

set_option maxRecDepth 100000 in
theorem rtoken_mark (s:ByteArray) (i:Nat) (w:World) (hi:i < s.size) (hs:s.size≤1000000) (h1:Lex.letter s[i]=false) (h2:Lex.digit s[i]=false) (h3:((s[i].toNat:Int) == 45)=false) (h4:Lex.mark s[i]=true) :
  Calls Tryz.prog 64 #[.string s,.int .i64 (i:Int)] w fun e w'=>e=.returned (.tuple #[.agg #[.int .i64 3,.string (s.extract i (i+1)),.int .i64 0,.int .i64 (i:Int)],.int .i64 1,.int .i64 0])∧Below w.heap.size w w':=by
 have H1:=hid h1
 have H2:=hid h2
 have H4:=hid h4
 clear h1 h2 h4
 go_enter Tryz.func64,Tryz.ntmps64
 go_wp2_with (first | (go_at_call 116;refine (rletter_no _ H1.out _).mono ?_;rintro e w' ⟨rfl,rfl⟩) | (go_at_call 124;refine (rdigit_no _ H2.out _).mono ?_;rintro e w' ⟨rfl,rfl⟩) | (go_at_call 126;refine (rmark_yes _ H4.out _).mono ?_;rintro e w' ⟨rfl,rfl⟩))
 exact bodyPost_ret (v:=.tuple #[.agg #[.int .i64 3,.string (s.extract i (i+1)),.int .i64 0,.int .i64 (i:Int)],.int .i64 1,.int .i64 0]) (by simp [results,Tryz.results64,go_sem]) rfl ⟨rfl,(Below.refl _ _).alloc (Nat.le_refl _) _⟩

set_option maxRecDepth 100000 in
theorem rtoken_none (s:ByteArray) (i:Nat) (w:World) (hi:i < s.size) (_hs:s.size≤1000000) (h1:Lex.letter s[i]=false) (h2:Lex.digit s[i]=false) (h3:((s[i].toNat:Int) == 45)=false) (h4:Lex.mark s[i]=false) :
  Calls Tryz.prog 64 #[.string s,.int .i64 (i:Int)] w fun e w'=>e=.returned (.tuple #[zeroTok,.int .i64 0,.int .i64 3])∧Below w.heap.size w w':=by
 have H1:=hid h1
 have H2:=hid h2
 have H4:=hid h4
 clear h1 h2 h4
 go_enter Tryz.func64,Tryz.ntmps64
 go_wp2_with (first | (go_at_call 116;refine (rletter_no _ H1.out _).mono ?_;rintro e w' ⟨rfl,rfl⟩) | (go_at_call 124;refine (rdigit_no _ H2.out _).mono ?_;rintro e w' ⟨rfl,rfl⟩) | (go_at_call 126;refine (rmark_no _ H4.out _).mono ?_;rintro e w' ⟨rfl,rfl⟩))
 exact bodyPost_ret (v:=.tuple #[zeroTok,.int .i64 0,.int .i64 3]) (by simp [results,Tryz.results64,go_sem,zeroTok]) rfl ⟨rfl,(Below.refl _ _).alloc (Nat.le_refl _) _⟩

/-- A number, read or refused. -/
theorem rtoken_num (s:ByteArray) (i:Nat) (w:World) (hi:i < s.size) (hs:s.size≤1000000) (h1:Lex.letter s[i]=false) (hc:(Lex.digit s[i] || decide (s[i]=45))=true) :
  Calls Tryz.prog 64 #[.string s,.int .i64 (i:Int)] w fun e w'=>e=.returned (trV (Lex.numL s[i] (s.data.toList.drop (i+1))) i (Lex.numL s[i] (s.data.toList.drop (i+1))).len)∧Below w.heap.size w w':=by
 have hn:=fun w=>rnumber_any s i w hi hs hc
 have htext:(Lex.numL s[i] (s.data.toList.drop (i+1))).err=0→(Lex.numL s[i] (s.data.toList.drop (i+1))).kind=2∧(Lex.numL s[i] (s.data.toList.drop (i+1))).text=[]:=by
  intro h
  unfold Lex.numL at h ⊢
  split at h
  ·simp at h
  ·rename_i hb
   rw [if_neg hb]
   split at h
   ·simp at h
   ·rename_i hb
    rw [if_neg hb];exact ⟨rfl,rfl⟩
 generalize Lex.numL s[i] (s.data.toList.drop (i+1))=t at *
 have H1:=hid h1
 clear h1
 by_cases h0:t.err=0
 ·rw [trV_ok h0]
  simp only [rnV_ok h0] at hn
  obtain ⟨hk,ht⟩:=htext h0
  simp only [okTok,hk,ht]
  have HN:=hid hn
  clear hn htext hk ht h0
  cases h2:Lex.digit s[i]
  ·have h3:=(digit_45 s[i] h2).symm.trans hc
   have H2:=hid h2
   clear h2 hc
   go_enter Tryz.func64,Tryz.ntmps64
   go_wp2_with (first | (go_at_call 116;refine (rletter_no _ H1.out _).mono ?_;rintro e w' ⟨rfl,rfl⟩) | (go_at_call 124;refine (rdigit_no _ H2.out _).mono ?_;rintro e w' ⟨rfl,rfl⟩) | (go_at_call 125;refine (HN.out _).mono ?_;rintro e w' ⟨rfl,rfl⟩))
   exact bodyPost_ret (v:=.tuple #[.agg #[.int .i64 2,.string ⟨#[]⟩,.int .i64 t.n,.int .i64 (i:Int)],.int .i64 (t.len:Int),.int .i64 0]) (by simp [results,Tryz.results64,go_sem]) rfl ⟨rfl,(Below.refl _ _).alloc (Nat.le_refl _) _⟩
  ·have H2:=hid h2
   clear h2 hc
   go_enter Tryz.func64,Tryz.ntmps64
   go_wp2_with (first | (go_at_call 116;refine (rletter_no _ H1.out _).mono ?_;rintro e w' ⟨rfl,rfl⟩) | (go_at_call 124;refine (rdigit_yes _ H2.out _).mono ?_;rintro e w' ⟨rfl,rfl⟩) | (go_at_call 125;refine (HN.out _).mono ?_;rintro e w' ⟨rfl,rfl⟩))
   exact bodyPost_ret (v:=.tuple #[.agg #[.int .i64 2,.string ⟨#[]⟩,.int .i64 t.n,.int .i64 (i:Int)],.int .i64 (t.len:Int),.int .i64 0]) (by simp [results,Tryz.results64,go_sem]) rfl ⟨rfl,(Below.refl _ _).alloc (Nat.le_refl _) _⟩
 ·rw [trV_bad h0]
  simp only [rnV_bad h0] at hn
  have HN:=hid hn
  have hne:(t.err != 0)=true:=by simpa using h0
  clear hn htext h0
  generalize t.err=er at *
  cases h2:Lex.digit s[i]
  ·have h3:=(digit_45 s[i] h2).symm.trans hc
   have H2:=hid h2
   clear h2 hc
   go_enter Tryz.func64,Tryz.ntmps64
   go_wp2_with (first | (go_at_call 116;refine (rletter_no _ H1.out _).mono ?_;rintro e w' ⟨rfl,rfl⟩) | (go_at_call 124;refine (rdigit_no _ H2.out _).mono ?_;rintro e w' ⟨rfl,rfl⟩) | (go_at_call 125;refine (HN.out _).mono ?_;rintro e w' ⟨rfl,rfl⟩))
   exact bodyPost_ret (v:=.tuple #[zeroTok,.int .i64 0,.int .i64 er]) (by simp [results,Tryz.results64,go_sem,zeroTok]) rfl ⟨rfl,(Below.refl _ _).alloc (Nat.le_refl _) _⟩
  ·have H2:=hid h2
   clear h2 hc
   go_enter Tryz.func64,Tryz.ntmps64
   go_wp2_with (first | (go_at_call 116;refine (rletter_no _ H1.out _).mono ?_;rintro e w' ⟨rfl,rfl⟩) | (go_at_call 124;refine (rdigit_yes _ H2.out _).mono ?_;rintro e w' ⟨rfl,rfl⟩) | (go_at_call 125;refine (HN.out _).mono ?_;rintro e w' ⟨rfl,rfl⟩))
   exact bodyPost_ret (v:=.tuple #[zeroTok,.int .i64 0,.int .i64 er]) (by simp [results,Tryz.results64,go_sem,zeroTok]) rfl ⟨rfl,(Below.refl _ _).alloc (Nat.le_refl _) _⟩

theorem rtoken_any (s:ByteArray) (i:Nat) (w:World) (hi:i < s.size) (hs:s.size≤1000000) :
  Calls Tryz.prog 64 #[.string s,.int .i64 (i:Int)] w fun e w'=>e=.returned (trV (Lex.tokL (s.data.toList.drop i)) i (Lex.tokL (s.data.toList.drop i)).len)∧Below w.heap.size w w':=by
 have hd:=drop_at s i hi
 cases h1:Lex.letter s[i]
 ·cases hc:(Lex.digit s[i] || decide (s[i]=45))
  ·have h2:Lex.digit s[i]=false:=by
    cases h:Lex.digit s[i]
    ·rfl
    ·rw [h] at hc;simp at hc
   have h3:=(digit_45 s[i] h2).symm.trans hc
   cases h4:Lex.mark s[i]
   ·have e:Lex.tokL (s.data.toList.drop i)=bad3:=by
     rw [hd];simp only [Lex.tokL]
     rw [if_neg (by simp [h1]),if_neg (by rw [hc];simp),if_neg (by simp [h4])];rfl
    rw [e,trV_bad3]
    exact rtoken_none s i w hi hs h1 h2 h3 h4
   ·have e:Lex.tokL (s.data.toList.drop i)=⟨3,[s[i]],0,1,0⟩:=by rw [hd];exact Lex.tokL_mark h1 hc h4
    rw [e,trV_ok rfl]
    have:=rtoken_mark s i w hi hs h1 h2 h3 h4
    rw [one_text s i hi] at this
    exact this
  ·have e:Lex.tokL (s.data.toList.drop i)=Lex.numL s[i] (s.data.toList.drop (i+1)):=by
    rw [hd];simp only [Lex.tokL]
    rw [if_neg (by simp [h1]),if_pos hc]
   rw [e]
   exact rtoken_num s i w hi hs h1 hc
 ·have hrun:(s[i]::s.data.toList.drop (i+1)).takeWhile Lex.inner=(s.data.toList.drop i).takeWhile Lex.inner:=by rw [hd]
  have hlen:((s.data.toList.drop i).takeWhile Lex.inner).length=run Lex.inner s i:=rfl
  by_cases h2:run Lex.inner s i≤16
  ·have e:Lex.tokL (s.data.toList.drop i)=⟨1,(s.data.toList.drop i).takeWhile Lex.inner,0,run Lex.inner s i,0⟩:=by
    rw [← hlen,hd]
    exact Lex.tokL_name h1 (by rw [hrun,hlen];exact h2)
   rw [e,trV_ok rfl]
   have:=rtoken_name s i w hi hs h1 h2
   rw [name_text] at this
   exact this
  ·have e:Lex.tokL (s.data.toList.drop i)=bad9:=by
    rw [hd];simp only [Lex.tokL]
    rw [if_pos h1,hrun,hlen,if_pos (by omega)];rfl
   rw [e,trV_bad9]
   exact rtoken_long s i w hi hs h1 (by omega)
theorem rtoken_ok (s:ByteArray) (i:Nat) (w:World) (hi:i < s.size) (hs:s.size≤1000000) (h:(Lex.tokL (s.data.toList.drop i)).err=0) :
  Calls Tryz.prog 64 #[.string s,.int .i64 (i:Int)] w fun e w'=>e=.returned (.tuple #[okTok (Lex.tokL (s.data.toList.drop i)) i,.int .i64 (((Lex.tokL (s.data.toList.drop i)).len:Nat):Int),.int .i64 0])∧Below w.heap.size w w':=by
 have:=rtoken_any s i w hi hs
 rwa [trV_ok h] at this
theorem rtoken_bad (s:ByteArray) (i:Nat) (w:World) (hi:i < s.size) (hs:s.size≤1000000) (h:(Lex.tokL (s.data.toList.drop i)).err≠0) :
  Calls Tryz.prog 64 #[.string s,.int .i64 (i:Int)] w fun e w'=>e=.returned (.tuple #[zeroTok,.int .i64 0,.int .i64 (Lex.tokL (s.data.toList.drop i)).err])∧Below w.heap.size w w':=by
 have:=rtoken_any s i w hi hs
 rwa [trV_bad h] at this
theorem eq35 (c:UInt8):((c.toNat:Int) == 35)=decide (c=35):=byte_test c 35 (by decide)
theorem rtok_info:(Tryz.prog.info? 118).map (fun i=>(i.zero,i.size,i.bytes))=some (some (.agg #[.int .i64 0,.string ⟨#[]⟩,.int .i64 0,.int .i64 0]),4,40):=by kernel_rfl

set_option maxRecDepth 100000 in
theorem rtokens_long (s:ByteArray) (w:World) (hs:20000 < s.size) :
  Calls Tryz.prog 27 #[.string s] w (TokensPost 118 w (Lex.tokens s.data.toList)):=by
 have e:Lex.tokens s.data.toList=⟨[],0,9⟩:=by unfold Lex.tokens;rw [size_list,if_pos hs]
 have E:=hid e
 clear e
 go_enter Tryz.func27,Tryz.ntmps27
 go_wp2
 go_ret3
 rw [E.out]
 exact ⟨_,rfl,World.ownsRow_nil _ _ _ _,Below.refl _ _⟩

set_option maxRecDepth 100000 in
set_option maxHeartbeats 2000000 in
theorem rtokens_short (s:ByteArray) (w:World) (hs:s.size≤20000) :
  Calls Tryz.prog 27 #[.string s] w (TokensPost 118 w (Lex.tokens s.data.toList)):=by
 have e:Lex.tokens s.data.toList=Lex.lex s.data.toList 0:=by unfold Lex.tokens;rw [size_list,if_neg (by omega)]
 rw [e]
 clear e
 obtain ⟨i0,ia,ib,ic,id⟩:=info_parts rtok_info
 have hst:=hid (At.start s.data.toList)
 go_enter Tryz.func27,Tryz.ntmps27
 go_wp2
 go_loopw [5,6] (fun v i wr=>∃ (k:Nat) (acc:List Lex.Tok),k≤s.size∧acc.length≤k∧i=.int .i64 k∧wr.ownsRow w.heap.size 118 4 v acc.length (toksCells acc)∧Below w.heap.size w wr∧Hid (At s.data.toList k acc)) (fun _ i _=>s.size - (intOf i).toNat)
 case atStart=>exact ⟨0,[],Nat.zero_le _,Nat.zero_le _,rfl,World.ownsRow_nil _ _ _ _,Below.refl _ _,hst⟩
 case round =>
  obtain ⟨k,acc,hk,hacc,rfl,hown,hbel,hat⟩:=hrel
  by_cases hlt:k < s.size
  ·cases hb:Lex.blank s[k]
   ·have HB:=hid hb
    by_cases h35:s[k]=35
    ·have h35':((s[k].toNat:Int) == 35)=true:=by rw [eq35];simpa using h35
     have hat':=hid (hat.out.note hlt h35)
     have hr:=run_le Lex.notFeed s k (by omega)
     have hr1:1≤run Lex.notFeed s k:=by
      rw [run_yes hlt (by rw [h35];decide)];omega
     have hin:=fun q=>run_hit (p:=Lex.notFeed) (s:=s) (q:=q) (k:=k)
     have hst:=run_stop (p:=Lex.notFeed) (s:=s) (k:=k) (q:=run Lex.notFeed s k) rfl
     clear hb h35
     generalize run Lex.notFeed s k=R at *
     have HIN:=hid hin
     have HST:=hid hst
     clear hin hst
     obtain ⟨wo,hwo⟩:∃ wo:World,wr=wo:=⟨_,rfl⟩
     subst hwo
     go_wp2_with (go_at_call 63;refine (rblank_no _ HB.out _).mono ?_;rintro e w' ⟨rfl,rfl⟩)
     go_loop [6] (fun t=>∃ q:Nat,q≤R∧t=.int .i64 ((k+q:Nat):Int)) (fun t=>k+R - (intOf t).toNat)
     case atStart=>exact ⟨0,Nat.zero_le _,by go_num⟩
     case round =>
      obtain ⟨q,hq,rfl⟩:=hrel
      by_cases hql:q < R
      ·obtain ⟨hx,hp⟩:=HIN.out q hql
       have hne:(((s[k+q]'hx).toNat:Int) != 10)=true:=by
        simp only [Lex.notFeed,decide_eq_true_eq] at hp
        simp;omega
       clear hp
       go_wp2
       go_round
       case rel=>exact ⟨q+1,by omega,by go_num⟩
       case measure=>simp [intOf];omega
      ·obtain rfl:q=R:=by omega
       by_cases hx:k+q < s.size
       ·have hp:=HST.out hx
        have hne:(((s[k+q]'hx).toNat:Int) != 10)=false:=by
         simp only [Lex.notFeed,decide_eq_false_iff_not,ne_eq,Decidable.not_not] at hp
         simp;omega
        clear hp
        go_wp2
        go_roundw
        case rel=>exact ⟨k+q,acc,by omega,by omega,by go_num,hown,hbel,hat'⟩
        case measure=>simp [intOf];omega
       ·go_wp2
        go_roundw
        case rel=>exact ⟨k+q,acc,by omega,by omega,by go_num,hown,hbel,hat'⟩
        case measure=>simp [intOf];omega
    ·have h35':((s[k].toNat:Int) == 35)=false:=by rw [eq35];simpa using h35
     by_cases h0:(Lex.tokL (s.data.toList.drop k)).err=0
     ·have hat':=hid (hat.out.tok hlt h0)
      have hlen:1≤(Lex.tokL (s.data.toList.drop k)).len∧k+(Lex.tokL (s.data.toList.drop k)).len≤s.size:=by
       have hd:=drop_at s k hlt
       have h0':(Lex.tokL (s[k]::s.data.toList.drop (k+1))).err=0:=by rw [← hd];exact h0
       have:=Lex.tok_len h0'
       rw [← hd,List.length_drop,size_list] at this
       omega
      have htok:∀ W:World,Calls Tryz.prog 64 #[.string s,.int .i64 (k:Int)] W fun e w'=>e=.returned (.tuple #[okTok (Lex.tokL (s.data.toList.drop k)) k,.int .i64 (((Lex.tokL (s.data.toList.drop k)).len:Nat):Int),.int .i64 0])∧Below W.heap.size W w':=fun W=>rtoken_ok s k W hlt (by omega) h0
      have HT:=hid htok
      clear htok hb h35 h0
      generalize Lex.tokL (s.data.toList.drop k)=t at *
      obtain ⟨tk,tt,tn,tl,te⟩:=t
      simp only [okTok] at HT hlen hat'
      go_wp2_with (first
       | (go_at_call 63;refine (rblank_no _ HB.out _).mono ?_;rintro e w' ⟨rfl,rfl⟩)
       | (go_at_call 64;refine (HT.out _).mono ?_;rintro e w1 ⟨rfl,hb1⟩;have hown1:=own_below hown hb1;have hbel1:=hbel.trans (hb1.mono hbel.size);have hz1:=hb1.size;have hz0:=hbel.size)
       | (at_builtin;refine wpList_append_own _ rfl _ _ 70 rfl w.heap.size 118 i0 _ 4 40 Tryz.underlying70 ia ib ic id rfl (by omega) _ _ _ rfl ((hown1.alloc _).alloc _) ⟨w1.heap.size+1,0,none⟩ 1 1 [.int .i64 tk,.string ⟨tt.toArray⟩,.int .i64 tn,.int .i64 (k:Int)] rfl rfl ?c1 ?c2 ?c3 ?c4 ?c5 ?_))
      case c1=>intro j u hj;have:=cells_new4 (w1.alloc (.cells #[.int .i64 tk,.string ⟨tt.toArray⟩,.int .i64 tn,.int .i64 (k:Int)] 118)) _ _ _ _ 118 j u hj;simpa using this
      case c2=>intro u hu;simp at hu;rcases hu with rfl | rfl | rfl | rfl<;>rfl
      case c3=>unfold maxLen;omega
      case c4=>omega
      case c5=>simp;omega
      ·intro v' w2 hown2 hg2 _
       have hb2:Below w.heap.size w w2:=below_append ((hbel1.alloc (by omega) _).alloc (by simp;omega) _) (by simp;omega) ((hown1.alloc _).alloc _) hg2 (Nat.le_refl _)
       have hown3:w2.ownsRow w.heap.size 118 4 v' (acc++[(⟨tk,tt,tn,k⟩:Lex.Tok)]).length (toksCells (acc++[(⟨tk,tt,tn,k⟩:Lex.Tok)])):=by
        rw [toksCells_snoc,List.length_append];exact hown2
       clear hown2 hg2 hown hown1 hbel hbel1 hb1
       go_wp2
       go_roundw
       case rel=>exact ⟨k+tl,acc++[⟨tk,tt,tn,k⟩],by omega,by rw [List.length_append];simp;omega,by go_num,hown3,hb2,hat'⟩
       case measure=>simp [intOf];omega
     ·have hbad:=hid (hat.out.bad hlt hb h35 h0)
      have htok:∀ W:World,Calls Tryz.prog 64 #[.string s,.int .i64 (k:Int)] W fun e w'=>e=.returned (.tuple #[zeroTok,.int .i64 0,.int .i64 (Lex.tokL (s.data.toList.drop k)).err])∧Below W.heap.size W w':=fun W=>rtoken_bad s k W hlt (by omega) h0
      have HT:=hid htok
      have hne:((Lex.tokL (s.data.toList.drop k)).err != 0)=true:=by simpa using h0
      clear htok hb h35 h0
      generalize (Lex.tokL (s.data.toList.drop k)).err=er at *
      simp only [zeroTok] at HT
      go_wp2_with (first
       | (go_at_call 63;refine (rblank_no _ HB.out _).mono ?_;rintro e w' ⟨rfl,rfl⟩)
       | (go_at_call 64;refine (HT.out _).mono ?_;rintro e w1 ⟨rfl,hb1⟩;have hbel1:=hbel.trans (hb1.mono hbel.size);have hz1:=hb1.size;have hz0:=hbel.size))
      go_ret3
      rw [hbad.out]
      exact ⟨_,rfl,World.ownsRow_nil _ _ _ _,hbel1.alloc (by omega) _⟩
   ·have HB:=hid hb
    have hat':=hid (hat.out.blank hlt hb)
    clear hb
    go_wp2_with (go_at_call 63;refine (rblank_yes _ HB.out _).mono ?_;rintro e w' ⟨rfl,rfl⟩)
    go_roundw
    case rel=>exact ⟨k+1,acc,by omega,by omega,by go_num,hown,hbel,hat'⟩
    case measure=>simp [intOf];omega
  ·have hd:=hid (hat.out.done (by omega))
   go_wp2
   go_ret3
   rw [hd.out]
   exact ⟨_,rfl,hown,hbel⟩
theorem rtokens_any (s:ByteArray) (w:World):Calls Tryz.prog 27 #[.string s] w (TokensPost 118 w (Lex.tokens s.data.toList)):=by
 by_cases h:20000 < s.size
 ·exact rtokens_long s w h
 ·exact rtokens_short s w (by omega)
end Go.Proofs.YtnkkcknogkgdkaaGreatDoor.LexW
