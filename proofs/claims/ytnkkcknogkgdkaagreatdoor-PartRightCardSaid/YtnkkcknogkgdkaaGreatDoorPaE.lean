/- Walk: the part language's parser passes a circle. Conditions: the parser and its tokens lie in memory, apart. -/
import Derived.Test.YtnkkcknogkgdkaaGreatDoorPfA
import Derived.Test.YtnkkcknogkgdkaaGreatDoorMem2
import Derived.Test.YtnkkcknogkgdkaaGreatDoorLexW7
import Derived.Test.YtnkkcknogkgdkaaGreatDoorOrd
import Derived.Deep.QuietTactic
import Derived.StillTailTactics
import Derived.Shelf.Abstract
import Derived.Deep.DrawnRows
import Derived.Deep.DeepCutAuto

namespace Go.Proofs.YtnkkcknogkgdkaaGreatDoor.PaW
open Lib (hid)
open Go Go.RowKit Go.Proofs.YtnkkcknogkgdkaaGreatDoor.Mem Go.Proofs.YtnkkcknogkgdkaaGreatDoor.Pa
open Go.Proofs.YtnkkcknogkgdkaaGreatDoor.Ge (V)
open Go.Proofs.YtnkkcknogkgdkaaGreatDoor.Lex (Tok)
open Go.Proofs.YtnkkcknogkgdkaaGreatDoor.LexW (tokCells)
attribute [local go_sem ↓] Go.wp_at_zero Go.wp_at_succ

theorem block_set {w:World} {b:Nat} {cs:Array Value} {T:TypeId} {fr:Nat×Nat} (h:w.heap[b]? = some (.cells cs T fr)) (j:Nat) (v:Value):(w.setCell ⟨b,j,none⟩ v).heap[b]? = some (.cells (cs.setIfInBounds j v) T fr):=by
 simp [World.setCell,Array.getElem?_modify,h]
theorem block_other {b:Nat} (w:World) (c j:Nat) (v:Value) (h:b≠c):(w.setCell ⟨c,j,none⟩ v).heap[b]? = w.heap[b]?:=Below.heap_setCell _ _ _ _ (fun e=>h e)
theorem cell_of {w:World} {b:Nat} {cs:Array Value} {T:TypeId} (h:w.heap[b]? = some (.cells cs T (0,0))) (j:Nat) (v:Value) (hj:cs[j]? = some v):w.cell? ⟨b,j,none⟩=some v:=by
 simp [World.cell?,h,hj]
theorem free_of {w:World} {b:Nat} {cs:Array Value} {T:TypeId} (h:w.heap[b]? = some (.cells cs T (0,0))) (j:Nat):w.frozen? ⟨b,j,none⟩=false:=by
 simp [World.frozen?,h]
theorem blk_lt {w:World} {b:Nat} {o:Obj} (h:w.heap[b]? = some o):b < w.heap.size:=by
 rcases Nat.lt_or_ge b w.heap.size with h2 | h2
 ·exact h2
 ·rw [Array.getElem?_eq_none h2] at h;cases h
theorem grown_set {w w':World} {b:Nat} (h:w.grownBy w' (some b)) (j:Nat) (v:Value):w.grownBy (w'.setCell ⟨b,j,none⟩ v) (some b) :=
 ⟨h.os,h.tape,h.output,by simpa using h.size,fun i hi hne=>by rw [block_other _ _ _ _ (fun e=>hne (by rw [e]))];exact h.block i hi hne⟩
theorem grown_drewN {w w':World} {row:Option Nat} (h:w.grownBy w' row) (n:Nat):w.grownBy (w'.drewN n) row:=⟨h.os,h.tape,h.output,h.size,h.block⟩
theorem grown_below {w w' w2:World} {row:Option Nat} (h:w.grownBy w' row) (hb:Below w'.heap.size w' w2):w.grownBy w2 row :=
 ⟨hb.os.trans h.os,hb.tape.trans h.tape,hb.output.trans h.output,Nat.le_trans h.size hb.size,fun i hi hne=>by rw [hb.block i (Nat.lt_of_lt_of_le hi h.size)];exact h.block i hi hne⟩
theorem grown_refl (w:World) (row:Option Nat):w.grownBy w row:=⟨rfl,rfl,rfl,Nat.le_refl _,fun _ _ _=>rfl⟩
theorem p_below {w w':World} {b:Nat} {o:Obj} (h:w.heap[b]? = some o) (hb:Below w.heap.size w w'):w'.heap[b]? = some o:=(hb.block b (blk_lt h)).trans h
def strV (x:List UInt8):Value:=.string ⟨x.toArray⟩
def Apart (A:Option Addr) (b:Nat):Prop:=∀ g off,A=some ⟨g,off,none⟩→g≠b
theorem wrapEq (x:Int):IntKind.i64.wrap x=wrap64 x:=by
 rw [IntKind.wrap_i64]
 unfold wrap64
 omega
theorem str_size (a:List UInt8):(ByteArray.mk a.toArray).size=a.length:=by simp [ByteArray.size]
theorem text_eq (a b:List UInt8):((ByteArray.mk a.toArray).toList == (ByteArray.mk b.toArray).toList)=decide (a=b):=by
 rw [Go.ByteArray.toList_eq,Go.ByteArray.toList_eq,Bool.eq_iff_iff]
 simp
theorem row_grown {w w':World} {b:Nat} {A:Option Addr} {xs:List Value} (h:Row w A xs) (hA:Apart A b) (hg:w.grownBy w' (some b)):Row w' A xs:=fun hne=>by
 obtain ⟨g,off,e,hlt,hc⟩:=h hne
 refine ⟨g,off,e,Nat.lt_of_lt_of_le hlt hg.size,fun j hj=>?_⟩
 rw [World.cell?_of_block (a:=⟨g,off+j,none⟩) (hg.block g hlt (fun e2=>hA g off e (by injection e2)))]
 exact hc j hj
theorem heap_new (w:World) (o:Obj):(w.alloc o).heap[w.heap.size]? = some o:=Array.getElem?_push_size
theorem tok_len (t:Tok):(tokCells t).length=4:=rfl
/-- The parser as an object. -/
def pobj (A:Option Addr) (n c i E:Nat):Obj:=.cells #[.slice A n c,.int .i64 (i:Int),.int .i64 (E:Int)] 94 (0,0)
/-- The parser and its tokens in a world. -/
structure Pc (w:World) (b:Nat) (A:Option Addr) (c:Nat) (L:List Tok) (E i:Nat):Prop where
 obj:w.heap[b]? = some (pobj A L.length c i E)
 row:Row w A (L.flatMap tokCells)
 apart:Apart A b
 few:L.length≤20000
 ix:i≤L.length
theorem Pc.below {w w':World} {b:Nat} {A:Option Addr} {c:Nat} {L:List Tok} {E i:Nat} (h:Pc w b A c L E i) (hb:Below w.heap.size w w'):Pc w' b A c L E i :=
 ⟨p_below h.obj hb,h.row.below hb,h.apart,h.few,h.ix⟩
theorem Pc.grown {w w':World} {b:Nat} {A:Option Addr} {c:Nat} {L:List Tok} {E i i':Nat} (h:Pc w b A c L E i) (ho:w'.heap[b]? = some (pobj A L.length c i' E)) (hg:w.grownBy w' (some b)) (hi:i'≤L.length):Pc w' b A c L E i' :=
 ⟨ho,row_grown h.row h.apart hg,h.apart,h.few,hi⟩
theorem pcell {w:World} {b:Nat} {A:Option Addr} {n c i E:Nat} (h:w.heap[b]? = some (pobj A n c i E)):w.cell? ⟨b,0,none⟩=some (.slice A n c)∧w.cell? ⟨b,1,none⟩=some (.int .i64 (i:Int))∧w.cell? ⟨b,2,none⟩=some (.int .i64 (E:Int))∧∀ j,w.frozen? ⟨b,j,none⟩=false :=
 ⟨cell_of h 0 _ rfl,cell_of h 1 _ rfl,cell_of h 2 _ rfl,fun j=>free_of h j⟩
theorem pset_i {w:World} {b:Nat} {A:Option Addr} {n c i E:Nat} (h:w.heap[b]? = some (pobj A n c i E)) (k:Nat):(w.setCell ⟨b,1,none⟩ (.int .i64 (k:Int))).heap[b]? = some (pobj A n c k E):=block_set h 1 _
theorem Pc.other {w:World} {b:Nat} {A:Option Addr} {c:Nat} {L:List Tok} {E i r:Nat} (h:Pc w b A c L E i) (hb:b≠r) (hA:Apart A r) (j:Nat) (v:Value):Pc (w.setCell ⟨r,j,none⟩ v) b A c L E i :=
 ⟨(block_other _ _ _ _ hb).trans h.obj,row_grown h.row hA (grown_set (grown_refl _ _) _ _),h.apart,h.few,h.ix⟩
theorem grown_new {w w':World} {b r:Nat} (h:w.grownBy w' (some b)) (hr:w.heap.size≤r) (j:Nat) (v:Value):w.grownBy (w'.setCell ⟨r,j,none⟩ v) (some b) :=
 ⟨h.os,h.tape,h.output,by simpa using h.size,fun i hi hne=>by rw [block_other _ _ _ _ (by omega)];exact h.block i hi hne⟩
/-- What is thrown at a wrong token. -/
def wrongV (k:Nat) (e:Int):PanicEntry := { v:=.iface 90 (.agg #[.int .i64 (k:Int),.int .i64 e]),recovered:=false }
/-- What a call of the parser does: it answers what the reader gives and stands behind it, or gives up; everything else is as it was. -/
def Res {α:Type} (val:α→Value) (w:World) (b:Nat) (A:Option Addr) (c:Nat) (L:List Tok) (E:Nat) (r:Pa.R α) (e:Ending) (w':World):Prop:=match r with
 | .ok a j=>e=.returned (val a)∧Pc w' b A c L E j∧w.grownBy w' (some b)
 | .no k er=>e=.panicked [wrongV (offs L E k) er]∧w.grownBy w' (some b)
def tokV (t:Tok):Value:=.agg #[.int .i64 t.kind,.string ⟨t.text.toArray⟩,.int .i64 t.n,.int .i64 (t.pos:Int)]
def tokO (kind:Int):Pa.Op Tok:=fun L i=>match L[i]? with
 | some t=>if t.kind=kind then .ok t (i+1) else .no i 3
 | none=>.no i 3
theorem offs_at {L:List Tok} {E i:Nat} (h:i < L.length):offs L E i=L[i].pos:=by unfold offs;rw [List.getElem?_eq_getElem h]
theorem offs_end {L:List Tok} {E i:Nat} (h:L.length≤i):offs L E i=E:=by unfold offs;rw [List.getElem?_eq_none h]
theorem isT_at {L:List Tok} {s:List UInt8} {i:Nat} (h:i < L.length):isT L s i=(decide (L[i].kind≠2)&&decide (L[i].text=s)):=by unfold isT;rw [List.getElem?_eq_getElem h]
theorem isT_end {L:List Tok} {s:List UInt8} {i:Nat} (h:L.length≤i):isT L s i=false:=by unfold isT;rw [List.getElem?_eq_none h]
attribute [local go_sem ↓] Go.wp_at_zero Go.wp_at_succ

set_option maxRecDepth 100000 in
set_option maxHeartbeats 1000000 in
theorem fail_any (er:Int) (b:Nat) (A:Option Addr) (c:Nat) (L:List Tok) (E i:Nat) (w:World) (h:Pc w b A c L E i) :
  Calls Tryz.prog 86 #[.pointer (some ⟨b,0,none⟩),.int .i64 er] w fun e w'=>e=.panicked [wrongV (offs L E i) er]∧Below w.heap.size w w':=by
 obtain ⟨c0,c1,c2,cf⟩:=pcell h.obj
 have hlt:=blk_lt h.obj
 have hfew:=h.few
 have hix:=h.ix
 have hi1:(0:Int)≤(i:Int):=by omega
 by_cases hi:i < L.length
 ·rw [offs_at hi]
  obtain ⟨g,off,rfl,hg,ca⟩:=row_get tok_len (by decide) h.row (by omega)
  have a0:=ca i hi 0 (by decide)
  have a1:=ca i hi 1 (by decide)
  have a2:=ca i hi 2 (by decide)
  have a3:=ca i hi 3 (by decide)
  have hgb:g≠b:=h.apart g off rfl
  clear ca
  have hi2:(i:Int) < (L.length:Int):=by omega
  clear h cf
  generalize L[i]=t at *
  simp only [tokCells,List.getElem?_cons_zero,List.getElem?_cons_succ,Nat.add_zero] at a0 a1 a2 a3
  go_enter Tryz.func86,Tryz.ntmps86
  go_wp2_with fail
  go_quiet (fail)
  go_wp2_with fail
  go_quiet (fail)
  go_wp2
  exact ⟨rfl,rfl,below_drewN (Below.refl _ _) _⟩
 ·rw [offs_end (by omega)]
  have hi2:decide ((i:Int) < (L.length:Int))=false:=decide_eq_false (by omega)
  clear h cf
  go_enter Tryz.func86,Tryz.ntmps86
  go_wp2_with fail
  go_quiet (fail)
  go_wp2
  exact ⟨rfl,rfl,below_drewN (Below.refl _ _) _⟩
set_option maxRecDepth 100000 in
set_option maxHeartbeats 1000000 in
theorem is_any (s:List UInt8) (b:Nat) (A:Option Addr) (c:Nat) (L:List Tok) (E i:Nat) (w:World) (h:Pc w b A c L E i) :
  Calls Tryz.prog 143 #[.pointer (some ⟨b,0,none⟩),.string ⟨s.toArray⟩] w fun e w'=>e=.returned (.bool (isT L s i))∧Below w.heap.size w w':=by
 obtain ⟨c0,c1,c2,cf⟩:=pcell h.obj
 have hlt:=blk_lt h.obj
 have hfew:=h.few
 have hix:=h.ix
 have hi1:(0:Int)≤(i:Int):=by omega
 by_cases hi:i < L.length
 ·rw [isT_at hi]
  obtain ⟨g,off,rfl,hg,ca⟩:=row_get tok_len (by decide) h.row (by omega)
  have a0:=ca i hi 0 (by decide)
  have a1:=ca i hi 1 (by decide)
  have a2:=ca i hi 2 (by decide)
  have a3:=ca i hi 3 (by decide)
  have hgb:g≠b:=h.apart g off rfl
  clear ca
  have hi2:(i:Int) < (L.length:Int):=by omega
  clear h cf
  generalize L[i]=t at *
  simp only [tokCells,List.getElem?_cons_zero,List.getElem?_cons_succ,Nat.add_zero] at a0 a1 a2 a3
  have es:=text_eq t.text s
  by_cases hk:t.kind=2
  ·rw [hk] at a0
   rw [decide_eq_false (show ¬ t.kind≠2 by simp [hk]),Bool.false_and]
   go_enter Tryz.func143,Tryz.ntmps143
   go_wp2_with fail
   go_quiet (fail)
   go_wp2
   go_ret
   exact ⟨rfl,below_drewN (Below.refl _ _) _⟩
  ·have n1:(t.kind != 2)=true:=bne_iff_ne.2 hk
   rw [decide_eq_true (show t.kind≠2 from hk),Bool.true_and]
   generalize (ByteArray.mk t.text.toArray)=TB at *
   generalize (ByteArray.mk s.toArray)=SB at *
   go_enter Tryz.func143,Tryz.ntmps143
   go_wp2_with fail
   go_quiet (fail)
   go_wp2
   go_ret
   exact ⟨rfl,below_drewN (Below.refl _ _) _⟩
 ·rw [isT_end (by omega)]
  have hi2:decide ((i:Int) < (L.length:Int))=false:=decide_eq_false (by omega)
  clear h cf
  go_enter Tryz.func143,Tryz.ntmps143
  go_wp2_with fail
  go_quiet (fail)
  go_wp2
  go_ret
  exact ⟨rfl,below_drewN (Below.refl _ _) _⟩
set_option maxRecDepth 100000 in
set_option maxHeartbeats 1000000 in
theorem accept_any (s:List UInt8) (b:Nat) (A:Option Addr) (c:Nat) (L:List Tok) (E i:Nat) (w:World) (h:Pc w b A c L E i) :
  Calls Tryz.prog 85 #[.pointer (some ⟨b,0,none⟩),.string ⟨s.toArray⟩] w (Res Value.bool w b A c L E (optO s L i)):=by
 have HI:=hid (is_any s b A c L E i w h)
 have HP:=hid h
 have HLT:=hid (fun hh=>@isT_lt L s i hh)
 obtain ⟨q,HQ⟩:∃ q,Hid (isT L s i=q):=⟨_,hid rfl⟩
 rw [HQ.out] at HI HLT
 have HO:Hid (optO s L i=if q=true then .ok true (i+1) else .ok false i):=hid (by unfold optO;rw [HQ.out])
 rw [HO.out]
 have hfew:=h.few
 clear h HO HQ
 generalize (ByteArray.mk s.toArray)=SB at *
 cases q
 ·go_enter Tryz.func85,Tryz.ntmps85
  go_wp2_with fail
  refine HI.out.mono ?_
  rintro e w1 ⟨rfl,hb⟩
  go_wp2
  go_ret
  exact ⟨rfl,HP.out.below hb,grown_below (grown_refl _ _) hb⟩
 ·have hil:=HLT.out rfl
  go_enter Tryz.func85,Tryz.ntmps85
  go_wp2_with fail
  refine HI.out.mono ?_
  rintro e w1 ⟨rfl,hb⟩
  have HP1:=hid (HP.out.below hb)
  obtain ⟨c0,c1,c2,cf⟩:=pcell HP1.out.obj
  have f1:=cf 1
  have hlt:=blk_lt HP1.out.obj
  have x1:(i:Int)+1≤9223372036854775807:=by omega
  have HG:=hid (grown_below (grown_refl w (some b)) hb)
  clear cf hb
  go_wp2
  go_ret
  exact ⟨rfl,HP1.out.grown (pset_i HP1.out.obj (i+1)) (grown_set (grown_refl _ _) _ _) (by omega),grown_set HG.out _ _⟩
set_option maxRecDepth 100000 in
set_option maxHeartbeats 1000000 in
theorem token_any (kind:Int) (b:Nat) (A:Option Addr) (c:Nat) (L:List Tok) (E i:Nat) (w:World) (h:Pc w b A c L E i) :
  Calls Tryz.prog 84 #[.pointer (some ⟨b,0,none⟩),.int .i64 kind] w (Res tokV w b A c L E (tokO kind L i)):=by
 have HF:=hid (fun W (hW:Pc W b A c L E i)=>fail_any 3 b A c L E i W hW)
 have HP:=hid h
 obtain ⟨c0,c1,c2,cf⟩:=pcell h.obj
 have hlt:=blk_lt h.obj
 have hfew:=h.few
 have hix:=h.ix
 have hi1:(0:Int)≤(i:Int):=by omega
 by_cases hi:i < L.length
 ·have HT:Hid (tokO kind L i=if L[i].kind=kind then .ok L[i] (i+1) else .no i 3):=hid (by unfold tokO;rw [List.getElem?_eq_getElem hi])
  rw [HT.out]
  obtain ⟨g,off,rfl,hg,ca⟩:=row_get tok_len (by decide) h.row (by omega)
  have a0:=ca i hi 0 (by decide)
  have a1:=ca i hi 1 (by decide)
  have a2:=ca i hi 2 (by decide)
  have a3:=ca i hi 3 (by decide)
  have hgb:g≠b:=h.apart g off rfl
  clear ca
  have hi2:(i:Int) < (L.length:Int):=by omega
  have hi3:decide ((L.length:Int)≤(i:Int))=false:=decide_eq_false (by omega)
  have d2:decide (L.length≤i)=false:=decide_eq_false (by omega)
  have f1:=cf 1
  clear h cf HT
  generalize hLi:L[i]=t at *
  have HLI:=hid hLi
  clear hLi
  simp only [tokCells,List.getElem?_cons_zero,List.getElem?_cons_succ,Nat.add_zero] at a0 a1 a2 a3
  by_cases hk:t.kind=kind
  ·subst hk
   have n1:(t.kind != t.kind)=false:=bne_self_eq_false _
   rw [if_pos rfl]
   go_enter Tryz.func84,Tryz.ntmps84
   go_wp2_with fail
   go_quiet (fail)
   have HW:Hid (Below w.heap.size w ((w.alloc (.cells #[.int .i64 0,.string ⟨#[]⟩,.int .i64 0,.int .i64 0] 69)).drewN nq)∧((w.alloc (.cells #[.int .i64 0,.string ⟨#[]⟩,.int .i64 0,.int .i64 0] 69)).drewN nq).heap[w.heap.size]? = some (.cells #[.int .i64 0,.string ⟨#[]⟩,.int .i64 0,.int .i64 0] 69)):=hid ⟨below_drewN ((Below.refl _ _).alloc (Nat.le_refl _) _) _,heap_new w _⟩
   generalize (w.alloc (.cells #[.int .i64 0,.string ⟨#[]⟩,.int .i64 0,.int .i64 0] 69)).drewN nq=W2 at *
   have HP2:=hid (HP.out.below HW.out.1)
   clear c0 c1 c2 f1 a0 a1 a2 a3
   obtain ⟨c0,c1,c2,cf⟩:=pcell HP2.out.obj
   have f1:=cf 1
   have x1:(i:Int)+1≤9223372036854775807:=by omega
   clear cf
   go_wp2_with fail
   have HP3:Hid (Pc (W2.setCell ⟨b,1,none⟩ (.int .i64 ((i:Int)+1))) b (some ⟨g,off,none⟩) c L E (i+1)):=hid (HP2.out.grown (pset_i HP2.out.obj (i+1)) (grown_set (grown_refl _ _) _ _) (by omega))
   have HB3:Hid ((W2.setCell ⟨b,1,none⟩ (.int .i64 ((i:Int)+1))).heap[w.heap.size]? = some (.cells #[.int .i64 0,.string ⟨#[]⟩,.int .i64 0,.int .i64 0] 69 (0,0))):=hid (by rw [block_other _ _ _ _ (by omega)];exact HW.out.2)
   have HG3:Hid (w.grownBy (W2.setCell ⟨b,1,none⟩ (.int .i64 ((i:Int)+1))) (some b)):=hid (grown_set (grown_below (grown_refl _ _) HW.out.1) _ _)
   clear c0 c1 c2 f1
   generalize W2.setCell ⟨b,1,none⟩ (.int .i64 ((i:Int)+1))=W3 at *
   obtain ⟨c0,c1,c2,cf⟩:=pcell HP3.out.obj
   obtain ⟨g3,off3,e3,hg3,ca⟩:=row_get tok_len (by decide) HP3.out.row (by omega)
   cases e3
   have a0:=ca i hi 0 (by decide)
   have a1:=ca i hi 1 (by decide)
   have a2:=ca i hi 2 (by decide)
   have a3:=ca i hi 3 (by decide)
   rw [HLI.out] at a0 a1 a2 a3
   simp only [tokCells,List.getElem?_cons_zero,List.getElem?_cons_succ,Nat.add_zero] at a0 a1 a2 a3
   clear ca cf
   have r0:=cell_of HB3.out 0 _ rfl
   have r1:=cell_of HB3.out 1 _ rfl
   have r2:=cell_of HB3.out 2 _ rfl
   have r3:=cell_of HB3.out 3 _ rfl
   have f0:=free_of HB3.out 0
   have f1:=free_of HB3.out 1
   have f2:=free_of HB3.out 2
   have f3:=free_of HB3.out 3
   have hwi:IntKind.i64.wrap (i:Int)=(i:Int):=by rw [wrapEq];unfold wrap64;omega
   refine wp_region_tillK (k:=11) (S1:=fun w'=>True) (S2:=fun w'=>(w'.cell? ⟨b,0,none⟩=some (.slice (some ⟨g,off,none⟩) L.length c)∧w'.cell? ⟨b,1,none⟩=some (.int .i64 ((i:Int)+1))∧w'.cell? ⟨g,off+i*4,none⟩=some (.int .i64 t.kind)∧w'.cell? ⟨g,off+i*4+1,none⟩=some (.string ⟨t.text.toArray⟩)∧w'.cell? ⟨g,off+i*4+2,none⟩=some (.int .i64 t.n)∧w'.cell? ⟨g,off+i*4+3,none⟩=some (.int .i64 (t.pos:Int)))) (by kernel_rfl) ?_ (fun hHeld=>?_)
   ·exact ⟨trivial,c0,c1,a0,a1,a2,a3⟩
   refine tK (i:=0) (v:=?_) rfl (Or.inl ⟨by rfl,?_⟩) ?_
   rotate_left
   ·intro w' hSw
    (try dsimp only at hSw)
    obtain ⟨_,h0,h1,h2,h3,h4,h5⟩:=hSw
    go_simp<;>with_reducible rfl
   try simp only [Act.put,sA]
   refine tK (i:=1) (v:=?_) rfl (Or.inl ⟨by rfl,?_⟩) ?_
   rotate_left
   ·intro w' hSw
    (try dsimp only at hSw)
    obtain ⟨_,h0,h1,h2,h3,h4,h5⟩:=hSw
    go_simp<;>with_reducible rfl
   try simp only [Act.put]
   refine tK (i:=2) (v:=?_) rfl (Or.inl ⟨by rfl,?_⟩) ?_
   rotate_left
   ·intro w' hSw
    (try dsimp only at hSw)
    obtain ⟨_,h0,h1,h2,h3,h4,h5⟩:=hSw
    go_simp<;>with_reducible rfl
   try simp only [Act.put]
   refine tK (i:=3) (v:=?_) rfl (Or.inl ⟨by rfl,?_⟩) ?_
   rotate_left
   ·intro w' hSw
    (try dsimp only at hSw)
    obtain ⟨_,h0,h1,h2,h3,h4,h5⟩:=hSw
    go_simp<;>with_reducible rfl
   try simp only [Act.put]
   refine tK (i:=4) (v:=?_) rfl (Or.inl ⟨by rfl,?_⟩) ?_
   rotate_left
   ·intro w' hSw
    (try dsimp only at hSw)
    obtain ⟨_,h0,h1,h2,h3,h4,h5⟩:=hSw
    go_simp<;>with_reducible rfl
   try simp only [Act.put]
   refine tK (i:=5) (v:=?_) rfl (Or.inl ⟨by rfl,?_⟩) ?_
   rotate_left
   ·intro w' hSw
    (try dsimp only at hSw)
    obtain ⟨_,h0,h1,h2,h3,h4,h5⟩:=hSw
    go_simp<;>with_reducible rfl
   try simp only [Act.put]
   refine tK (i:=6) (v:=?_) rfl (Or.inl ⟨by rfl,?_⟩) ?_
   rotate_left
   ·intro w' hSw
    (try dsimp only at hSw)
    obtain ⟨_,h0,h1,h2,h3,h4,h5⟩:=hSw
    go_simp<;>with_reducible rfl
   try simp only [Act.put]
   refine tK (i:=7) (v:=?_) rfl (Or.inl ⟨by rfl,?_⟩) ?_
   rotate_left
   ·intro w' hSw
    (try dsimp only at hSw)
    obtain ⟨_,h0,h1,h2,h3,h4,h5⟩:=hSw
    go_simp<;>with_reducible rfl
   try simp only [Act.put]
   refine tK (i:=8) (v:=?_) rfl (Or.inl ⟨by rfl,?_⟩) ?_
   rotate_left
   ·intro w' hSw
    (try dsimp only at hSw)
    obtain ⟨_,h0,h1,h2,h3,h4,h5⟩:=hSw
    go_simp<;>with_reducible rfl
   try simp only [Act.put]
   refine tK (i:=9) (v:=?_) rfl (Or.inl ⟨by rfl,?_⟩) ?_
   rotate_left
   ·intro w' hSw
    (try dsimp only at hSw)
    obtain ⟨_,h0,h1,h2,h3,h4,h5⟩:=hSw
    go_simp<;>with_reducible rfl
   try simp only [Act.put]
   refine tK (i:=10) (v:=?_) rfl (Or.inl ⟨by rfl,?_⟩) ?_
   rotate_left
   ·intro w' hSw
    (try dsimp only at hSw)
    obtain ⟨_,h0,h1,h2,h3,h4,h5⟩:=hSw
    go_simp<;>with_reducible rfl
   try simp only [Act.put]
   refine wpAnyK_one (i:=11) (o:=_) (by kernel_rfl) rfl (fun K hK=>?_)
   go_simp
   refine hK.out _ _ ?_ (fun hne=>?_) (fun hHeld=>?_)
   ·exact trivial
   ·exact absurd rfl hne
   clear hK K
   try simp only [Act.put,sA,sB,sC]
   refine wpAnyK_done (by kernel_rfl) ?_ _
   have HWF:Hid (((((W3.setCell ⟨w.heap.size,0,none⟩ (.int .i64 t.kind)).setCell ⟨w.heap.size,1,none⟩ (.string ⟨t.text.toArray⟩)).setCell ⟨w.heap.size,2,none⟩ (.int .i64 t.n)).setCell ⟨w.heap.size,3,none⟩ (.int .i64 (t.pos:Int))).heap[w.heap.size]? = some (.cells #[.int .i64 t.kind,.string ⟨t.text.toArray⟩,.int .i64 t.n,.int .i64 (t.pos:Int)] 69 (0,0))):=hid (block_set (block_set (block_set (block_set HB3.out 0 _) 1 _) 2 _) 3 _)
   have HNR:Hid (b≠w.heap.size∧Apart (some ⟨g,off,none⟩) w.heap.size):=hid ⟨by omega,fun g' off' e=>by cases e;omega⟩
   have HPF:Hid (Pc ((((W3.setCell ⟨w.heap.size,0,none⟩ (.int .i64 t.kind)).setCell ⟨w.heap.size,1,none⟩ (.string ⟨t.text.toArray⟩)).setCell ⟨w.heap.size,2,none⟩ (.int .i64 t.n)).setCell ⟨w.heap.size,3,none⟩ (.int .i64 (t.pos:Int))) b (some ⟨g,off,none⟩) c L E (i+1)):=hid ((((HP3.out.other HNR.out.1 HNR.out.2 0 _).other HNR.out.1 HNR.out.2 1 _).other HNR.out.1 HNR.out.2 2 _).other HNR.out.1 HNR.out.2 3 _)
   have HGF:Hid (w.grownBy ((((W3.setCell ⟨w.heap.size,0,none⟩ (.int .i64 t.kind)).setCell ⟨w.heap.size,1,none⟩ (.string ⟨t.text.toArray⟩)).setCell ⟨w.heap.size,2,none⟩ (.int .i64 t.n)).setCell ⟨w.heap.size,3,none⟩ (.int .i64 (t.pos:Int))) (some b)):=hid (grown_new (grown_new (grown_new (grown_new HG3.out (Nat.le_refl _) 0 _) (Nat.le_refl _) 1 _) (Nat.le_refl _) 2 _) (Nat.le_refl _) 3 _)
   clear c0 c1 c2 a0 a1 a2 a3 r0 r1 r2 r3 f0 f1 f2 f3 hHeld
   generalize ((((W3.setCell ⟨w.heap.size,0,none⟩ (.int .i64 t.kind)).setCell ⟨w.heap.size,1,none⟩ (.string ⟨t.text.toArray⟩)).setCell ⟨w.heap.size,2,none⟩ (.int .i64 t.n)).setCell ⟨w.heap.size,3,none⟩ (.int .i64 (t.pos:Int)))=WF at *
   have r0:=cell_of HWF.out 0 _ rfl
   have r1:=cell_of HWF.out 1 _ rfl
   have r2:=cell_of HWF.out 2 _ rfl
   have r3:=cell_of HWF.out 3 _ rfl
   go_wp2
   refine bodyPost_ret (v:=tokV t) (by simp [results,Tryz.results84,go_sem,r0,r1,r2,r3,tokV]) rfl ?_
   exact ⟨rfl,HPF.out.below (below_drewN (Below.refl _ _) 1),grown_drewN HGF.out 1⟩
  ·have n1:(t.kind != kind)=true:=bne_iff_ne.2 hk
   rw [if_neg hk]
   go_enter Tryz.func84,Tryz.ntmps84
   go_wp2_with fail
   go_quiet (fail)
   go_wp2_with fail
   refine (HF.out _ (HP.out.below (below_drewN ((Below.refl _ _).alloc (Nat.le_refl _) _) _))).mono ?_
   rintro e w1 ⟨rfl,hb⟩
   go_wp2
   exact ⟨rfl,rfl,grown_below (grown_below (grown_refl _ _) (below_drewN ((Below.refl _ _).alloc (Nat.le_refl _) _) _)) hb⟩
 ·have HT:Hid (tokO kind L i=.no i 3):=hid (by unfold tokO;rw [List.getElem?_eq_none (by omega)])
  rw [HT.out]
  have hi3:decide ((L.length:Int)≤(i:Int))=true:=decide_eq_true (by omega)
  clear h cf HT
  go_enter Tryz.func84,Tryz.ntmps84
  go_wp2_with fail
  go_quiet (fail)
  go_wp2_with fail
  refine (HF.out _ (HP.out.below (below_drewN ((Below.refl _ _).alloc (Nat.le_refl _) _) _))).mono ?_
  rintro e w1 ⟨rfl,hb⟩
  go_wp2
  exact ⟨rfl,rfl,grown_below (grown_below (grown_refl _ _) (below_drewN ((Below.refl _ _).alloc (Nat.le_refl _) _) _)) hb⟩
attribute [local go_sem ↓] Go.wp_at_zero Go.wp_at_succ

theorem num_tok (lo hi:Int) (L:List Tok) (i:Nat):numO lo hi L i=match tokO 2 L i with
 | .ok t j=>if t.n < lo∨hi < t.n then .no i 2 else .ok t.n j
 | .no k e=>.no k e:=by
 unfold numO tokO
 cases L[i]? with
 | none=>rfl
 | some t =>
  by_cases hk:t.kind=2
  ·simp only [if_pos hk]
  ·simp only [if_neg hk]
theorem tok_ok {kind:Int} {L:List Tok} {i j:Nat} {t:Tok} (h:tokO kind L i=.ok t j):i < L.length∧j=i+1:=by
 unfold tokO at h
 cases hx:L[i]? with
 | none=>rw [hx] at h;cases h
 | some u =>
  rw [hx] at h
  simp only at h
  split at h
  ·cases h
   exact ⟨(List.getElem?_eq_some_iff.1 hx).1,rfl⟩
  ·cases h
set_option maxRecDepth 100000 in
set_option maxHeartbeats 1000000 in
theorem number_any (lo hi:Int) (b:Nat) (A:Option Addr) (c:Nat) (L:List Tok) (E i:Nat) (w:World) (h:Pc w b A c L E i) :
  Calls Tryz.prog 87 #[.pointer (some ⟨b,0,none⟩),.int .i64 lo,.int .i64 hi] w (Res (Value.int .i64) w b A c L E (numO lo hi L i)):=by
 have HT:=hid (token_any 2 b A c L E i w h)
 have HF:=hid (fun W (hW:Pc W b A c L E i)=>fail_any 2 b A c L E i W hW)
 have hfew:=h.few
 have HK:=hid (fun t j h=>@tok_ok 2 L i j t h)
 rw [num_tok]
 clear h
 cases hr:tokO 2 L i with
 | no k er =>
  rw [hr] at HT
  simp only
  clear hr HK
  go_enter Tryz.func87,Tryz.ntmps87
  go_wp2_with fail
  refine HT.out.mono ?_
  rintro e w1 ⟨rfl,hg⟩
  go_wp2
  exact ⟨rfl,rfl,hg⟩
 | ok t j =>
  rw [hr] at HT
  obtain ⟨hil,rfl⟩:=HK.out t j hr
  simp only
  have hfl:∀ W,(Instr.field 69 (.agg #[.int .i64 t.kind,.string ⟨t.text.toArray⟩,.int .i64 t.n,.int .i64 (t.pos:Int)]) 2).run Tryz.prog W=.ok (.int .i64 t.n) W:=fun W=>by kernel_rfl
  clear hr HK
  by_cases h1:t.n < lo
  ·have d1:decide (t.n < lo)=true:=decide_eq_true h1
   rw [if_pos (.inl h1)]
   go_enter Tryz.func87,Tryz.ntmps87
   go_wp2_with fail
   refine HT.out.mono ?_
   rintro e w1 ⟨rfl,hp,hg⟩
   unfold tokV
   have HP:=hid hp
   have HG:=hid hg
   clear hp hg
   obtain ⟨c0,c1,c2,cf⟩:=pcell HP.out.obj
   have f1:=cf 1
   clear cf c0 c2
   rw [show ((i+1:Nat):Int)=(i:Int)+1 by omega] at c1
   have hlt:=blk_lt HP.out.obj
   have HPB:Hid (Pc (w1.setCell ⟨b,1,none⟩ (.int .i64 (i:Int))) b A c L E i):=hid (HP.out.grown (pset_i HP.out.obj i) (grown_set (grown_refl _ _) _ _) (by omega))
   go_wp2_with fail
   refine (HF.out _ HPB.out).mono ?_
   rintro e w2 ⟨rfl,hb⟩
   go_wp2
   exact ⟨rfl,rfl,grown_below (grown_set HG.out _ _) hb⟩
  ·by_cases h2:hi < t.n
   ·have d1:decide (t.n < lo)=false:=decide_eq_false h1
    have d2:decide (hi < t.n)=true:=decide_eq_true h2
    rw [if_pos (.inr h2)]
    go_enter Tryz.func87,Tryz.ntmps87
    go_wp2_with fail
    refine HT.out.mono ?_
    rintro e w1 ⟨rfl,hp,hg⟩
    unfold tokV
    have HP:=hid hp
    have HG:=hid hg
    clear hp hg
    obtain ⟨c0,c1,c2,cf⟩:=pcell HP.out.obj
    have f1:=cf 1
    clear cf c0 c2
    rw [show ((i+1:Nat):Int)=(i:Int)+1 by omega] at c1
    have hlt:=blk_lt HP.out.obj
    have HPB:Hid (Pc (w1.setCell ⟨b,1,none⟩ (.int .i64 (i:Int))) b A c L E i):=hid (HP.out.grown (pset_i HP.out.obj i) (grown_set (grown_refl _ _) _ _) (by omega))
    go_wp2_with fail
    refine (HF.out _ HPB.out).mono ?_
    rintro e w2 ⟨rfl,hb⟩
    go_wp2
    exact ⟨rfl,rfl,grown_below (grown_set HG.out _ _) hb⟩
   ·have d1:decide (t.n < lo)=false:=decide_eq_false h1
    have d2:decide (hi < t.n)=false:=decide_eq_false h2
    rw [if_neg (by omega)]
    go_enter Tryz.func87,Tryz.ntmps87
    go_wp2_with fail
    refine HT.out.mono ?_
    rintro e w1 ⟨rfl,hp,hg⟩
    unfold tokV
    go_wp2
    go_ret
    exact ⟨rfl,hp,hg⟩
attribute [local go_sem ↓] Go.wp_at_zero Go.wp_at_succ

def needs:List (List UInt8)→Pa.Op Unit
 | []=>ret ()
 | s::r=>bnd (need s) fun _=>needs r
theorem str_get {w:World} {A:Option Addr} {ss:List (List UInt8)} (h:Row w A (ss.map strV)) {k:Nat} (hk:k < ss.length):∃ g off,A=some ⟨g,off,none⟩∧g < w.heap.size∧w.cell? ⟨g,off+k,none⟩=some (strV ss[k]):=by
 obtain ⟨g,off,e,hg,hc⟩:=h (fun e=>by have:=congrArg List.length e;rw [List.length_map,List.length_nil] at this;omega)
 exact ⟨g,off,e,hg,(hc k (by simpa using hk)).trans (by simp [List.getElem?_eq_getElem hk])⟩
theorem needs_at {ss:List (List UInt8)} {k:Nat} (hk:k < ss.length) (L:List Tok) (j:Nat):needs (ss.drop k) L j=if isT L ss[k] j=true then needs (ss.drop (k+1)) L (j+1) else .no j 3:=by
 rw [List.drop_eq_getElem_cons hk,needs]
 unfold bnd need
 by_cases h:isT L ss[k] j=true
 ·rw [if_pos h,if_pos h]
 ·rw [if_neg h,if_neg h]
theorem need_one (s:List UInt8) (L:List Tok) (i:Nat):needs [s] L i=need s L i:=by
 show bnd (need s) (fun _=>needs []) L i=need s L i
 unfold bnd
 cases need s L i with
 | ok a j=>rfl
 | no k e=>rfl
set_option maxRecDepth 100000 in
set_option maxHeartbeats 1000000 in
theorem expect_any (ss:List (List UInt8)) (A2:Option Addr) (c2:Nat) (b:Nat) (A:Option Addr) (c:Nat) (L:List Tok) (E i:Nat) (w:World) (h:Pc w b A c L E i) (hr:Row w A2 (ss.map strV)) (ha:Apart A2 b) (hl:ss.length≤1000) :
  Calls Tryz.prog 83 #[.pointer (some ⟨b,0,none⟩),.slice A2 ss.length c2] w (Res (fun _=>.tuple #[]) w b A c L E (needs ss L i)):=by
 have HACC:=hid (fun s j W (hW:Pc W b A c L E j)=>accept_any s b A c L E j W hW)
 have HF:=hid (fun j W (hW:Pc W b A c L E j)=>fail_any 3 b A c L E j W hW)
 have HP:=hid h
 have HR:=hid hr
 have HA:=hid ha
 clear h hr ha
 obtain ⟨RS,HRS⟩:∃ RS,Hid (needs ss L i=RS):=⟨_,hid rfl⟩
 rw [HRS.out]
 go_enter Tryz.func83,Tryz.ntmps83
 go_wp2_with fail
 go_loopw [8] (fun v wr=>∃ k j:Nat,v=.int .i64 (k:Int)∧k≤ss.length∧Hid (RS=needs (ss.drop k) L j)∧Hid (Pc wr b A c L E j)∧Hid (w.grownBy wr (some b))) (fun v _=>ss.length - (intOf v).toNat)
 case atStart=>exact ⟨0,i,rfl,Nat.zero_le _,hid (by rw [List.drop_zero];exact HRS.out.symm),HP,hid (grown_refl _ _)⟩
 case round =>
  obtain ⟨k,j,rfl,hk,HN,HPJ,HG⟩:=hrel
  by_cases hlt:k < ss.length
  ·obtain ⟨g,off,rfl,hg,hc⟩:=str_get (row_grown HR.out HA.out HG.out) hlt
   have HN2:=hid (HN.out.trans (needs_at hlt L j))
   have HAK:=hid (HACC.out ss[k] j)
   have hk1:(0:Int)≤(k:Int):=by omega
   have hk2:(k:Int) < (ss.length:Int):=by omega
   unfold optO at HAK
   clear HN
   unfold strV at hc
   generalize ss[k]=s at *
   generalize (ByteArray.mk s.toArray)=SB at *
   cases hT:isT L s j
   ·rw [hT] at HAK HN2
    simp only [Bool.false_eq_true,if_false] at HAK HN2
    have hrs:=HN2.out
    subst hrs
    clear hT HN2 HRS
    go_wp2_with fail
    refine (HAK.out _ HPJ.out).mono ?_
    rintro e w1 ⟨rfl,hp,hg1⟩
    have HP1:=hid hp
    have HG1:=hid (HG.out.trans hg1)
    clear hp hg1
    go_wp2_with fail
    refine (HF.out j _ HP1.out).mono ?_
    rintro e w2 ⟨rfl,hb⟩
    go_wp2
    exact ⟨rfl,rfl,grown_below HG1.out hb⟩
   ·rw [hT] at HAK HN2
    simp only [if_true] at HAK HN2
    clear hT
    go_wp2_with fail
    refine (HAK.out _ HPJ.out).mono ?_
    rintro e w1 ⟨rfl,hp,hg1⟩
    have HP1:=hid hp
    have HG1:=hid (HG.out.trans hg1)
    clear hp hg1
    go_wp2
    go_roundw
    case rel=>exact ⟨k+1,j+1,by go_num,by omega,HN2,HP1,HG1⟩
    case measure=>simp [intOf];omega
  ·obtain rfl:k=ss.length:=by omega
   have hrs:=HN.out
   rw [List.drop_length] at hrs
   unfold needs ret at hrs
   subst hrs
   clear HN HRS
   go_wp2
   go_end0
   exact ⟨rfl,HPJ.out,HG.out⟩
attribute [local go_sem ↓] Go.wp_at_zero Go.wp_at_succ

theorem newN_row (w:World) (xs:List Value) (T:TypeId):Row (w.alloc (.cells xs.toArray T)) (some ⟨w.heap.size,0,none⟩) xs:=fun _ =>
 ⟨_,_,rfl,by simp,fun j hj=>by unfold World.cell?;rw [heap_new];simp⟩
theorem bel1 (W:World) (o:Obj):Below W.heap.size W (W.alloc o):=(Below.refl _ _).alloc (Nat.le_refl _) o
theorem Res.from {α:Type} {val:α→Value} {w:World} {b:Nat} {A:Option Addr} {c:Nat} {L:List Tok} {E:Nat} {r:Pa.R α} {e:Ending} {w0 w':World} (h:Res val w0 b A c L E r e w') (hb:Below w.heap.size w w0):Res val w b A c L E r e w':=by
 cases r with
 | ok a j=>exact ⟨h.1,h.2.1,(grown_below (grown_refl w (some b)) hb).trans h.2.2⟩
 | no k er=>exact ⟨h.1,(grown_below (grown_refl w (some b)) hb).trans h.2⟩
theorem expect_one (s:List UInt8) (b:Nat) (A:Option Addr) (c:Nat) (L:List Tok) (E i:Nat) (w:World) (h:Pc w b A c L E i) :
  Calls Tryz.prog 83 #[.pointer (some ⟨b,0,none⟩),.slice (some ⟨w.heap.size,0,none⟩) 1 1] (w.alloc (.cells #[.string ⟨s.toArray⟩] 9)) (Res (fun _=>.tuple #[]) w b A c L E (need s L i)):=by
 have hlt:=blk_lt h.obj
 have:=expect_any [s] (some ⟨w.heap.size,0,none⟩) 1 b A c L E i _ (h.below (bel1 w (.cells #[.string ⟨s.toArray⟩] 9))) (newN_row w [.string ⟨s.toArray⟩] 9) (fun g off e=>by cases e;omega) (by simp)
 rw [need_one] at this
 exact this.mono fun e w' hres=>hres.from (bel1 _ _)
theorem expect_two (s t:List UInt8) (b:Nat) (A:Option Addr) (c:Nat) (L:List Tok) (E i:Nat) (w:World) (h:Pc w b A c L E i) :
  Calls Tryz.prog 83 #[.pointer (some ⟨b,0,none⟩),.slice (some ⟨w.heap.size,0,none⟩) 2 2] (w.alloc (.cells #[.string ⟨s.toArray⟩,.string ⟨t.toArray⟩] 9)) (Res (fun _=>.tuple #[]) w b A c L E (needs [s,t] L i)):=by
 have hlt:=blk_lt h.obj
 have:=expect_any [s,t] (some ⟨w.heap.size,0,none⟩) 2 b A c L E i _ (h.below (bel1 w (.cells #[.string ⟨s.toArray⟩,.string ⟨t.toArray⟩] 9))) (newN_row w [.string ⟨s.toArray⟩,.string ⟨t.toArray⟩] 9) (fun g off e=>by cases e;omega) (by simp)
 exact this.mono fun e w' hres=>hres.from (bel1 _ _)
theorem Pc.new {w w0:World} {b:Nat} {A:Option Addr} {c:Nat} {L:List Tok} {E i r:Nat} (h:Pc w b A c L E i) (hb:b≠r) (h0:Row w0 A (L.flatMap tokCells)) (hr:w0.heap.size≤r) (j:Nat) (v:Value):Pc (w.setCell ⟨r,j,none⟩ v) b A c L E i :=
 ⟨(block_other _ _ _ _ hb).trans h.obj,fun hne=>by
  obtain ⟨g0,off0,e0,hg0,_⟩:=h0 hne
  exact row_grown h.row (fun g off e=>by rw [e0] at e;cases e;omega) (grown_set (grown_refl _ _) _ _) hne,h.apart,h.few,h.ix⟩
def ptV (v:V):Value:=.agg #[.int .i64 v.1,.int .i64 v.2]
set_option maxRecDepth 100000 in
set_option maxHeartbeats 2000000 in
theorem point_any (b:Nat) (A:Option Addr) (c:Nat) (L:List Tok) (E i:Nat) (w:World) (h:Pc w b A c L E i) :
  Calls Tryz.prog 144 #[.pointer (some ⟨b,0,none⟩)] w (Res ptV w b A c L E (pointO L i)):=by
 have hlt:=blk_lt h.obj
 have HRW:=hid h.row
 have HR0:=hid (heap_new w (.cells #[.int .i64 0,.int .i64 0] 35))
 have HP0:=hid (h.below (bel1 w (.cells #[.int .i64 0,.int .i64 0] 35)))
 have HG0:=hid (grown_below (grown_refl w (some b)) (bel1 w (.cells #[.int .i64 0,.int .i64 0] 35)))
 clear h
 obtain ⟨RS,HRS⟩:∃ RS,Hid (pointO L i=RS):=⟨_,hid rfl⟩
 rw [HRS.out]
 go_enter Tryz.func144,Tryz.ntmps144
 go_upto_region 1 with fail
 generalize w.alloc (.cells #[.int .i64 0,.int .i64 0] 35)=W0 at *
 have HE1:Hid (Calls Tryz.prog 83 #[.pointer (some ⟨b,0,none⟩),.slice (some ⟨(W0).heap.size,0,none⟩) 1 1] ((W0).alloc (.cells #[.string ⟨#[40]⟩] 9)) (Res (fun _=>.tuple #[]) (W0) b A c L E (need kOpen L i))):=hid (expect_one kOpen b A c L E i (W0) HP0.out)
 go_wp2_with fail
 refine HE1.out.mono ?_
 rintro e w1 hres
 cases h1:need kOpen L i with
 | no k er =>
  rw [h1] at hres
  obtain ⟨rfl,hg⟩:=hres
  have hrs:=HRS.out
  simp only [pointO,bnd,h1] at hrs
  subst hrs
  go_wp2
  exact ⟨rfl,rfl,HG0.out.trans hg⟩
 | ok u1 j1 =>
 rw [h1] at hres
 obtain ⟨rfl,hp1,hg1⟩:=hres
 have HP1:=hid hp1
 have HG1:=hid (HG0.out.trans hg1)
 have HR1:Hid (w1.heap[w.heap.size]? = some (.cells #[.int .i64 0,.int .i64 0] 35)):=hid ((hg1.block _ (blk_lt HR0.out) (by intro e;cases e;omega)).trans HR0.out)
 clear hp1 hg1
 have HE2:=hid (number_any (-2000) 2000 b A c L E j1 w1 HP1.out)
 go_wp2_with fail
 refine HE2.out.mono ?_
 rintro e w2 hres
 cases h2:numO (-2000) 2000 L j1 with
 | no k er =>
  rw [h2] at hres
  obtain ⟨rfl,hg⟩:=hres
  have hrs:=HRS.out
  simp only [pointO,bnd,h1,h2] at hrs
  subst hrs
  go_wp2
  exact ⟨rfl,rfl,HG1.out.trans hg⟩
 | ok x j2 =>
 rw [h2] at hres
 obtain ⟨rfl,hp2,hg2⟩:=hres
 have HP2:=hid hp2
 have HG2:=hid (HG1.out.trans hg2)
 have HR2:Hid (w2.heap[w.heap.size]? = some (.cells #[.int .i64 0,.int .i64 0] 35)):=hid ((hg2.block _ (blk_lt HR1.out) (by intro e;cases e;omega)).trans HR1.out)
 clear hp2 hg2
 have HE3:Hid (Calls Tryz.prog 83 #[.pointer (some ⟨b,0,none⟩),.slice (some ⟨(w2).heap.size,0,none⟩) 1 1] ((w2).alloc (.cells #[.string ⟨#[44]⟩] 9)) (Res (fun _=>.tuple #[]) (w2) b A c L E (need kComma L j2))):=hid (expect_one kComma b A c L E j2 (w2) HP2.out)
 go_wp2_with fail
 refine HE3.out.mono ?_
 rintro e w3 hres
 cases h3:need kComma L j2 with
 | no k er =>
  rw [h3] at hres
  obtain ⟨rfl,hg⟩:=hres
  have hrs:=HRS.out
  simp only [pointO,bnd,h1,h2,h3] at hrs
  subst hrs
  go_wp2
  exact ⟨rfl,rfl,HG2.out.trans hg⟩
 | ok u3 j3 =>
 rw [h3] at hres
 obtain ⟨rfl,hp3,hg3⟩:=hres
 have HP3:=hid hp3
 have HG3:=hid (HG2.out.trans hg3)
 have HR3:Hid (w3.heap[w.heap.size]? = some (.cells #[.int .i64 0,.int .i64 0] 35)):=hid ((hg3.block _ (blk_lt HR2.out) (by intro e;cases e;omega)).trans HR2.out)
 clear hp3 hg3
 have HE4:=hid (number_any (-2000) 2000 b A c L E j3 w3 HP3.out)
 go_wp2_with fail
 refine HE4.out.mono ?_
 rintro e w4 hres
 cases h4:numO (-2000) 2000 L j3 with
 | no k er =>
  rw [h4] at hres
  obtain ⟨rfl,hg⟩:=hres
  have hrs:=HRS.out
  simp only [pointO,bnd,h1,h2,h3,h4] at hrs
  subst hrs
  go_wp2
  exact ⟨rfl,rfl,HG3.out.trans hg⟩
 | ok y j4 =>
 rw [h4] at hres
 obtain ⟨rfl,hp4,hg4⟩:=hres
 have HP4:=hid hp4
 have HG4:=hid (HG3.out.trans hg4)
 have HR4:Hid (w4.heap[w.heap.size]? = some (.cells #[.int .i64 0,.int .i64 0] 35)):=hid ((hg4.block _ (blk_lt HR3.out) (by intro e;cases e;omega)).trans HR3.out)
 clear hp4 hg4
 have HV4:=hid (heap_new w4 (.cells #[.int .i64 x,.int .i64 y] 35))
 have HP4b:=hid (HP4.out.below (bel1 w4 (.cells #[.int .i64 x,.int .i64 y] 35)))
 have HG4b:=hid (grown_below HG4.out (bel1 w4 (.cells #[.int .i64 x,.int .i64 y] 35)))
 have HR4b:=hid (p_below HR4.out (bel1 w4 (.cells #[.int .i64 x,.int .i64 y] 35)))
 have hlt4:=blk_lt HP4.out.obj
 go_upto_region 5 with fail
 generalize w4.alloc (.cells #[.int .i64 x,.int .i64 y] 35)=W4 at *
 have HE5:Hid (Calls Tryz.prog 83 #[.pointer (some ⟨b,0,none⟩),.slice (some ⟨(W4).heap.size,0,none⟩) 1 1] ((W4).alloc (.cells #[.string ⟨#[41]⟩] 9)) (Res (fun _=>.tuple #[]) (W4) b A c L E (need kShut L j4))):=hid (expect_one kShut b A c L E j4 (W4) HP4b.out)
 go_wp2_with fail
 refine HE5.out.mono ?_
 rintro e w5 hres
 cases h5:need kShut L j4 with
 | no k er =>
  rw [h5] at hres
  obtain ⟨rfl,hg⟩:=hres
  have hrs:=HRS.out
  simp only [pointO,bnd,h1,h2,h3,h4,h5] at hrs
  subst hrs
  go_wp2
  exact ⟨rfl,rfl,HG4b.out.trans hg⟩
 | ok u5 j5 =>
 rw [h5] at hres
 obtain ⟨rfl,hp5,hg5⟩:=hres
 have HP5:=hid hp5
 have HG5:=hid (HG4b.out.trans hg5)
 have HR5:Hid (w5.heap[w.heap.size]? = some (.cells #[.int .i64 0,.int .i64 0] 35)):=hid ((hg5.block _ (blk_lt HR4b.out) (by intro e;cases e;omega)).trans HR4b.out)
 have HV5:Hid (w5.heap[w4.heap.size]? = some (.cells #[.int .i64 x,.int .i64 y] 35)):=hid ((hg5.block _ (blk_lt HV4.out) (by intro e;cases e;omega)).trans HV4.out)
 clear hp5 hg5
 have hrs:=HRS.out
 simp only [pointO,bnd,h1,h2,h3,h4,h5,ret] at hrs
 subst hrs
 have v0:=cell_of HV5.out 0 _ rfl
 have v1:=cell_of HV5.out 1 _ rfl
 have r0:=cell_of HR5.out 0 _ rfl
 have r1:=cell_of HR5.out 1 _ rfl
 have f0:=free_of HR5.out 0
 have f1:=free_of HR5.out 1
 have HWF:Hid (((w5.setCell ⟨w.heap.size,0,none⟩ (.int .i64 x)).setCell ⟨w.heap.size,1,none⟩ (.int .i64 y)).heap[w.heap.size]? = some (.cells #[.int .i64 x,.int .i64 y] 35 (0,0))):=hid (block_set (block_set HR5.out 0 _) 1 _)
 have HPF:=hid ((HP5.out.new (show b≠w.heap.size by omega) HRW.out (Nat.le_refl _) 0 (.int .i64 x)).new (show b≠w.heap.size by omega) HRW.out (Nat.le_refl _) 1 (.int .i64 y))
 have HGF:=hid (grown_new (grown_new HG5.out (Nat.le_refl _) 0 (.int .i64 x)) (Nat.le_refl _) 1 (.int .i64 y))
 go_wp2_with fail
 clear v0 v1 r0 r1 f0 f1
 generalize (w5.setCell ⟨w.heap.size,0,none⟩ (.int .i64 x)).setCell ⟨w.heap.size,1,none⟩ (.int .i64 y)=WF at *
 have r0:=cell_of HWF.out 0 _ rfl
 have r1:=cell_of HWF.out 1 _ rfl
 refine bodyPost_ret (v:=ptV (x,y)) (by simp [results,Tryz.results144,go_sem,r0,r1,ptV]) rfl ?_
 exact ⟨rfl,HPF.out,HGF.out⟩
end Go.Proofs.YtnkkcknogkgdkaaGreatDoor.PaW

namespace Go.Proofs.YtnkkcknogkgdkaaGreatDoor.PaW
open Lib (hid)
open Go Go.RowKit Go.Proofs.YtnkkcknogkgdkaaGreatDoor.Mem Go.Proofs.YtnkkcknogkgdkaaGreatDoor.Pa
open Go.Proofs.YtnkkcknogkgdkaaGreatDoor.Lex (Tok)
open Go.Proofs.YtnkkcknogkgdkaaGreatDoor.LexW (tokCells)
/-- A block of cells of a type. -/
def Tagged (w:World) (g:Nat) (T:TypeId):Prop:=∃ cur fz,w.heap[g]? = some (.cells cur T fz)
theorem Tagged.lt {w:World} {g:Nat} {T:TypeId} (h:Tagged w g T):g < w.heap.size:=by
 obtain ⟨c,f,h⟩:=h
 exact (Array.getElem?_eq_some_iff.1 h).1
theorem own_tag {w:World} {base:Nat} {e:TypeId} {size n:Nat} {v:Value} {xs:List Value} (h:w.ownsRow base e size v n xs) {g:Nat} (hg:v.ownBlock=some g):Tagged w g e∧base≤g:=by
 rcases h.2 with ⟨rfl,_⟩ | ⟨g',cap,cur,rfl,hb,hh,_⟩
 ·cases hg
 ·cases hg
  exact ⟨⟨cur,_,hh⟩,hb⟩
/-- The blocks that are written are of a type, and the call's own. -/
def RowW (w:World) (base:Nat) (T:TypeId) (row:Option Nat):Prop:=∀ g,row=some g→(∀ T',Tagged w g T'→T'=T)∧base≤g
theorem RowW.none (w:World) (base:Nat) (T:TypeId):RowW w base T none:=fun g h=>by cases h
theorem RowW.at {w:World} {base:Nat} {T:TypeId} {b:Nat} {cs:Array Value} {fz:Nat×Nat} (h:w.heap[b]? = some (.cells cs T fz)) (hb:base≤b):RowW w base T (some b):=fun g e=>by
 cases e
 refine ⟨fun T' ht=>?_,hb⟩
 obtain ⟨c',f',h'⟩:=ht
 rw [h] at h'
 cases h'
 rfl
theorem RowW.own {w:World} {base:Nat} {e:TypeId} {size n:Nat} {v:Value} {xs:List Value} (h:w.ownsRow base e size v n xs):RowW w base e v.ownBlock:=fun g hg=>by
 obtain ⟨⟨c,f,h1⟩,h2⟩:=own_tag h hg
 refine ⟨fun T' ht=>?_,h2⟩
 obtain ⟨c',f',h'⟩:=ht
 rw [h1] at h'
 cases h'
 rfl
theorem RowW.mono {w:World} {base base':Nat} {T:TypeId} {row:Option Nat} (h:RowW w base T row) (hb:base'≤base):RowW w base' T row:=fun g e=>⟨(h g e).1,Nat.le_trans hb (h g e).2⟩
theorem heap_keep {w w':World} {row:Option Nat} {T T':TypeId} {base g:Nat} (hg:w.grownBy w' row) (hr:RowW w base T row) (hne:T≠T') {cur:Array Value} {fz:Nat×Nat} (h:w.heap[g]? = some (.cells cur T' fz)):w'.heap[g]? = some (.cells cur T' fz):=by
 have hlt:=(Array.getElem?_eq_some_iff.1 h).1
 refine (hg.block g hlt ?_).trans h
 intro he
 exact hne ((hr g he.symm).1 _ ⟨cur,fz,h⟩).symm
theorem own_keep {w w':World} {row:Option Nat} {T T':TypeId} {base base' size n:Nat} {v:Value} {xs:List Value} (hg:w.grownBy w' row) (hr:RowW w base T row) (hne:T≠T') (h:w.ownsRow base' T' size v n xs):w'.ownsRow base' T' size v n xs:=by
 refine ⟨h.1,?_⟩
 rcases h.2 with h0 | ⟨g,cap,cur,hv,hb,hh,r⟩
 ·exact .inl h0
 ·exact .inr ⟨g,cap,cur,hv,hb,heap_keep hg hr hne hh,r⟩
/-- A row that lies ahead of a call, or in a block of a type. -/
def At (T:TypeId) (base:Nat) (w:World) (A:Option Addr) (xs:List Value):Prop:=Row w A xs∧(xs≠[]→∀ g off,A=some ⟨g,off,none⟩→g < base∨Tagged w g T)
theorem At.keep {w w':World} {row:Option Nat} {T T':TypeId} {base:Nat} {A:Option Addr} {xs:List Value} (hg:w.grownBy w' row) (hr:RowW w base T' row) (hne:T'≠T) (h:At T base w A xs):At T base w' A xs:=by
 have hb:∀ g off,xs≠[]→A=some ⟨g,off,none⟩→g < w.heap.size→w'.heap[g]? = w.heap[g]?:=by
  intro g off hl hA hlt
  refine hg.block g hlt ?_
  intro he
  rcases h.2 hl g off hA with h1 | h1
  ·have:=(hr g he.symm).2;omega
  ·exact hne ((hr g he.symm).1 _ h1).symm
 constructor
 ·intro hx
  obtain ⟨g,off,hA,hlt,hc⟩:=h.1 hx
  refine ⟨g,off,hA,Nat.lt_of_lt_of_le hlt hg.size,fun j hj=>?_⟩
  rw [World.cell?_of_block (hb g off hx hA hlt)]
  exact hc j hj
 ·intro hl g off hA
  rcases h.2 hl g off hA with h1 | ⟨cur,fz,h1⟩
  ·exact .inl h1
  ·exact .inr ⟨cur,fz,(hb g off hl hA (Array.getElem?_eq_some_iff.1 h1).1).trans h1⟩
theorem At.of_own {w:World} {base b n m size c:Nat} {T:TypeId} {A:Option Addr} {xs:List Value} (h:w.ownsRow b T size (.slice A n c) m xs):At T base w A xs:=by
 obtain ⟨A',c',e,_⟩:=own_shape h
 cases e
 refine ⟨Row.of_own h,fun hl g off hA=>.inr ?_⟩
 subst hA
 exact (own_tag h rfl).1
theorem At.nil (T:TypeId) (base:Nat) (w:World) (A:Option Addr):At T base w A []:=⟨Row.nil _ _,fun h=>absurd rfl h⟩
theorem At.mono {T:TypeId} {base base':Nat} {w:World} {A:Option Addr} {xs:List Value} (h:At T base w A xs) (hb:base≤base'):At T base' w A xs:=⟨h.1,fun hl g off hA=>(h.2 hl g off hA).imp (fun h=>Nat.lt_of_lt_of_le h hb) id⟩
theorem At.below {T:TypeId} {base:Nat} {w w':World} {A:Option Addr} {xs:List Value} (h:At T base w A xs) (hb:Below w.heap.size w w'):At T base w' A xs :=
 h.keep (T':=T+1) (row:=none) ⟨hb.os,hb.tape,hb.output,hb.size,fun i hi _=>hb.block i hi⟩ (RowW.none _ _ _) (Nat.succ_ne_self T)
theorem own_grown {w w':World} {base b:Nat} {e:TypeId} {size n:Nat} {v:Value} {xs:List Value} (h:w.ownsRow base e size v n xs) (hg:w.grownBy w' (some b)) (hb:∀ k,v.ownBlock=some k→k≠b):w'.ownsRow base e size v n xs:=by
 refine ⟨h.1,?_⟩
 rcases h.2 with h0 | ⟨g,cap,cur,hv,hbg,hh,r⟩
 ·exact .inl h0
 ·refine .inr ⟨g,cap,cur,hv,hbg,(hg.block g (blk_lt hh) (fun e=>?_)).trans hh,r⟩
  injection e with e
  subst hv
  exact hb g rfl e
theorem own_old {w w':World} {base b:Nat} {e:TypeId} {size n:Nat} {v:Value} {xs:List Value} (h:w.ownsRow base e size v n xs) (hg:w.grownBy w' (some b)) (hb:b < base):w'.ownsRow base e size v n xs :=
 own_grown h hg (fun k hk=>by have:=(h.lt k hk).1;omega)
theorem old_block {w w':World} {row:Option Nat} {B g:Nat} {o:Obj} (hg:w.grownBy w' row) (hr:∀ k,row=some k→B≤k) (hlt:g < B) (h:w.heap[g]? = some o):w'.heap[g]? = some o :=
 (hg.block g (blk_lt h) (fun e=>by have:=hr g e.symm;omega)).trans h
theorem grown_wide {w w' w2:World} {b:Nat} {row:Option Nat} (h:w.grownBy w' (some b)) (hg:w'.grownBy w2 row) (hr:∀ k,row=some k→w.heap.size≤k):w.grownBy w2 (some b) :=
 ⟨hg.os.trans h.os,hg.tape.trans h.tape,hg.output.trans h.output,Nat.le_trans h.size hg.size,fun i hi hne=>(hg.block i (Nat.lt_of_lt_of_le hi h.size) (fun e=>by have:=hr i e.symm;omega)).trans (h.block i hi hne)⟩
theorem Pc.wide {w0 w w':World} {row:Option Nat} {b:Nat} {A:Option Addr} {c:Nat} {L:List Tok} {E i:Nat} (h:Pc w b A c L E i) (h0:Row w0 A (L.flatMap tokCells)) (hb:b < w0.heap.size) (hg:w.grownBy w' row) (hro:∀ k,row=some k→w0.heap.size≤k):Pc w' b A c L E i :=
 ⟨(hg.block b (blk_lt h.obj) (fun e=>by have:=hro b e.symm;omega)).trans h.obj,fun hne=>by
  obtain ⟨g0,off0,e0,hg0,_⟩:=h0 hne
  obtain ⟨g,off,e,hgl,hc⟩:=h.row hne
  rw [e0] at e
  cases e
  exact ⟨_,_,e0,Nat.lt_of_lt_of_le hgl hg.size,fun j hj=>by
   rw [World.cell?_of_block (hg.block g0 hgl (fun e=>by have:=hro g0 e.symm;omega))]
   exact hc j hj⟩,h.apart,h.few,h.ix⟩
theorem info_parts {o:Option TypeInfo} {z:Value} {s b:Nat} (h:o.map (fun i=>(i.zero,i.size,i.bytes))=some (some z,s,b)):∃ i,o=some i∧i.zero=some z∧i.size=s∧i.bytes=b:=by
 cases o with
 | none=>cases h
 | some i =>
  simp only [Option.map_some,Option.some.injEq,Prod.mk.injEq] at h
  exact ⟨i,rfl,h.1,h.2.1,h.2.2⟩
open Go.Proofs.YtnkkcknogkgdkaaGreatDoor.Ge (V)
attribute [local go_sem ↓] Go.wp_at_zero Go.wp_at_succ

def stepCells (s:Step):List Value:=[.bool s.arc,.int .i64 s.to.1,.int .i64 s.to.2,.int .i64 s.center.1,.int .i64 s.center.2,.bool s.cw]
def outV (o:Outline) (A:Option Addr) (d:Nat):Value:=.agg #[.bool o.circle,.int .i64 o.center.1,.int .i64 o.center.2,.int .i64 o.radius,.slice A o.steps.length d]
/-- An outline that a call has made, as it lies in memory: its steps in a block of steps. -/
def OutP (o:Outline) (w:World) (v:Value):Prop:=∃ (A:Option Addr) (d:Nat),v=outV o A d∧At 153 0 w A (o.steps.flatMap stepCells)∧o.steps.length≤d∧o.steps.length≤20000
def ResP {α:Type} (P:α→World→Value→Prop) (w:World) (b:Nat) (A:Option Addr) (c:Nat) (L:List Tok) (E:Nat) (r:Pa.R α) (e:Ending) (w':World):Prop:=match r with
 | .ok a j=>(∃ v,e=.returned v∧P a w' v)∧Pc w' b A c L E j∧w.grownBy w' (some b)
 | .no k er=>e=.panicked [wrongV (offs L E k) er]∧w.grownBy w' (some b)
set_option maxRecDepth 100000 in
set_option maxHeartbeats 2000000 in
theorem outline_circle (b:Nat) (A:Option Addr) (c:Nat) (L:List Tok) (E i:Nat) (w:World) (h:Pc w b A c L E i) (hc:isT L kCircle i=true) :
  Calls Tryz.prog 88 #[.pointer (some ⟨b,0,none⟩)] w (ResP OutP w b A c L E (circleO L (i+1))):=by
 have hlt:=blk_lt h.obj
 have HRW:=hid h.row
 have hsz:(w.alloc (.cells #[.bool false,.int .i64 0,.int .i64 0,.int .i64 0,.slice none 0 0] 55)).heap.size=w.heap.size+1:=by simp
 have hB2:=bel1 (w.alloc (.cells #[.bool false,.int .i64 0,.int .i64 0,.int .i64 0,.slice none 0 0] 55)) (.cells #[.bool false,.int .i64 0,.int .i64 0,.int .i64 0,.slice none 0 0] 55)
 have HRa:=hid (p_below (heap_new w (.cells #[.bool false,.int .i64 0,.int .i64 0,.int .i64 0,.slice none 0 0] 55)) hB2)
 have HOa:Hid (((w.alloc (.cells #[.bool false,.int .i64 0,.int .i64 0,.int .i64 0,.slice none 0 0] 55)).alloc (.cells #[.bool false,.int .i64 0,.int .i64 0,.int .i64 0,.slice none 0 0] 55)).heap[w.heap.size+1]? = some (.cells #[.bool false,.int .i64 0,.int .i64 0,.int .i64 0,.slice none 0 0] 55)):=hid (by have:=heap_new (w.alloc (.cells #[.bool false,.int .i64 0,.int .i64 0,.int .i64 0,.slice none 0 0] 55)) (.cells #[.bool false,.int .i64 0,.int .i64 0,.int .i64 0,.slice none 0 0] 55);rw [hsz] at this;exact this)
 have hB:=(bel1 w (.cells #[.bool false,.int .i64 0,.int .i64 0,.int .i64 0,.slice none 0 0] 55)).trans (hB2.mono (by rw [hsz];omega))
 have HPa:=hid (h.below hB)
 have HGa:=hid (grown_below (grown_refl w (some b)) hB)
 clear h hB hB2 hsz
 obtain ⟨RS,HRS⟩:∃ RS,Hid (circleO L (i+1)=RS):=⟨_,hid rfl⟩
 rw [HRS.out]
 go_enter Tryz.func88,Tryz.ntmps88
 go_upto_region 2 with fail
 generalize (w.alloc (.cells #[.bool false,.int .i64 0,.int .i64 0,.int .i64 0,.slice none 0 0] 55)).alloc (.cells #[.bool false,.int .i64 0,.int .i64 0,.int .i64 0,.slice none 0 0] 55)=Wa at *
 have HE0:Hid (Calls Tryz.prog 85 #[.pointer (some ⟨b,0,none⟩),.string ⟨#[99,105,114,99,108,101]⟩] Wa (Res Value.bool Wa b A c L E (.ok true (i+1)))):=hid (by
  have:=accept_any kCircle b A c L E i Wa HPa.out
  unfold optO at this
  rw [hc,if_pos rfl] at this
  exact this)
 go_wp2_with fail
 refine HE0.out.mono ?_
 rintro e w0 ⟨rfl,hp0,hg0⟩
 have HP0:=hid hp0
 have HG0:=hid (HGa.out.trans hg0)
 have HR0:=hid ((hg0.block _ (blk_lt HRa.out) (by intro e;cases e;omega)).trans HRa.out)
 have HO0:=hid ((hg0.block _ (blk_lt HOa.out) (by intro e;cases e;omega)).trans HOa.out)
 clear hp0 hg0
 have HE1:=hid (point_any b A c L E (i+1) w0 HP0.out)
 go_wp2_with fail
 refine HE1.out.mono ?_
 rintro e w1 hres
 cases h1:pointO L (i+1) with
 | no k er =>
  rw [h1] at hres
  obtain ⟨rfl,hg⟩:=hres
  have hrs:=HRS.out
  simp only [circleO,bnd,h1] at hrs
  subst hrs
  go_wp2
  exact ⟨rfl,rfl,HG0.out.trans hg⟩
 | ok v j1 =>
 rw [h1] at hres
 obtain ⟨rfl,hp1,hg1⟩:=hres
 have HP1:=hid hp1
 have HG1:=hid (HG0.out.trans hg1)
 have HR1:=hid ((hg1.block _ (blk_lt HR0.out) (by intro e;cases e;omega)).trans HR0.out)
 have HO1:=hid ((hg1.block _ (blk_lt HO0.out) (by intro e;cases e;omega)).trans HO0.out)
 clear hp1 hg1
 unfold ptV
 have o0:=cell_of HO1.out 0 _ rfl
 have q0:=free_of HO1.out 0
 have o1:=cell_of HO1.out 1 _ rfl
 have q1:=free_of HO1.out 1
 have o2:=cell_of HO1.out 2 _ rfl
 have q2:=free_of HO1.out 2
 have HPN2:=hid (((HP1.out.new (show b≠w.heap.size+1 by omega) HRW.out (show w.heap.size≤w.heap.size+1 by omega) 0 (.bool true)).new (show b≠w.heap.size+1 by omega) HRW.out (show w.heap.size≤w.heap.size+1 by omega) 1 (.int .i64 v.1)).new (show b≠w.heap.size+1 by omega) HRW.out (show w.heap.size≤w.heap.size+1 by omega) 2 (.int .i64 v.2))
 have HGN2:=hid (grown_new (grown_new (grown_new HG1.out (show w.heap.size≤w.heap.size+1 by omega) 0 (.bool true)) (show w.heap.size≤w.heap.size+1 by omega) 1 (.int .i64 v.1)) (show w.heap.size≤w.heap.size+1 by omega) 2 (.int .i64 v.2))
 have HO2:Hid ((((w1.setCell ⟨w.heap.size+1,0,none⟩ (.bool true)).setCell ⟨w.heap.size+1,1,none⟩ (.int .i64 v.1)).setCell ⟨w.heap.size+1,2,none⟩ (.int .i64 v.2)).heap[w.heap.size+1]? = some (.cells #[.bool true,.int .i64 v.1,.int .i64 v.2,.int .i64 0,.slice none 0 0] 55 (0,0))):=hid (block_set (block_set (block_set HO1.out 0 _) 1 _) 2 _)
 have HR2:Hid ((((w1.setCell ⟨w.heap.size+1,0,none⟩ (.bool true)).setCell ⟨w.heap.size+1,1,none⟩ (.int .i64 v.1)).setCell ⟨w.heap.size+1,2,none⟩ (.int .i64 v.2)).heap[w.heap.size]? = some (.cells #[.bool false,.int .i64 0,.int .i64 0,.int .i64 0,.slice none 0 0] 55)):=hid ((block_other _ _ _ _ (show w.heap.size≠w.heap.size+1 by omega)).trans ((block_other _ _ _ _ (show w.heap.size≠w.heap.size+1 by omega)).trans ((block_other _ _ _ _ (show w.heap.size≠w.heap.size+1 by omega)).trans HR1.out)))
 go_upto_region 4 with fail
 clear o0 o1 o2 q0 q1 q2
 generalize (((w1.setCell ⟨w.heap.size+1,0,none⟩ (.bool true)).setCell ⟨w.heap.size+1,1,none⟩ (.int .i64 v.1)).setCell ⟨w.heap.size+1,2,none⟩ (.int .i64 v.2))=W2 at *
 have HP2:=HPN2
 have HG2:=HGN2
 have HE2:Hid (Calls Tryz.prog 83 #[.pointer (some ⟨b,0,none⟩),.slice (some ⟨W2.heap.size,0,none⟩) 1 1] (W2.alloc (.cells #[.string ⟨#[114,97,100,105,117,115]⟩] 9)) (Res (fun _=>.tuple #[]) W2 b A c L E (need kRadius L j1))):=hid (expect_one kRadius b A c L E j1 W2 HP2.out)
 go_wp2_with fail
 refine HE2.out.mono ?_
 rintro e w2 hres
 cases h2:need kRadius L j1 with
 | no k er =>
  rw [h2] at hres
  obtain ⟨rfl,hg⟩:=hres
  have hrs:=HRS.out
  simp only [circleO,bnd,h1,h2] at hrs
  subst hrs
  go_wp2
  exact ⟨rfl,rfl,HG2.out.trans hg⟩
 | ok u2 j2 =>
 rw [h2] at hres
 obtain ⟨rfl,hp2,hg2⟩:=hres
 have HP2:=hid hp2
 have HG2:=hid (HG2.out.trans hg2)
 have HR3:=hid ((hg2.block _ (blk_lt HR2.out) (by intro e;cases e;omega)).trans HR2.out)
 have HO3:=hid ((hg2.block _ (blk_lt HO2.out) (by intro e;cases e;omega)).trans HO2.out)
 clear hp2 hg2
 have HE3:=hid (number_any 1 2000 b A c L E j2 w2 HP2.out)
 go_wp2_with fail
 refine HE3.out.mono ?_
 rintro e w3 hres
 cases h3:numO 1 2000 L j2 with
 | no k er =>
  rw [h3] at hres
  obtain ⟨rfl,hg⟩:=hres
  have hrs:=HRS.out
  simp only [circleO,bnd,h1,h2,h3] at hrs
  subst hrs
  go_wp2
  exact ⟨rfl,rfl,HG2.out.trans hg⟩
 | ok r j3 =>
 rw [h3] at hres
 obtain ⟨rfl,hp3,hg3⟩:=hres
 have HP3:=hid hp3
 have HG3:=hid (HG2.out.trans hg3)
 have HR4:=hid ((hg3.block _ (blk_lt HR3.out) (by intro e;cases e;omega)).trans HR3.out)
 have HO4:=hid ((hg3.block _ (blk_lt HO3.out) (by intro e;cases e;omega)).trans HO3.out)
 clear hp3 hg3
 have o3:=cell_of HO4.out 3 _ rfl
 have q3:=free_of HO4.out 3
 have HR3:=HR4
 have HPN5:=hid (HP3.out.new (show b≠w.heap.size+1 by omega) HRW.out (show w.heap.size≤w.heap.size+1 by omega) 3 (.int .i64 r))
 have HGN5:=hid (grown_new HG3.out (show w.heap.size≤w.heap.size+1 by omega) 3 (.int .i64 r))
 have HO5:Hid ((w3.setCell ⟨w.heap.size+1,3,none⟩ (.int .i64 r)).heap[w.heap.size+1]? = some (.cells #[.bool true,.int .i64 v.1,.int .i64 v.2,.int .i64 r,.slice none 0 0] 55 (0,0))):=hid (block_set HO4.out 3 _)
 have HR5:Hid ((w3.setCell ⟨w.heap.size+1,3,none⟩ (.int .i64 r)).heap[w.heap.size]? = some (.cells #[.bool false,.int .i64 0,.int .i64 0,.int .i64 0,.slice none 0 0] 55)):=hid ((block_other _ _ _ _ (show w.heap.size≠w.heap.size+1 by omega)).trans HR3.out)
 go_upto_region 6 with fail
 clear o3 q3
 generalize (w3.setCell ⟨w.heap.size+1,3,none⟩ (.int .i64 r))=W4 at *
 have HE4:Hid (Calls Tryz.prog 83 #[.pointer (some ⟨b,0,none⟩),.slice (some ⟨W4.heap.size,0,none⟩) 1 1] (W4.alloc (.cells #[.string ⟨#[59]⟩] 9)) (Res (fun _=>.tuple #[]) W4 b A c L E (need kSemi L j3))):=hid (expect_one kSemi b A c L E j3 W4 HPN5.out)
 go_wp2_with fail
 refine HE4.out.mono ?_
 rintro e w4 hres
 cases h4:need kSemi L j3 with
 | no k er =>
  rw [h4] at hres
  obtain ⟨rfl,hg⟩:=hres
  have hrs:=HRS.out
  simp only [circleO,bnd,h1,h2,h3,h4] at hrs
  subst hrs
  go_wp2
  exact ⟨rfl,rfl,HGN5.out.trans hg⟩
 | ok u4 j4 =>
 rw [h4] at hres
 obtain ⟨rfl,hp4,hg4⟩:=hres
 have HP4:=hid hp4
 have HG4:=hid (HGN5.out.trans hg4)
 have HR6:=hid ((hg4.block _ (blk_lt HR5.out) (by intro e;cases e;omega)).trans HR5.out)
 have HO6:=hid ((hg4.block _ (blk_lt HO5.out) (by intro e;cases e;omega)).trans HO5.out)
 clear hp4 hg4
 have hrs:=HRS.out
 simp only [circleO,bnd,h1,h2,h3,h4,ret] at hrs
 subst hrs
 have o0:=cell_of HO6.out 0 _ rfl
 have z0:=cell_of HR6.out 0 _ rfl
 have q0:=free_of HR6.out 0
 have o1:=cell_of HO6.out 1 _ rfl
 have z1:=cell_of HR6.out 1 _ rfl
 have q1:=free_of HR6.out 1
 have o2:=cell_of HO6.out 2 _ rfl
 have z2:=cell_of HR6.out 2 _ rfl
 have q2:=free_of HR6.out 2
 have o3:=cell_of HO6.out 3 _ rfl
 have z3:=cell_of HR6.out 3 _ rfl
 have q3:=free_of HR6.out 3
 have o4:=cell_of HO6.out 4 _ rfl
 have z4:=cell_of HR6.out 4 _ rfl
 have q4:=free_of HR6.out 4
 have HPF:=hid (((((HP4.out.new (show b≠w.heap.size by omega) HRW.out (Nat.le_refl _) 0 (.bool true)).new (show b≠w.heap.size by omega) HRW.out (Nat.le_refl _) 1 (.int .i64 v.1)).new (show b≠w.heap.size by omega) HRW.out (Nat.le_refl _) 2 (.int .i64 v.2)).new (show b≠w.heap.size by omega) HRW.out (Nat.le_refl _) 3 (.int .i64 r)).new (show b≠w.heap.size by omega) HRW.out (Nat.le_refl _) 4 (.slice none 0 0))
 have HGF:=hid (grown_new (grown_new (grown_new (grown_new (grown_new HG4.out (Nat.le_refl _) 0 (.bool true)) (Nat.le_refl _) 1 (.int .i64 v.1)) (Nat.le_refl _) 2 (.int .i64 v.2)) (Nat.le_refl _) 3 (.int .i64 r)) (Nat.le_refl _) 4 (.slice none 0 0))
 have HWF:Hid ((((((w4.setCell ⟨w.heap.size,0,none⟩ (.bool true)).setCell ⟨w.heap.size,1,none⟩ (.int .i64 v.1)).setCell ⟨w.heap.size,2,none⟩ (.int .i64 v.2)).setCell ⟨w.heap.size,3,none⟩ (.int .i64 r)).setCell ⟨w.heap.size,4,none⟩ (.slice none 0 0)).heap[w.heap.size]? = some (.cells #[.bool true,.int .i64 v.1,.int .i64 v.2,.int .i64 r,.slice none 0 0] 55 (0,0))):=hid (block_set (block_set (block_set (block_set (block_set HR6.out 0 _) 1 _) 2 _) 3 _) 4 _)
 go_wp2_with fail
 clear o0 o1 o2 o3 o4 z0 z1 z2 z3 z4 q0 q1 q2 q3 q4
 generalize (((((w4.setCell ⟨w.heap.size,0,none⟩ (.bool true)).setCell ⟨w.heap.size,1,none⟩ (.int .i64 v.1)).setCell ⟨w.heap.size,2,none⟩ (.int .i64 v.2)).setCell ⟨w.heap.size,3,none⟩ (.int .i64 r)).setCell ⟨w.heap.size,4,none⟩ (.slice none 0 0))=WF at *
 have z0:=cell_of HWF.out 0 _ rfl
 have z1:=cell_of HWF.out 1 _ rfl
 have z2:=cell_of HWF.out 2 _ rfl
 have z3:=cell_of HWF.out 3 _ rfl
 have z4:=cell_of HWF.out 4 _ rfl
 refine bodyPost_ret (v:=outV ⟨true,v,r,[]⟩ none 0) (by simp [results,Tryz.results88,go_sem,z0,z1,z2,z3,z4,outV]) rfl ?_
 exact ⟨⟨_,rfl,none,0,rfl,At.nil _ _ _ _,Nat.le_refl _,by simp⟩,HPF.out,HGF.out⟩
end Go.Proofs.YtnkkcknogkgdkaaGreatDoor.PaW
