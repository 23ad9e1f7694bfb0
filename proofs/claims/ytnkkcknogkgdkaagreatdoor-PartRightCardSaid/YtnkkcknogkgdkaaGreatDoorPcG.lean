/- Walk: awake of the part language's statements: the document's example. Conditions: none. -/
import Derived.Test.YtnkkcknogkgdkaaGreatDoorPaP2
import Derived.Test.YtnkkcknogkgdkaaGreatDoorPfA
import Derived.Test.YtnkkcknogkgdkaaGreatDoorLexW11
import Derived.Test.YtnkkcknogkgdkaaGreatDoorPcE
import Derived.Test.YtnkkcknogkgdkaaGreatDoorPcF

namespace Go.Proofs.YtnkkcknogkgdkaaGreatDoor.PaW
open Lib (hid)
open Go Go.RowKit Go.Proofs.YtnkkcknogkgdkaaGreatDoor.Mem Go.Proofs.YtnkkcknogkgdkaaGreatDoor.Pa
open Go.Proofs.YtnkkcknogkgdkaaGreatDoor.Ge (V)
open Go.Proofs.YtnkkcknogkgdkaaGreatDoor.Lex (Tok)
open Go.Proofs.YtnkkcknogkgdkaaGreatDoor.LexW (tokCells)
attribute [local go_sem ↓] Go.wp_at_zero Go.wp_at_succ

open Go.Proofs.YtnkkcknogkgdkaaGreatDoor.LexW (tokens_any rtokens_any TokensPost toksCells)
/-- What awake answers. -/
def Awake:Prop:=∀ W:World,Calls Tryz.prog 12 #[] W fun e w'=>e=.returned (.bool true)∧Below W.heap.size W w'
end Go.Proofs.YtnkkcknogkgdkaaGreatDoor.PaW

namespace Go.Proofs.YtnkkcknogkgdkaaGreatDoor.PaW
open Lib (hid)
open Go Go.RowKit Go.Proofs.YtnkkcknogkgdkaaGreatDoor.Mem Go.Proofs.YtnkkcknogkgdkaaGreatDoor.Pa
open Go.Proofs.YtnkkcknogkgdkaaGreatDoor.Ge (V)
open Go.Proofs.YtnkkcknogkgdkaaGreatDoor.Lex (Tok)
open Go.Proofs.YtnkkcknogkgdkaaGreatDoor.LexW (tokCells)
attribute [local go_sem ↓] Go.wp_at_zero Go.wp_at_succ

open Go.Proofs.YtnkkcknogkgdkaaGreatDoor.GeW (ptCells pt_len RowV rowVal ShapeM ShapeIn shapeVals holesL holesVal shapeOk_any shapeArea_any areaS ringsM)
open Go.Proofs.YtnkkcknogkgdkaaGreatDoor.Ge (canonR cleanR cleanE shapeB area)
def exT:List UInt8:=[112,97,114,116,32,97,32,123,32,103,114,97,100,101,32,115,59,32,116,117,114,110,115,32,48,44,32,50,59,32,114,105,110,103,32,40,48,44,32,48,41,32,40,52,44,32,48,41,32,40,52,44,32,50,41,32,40,48,44,32,50,41,59,32,125]
def exO:Outline:=⟨false,(0,0),0,[⟨false,(0,0),(0,0),false⟩,⟨false,(4,0),(0,0),false⟩,⟨false,(4,2),(0,0),false⟩,⟨false,(0,2),(0,0),false⟩]⟩
def exS:Pa.Source:=⟨[97],[115],0,[0,2],1,exO,[]⟩
def exR:List V:=[(0,0),(4,0),(4,2),(0,2)]
theorem ex_parse:parse exT=([exS],0,0):=by kernel_rfl
theorem ex_valid:sourcesOk [exS]=true:=by kernel_rfl
theorem ex_named:namedOk [97] [115] 0 [0,2]=true:=by kernel_rfl
theorem ex_straight:straight exO=true:=by kernel_rfl
theorem ex_clean:cleanR (ptsOf exO)=exR:=by kernel_rfl
theorem ex_err:cleanE (ptsOf exO)=0:=by kernel_rfl
theorem ex_canon:canonR exR=exR:=by kernel_rfl
theorem ex_shape:shapeB exR []=true:=by kernel_rfl
theorem ex_area:area exR=16:=by kernel_rfl
set_option maxRecDepth 100000 in
set_option maxHeartbeats 4000000 in
theorem awake_any:Awake:=fun w=>by
 have HP:Hid (∀ W,Calls Tryz.prog 13 #[.string ⟨#[112,97,114,116,32,97,32,123,32,103,114,97,100,101,32,115,59,32,116,117,114,110,115,32,48,44,32,50,59,32,114,105,110,103,32,40,48,44,32,48,41,32,40,52,44,32,48,41,32,40,52,44,32,50,41,32,40,48,44,32,50,41,59,32,125]⟩] W (ParQ ([exS],0,0) W)):=hid (fun W=>by
  have:=parse_any exT W
  rw [ex_parse] at this
  exact this)
 go_enter Tryz.func12,Tryz.ntmps12
 go_wp2_with fail
 refine (HP.out _).mono ?_
 rintro e w1 ⟨ms,A,d,hms,rfl,hd,_,hin,hb1⟩
 obtain ⟨m,rfl⟩:∃ m,ms=[m]:=by
  have hl:=congrArg List.length hms
  rw [List.length_map] at hl
  exact List.length_eq_one_iff.1 hl
 have hsrc:m.src=exS:=by simpa using hms
 have h1:m.name=[97]:=congrArg Source.name hsrc
 have h2:m.grade=[115]:=congrArg Source.grade hsrc
 have h3:m.grain=0:=congrArg Source.grain hsrc
 have h4:m.turns=[0,2]:=congrArg Source.turns hsrc
 have h5:m.outer.o=exO:=congrArg Source.outer hsrc
 have h6:m.holes=[]:=by
  have:=congrArg Source.holes hsrc
  exact List.map_eq_nil_iff.1 this
 have HIN:=hid (hin.2 m (List.mem_cons_self ..))
 have HMK:=hid (fun W (hW:SrcIn 55 153 0 W m)=>make0_any m W hW (by rw [h1,h2];decide) h6 (by rw [h5];exact ex_straight) (by rw [hsrc];exact ex_valid) (by rw [h5];exact ex_err) (by rw [h5,ex_clean];exact ex_shape) (by rw [h5];decide) (by rw [h5,ex_clean];decide) (by rw [h5,ex_clean,ex_canon];decide))
 rw [h5,ex_clean,ex_canon,h1,h2,h3,h4] at HMK
 obtain ⟨g,off,hAe,hg,ca⟩:=row_get src_len (by decide) hin.1.1 (Nat.zero_lt_one)
 have a0:=ca 0 (Nat.zero_lt_one) 0 (by decide)
 have a1:=ca 0 (Nat.zero_lt_one) 1 (by decide)
 have a2:=ca 0 (Nat.zero_lt_one) 2 (by decide)
 have a3:=ca 0 (Nat.zero_lt_one) 3 (by decide)
 have a4:=ca 0 (Nat.zero_lt_one) 4 (by decide)
 have a5:=ca 0 (Nat.zero_lt_one) 5 (by decide)
 have a6:=ca 0 (Nat.zero_lt_one) 6 (by decide)
 have a7:=ca 0 (Nat.zero_lt_one) 7 (by decide)
 have a8:=ca 0 (Nat.zero_lt_one) 8 (by decide)
 have a9:=ca 0 (Nat.zero_lt_one) 9 (by decide)
 have a10:=ca 0 (Nat.zero_lt_one) 10 (by decide)
 have HT:=hid h4
 have hl4:m.turns.length=2:=by rw [h4];rfl
 clear ca hms hsrc h1 h2 h3 h5 h6 hd hin
 subst hAe
 simp only [List.getElem_cons_zero,srcCells,strV,List.getElem?_cons_zero,List.getElem?_cons_succ,Nat.add_zero,Nat.zero_mul] at a0 a1 a2 a3 a4 a5 a6 a7 a8 a9 a10
 unfold srcCells strV at HMK
 rw [hl4] at a3
 have HL4:=hid hl4
 rw [hl4] at HMK
 clear h4 hl4
 simp only [List.length_cons,List.length_nil]
 go_wp2_with fail
 refine (HMK.out _ HIN.out).mono ?_
 rintro e w2 ⟨⟨p,rfl,hpin,q1,q2,q3,q4,q5,q6⟩,hb2⟩
 have HB2:=hid (hb1.trans (hb2.mono hb1.size))
 have HPI:=hid hpin
 have HQ:=hid (And.intro q1 (And.intro q2 (And.intro q3 (And.intro q4 (And.intro q5 q6)))))
 clear hb1 hb2 hpin q1 q2 q3 q4 q5 q6 HIN HMK a0 a1 a2 a3 a4 a5 a6 a7 a8 a9 a10
 unfold partCells strV rowVal holesVal
 have hb3:=bel1 w2 (.cells #[.string ⟨p.name.toArray⟩,.string ⟨p.grade.toArray⟩,.int .i64 p.grain,.slice p.tA p.turns.length p.tc,.slice p.sh.o.A p.sh.o.l.length p.sh.o.k,.slice p.sh.B p.sh.hs.length p.sh.k] 50)
 have HX3:=hid (heap_new w2 (.cells #[.string ⟨p.name.toArray⟩,.string ⟨p.grade.toArray⟩,.int .i64 p.grain,.slice p.tA p.turns.length p.tc,.slice p.sh.o.A p.sh.o.l.length p.sh.o.k,.slice p.sh.B p.sh.hs.length p.sh.k] 50))
 have HB3:=hid (HB2.out.trans (hb3.mono HB2.out.size))
 have HP3:=hid (HPI.out.below hb3)
 have HAR:=hid (shapeArea_any p.sh _ HP3.out.2.1 (by unfold holesL;rw [HQ.out.2.2.2.2.2,HQ.out.2.2.2.2.1];exact ex_shape))
 rw [show 2*area p.sh.o.l - areaS (ringsM p.sh)=16 by unfold ringsM;rw [HQ.out.2.2.2.2.2,HQ.out.2.2.2.2.1];simp only [areaS];rw [HQ.out.2.2.2.2.1,ex_area];decide] at HAR
 have HRT:=hid (fun W (hW:PartIn W p)=>right0_any p W hW (by rw [HQ.out.1,HQ.out.2.1,HQ.out.2.2.1,HQ.out.2.2.2.1];exact ex_named) HQ.out.2.2.2.2.2 (by rw [HQ.out.2.2.2.2.1];exact ex_shape) (by rw [HQ.out.2.2.2.2.1];exact ex_canon))
 unfold partCells strV rowVal holesVal at HRT
 unfold shapeVals rowVal holesVal at HAR
 clear hb3
 go_upto_region 5 with fail
 generalize w2.alloc (.cells #[.string ⟨p.name.toArray⟩,.string ⟨p.grade.toArray⟩,.int .i64 p.grain,.slice p.tA p.turns.length p.tc,.slice p.sh.o.A p.sh.o.l.length p.sh.o.k,.slice p.sh.B p.sh.hs.length p.sh.k] 50)=W3 at *
 generalize w2.heap.size=pb at *
 have x4:=cell_of HX3.out 4 _ rfl
 have x5:=cell_of HX3.out 5 _ rfl
 go_wp2_with fail
 refine HAR.out.mono ?_
 rintro e w4 ⟨rfl,hb4⟩
 have HX4:=hid (p_below HX3.out hb4)
 have HP4:=hid (HP3.out.below hb4)
 have HB4:=hid (HB3.out.trans (hb4.mono HB3.out.size))
 clear hb4 x4 x5 HAR
 have x0:=cell_of HX4.out 0 _ rfl
 have x1:=cell_of HX4.out 1 _ rfl
 have x2:=cell_of HX4.out 2 _ rfl
 have x3:=cell_of HX4.out 3 _ rfl
 have x4:=cell_of HX4.out 4 _ rfl
 have x5:=cell_of HX4.out 5 _ rfl
 go_wp2_with fail
 refine (HRT.out w4 HP4.out).mono ?_
 rintro e w5 ⟨rfl,hb5⟩
 go_wp2
 go_ret
 exact ⟨rfl,HB4.out.trans (hb5.mono HB4.out.size)⟩
end Go.Proofs.YtnkkcknogkgdkaaGreatDoor.PaW
