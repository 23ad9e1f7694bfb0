/- Walks: of the reference: the rings and the edges of a shape. Conditions: the shape lies in memory; its rings have 2 to 200 points. -/
import Derived.Test.YtnmmhcchpcbeeaaGreatSh5

namespace Go.Proofs.YtnmmhcchpcbeeaaGreat.GeW
open Lib (hid)
open Go Go.RowKit Go.Proofs.YtnmmhcchpcbeeaaGreat.Mem Go.Proofs.YtnmmhcchpcbeeaaGreat.Ge
attribute [local go_sem ↓] Go.wp_at_zero Go.wp_at_succ
set_option maxRecDepth 100000 in
set_option maxHeartbeats 8000000 in
theorem rshapeOk_any (m:ShapeM) (w:World) (h:ShapeIn w m) :
  Calls Tryz.prog 23 #[.agg (shapeVals m)] w fun e w'=>e=.returned (.bool (rshapeB m.o.l (holesL m)))∧Below w.heap.size w w':=by
 have HS:=hid h
 have HF:=hid h.few
 have hfew:=h.few
 have HO:=hid (one_vec w (.cells #[.slice m.o.A m.o.l.length m.o.k,.slice m.B m.hs.length m.k] 29))
 have HB0:=hid HO.out.1
 have H2:=hid HO.out.2
 obtain ⟨rb,HRB0⟩:∃ rb,Hid (rb=rshapeB m.o.l (holesL m)):=⟨_,hid rfl⟩
 obtain ⟨ah,HAH⟩:∃ ah,Hid (ah=allFrom (rholeB m.o.l (holesL m)) m.hs.length 0):=⟨_,hid rfl⟩
 have HRB1:Hid (rb=((decide (m.hs.length≤6)&&rringB m.o.l)&&(ah&&decide (total (m.o.l::holesL m)≤80)))):=hid (by
  rw [HRB0.out,HAH.out]
  unfold rshapeB
  have e:(holesL m).length=m.hs.length:=by simp [holesL]
  rw [e])
 rw [← HRB0.out]
 have HUN:Hid (shapeVals m=#[.slice m.o.A m.o.l.length m.o.k,.slice m.B m.hs.length m.k]):=hid rfl
 rw [HUN.out]
 have HRW0:Hid (∀ W',Below w.heap.size w W'→∀ x∈ringsM m,Row W' x.A (x.l.flatMap ptCells)):=hid (fun W' hW x hx=>(h.row hx).below hW)
 have HRH0:Hid (∀ W',Below w.heap.size w W'→Row W' m.B (m.hs.map rowVal)):=hid (fun W' hW=>h.rB.below hW)
 have hsm:=h.short m.o (by simp [ringsM])
 have HRV:=hid (fun W (hW:Below w.heap.size w W)=>rring_any m.o.l m.o.A m.o.k W (h.ro.below hW) (by omega))
 clear h HUN HRB0
 have c0:(w.alloc (.cells #[.slice m.o.A m.o.l.length m.o.k,.slice m.B m.hs.length m.k] 29)).cell? ⟨w.heap.size,0,none⟩=some (.slice m.o.A m.o.l.length m.o.k):=by rw [Lib.cell_of_heap H2.out];rfl
 have c1:(w.alloc (.cells #[.slice m.o.A m.o.l.length m.o.k,.slice m.B m.hs.length m.k] 29)).cell? ⟨w.heap.size,1,none⟩=some (.slice m.B m.hs.length m.k):=by rw [Lib.cell_of_heap H2.out];rfl
 by_cases h6:m.hs.length≤6
 case neg =>
  have d6:decide (6 < (m.hs.length:Int))=true:=decide_eq_true (by omega)
  have HF0:Hid (rb=false):=hid (by rw [HRB1.out];simp [h6])
  clear h6 hfew
  go_enter Tryz.func23,Tryz.ntmps23
  go_wp2
  go_ret
  rw [HF0.out]
  exact ⟨rfl,HB0.out⟩
 case pos =>
  have d6:decide (6 < (m.hs.length:Int))=false:=decide_eq_false (by omega)
  cases hv:rringB m.o.l
  case false =>
   have HF0:Hid (rb=false):=hid (by rw [HRB1.out,hv];simp)
   rw [hv] at HRV
   clear h6 hfew hv
   go_enter Tryz.func23,Tryz.ntmps23
   go_wp2_with fail
   refine (HRV.out _ HB0.out).mono ?_
   rintro e w3 ⟨rfl,hb3⟩
   go_wp2
   go_ret
   rw [HF0.out]
   exact ⟨rfl,HB0.out.trans (hb3.mono HB0.out.size)⟩
  case true =>
   have HVO:Hid (ringB m.o.l=true):=hid (by rw [← ring_same];exact hv)
   have HRB2:Hid (rb=(ah&&decide (total (m.o.l::holesL m)≤80))):=hid (by rw [HRB1.out,hv,decide_eq_true h6];rfl)
   have HRB:Hid (rb=(ah&&decide (total (m.o.l::holesL m)≤80))):=HRB2
   rw [hv] at HRV
   clear h6 hv HRB1 HRB2
   have H6:=hid hfew
   go_enter Tryz.func23,Tryz.ntmps23
   go_upto_region 1 with fail
   generalize hWA:w.alloc (.cells #[.slice m.o.A m.o.l.length m.o.k,.slice m.B m.hs.length m.k] 29)=W at *
   clear hWA
   go_wp2_with fail
   refine (HRV.out _ HB0.out).mono ?_
   rintro e w3 ⟨rfl,hb3⟩
   have HB3:=hid hb3
   have HRW:Hid (∀ W',Below W.heap.size W W'→∀ x∈ringsM m,Row W' x.A (x.l.flatMap ptCells)):=hid (fun W' hW x hx=>HRW0.out W' (HB0.out.trans (hW.mono HB0.out.size)) x hx)
   have HRH:Hid (∀ W',Below W.heap.size W W'→Row W' m.B (m.hs.map rowVal)):=hid (fun W' hW=>HRH0.out W' (HB0.out.trans (hW.mono HB0.out.size)))
   clear c0 c1 hb3 HRV hsm
   have c0:w3.cell? ⟨w.heap.size,0,none⟩=some (.slice m.o.A m.o.l.length m.o.k):=by rw [Lib.cell_of_heap ((HB3.out.block _ (lt_of_block H2.out)).trans H2.out)];rfl
   have c1:w3.cell? ⟨w.heap.size,1,none⟩=some (.slice m.B m.hs.length m.k):=by rw [Lib.cell_of_heap ((HB3.out.block _ (lt_of_block H2.out)).trans H2.out)];rfl
   go_wp2
   clear c0 c1
   go_loopw [3,4,5,6] (fun n i _ _ wr=>∃ k:Nat,n=.int .i64 (total (m.o.l::(holesL m).take k):Nat)∧i=.int .i64 (k:Int)∧k≤m.hs.length∧Hid (ah=allFrom (rholeB m.o.l (holesL m)) (m.hs.length - k) k)∧Hid (∀ j,j < k→ringB (hAt (holesL m) j)=true)∧Hid (Below W.heap.size W wr)) (fun _ i _ _ _=>m.hs.length - (intOf i).toNat)
   case atStart=>exact ⟨0,by simp [total],rfl,Nat.zero_le _,HAH,hid (fun j h=>absurd h (Nat.not_lt_zero j)),HB3⟩
   case round =>
    obtain ⟨k,rfl,rfl,hk,HD,HVH,HB⟩:=hrel
    by_cases hlt:k < m.hs.length
    ·skip
     have HD1:Hid (ah=(rholeB m.o.l (holesL m) k&&allFrom (rholeB m.o.l (holesL m)) (m.hs.length - (k+1)) (k+1))):=hid (by rw [HD.out,allFrom_step hlt])
     obtain ⟨g,off,hB,hg,hc⟩:=row_one (HRH.out W (Below.refl _ _)) (k:=k) (by simpa using hlt)
     have HCA:Hid (∀ j (h:j < m.hs.length),W.cell? ⟨g,off+j,none⟩=some (rowVal m.hs[j])):=hid (fun j h=>by rw [hc j (by simpa using h),List.getElem_map])
     have HGW:=hid hg
     have HAT:Hid (hAt (holesL m) k=m.hs[k].l):=hid (by unfold hAt holesL;rw [List.getD_eq_getElem?_getD,List.getElem?_eq_getElem (by simpa using hlt)];simp)
     have ck:=(HB.out.cell (p:=⟨g,off+k,none⟩) hg).trans (HCA.out k hlt)
     have HXM:Hid (m.hs[k]∈ringsM m):=hid (List.mem_cons_of_mem _ (List.getElem_mem hlt))
     have hsx:=HS.out.short m.hs[k] HXM.out
     have ho:=HVO.out
     have hom:m.o∈ringsM m:=by simp [ringsM]
     have htk:total (m.o.l::(holesL m).take k)≤1000*1001:=by
      refine Nat.le_trans (total_le 1000 _ (fun y hy=>?_)) ?_
      ·rcases List.mem_cons.1 hy with rfl | hy
       ·exact (HS.out.short m.o hom).1
       ·obtain ⟨z,hz,rfl⟩:=List.mem_map.1 (List.mem_of_mem_take hy)
        exact (HS.out.short z (List.mem_cons_of_mem _ hz)).1
      ·have:=HF.out
       simp [holesL]
       omega
     have HTN:Hid ((total (m.o.l::(holesL m).take (k+1)):Int)=(total (m.o.l::(holesL m).take k):Int)+(m.hs[k].l.length:Int)):=hid (by
      have e:(holesL m).take (k+1)=(holesL m).take k++[m.hs[k].l]:=by
       rw [List.take_succ_eq_append_getElem (by simpa [holesL] using hlt)]
       simp [holesL]
      rw [e,← List.cons_append,total_snoc]
      omega)
     clear hc hg
     obtain ⟨pq,HPQ0⟩:∃ pq,Hid (pq=allFrom (fun j=>rpairB m.hs[k].l (hAt (holesL m) j)) k 0):=⟨_,hid rfl⟩
     have HHB:Hid (rholeB m.o.l (holesL m) k=((rringB m.hs[k].l&&(!rmeets m.hs[k].l m.o.l&&insideAll m.hs[k].l m.o.l))&&pq)):=hid (by unfold rholeB;rw [HAT.out,HPQ0.out])
     generalize m.hs[k]=x at *
     have x1:IntKind.i64.wrap ((total (m.o.l::(holesL m).take k):Int)+(x.l.length:Int))=(total (m.o.l::(holesL m).take k):Int)+(x.l.length:Int):=by rw [IntKind.wrap_i64];omega
     have HRV2:=hid (fun W' (hW:Below W.heap.size W W')=>rring_any x.l x.A x.k W' (HRW.out W' hW x HXM.out) (by omega))
     generalize (total (m.o.l::(holesL m).take k):Int)=tn at *
     have hk1:(0:Int)≤(k:Int):=by omega
     have hk2:(k:Int) < (m.hs.length:Int):=by omega
     have c0:wr.cell? ⟨w.heap.size,0,none⟩=some (.slice m.o.A m.o.l.length m.o.k):=by rw [Lib.cell_of_heap ((HB.out.block _ (lt_of_block H2.out)).trans H2.out)];rfl
     have c1:wr.cell? ⟨w.heap.size,1,none⟩=some (.slice m.B m.hs.length m.k):=by rw [Lib.cell_of_heap ((HB.out.block _ (lt_of_block H2.out)).trans H2.out)];rfl
     unfold rowVal at ck
     rw [hB] at c1 ⊢
     cases hv:rringB x.l
     case false =>
      have HF0:Hid (rb=false):=hid (by rw [HRB.out,HD1.out,HHB.out,hv];simp)
      rw [hv] at HRV2
      clear hv ho
      go_wp2_with fail
      refine (HRV2.out _ HB.out).mono ?_
      rintro e w5 ⟨rfl,hb⟩
      have HB5:=hid (HB.out.trans (hb.mono HB.out.size))
      clear hb ck c0 c1 x1
      go_wp2
      go_ret
      rw [HF0.out]
      exact ⟨rfl,HB0.out.trans (HB5.out.mono HB0.out.size)⟩
     case true =>
      have hxv:ringB x.l=true:=by rw [← ring_same];exact hv
      have HXV:=hid hxv
      have hx:=ring_near hxv
      have hoo:=ring_near ho
      rw [hv] at HRV2 HHB
      have HM1:=hid (fun W' (hW:Below W.heap.size W W')=>rmeets_any x.l m.o.l x.A m.o.A x.k m.o.k W' (HRW.out W' hW x HXM.out) (HRW.out W' hW m.o hom) ⟨by omega,by omega⟩ ⟨by omega,by omega⟩ hx.1 hoo.1)
      have HI1:=hid (fun W' (hW:Below W.heap.size W W')=>rinAll_any m.o.l x.l m.o.A x.A m.o.k x.k W' (HRW.out W' hW m.o hom) ho (HRW.out W' hW x HXM.out) hx.1 (by omega))
      generalize rmeets x.l m.o.l=b1 at *
      generalize insideAll x.l m.o.l=b2 at *
      clear hv hxv ho hoo hom
      cases b1
      case true =>
       have HF0:Hid (rb=false):=hid (by rw [HRB.out,HD1.out,HHB.out];simp)
       go_wp2_with fail
       refine (HRV2.out _ HB.out).mono ?_
       rintro e w5 ⟨rfl,hb⟩
       have HB5:=hid (HB.out.trans (hb.mono HB.out.size))
       clear hb ck c0 c1 x1
       have c0:w5.cell? ⟨w.heap.size,0,none⟩=some (.slice m.o.A m.o.l.length m.o.k):=by rw [Lib.cell_of_heap ((HB5.out.block _ (lt_of_block H2.out)).trans H2.out)];rfl
       have c1:w5.cell? ⟨w.heap.size,1,none⟩=some (.slice m.B m.hs.length m.k):=by rw [Lib.cell_of_heap ((HB5.out.block _ (lt_of_block H2.out)).trans H2.out)];rfl
       clear c1
       go_wp2_with fail
       refine (HM1.out _ HB5.out).mono ?_
       rintro e w6 ⟨rfl,hb⟩
       have HB6:=hid (HB5.out.trans (hb.mono HB5.out.size))
       clear hb c0
       go_wp2
       go_ret
       rw [HF0.out]
       exact ⟨rfl,HB0.out.trans (HB6.out.mono HB0.out.size)⟩
      case false =>
       cases b2
       case false =>
        have HF0:Hid (rb=false):=hid (by rw [HRB.out,HD1.out,HHB.out];simp)
        go_wp2_with fail
        refine (HRV2.out _ HB.out).mono ?_
        rintro e w5 ⟨rfl,hb⟩
        have HB5:=hid (HB.out.trans (hb.mono HB.out.size))
        clear hb ck c0 c1 x1
        have c0:w5.cell? ⟨w.heap.size,0,none⟩=some (.slice m.o.A m.o.l.length m.o.k):=by rw [Lib.cell_of_heap ((HB5.out.block _ (lt_of_block H2.out)).trans H2.out)];rfl
        have c1:w5.cell? ⟨w.heap.size,1,none⟩=some (.slice m.B m.hs.length m.k):=by rw [Lib.cell_of_heap ((HB5.out.block _ (lt_of_block H2.out)).trans H2.out)];rfl
        clear c1
        go_wp2_with fail
        refine (HM1.out _ HB5.out).mono ?_
        rintro e w6 ⟨rfl,hb⟩
        have HB6:=hid (HB5.out.trans (hb.mono HB5.out.size))
        clear hb c0
        have c0:w6.cell? ⟨w.heap.size,0,none⟩=some (.slice m.o.A m.o.l.length m.o.k):=by rw [Lib.cell_of_heap ((HB6.out.block _ (lt_of_block H2.out)).trans H2.out)];rfl
        have c1:w6.cell? ⟨w.heap.size,1,none⟩=some (.slice m.B m.hs.length m.k):=by rw [Lib.cell_of_heap ((HB6.out.block _ (lt_of_block H2.out)).trans H2.out)];rfl
        clear c1
        go_wp2_with fail
        refine (HI1.out _ HB6.out).mono ?_
        rintro e w7 ⟨rfl,hb⟩
        have HB7:=hid (HB6.out.trans (hb.mono HB6.out.size))
        clear hb c0
        go_wp2
        go_ret
        rw [HF0.out]
        exact ⟨rfl,HB0.out.trans (HB7.out.mono HB0.out.size)⟩
       case true =>
        go_wp2_with fail
        refine (HRV2.out _ HB.out).mono ?_
        rintro e w5 ⟨rfl,hb⟩
        have HB5:=hid (HB.out.trans (hb.mono HB.out.size))
        clear hb ck c0 c1 x1
        have c0:w5.cell? ⟨w.heap.size,0,none⟩=some (.slice m.o.A m.o.l.length m.o.k):=by rw [Lib.cell_of_heap ((HB5.out.block _ (lt_of_block H2.out)).trans H2.out)];rfl
        have c1:w5.cell? ⟨w.heap.size,1,none⟩=some (.slice m.B m.hs.length m.k):=by rw [Lib.cell_of_heap ((HB5.out.block _ (lt_of_block H2.out)).trans H2.out)];rfl
        clear c1
        go_wp2_with fail
        refine (HM1.out _ HB5.out).mono ?_
        rintro e w6 ⟨rfl,hb⟩
        have HB6:=hid (HB5.out.trans (hb.mono HB5.out.size))
        clear hb c0
        have c0:w6.cell? ⟨w.heap.size,0,none⟩=some (.slice m.o.A m.o.l.length m.o.k):=by rw [Lib.cell_of_heap ((HB6.out.block _ (lt_of_block H2.out)).trans H2.out)];rfl
        have c1:w6.cell? ⟨w.heap.size,1,none⟩=some (.slice m.B m.hs.length m.k):=by rw [Lib.cell_of_heap ((HB6.out.block _ (lt_of_block H2.out)).trans H2.out)];rfl
        clear c1
        go_wp2_with fail
        refine (HI1.out _ HB6.out).mono ?_
        rintro e w7 ⟨rfl,hb⟩
        have HB7:=hid (HB6.out.trans (hb.mono HB6.out.size))
        clear hb c0
        go_wp2
        go_loopw [6] (fun i wr=>∃ j:Nat,i=.int .i64 (j:Int)∧j≤k∧Hid (pq=allFrom (fun j=>rpairB x.l (hAt (holesL m) j)) (k - j) j)∧Hid (Below W.heap.size W wr)) (fun i _=>k - (intOf i).toNat)
        case atStart=>exact ⟨0,rfl,Nat.zero_le _,HPQ0,HB7⟩
        case round =>
         obtain ⟨j,rfl,hj,HPQ,HBI⟩:=hrel
         by_cases hjk:j < k
         ·have hjl:j < m.hs.length:=by omega
          have HP1:Hid (pq=(rpairB x.l (hAt (holesL m) j)&&allFrom (fun j=>rpairB x.l (hAt (holesL m) j)) (k - (j+1)) (j+1))):=hid (by rw [HPQ.out,allFrom_step hjk])
          have HAJ:Hid (hAt (holesL m) j=m.hs[j].l):=hid (by unfold hAt holesL;rw [List.getD_eq_getElem?_getD,List.getElem?_eq_getElem (by simpa using hjl)];simp)
          have hyv:=HVH.out j hjk
          rw [HAJ.out] at HP1 hyv
          have hy:=ring_near hyv
          have hym:m.hs[j]∈ringsM m:=List.mem_cons_of_mem _ (List.getElem_mem hjl)
          have CJ:=hid (HCA.out j hjl)
          clear HAJ
          generalize m.hs[j]=y at *
          have HM2:=hid (fun W' (hW:Below W.heap.size W W')=>rmeets_any x.l y.l x.A y.A x.k y.k W' (HRW.out W' hW x HXM.out) (HRW.out W' hW y hym) ⟨by omega,by omega⟩ ⟨by omega,by omega⟩ hx.1 hy.1)
          have HI2:=hid (fun W' (hW:Below W.heap.size W W')=>rinAny_any y.l x.l y.A x.A y.k x.k W' (HRW.out W' hW y hym) hyv (HRW.out W' hW x HXM.out) hx.1 (by omega))
          have HI3:=hid (fun W' (hW:Below W.heap.size W W')=>rinAny_any x.l y.l x.A y.A x.k y.k W' (HRW.out W' hW x HXM.out) HXV.out (HRW.out W' hW y hym) hy.1 (by omega))
          have HPB:Hid (rpairB x.l y.l = !(rmeets x.l y.l || (insideAny x.l y.l || insideAny y.l x.l))):=hid rfl
          generalize rpairB x.l y.l=pb at *
          generalize rmeets x.l y.l=q1 at *
          generalize insideAny x.l y.l=q2 at *
          generalize insideAny y.l x.l=q3 at *
          have CJ2:Hid (W.cell? ⟨g,off+j,none⟩=some (.slice y.A y.l.length y.k)):=CJ
          have hj1:(0:Int)≤(j:Int):=by omega
          have hj2:(j:Int) < (k:Int):=by omega
          have hj3:(j:Int) < (m.hs.length:Int):=by omega
          clear hy hym hyv
          have cj:=(HBI.out.cell (p:=⟨g,off+j,none⟩) HGW.out).trans CJ2.out
          have c0:wr.cell? ⟨w.heap.size,0,none⟩=some (.slice m.o.A m.o.l.length m.o.k):=by rw [Lib.cell_of_heap ((HBI.out.block _ (lt_of_block H2.out)).trans H2.out)];rfl
          have c1:wr.cell? ⟨w.heap.size,1,none⟩=some (.slice m.B m.hs.length m.k):=by rw [Lib.cell_of_heap ((HBI.out.block _ (lt_of_block H2.out)).trans H2.out)];rfl
          rw [hB] at c1
          cases q1
          ·cases q2
           ·cases q3
            ·have HP2:Hid (pq=allFrom (fun j=>rpairB x.l (hAt (holesL m) j)) (k - (j+1)) (j+1)):=hid (by rw [HP1.out,HPB.out];rfl)
             go_wp2_with fail
             refine (HM2.out _ HBI.out).mono ?_
             rintro e w7 ⟨rfl,hb⟩
             have HB7:=hid (HBI.out.trans (hb.mono HBI.out.size))
             clear hb cj c0 c1
             have cj:=(HB7.out.cell (p:=⟨g,off+j,none⟩) HGW.out).trans CJ2.out
             have c0:w7.cell? ⟨w.heap.size,0,none⟩=some (.slice m.o.A m.o.l.length m.o.k):=by rw [Lib.cell_of_heap ((HB7.out.block _ (lt_of_block H2.out)).trans H2.out)];rfl
             have c1:w7.cell? ⟨w.heap.size,1,none⟩=some (.slice m.B m.hs.length m.k):=by rw [Lib.cell_of_heap ((HB7.out.block _ (lt_of_block H2.out)).trans H2.out)];rfl
             rw [hB] at c1
             go_wp2_with fail
             refine (HI2.out _ HB7.out).mono ?_
             rintro e w8 ⟨rfl,hb⟩
             have HB8:=hid (HB7.out.trans (hb.mono HB7.out.size))
             clear hb cj c0 c1
             have cj:=(HB8.out.cell (p:=⟨g,off+j,none⟩) HGW.out).trans CJ2.out
             have c0:w8.cell? ⟨w.heap.size,0,none⟩=some (.slice m.o.A m.o.l.length m.o.k):=by rw [Lib.cell_of_heap ((HB8.out.block _ (lt_of_block H2.out)).trans H2.out)];rfl
             have c1:w8.cell? ⟨w.heap.size,1,none⟩=some (.slice m.B m.hs.length m.k):=by rw [Lib.cell_of_heap ((HB8.out.block _ (lt_of_block H2.out)).trans H2.out)];rfl
             rw [hB] at c1
             go_wp2_with fail
             refine (HI3.out _ HB8.out).mono ?_
             rintro e w9 ⟨rfl,hb⟩
             have HB9:=hid (HB8.out.trans (hb.mono HB8.out.size))
             clear hb cj c0 c1
             go_wp2
             go_roundw
             case rel=>exact ⟨j+1,by go_num,by omega,HP2,HB9⟩
             case measure=>simp [intOf];omega
            ·have HF0:Hid (rb=false):=hid (by rw [HRB.out,HD1.out,HHB.out,HP1.out,HPB.out];simp)
             go_wp2_with fail
             refine (HM2.out _ HBI.out).mono ?_
             rintro e w7 ⟨rfl,hb⟩
             have HB7:=hid (HBI.out.trans (hb.mono HBI.out.size))
             clear hb cj c0 c1
             have cj:=(HB7.out.cell (p:=⟨g,off+j,none⟩) HGW.out).trans CJ2.out
             have c0:w7.cell? ⟨w.heap.size,0,none⟩=some (.slice m.o.A m.o.l.length m.o.k):=by rw [Lib.cell_of_heap ((HB7.out.block _ (lt_of_block H2.out)).trans H2.out)];rfl
             have c1:w7.cell? ⟨w.heap.size,1,none⟩=some (.slice m.B m.hs.length m.k):=by rw [Lib.cell_of_heap ((HB7.out.block _ (lt_of_block H2.out)).trans H2.out)];rfl
             rw [hB] at c1
             go_wp2_with fail
             refine (HI2.out _ HB7.out).mono ?_
             rintro e w8 ⟨rfl,hb⟩
             have HB8:=hid (HB7.out.trans (hb.mono HB7.out.size))
             clear hb cj c0 c1
             have cj:=(HB8.out.cell (p:=⟨g,off+j,none⟩) HGW.out).trans CJ2.out
             have c0:w8.cell? ⟨w.heap.size,0,none⟩=some (.slice m.o.A m.o.l.length m.o.k):=by rw [Lib.cell_of_heap ((HB8.out.block _ (lt_of_block H2.out)).trans H2.out)];rfl
             have c1:w8.cell? ⟨w.heap.size,1,none⟩=some (.slice m.B m.hs.length m.k):=by rw [Lib.cell_of_heap ((HB8.out.block _ (lt_of_block H2.out)).trans H2.out)];rfl
             rw [hB] at c1
             go_wp2_with fail
             refine (HI3.out _ HB8.out).mono ?_
             rintro e w9 ⟨rfl,hb⟩
             have HB9:=hid (HB8.out.trans (hb.mono HB8.out.size))
             clear hb cj c0 c1
             go_wp2
             go_ret
             rw [HF0.out]
             exact ⟨rfl,HB0.out.trans (HB9.out.mono HB0.out.size)⟩
           ·have HF0:Hid (rb=false):=hid (by rw [HRB.out,HD1.out,HHB.out,HP1.out,HPB.out];simp)
            go_wp2_with fail
            refine (HM2.out _ HBI.out).mono ?_
            rintro e w7 ⟨rfl,hb⟩
            have HB7:=hid (HBI.out.trans (hb.mono HBI.out.size))
            clear hb cj c0 c1
            have cj:=(HB7.out.cell (p:=⟨g,off+j,none⟩) HGW.out).trans CJ2.out
            have c0:w7.cell? ⟨w.heap.size,0,none⟩=some (.slice m.o.A m.o.l.length m.o.k):=by rw [Lib.cell_of_heap ((HB7.out.block _ (lt_of_block H2.out)).trans H2.out)];rfl
            have c1:w7.cell? ⟨w.heap.size,1,none⟩=some (.slice m.B m.hs.length m.k):=by rw [Lib.cell_of_heap ((HB7.out.block _ (lt_of_block H2.out)).trans H2.out)];rfl
            rw [hB] at c1
            go_wp2_with fail
            refine (HI2.out _ HB7.out).mono ?_
            rintro e w8 ⟨rfl,hb⟩
            have HB8:=hid (HB7.out.trans (hb.mono HB7.out.size))
            clear hb cj c0 c1
            go_wp2
            go_ret
            rw [HF0.out]
            exact ⟨rfl,HB0.out.trans (HB8.out.mono HB0.out.size)⟩
          ·have HF0:Hid (rb=false):=hid (by rw [HRB.out,HD1.out,HHB.out,HP1.out,HPB.out];simp)
           go_wp2_with fail
           refine (HM2.out _ HBI.out).mono ?_
           rintro e w7 ⟨rfl,hb⟩
           have HB7:=hid (HBI.out.trans (hb.mono HBI.out.size))
           clear hb cj c0 c1
           go_wp2
           go_ret
           rw [HF0.out]
           exact ⟨rfl,HB0.out.trans (HB7.out.mono HB0.out.size)⟩
         ·obtain rfl:j=k:=by omega
          have HD2:Hid (ah=allFrom (rholeB m.o.l (holesL m)) (m.hs.length - (j+1)) (j+1)):=hid (by rw [HD1.out,HHB.out,HPQ.out,allFrom_end];rfl)
          have HV2:Hid (∀ i,i < j+1→ringB (hAt (holesL m) i)=true):=hid (fun i hi=>by
           rcases Nat.lt_or_ge i j with h | h
           ·exact HVH.out i h
           ·obtain rfl:i=j:=by omega
            rw [HAT.out]
            exact HXV.out)
          go_wp2
          go_roundw
          case rel=>exact ⟨j+1,by rw [HTN.out],by go_num,by omega,HD2,HV2,HBI⟩
          case measure=>simp [intOf];omega
    ·obtain rfl:k=m.hs.length:=by omega
     have HTL:Hid ((holesL m).take m.hs.length=holesL m):=hid (by rw [show m.hs.length=(holesL m).length by simp [holesL],List.take_length])
     rw [HTL.out]
     have HRE:Hid (rb=decide (total (m.o.l::holesL m)≤80)):=hid (by rw [HRB.out,HD.out,allFrom_end];rfl)
     have c0:wr.cell? ⟨w.heap.size,0,none⟩=some (.slice m.o.A m.o.l.length m.o.k):=by rw [Lib.cell_of_heap ((HB.out.block _ (lt_of_block H2.out)).trans H2.out)];rfl
     have c1:wr.cell? ⟨w.heap.size,1,none⟩=some (.slice m.B m.hs.length m.k):=by rw [Lib.cell_of_heap ((HB.out.block _ (lt_of_block H2.out)).trans H2.out)];rfl
     by_cases ht:total (m.o.l::holesL m)≤80
     ·have t1:decide ((total (m.o.l::holesL m):Int)≤80)=true:=decide_eq_true (by omega)
      have HF0:Hid (rb=true):=hid (by rw [HRE.out];exact decide_eq_true ht)
      clear ht
      generalize (total (m.o.l::holesL m):Int)=tn at *
      go_wp2
      go_ret
      rw [HF0.out]
      exact ⟨rfl,HB0.out.trans (HB.out.mono HB0.out.size)⟩
     ·have t1:decide ((total (m.o.l::holesL m):Int)≤80)=false:=decide_eq_false (by omega)
      have HF0:Hid (rb=false):=hid (by rw [HRE.out];exact decide_eq_false ht)
      clear ht
      generalize (total (m.o.l::holesL m):Int)=tn at *
      go_wp2
      go_ret
      rw [HF0.out]
      exact ⟨rfl,HB0.out.trans (HB.out.mono HB0.out.size)⟩
attribute [local go_sem ↓] Go.wp_at_zero Go.wp_at_succ
theorem own_new (w:World) (T:TypeId) (size base n:Nat) (xs:List Value) (hb:base≤w.heap.size) (hx:xs.length=n*size) (hn:n≤maxLen):(w.alloc (.cells xs.toArray T)).ownsRow base T size (.slice (some ⟨w.heap.size,0,none⟩) n n) n xs :=
 ⟨hx,.inr ⟨w.heap.size,n,xs.toArray,rfl,hb,heap_alloc_new w _,Nat.le_refl _,hn,by simpa using hx,by rw [← hx];simp⟩⟩
theorem ring_one (hs:List RowV):∀ u∈hs.map rowVal,u.oneCell'=true:=by
 intro u hu
 obtain ⟨x,_,rfl⟩:=List.mem_map.1 hu
 rfl
set_option maxRecDepth 100000 in
set_option maxHeartbeats 1000000 in
theorem rRings_any (m:ShapeM) (w:World) (h:ShapeIn w m) :
  Calls Tryz.prog 79 #[.agg (shapeVals m)] w fun e w'=>(∃ v,e=.returned v∧w'.ownsRow w.heap.size 26 1 v (ringsM m).length ((ringsM m).map rowVal))∧Below w.heap.size w w':=by
 have HS:=hid h
 have hfew:=h.few
 have HRB:=hid h.rB
 obtain ⟨i0,ia,ib,ic,id⟩:=info_parts info_ring
 have HL:Hid ((ringsM m).length=1+m.hs.length∧(ringsM m).map rowVal=[.slice m.o.A m.o.l.length m.o.k]++m.hs.map rowVal):=hid (by simp [ringsM,rowVal];omega)
 have HUN:Hid (shapeVals m=#[.slice m.o.A m.o.l.length m.o.k,.slice m.B m.hs.length m.k]):=hid rfl
 rw [HUN.out,HL.out.1,HL.out.2]
 have HO:=hid (one_vec w (.cells #[.slice m.o.A m.o.l.length m.o.k,.slice m.B m.hs.length m.k] 29))
 have HO1:Hid (((w.alloc (.cells #[.slice m.o.A m.o.l.length m.o.k,.slice m.B m.hs.length m.k] 29)).alloc (.cells #[.slice m.o.A m.o.l.length m.o.k] 26)).ownsRow w.heap.size 26 1 (.slice (some ⟨(w.alloc (.cells #[.slice m.o.A m.o.l.length m.o.k,.slice m.B m.hs.length m.k] 29)).heap.size,0,none⟩) 1 1) 1 [.slice m.o.A m.o.l.length m.o.k]):=hid (own_new (w.alloc (.cells #[.slice m.o.A m.o.l.length m.o.k,.slice m.B m.hs.length m.k] 29)) 26 1 w.heap.size 1 [.slice m.o.A m.o.l.length m.o.k] HO.out.1.size rfl (by unfold maxLen;omega))
 have HBB:=hid (HO.out.1.alloc HO.out.1.size (.cells #[.slice m.o.A m.o.l.length m.o.k] 26))
 have HRR:=hid (HRB.out.below HBB.out)
 have c0:(w.alloc (.cells #[.slice m.o.A m.o.l.length m.o.k,.slice m.B m.hs.length m.k] 29)).cell? ⟨w.heap.size,0,none⟩=some (.slice m.o.A m.o.l.length m.o.k):=by rw [Lib.cell_of_heap HO.out.2];rfl
 have c1:(w.alloc (.cells #[.slice m.o.A m.o.l.length m.o.k,.slice m.B m.hs.length m.k] 29)).cell? ⟨w.heap.size,1,none⟩=some (.slice m.B m.hs.length m.k):=by rw [Lib.cell_of_heap HO.out.2];rfl
 have hz:(w.alloc (.cells #[.slice m.o.A m.o.l.length m.o.k,.slice m.B m.hs.length m.k] 29)).heap.size=w.heap.size+1:=by simp
 rw [hz] at HO1
 clear h hz HL HUN
 go_enter Tryz.func79,Tryz.ntmps79
 go_wp2_with (at_builtin;refine wpList_append_row _ rfl _ _ 27 rfl w.heap.size 26 i0 _ 1 24 Tryz.underlying27 ia ib ic id rfl (by omega) _ _ _ rfl HO1.out m.B m.hs.length m.k (m.hs.map rowVal) rfl HRR.out (by simp) (ring_one _) (by unfold maxLen;omega) (by omega) HBB.out.size ?_;intro v' w2 hown2 hg2;have HB2:=hid (below_append HBB.out HBB.out.size HO1.out hg2 (Nat.le_refl _));have HO2:=hid hown2;clear hown2 hg2)
 go_wp2
 go_ret
 exact ⟨⟨_,rfl,HO2.out⟩,HB2.out⟩
end Go.Proofs.YtnmmhcchpcbeeaaGreat.GeW
