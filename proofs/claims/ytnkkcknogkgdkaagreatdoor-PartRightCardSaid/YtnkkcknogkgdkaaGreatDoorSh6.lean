/- Walk: of the reference: whether a shape is valid. Conditions: the shape lies in memory. -/
import Derived.Test.YtnkkcknogkgdkaaGreatDoorSh3
import Derived.Test.YtnkkcknogkgdkaaGreatDoorWh3

namespace Go.Proofs.YtnkkcknogkgdkaaGreatDoor.GeW
open Lib (hid)
open Go Go.RowKit Go.Proofs.YtnkkcknogkgdkaaGreatDoor.Mem Go.Proofs.YtnkkcknogkgdkaaGreatDoor.Ge
def edgesAll (pre:List RowV):List S:=pre.flatMap fun r=>edgesN r.l r.l.length
def EI (w:World) (r:Nat) (pre:List RowV) (W:World):Prop :=
 ∃ v,W.heap[r+1]? = some (.cells #[v] 183)∧W.ownsRow (r+1+1+1) 187 4 v (edgesAll pre).length ((edgesAll pre).flatMap segCells)∧Below r w W∧r+1+1+1≤W.heap.size
attribute [local go_sem] Oper.semAt_some
attribute [local go_sem ↓] Go.wp_at_zero Go.wp_at_succ
theorem rwhereB_at {l:List V} {v:V} (hv:ringB l=true) (hp:within v 2000=true):rwhereB l v=rwhereL (edges l) v false:=by
 unfold rwhereB
 rw [within_more hp (by omega),ring_same,hv]
 rfl
theorem insideAll_at {l m:List V} (hv:ringB l=true) (hn:near m=true):insideAll m l=m.all fun v=>decide (rwhereL (edges l) v false=2):=by
 unfold insideAll
 rw [Bool.eq_iff_iff]
 simp only [List.all_eq_true,decide_eq_true_eq]
 exact ⟨fun g v hm=>(rwhereB_at hv (List.all_eq_true.1 hn v hm)) ▸ g v hm,fun g v hm=>(rwhereB_at hv (List.all_eq_true.1 hn v hm)).trans (g v hm)⟩
theorem insideAny_at {l m:List V} (hv:ringB l=true) (hn:near m=true):insideAny m l=m.any fun v=>decide (rwhereL (edges l) v false=2):=by
 unfold insideAny
 rw [Bool.eq_iff_iff]
 simp only [List.any_eq_true,decide_eq_true_eq]
 exact ⟨fun ⟨v,hm,g⟩=>⟨v,hm,(rwhereB_at hv (List.all_eq_true.1 hn v hm)) ▸ g⟩,fun ⟨v,hm,g⟩=>⟨v,hm,(rwhereB_at hv (List.all_eq_true.1 hn v hm)).trans g⟩⟩
set_option maxRecDepth 100000 in
set_option maxHeartbeats 1000000 in
theorem rinAll_any (l m:List V) (A B:Option Addr) (c d:Nat) (w:World) (hr:Row w A (l.flatMap ptCells)) (hv:ringB l=true) (hs:Row w B (m.flatMap ptCells)) (hn:near m=true) (hl:m.length≤17592186043904) :
  Calls Tryz.prog 109 #[.slice B m.length d,.slice A l.length c,.bool true] w fun e w'=>e=.returned (.bool (insideAll m l))∧Below w.heap.size w w':=by
 rw [insideAll_at hv hn]
 have HR:=hid hs
 have HW:=hid (fun (v:V) (hp:within v 2000=true) W (hW:Below w.heap.size w W)=>rwhere_any l v.1 v.2 A c W (hr.below hW) hv hp)
 have HN:=hid hn
 obtain ⟨p,HP⟩:∃ p:V→Bool,Hid (p=fun v=>decide (rwhereL (edges l) v false=2)):=⟨_,hid rfl⟩
 rw [← HP.out]
 obtain ⟨rb,HRB⟩:∃ rb,Hid (rb=m.all p):=⟨_,hid rfl⟩
 rw [← HRB.out]
 clear hs hr hv hn
 go_enter Tryz.func109,Tryz.ntmps109
 go_wp2
 go_loopw [7] (fun t wr=>∃ k:Nat,t=.int .i64 k∧k≤m.length∧Hid (rb=(m.drop k).all p)∧Hid (Below w.heap.size w wr)) (fun t _=>m.length - (intOf t).toNat)
 case atStart=>exact ⟨0,rfl,Nat.zero_le _,HRB,hid (Below.refl _ _)⟩
 case round =>
  obtain ⟨k,rfl,hk,HD,HB⟩:=hrel
  by_cases hlt:k < m.length
  ·have HD1:Hid (rb=(p m[k]&&(m.drop (k+1)).all p)):=hid (by rw [HD.out,List.drop_eq_getElem_cons hlt,List.all_cons])
   have HPV:Hid (p m[k]=decide (rwhereL (edges l) m[k] false=2)):=hid (by rw [HP.out])
   obtain ⟨g,off,rfl,hg,ca⟩:=row_get pt_len (by decide) HR.out (by omega)
   have a0:=(HB.out.cell (p:=⟨g,off+k*2,none⟩) hg).trans (ca k hlt 0 (by decide))
   have a1:=(HB.out.cell (p:=⟨g,off+k*2+1,none⟩) hg).trans (ca k hlt 1 (by decide))
   have HM:=hid (fun W hW=>HW.out m[k] (List.all_eq_true.1 HN.out _ (List.getElem_mem hlt)) W hW)
   have hk1:(0:Int)≤(k:Int):=by omega
   have hk2:(k:Int) < (m.length:Int):=by omega
   clear ca
   generalize m[k]=q at *
   obtain ⟨mx,my⟩:=q
   simp only [ptCells,List.getElem?_cons_zero,List.getElem?_cons_succ] at a0 a1
   generalize p (mx,my)=pv at *
   simp only at HM
   generalize rwhereL (edges l) (mx,my) false=rv at *
   by_cases h2:rv=2
   ·have e1:(rv == 2)=true:=beq_iff_eq.2 h2
    have HPT:Hid (pv=true):=hid (by rw [HPV.out];exact decide_eq_true h2)
    clear h2
    go_wp2_with fail
    refine (HM.out _ HB.out).mono ?_
    rintro e w9 ⟨rfl,hb9⟩
    have HB9:=hid (HB.out.trans (hb9.mono HB.out.size))
    clear hb9 a0 a1
    go_wp2
    go_roundw
    case rel=>exact ⟨k+1,by go_num,by omega,hid (by rw [HD1.out,HPT.out];rfl),HB9⟩
    case measure=>simp [intOf];omega
   ·have e1:(rv == 2)=false:=beq_eq_false_iff_ne.2 h2
    have HPT:Hid (pv=false):=hid (by rw [HPV.out];exact decide_eq_false h2)
    clear h2
    go_wp2_with fail
    refine (HM.out _ HB.out).mono ?_
    rintro e w9 ⟨rfl,hb9⟩
    have HB9:=hid (HB.out.trans (hb9.mono HB.out.size))
    clear hb9 a0 a1
    go_wp2
    go_ret
    rw [HD1.out,HPT.out]
    exact ⟨rfl,HB9.out⟩
  ·obtain rfl:k=m.length:=by omega
   have HF:Hid (rb=true):=hid (by rw [HD.out,List.drop_length];rfl)
   go_wp2
   go_ret
   rw [HF.out]
   exact ⟨rfl,HB.out⟩
set_option maxRecDepth 100000 in
set_option maxHeartbeats 1000000 in
theorem rinAny_any (l m:List V) (A B:Option Addr) (c d:Nat) (w:World) (hr:Row w A (l.flatMap ptCells)) (hv:ringB l=true) (hs:Row w B (m.flatMap ptCells)) (hn:near m=true) (hl:m.length≤17592186043904) :
  Calls Tryz.prog 109 #[.slice B m.length d,.slice A l.length c,.bool false] w fun e w'=>e=.returned (.bool (insideAny m l))∧Below w.heap.size w w':=by
 rw [insideAny_at hv hn]
 have HR:=hid hs
 have HW:=hid (fun (v:V) (hp:within v 2000=true) W (hW:Below w.heap.size w W)=>rwhere_any l v.1 v.2 A c W (hr.below hW) hv hp)
 have HN:=hid hn
 obtain ⟨p,HP⟩:∃ p:V→Bool,Hid (p=fun v=>decide (rwhereL (edges l) v false=2)):=⟨_,hid rfl⟩
 rw [← HP.out]
 obtain ⟨rb,HRB⟩:∃ rb,Hid (rb=m.any p):=⟨_,hid rfl⟩
 rw [← HRB.out]
 clear hs hr hv hn
 go_enter Tryz.func109,Tryz.ntmps109
 go_wp2
 go_loopw [7] (fun t wr=>∃ k:Nat,t=.int .i64 k∧k≤m.length∧Hid (rb=(m.drop k).any p)∧Hid (Below w.heap.size w wr)) (fun t _=>m.length - (intOf t).toNat)
 case atStart=>exact ⟨0,rfl,Nat.zero_le _,HRB,hid (Below.refl _ _)⟩
 case round =>
  obtain ⟨k,rfl,hk,HD,HB⟩:=hrel
  by_cases hlt:k < m.length
  ·have HD1:Hid (rb=(p m[k] || (m.drop (k+1)).any p)):=hid (by rw [HD.out,List.drop_eq_getElem_cons hlt,List.any_cons])
   have HPV:Hid (p m[k]=decide (rwhereL (edges l) m[k] false=2)):=hid (by rw [HP.out])
   obtain ⟨g,off,rfl,hg,ca⟩:=row_get pt_len (by decide) HR.out (by omega)
   have a0:=(HB.out.cell (p:=⟨g,off+k*2,none⟩) hg).trans (ca k hlt 0 (by decide))
   have a1:=(HB.out.cell (p:=⟨g,off+k*2+1,none⟩) hg).trans (ca k hlt 1 (by decide))
   have HM:=hid (fun W hW=>HW.out m[k] (List.all_eq_true.1 HN.out _ (List.getElem_mem hlt)) W hW)
   have hk1:(0:Int)≤(k:Int):=by omega
   have hk2:(k:Int) < (m.length:Int):=by omega
   clear ca
   generalize m[k]=q at *
   obtain ⟨mx,my⟩:=q
   simp only [ptCells,List.getElem?_cons_zero,List.getElem?_cons_succ] at a0 a1
   generalize p (mx,my)=pv at *
   simp only at HM
   generalize rwhereL (edges l) (mx,my) false=rv at *
   by_cases h2:rv=2
   ·have e1:(rv == 2)=true:=beq_iff_eq.2 h2
    have HPT:Hid (pv=true):=hid (by rw [HPV.out];exact decide_eq_true h2)
    clear h2
    go_wp2_with fail
    refine (HM.out _ HB.out).mono ?_
    rintro e w9 ⟨rfl,hb9⟩
    have HB9:=hid (HB.out.trans (hb9.mono HB.out.size))
    clear hb9 a0 a1
    go_wp2
    go_ret
    rw [HD1.out,HPT.out]
    exact ⟨rfl,HB9.out⟩
   ·have e1:(rv == 2)=false:=beq_eq_false_iff_ne.2 h2
    have HPT:Hid (pv=false):=hid (by rw [HPV.out];exact decide_eq_false h2)
    clear h2
    go_wp2_with fail
    refine (HM.out _ HB.out).mono ?_
    rintro e w9 ⟨rfl,hb9⟩
    have HB9:=hid (HB.out.trans (hb9.mono HB.out.size))
    clear hb9 a0 a1
    go_wp2
    go_roundw
    case rel=>exact ⟨k+1,by go_num,by omega,hid (by rw [HD1.out,HPT.out];rfl),HB9⟩
    case measure=>simp [intOf];omega
  ·obtain rfl:k=m.length:=by omega
   have HF:Hid (rb=false):=hid (by rw [HD.out,List.drop_length];rfl)
   go_wp2
   go_ret
   rw [HF.out]
   exact ⟨rfl,HB.out⟩
theorem edgesN_ok {l:List V} (h:near l=true) {e:S} (he:e∈edgesN l l.length):segOk e=true:=by
 unfold edgesN at he
 obtain ⟨i,_,rfl⟩:=List.mem_map.1 he
 exact seg_near h i ((i+1) % l.length)
set_option maxRecDepth 100000 in
set_option maxHeartbeats 2000000 in
theorem rmeets_any (l m:List V) (A B:Option Addr) (c d:Nat) (w:World) (hr:Row w A (l.flatMap ptCells)) (hs:Row w B (m.flatMap ptCells)) (hl:2≤l.length∧l.length≤200) (hm:2≤m.length∧m.length≤200) (hnl:near l=true) (hnm:near m=true) :
  Calls Tryz.prog 108 #[.slice A l.length c,.slice B m.length d] w fun e w'=>e=.returned (.bool (rmeets l m))∧Below w.heap.size w w':=by
 have HEA:=hid (redges_any l A c w hr hl.2 hl.1)
 have HEB:=hid (fun W (hW:Below w.heap.size w W)=>redges_any m B d W (hs.below hW) hm.2 hm.1)
 have HQ:Hid (rmeets l m=(edgesN l l.length).any fun x=>(edgesN m m.length).any fun y=>decide (rmeetK x y≠0)):=hid (by unfold rmeets;rw [edges_get hl.1,edges_get hm.1];rfl)
 have hla:=edgesN_len l l.length
 have hlb:=edgesN_len m m.length
 have HOA:Hid (∀ e∈edgesN l l.length,segOk e=true):=hid (fun e he=>edgesN_ok hnl he)
 have HOB:Hid (∀ e∈edgesN m m.length,segOk e=true):=hid (fun e he=>edgesN_ok hnm he)
 generalize rmeets l m=ab at *
 generalize edgesN l l.length=ea at *
 generalize edgesN m m.length=eb at *
 have hl1:=hl.1
 have hm1:=hm.1
 have hl2:=hl.2
 have hm2:=hm.2
 clear hr hs hl hm hnl hnm
 generalize l.length=n at *
 generalize m.length=mn at *
 subst hla
 subst hlb
 go_enter Tryz.func108,Tryz.ntmps108
 go_wp2_with fail
 refine HEA.out.mono ?_
 rintro e w1 ⟨v,rfl,hown,hb1⟩
 obtain ⟨ga,ka,rfl,hca,hga,hgaw,hcell⟩:=own_get seg_len rfl hown (by omega)
 have HCga:=hid hcell
 have HB1:=hid hb1
 clear hcell hown hb1 hga
 go_wp2_with fail
 refine (HEB.out _ HB1.out).mono ?_
 rintro e w2 ⟨v,rfl,hown,hb2⟩
 obtain ⟨gb,kb,rfl,hcb,hgb,hgbw,hcell⟩:=own_get seg_len rfl hown (by omega)
 have HCgb:=hid hcell
 have HB2:=hid hb2
 clear hcell hown hb2 hgb
 go_wp2
 go_loopw [7,8] (fun i _ wr=>∃ k:Nat,i=.int .i64 (k:Int)∧k≤ea.length∧Hid (ab=(ea.drop k).any fun x=>eb.any fun y=>decide (rmeetK x y≠0))∧Hid (Below w2.heap.size w2 wr)) (fun i _ _=>ea.length - (intOf i).toNat)
 case atStart=>exact ⟨0,rfl,Nat.zero_le _,HQ,hid (Below.refl _ _)⟩
 case round =>
  obtain ⟨k,rfl,hk,HD,HBA⟩:=hrel
  by_cases hltga:k < ea.length
  ·have HD1:Hid (ab=((eb.any fun y=>decide (rmeetK ea[k] y≠0)) || (ea.drop (k+1)).any fun x=>eb.any fun y=>decide (rmeetK x y≠0))):=hid (by rw [HD.out,List.drop_eq_getElem_cons hltga,List.any_cons])
   have HSA:=hid (HOA.out ea[k] (List.getElem_mem hltga))
   go_wp2
   go_loopw [8] (fun i wr=>∃ j:Nat,i=.int .i64 (j:Int)∧j≤eb.length∧Hid ((eb.any fun y=>decide (rmeetK ea[k] y≠0))=((eb.drop j).any fun y=>decide (rmeetK ea[k] y≠0)))∧Hid (Below w2.heap.size w2 wr)) (fun i _=>eb.length - (intOf i).toNat)
   case atStart=>exact ⟨0,rfl,Nat.zero_le _,hid rfl,HBA⟩
   case round =>
    obtain ⟨j,rfl,hj,HDJ,HBB⟩:=hrel
    by_cases hltgb:j < eb.length
    ·have HD2:Hid ((eb.any fun y=>decide (rmeetK ea[k] y≠0))=(decide (rmeetK ea[k] eb[j]≠0) || ((eb.drop (j+1)).any fun y=>decide (rmeetK ea[k] y≠0)))):=hid (by rw [HDJ.out,List.drop_eq_getElem_cons hltgb,List.any_cons])
     have HSB:=hid (HOB.out eb[j] (List.getElem_mem hltgb))
     have hgar:ga < wr.heap.size:=Nat.lt_of_lt_of_le hgaw (Nat.le_trans HB2.out.size HBB.out.size)
     have hgbr:gb < wr.heap.size:=Nat.lt_of_lt_of_le hgbw HBB.out.size
     have HBC:=hid (HB2.out.trans (HBB.out.mono HB2.out.size))
     have E0:∀ p:Later wr,p.w.cell? ⟨ga,k*4,none⟩=some (.int .i64 ea[k].1.1):=later_cell hgar ((HBC.out.cell (p:=⟨ga,k*4+0,none⟩) hgaw).trans (HCga.out k hltga 0 (by decide)))
     have E1:∀ p:Later wr,p.w.cell? ⟨ga,k*4+1,none⟩=some (.int .i64 ea[k].1.2):=later_cell hgar ((HBC.out.cell (p:=⟨ga,k*4+1,none⟩) hgaw).trans (HCga.out k hltga 1 (by decide)))
     have E2:∀ p:Later wr,p.w.cell? ⟨ga,k*4+2,none⟩=some (.int .i64 ea[k].2.1):=later_cell hgar ((HBC.out.cell (p:=⟨ga,k*4+2,none⟩) hgaw).trans (HCga.out k hltga 2 (by decide)))
     have E3:∀ p:Later wr,p.w.cell? ⟨ga,k*4+3,none⟩=some (.int .i64 ea[k].2.2):=later_cell hgar ((HBC.out.cell (p:=⟨ga,k*4+3,none⟩) hgaw).trans (HCga.out k hltga 3 (by decide)))
     have F0:∀ p:Later wr,p.w.cell? ⟨gb,j*4,none⟩=some (.int .i64 eb[j].1.1):=later_cell hgbr ((HBB.out.cell (p:=⟨gb,j*4+0,none⟩) hgbw).trans (HCgb.out j hltgb 0 (by decide)))
     have F1:∀ p:Later wr,p.w.cell? ⟨gb,j*4+1,none⟩=some (.int .i64 eb[j].1.2):=later_cell hgbr ((HBB.out.cell (p:=⟨gb,j*4+1,none⟩) hgbw).trans (HCgb.out j hltgb 1 (by decide)))
     have F2:∀ p:Later wr,p.w.cell? ⟨gb,j*4+2,none⟩=some (.int .i64 eb[j].2.1):=later_cell hgbr ((HBB.out.cell (p:=⟨gb,j*4+2,none⟩) hgbw).trans (HCgb.out j hltgb 2 (by decide)))
     have F3:∀ p:Later wr,p.w.cell? ⟨gb,j*4+3,none⟩=some (.int .i64 eb[j].2.2):=later_cell hgbr ((HBB.out.cell (p:=⟨gb,j*4+3,none⟩) hgbw).trans (HCgb.out j hltgb 3 (by decide)))
     generalize hek:ea[k]=e at *
     generalize hfj:eb[j]=f at *
     obtain ⟨⟨ax,ay⟩,bx,b_y⟩:=e
     obtain ⟨⟨cx,cy⟩,dx,dy⟩:=f
     simp only at E0 E1 E2 E3 F0 F1 F2 F3
     have hk1:(0:Int)≤(k:Int):=by omega
     have hk2:(k:Int) < (ea.length:Int):=by omega
     have hj1:(0:Int)≤(j:Int):=by omega
     have hj2:(j:Int) < (eb.length:Int):=by omega
     have HME:=hid (fun W=>rMeet_any ax ay bx b_y cx cy dx dy W HSA.out HSB.out)
     generalize rmeetK ((ax,ay),bx,b_y) ((cx,cy),dx,dy)=mk at *
     clear hek hfj
     go_wp2
     refine wp_region_later wr (by kernel_rfl) (by kernel_rfl) (Below.refl _ _) ?_
     repeat (go_big_quiet_step (first | (go_at_call 139;with_reducible exact Calls.later (HME.out _))))
     refine wpQuiet_nil ?_
     rintro w9 hex;have hb9:=later_of hex;clear hex
     have HB9:=hid (HBB.out.trans (hb9.mono HBB.out.size))
     clear E0 E1 E2 E3 F0 F1 F2 F3 hb9
     by_cases hmk:mk=0
     ·have m1:(mk != 0)=false:=bne_eq_false_iff_eq.2 hmk
      have HD3:Hid ((eb.any fun y=>decide (rmeetK ((ax,ay),bx,b_y) y≠0))=((eb.drop (j+1)).any fun y=>decide (rmeetK ((ax,ay),bx,b_y) y≠0))):=hid (by rw [HD2.out,hmk];rfl)
      clear hmk
      go_wp2
      go_roundw
      case rel=>exact ⟨j+1,by go_num,by omega,HD3,HB9⟩
      case measure=>simp [intOf];omega
     ·have m1:(mk != 0)=true:=bne_iff_ne.2 hmk
      have HF:Hid (ab=true):=hid (by rw [HD1.out,HD2.out,decide_eq_true hmk];rfl)
      clear hmk
      go_wp2
      go_ret
      rw [HF.out]
      exact ⟨rfl,HB1.out.trans ((HB2.out.trans (HB9.out.mono HB2.out.size)).mono HB1.out.size)⟩
    ·obtain rfl:j=eb.length:=by omega
     have HD3:Hid (ab=(ea.drop (k+1)).any fun x=>eb.any fun y=>decide (rmeetK x y≠0)):=hid (by rw [HD1.out,HDJ.out,List.drop_length];rfl)
     go_wp2
     go_roundw
     case rel=>exact ⟨k+1,by go_num,by omega,HD3,HBB⟩
     case measure=>simp [intOf];omega
  ·obtain rfl:k=ea.length:=by omega
   have HF:Hid (ab=false):=hid (by rw [HD.out,List.drop_length];rfl)
   go_wp2
   go_ret
   rw [HF.out]
   exact ⟨rfl,HB1.out.trans ((HB2.out.trans (HBA.out.mono HB2.out.size)).mono HB1.out.size)⟩
attribute [local go_sem ↓] Go.wp_at_zero Go.wp_at_succ
set_option maxRecDepth 100000 in
set_option maxHeartbeats 8000000 in
theorem rshapeOk_any (m:ShapeM) (w:World) (h:ShapeIn w m) :
  Calls Tryz.prog 53 #[.agg (shapeVals m)] w fun e w'=>e=.returned (.bool (rshapeB m.o.l (holesL m)))∧Below w.heap.size w w':=by
 have HS:=hid h
 have HF:=hid h.few
 have hfew:=h.few
 have HO:=hid (one_vec w (.cells #[.slice m.o.A m.o.l.length m.o.k,.slice m.B m.hs.length m.k] 48))
 have HB0:=hid HO.out.1
 have H2:=hid HO.out.2
 obtain ⟨rb,HRB0⟩:∃ rb,Hid (rb=rshapeB m.o.l (holesL m)):=⟨_,hid rfl⟩
 obtain ⟨ah,HAH⟩:∃ ah,Hid (ah=allFrom (rholeB m.o.l (holesL m)) m.hs.length 0):=⟨_,hid rfl⟩
 have HRB1:Hid (rb=((decide (m.hs.length≤6)&&rringB m.o.l)&&(ah&&decide (total (m.o.l::holesL m)≤80)))):=hid (by
  rw [HRB0.out,HAH.out]
  unfold rshapeB
  have e:(holesL m).length=m.hs.length:=by simp [holesL]
  rw [e])
 rw [← HRB0.out]
 have HUN:Hid (shapeVals m=#[.slice m.o.A m.o.l.length m.o.k,.slice m.B m.hs.length m.k]):=hid rfl
 rw [HUN.out]
 have HRW0:Hid (∀ W',Below w.heap.size w W'→∀ x∈ringsM m,Row W' x.A (x.l.flatMap ptCells)):=hid (fun W' hW x hx=>(h.row hx).below hW)
 have HRH0:Hid (∀ W',Below w.heap.size w W'→Row W' m.B (m.hs.map rowVal)):=hid (fun W' hW=>h.rB.below hW)
 have hsm:=h.short m.o (by simp [ringsM])
 have HRV:=hid (fun W (hW:Below w.heap.size w W)=>rring_any m.o.l m.o.A m.o.k W (h.ro.below hW) (by omega))
 clear h HUN HRB0
 have c0:(w.alloc (.cells #[.slice m.o.A m.o.l.length m.o.k,.slice m.B m.hs.length m.k] 48)).cell? ⟨w.heap.size,0,none⟩=some (.slice m.o.A m.o.l.length m.o.k):=by rw [Lib.cell_of_heap H2.out];rfl
 have c1:(w.alloc (.cells #[.slice m.o.A m.o.l.length m.o.k,.slice m.B m.hs.length m.k] 48)).cell? ⟨w.heap.size,1,none⟩=some (.slice m.B m.hs.length m.k):=by rw [Lib.cell_of_heap H2.out];rfl
 by_cases h6:m.hs.length≤6
 case neg =>
  have d6:decide (6 < (m.hs.length:Int))=true:=decide_eq_true (by omega)
  have HF0:Hid (rb=false):=hid (by rw [HRB1.out];simp [h6])
  clear h6 hfew
  go_enter Tryz.func53,Tryz.ntmps53
  go_wp2
  go_ret
  rw [HF0.out]
  exact ⟨rfl,HB0.out⟩
 case pos =>
  have d6:decide (6 < (m.hs.length:Int))=false:=decide_eq_false (by omega)
  cases hv:rringB m.o.l
  case false =>
   have HF0:Hid (rb=false):=hid (by rw [HRB1.out,hv];simp)
   rw [hv] at HRV
   clear h6 hfew hv
   go_enter Tryz.func53,Tryz.ntmps53
   go_wp2_with fail
   refine (HRV.out _ HB0.out).mono ?_
   rintro e w3 ⟨rfl,hb3⟩
   go_wp2
   go_ret
   rw [HF0.out]
   exact ⟨rfl,HB0.out.trans (hb3.mono HB0.out.size)⟩
  case true =>
   have HVO:Hid (ringB m.o.l=true):=hid (by rw [← ring_same];exact hv)
   have HRB2:Hid (rb=(ah&&decide (total (m.o.l::holesL m)≤80))):=hid (by rw [HRB1.out,hv,decide_eq_true h6];rfl)
   have HRB:Hid (rb=(ah&&decide (total (m.o.l::holesL m)≤80))):=HRB2
   rw [hv] at HRV
   clear h6 hv HRB1 HRB2
   have H6:=hid hfew
   go_enter Tryz.func53,Tryz.ntmps53
   go_upto_region 1 with fail
   generalize hWA:w.alloc (.cells #[.slice m.o.A m.o.l.length m.o.k,.slice m.B m.hs.length m.k] 48)=W at *
   clear hWA
   go_wp2_with fail
   refine (HRV.out _ HB0.out).mono ?_
   rintro e w3 ⟨rfl,hb3⟩
   have HB3:=hid hb3
   have HRW:Hid (∀ W',Below W.heap.size W W'→∀ x∈ringsM m,Row W' x.A (x.l.flatMap ptCells)):=hid (fun W' hW x hx=>HRW0.out W' (HB0.out.trans (hW.mono HB0.out.size)) x hx)
   have HRH:Hid (∀ W',Below W.heap.size W W'→Row W' m.B (m.hs.map rowVal)):=hid (fun W' hW=>HRH0.out W' (HB0.out.trans (hW.mono HB0.out.size)))
   clear c0 c1 hb3 HRV hsm
   have c0:w3.cell? ⟨w.heap.size,0,none⟩=some (.slice m.o.A m.o.l.length m.o.k):=by rw [Lib.cell_of_heap ((HB3.out.block _ (lt_of_block H2.out)).trans H2.out)];rfl
   have c1:w3.cell? ⟨w.heap.size,1,none⟩=some (.slice m.B m.hs.length m.k):=by rw [Lib.cell_of_heap ((HB3.out.block _ (lt_of_block H2.out)).trans H2.out)];rfl
   go_wp2
   clear c0 c1
   go_loopw [3,4,5,6] (fun n i _ _ wr=>∃ k:Nat,n=.int .i64 (total (m.o.l::(holesL m).take k):Nat)∧i=.int .i64 (k:Int)∧k≤m.hs.length∧Hid (ah=allFrom (rholeB m.o.l (holesL m)) (m.hs.length - k) k)∧Hid (∀ j,j < k→ringB (hAt (holesL m) j)=true)∧Hid (Below W.heap.size W wr)) (fun _ i _ _ _=>m.hs.length - (intOf i).toNat)
   case atStart=>exact ⟨0,by simp [total],rfl,Nat.zero_le _,HAH,hid (fun j h=>absurd h (Nat.not_lt_zero j)),HB3⟩
   case round =>
    obtain ⟨k,rfl,rfl,hk,HD,HVH,HB⟩:=hrel
    by_cases hlt:k < m.hs.length
    ·skip
     have HD1:Hid (ah=(rholeB m.o.l (holesL m) k&&allFrom (rholeB m.o.l (holesL m)) (m.hs.length - (k+1)) (k+1))):=hid (by rw [HD.out,allFrom_step hlt])
     obtain ⟨g,off,hB,hg,hc⟩:=row_one (HRH.out W (Below.refl _ _)) (k:=k) (by simpa using hlt)
     have HCA:Hid (∀ j (h:j < m.hs.length),W.cell? ⟨g,off+j,none⟩=some (rowVal m.hs[j])):=hid (fun j h=>by rw [hc j (by simpa using h),List.getElem_map])
     have HGW:=hid hg
     have HAT:Hid (hAt (holesL m) k=m.hs[k].l):=hid (by unfold hAt holesL;rw [List.getD_eq_getElem?_getD,List.getElem?_eq_getElem (by simpa using hlt)];simp)
     have ck:=(HB.out.cell (p:=⟨g,off+k,none⟩) hg).trans (HCA.out k hlt)
     have HXM:Hid (m.hs[k]∈ringsM m):=hid (List.mem_cons_of_mem _ (List.getElem_mem hlt))
     have hsx:=HS.out.short m.hs[k] HXM.out
     have ho:=HVO.out
     have hom:m.o∈ringsM m:=by simp [ringsM]
     have htk:total (m.o.l::(holesL m).take k)≤1000*1001:=by
      refine Nat.le_trans (total_le 1000 _ (fun y hy=>?_)) ?_
      ·rcases List.mem_cons.1 hy with rfl | hy
       ·exact (HS.out.short m.o hom).1
       ·obtain ⟨z,hz,rfl⟩:=List.mem_map.1 (List.mem_of_mem_take hy)
        exact (HS.out.short z (List.mem_cons_of_mem _ hz)).1
      ·have:=HF.out
       simp [holesL]
       omega
     have HTN:Hid ((total (m.o.l::(holesL m).take (k+1)):Int)=(total (m.o.l::(holesL m).take k):Int)+(m.hs[k].l.length:Int)):=hid (by
      have e:(holesL m).take (k+1)=(holesL m).take k++[m.hs[k].l]:=by
       rw [List.take_succ_eq_append_getElem (by simpa [holesL] using hlt)]
       simp [holesL]
      rw [e,← List.cons_append,total_snoc]
      omega)
     clear hc hg
     obtain ⟨pq,HPQ0⟩:∃ pq,Hid (pq=allFrom (fun j=>rpairB m.hs[k].l (hAt (holesL m) j)) k 0):=⟨_,hid rfl⟩
     have HHB:Hid (rholeB m.o.l (holesL m) k=((rringB m.hs[k].l&&(!rmeets m.hs[k].l m.o.l&&insideAll m.hs[k].l m.o.l))&&pq)):=hid (by unfold rholeB;rw [HAT.out,HPQ0.out])
     generalize m.hs[k]=x at *
     have x1:IntKind.i64.wrap ((total (m.o.l::(holesL m).take k):Int)+(x.l.length:Int))=(total (m.o.l::(holesL m).take k):Int)+(x.l.length:Int):=by rw [IntKind.wrap_i64];omega
     have HRV2:=hid (fun W' (hW:Below W.heap.size W W')=>rring_any x.l x.A x.k W' (HRW.out W' hW x HXM.out) (by omega))
     generalize (total (m.o.l::(holesL m).take k):Int)=tn at *
     have hk1:(0:Int)≤(k:Int):=by omega
     have hk2:(k:Int) < (m.hs.length:Int):=by omega
     have c0:wr.cell? ⟨w.heap.size,0,none⟩=some (.slice m.o.A m.o.l.length m.o.k):=by rw [Lib.cell_of_heap ((HB.out.block _ (lt_of_block H2.out)).trans H2.out)];rfl
     have c1:wr.cell? ⟨w.heap.size,1,none⟩=some (.slice m.B m.hs.length m.k):=by rw [Lib.cell_of_heap ((HB.out.block _ (lt_of_block H2.out)).trans H2.out)];rfl
     unfold rowVal at ck
     rw [hB] at c1 ⊢
     cases hv:rringB x.l
     case false =>
      have HF0:Hid (rb=false):=hid (by rw [HRB.out,HD1.out,HHB.out,hv];simp)
      rw [hv] at HRV2
      clear hv ho
      go_wp2_with fail
      refine (HRV2.out _ HB.out).mono ?_
      rintro e w5 ⟨rfl,hb⟩
      have HB5:=hid (HB.out.trans (hb.mono HB.out.size))
      clear hb ck c0 c1 x1
      go_wp2
      go_ret
      rw [HF0.out]
      exact ⟨rfl,HB0.out.trans (HB5.out.mono HB0.out.size)⟩
     case true =>
      have hxv:ringB x.l=true:=by rw [← ring_same];exact hv
      have HXV:=hid hxv
      have hx:=ring_near hxv
      have hoo:=ring_near ho
      rw [hv] at HRV2 HHB
      have HM1:=hid (fun W' (hW:Below W.heap.size W W')=>rmeets_any x.l m.o.l x.A m.o.A x.k m.o.k W' (HRW.out W' hW x HXM.out) (HRW.out W' hW m.o hom) ⟨by omega,by omega⟩ ⟨by omega,by omega⟩ hx.1 hoo.1)
      have HI1:=hid (fun W' (hW:Below W.heap.size W W')=>rinAll_any m.o.l x.l m.o.A x.A m.o.k x.k W' (HRW.out W' hW m.o hom) ho (HRW.out W' hW x HXM.out) hx.1 (by omega))
      generalize rmeets x.l m.o.l=b1 at *
      generalize insideAll x.l m.o.l=b2 at *
      clear hv hxv ho hoo hom
      cases b1
      case true =>
       have HF0:Hid (rb=false):=hid (by rw [HRB.out,HD1.out,HHB.out];simp)
       go_wp2_with fail
       refine (HRV2.out _ HB.out).mono ?_
       rintro e w5 ⟨rfl,hb⟩
       have HB5:=hid (HB.out.trans (hb.mono HB.out.size))
       clear hb ck c0 c1 x1
       have c0:w5.cell? ⟨w.heap.size,0,none⟩=some (.slice m.o.A m.o.l.length m.o.k):=by rw [Lib.cell_of_heap ((HB5.out.block _ (lt_of_block H2.out)).trans H2.out)];rfl
       have c1:w5.cell? ⟨w.heap.size,1,none⟩=some (.slice m.B m.hs.length m.k):=by rw [Lib.cell_of_heap ((HB5.out.block _ (lt_of_block H2.out)).trans H2.out)];rfl
       clear c1
       go_wp2_with fail
       refine (HM1.out _ HB5.out).mono ?_
       rintro e w6 ⟨rfl,hb⟩
       have HB6:=hid (HB5.out.trans (hb.mono HB5.out.size))
       clear hb c0
       go_wp2
       go_ret
       rw [HF0.out]
       exact ⟨rfl,HB0.out.trans (HB6.out.mono HB0.out.size)⟩
      case false =>
       cases b2
       case false =>
        have HF0:Hid (rb=false):=hid (by rw [HRB.out,HD1.out,HHB.out];simp)
        go_wp2_with fail
        refine (HRV2.out _ HB.out).mono ?_
        rintro e w5 ⟨rfl,hb⟩
        have HB5:=hid (HB.out.trans (hb.mono HB.out.size))
        clear hb ck c0 c1 x1
        have c0:w5.cell? ⟨w.heap.size,0,none⟩=some (.slice m.o.A m.o.l.length m.o.k):=by rw [Lib.cell_of_heap ((HB5.out.block _ (lt_of_block H2.out)).trans H2.out)];rfl
        have c1:w5.cell? ⟨w.heap.size,1,none⟩=some (.slice m.B m.hs.length m.k):=by rw [Lib.cell_of_heap ((HB5.out.block _ (lt_of_block H2.out)).trans H2.out)];rfl
        clear c1
        go_wp2_with fail
        refine (HM1.out _ HB5.out).mono ?_
        rintro e w6 ⟨rfl,hb⟩
        have HB6:=hid (HB5.out.trans (hb.mono HB5.out.size))
        clear hb c0
        have c0:w6.cell? ⟨w.heap.size,0,none⟩=some (.slice m.o.A m.o.l.length m.o.k):=by rw [Lib.cell_of_heap ((HB6.out.block _ (lt_of_block H2.out)).trans H2.out)];rfl
        have c1:w6.cell? ⟨w.heap.size,1,none⟩=some (.slice m.B m.hs.length m.k):=by rw [Lib.cell_of_heap ((HB6.out.block _ (lt_of_block H2.out)).trans H2.out)];rfl
        clear c1
        go_wp2_with fail
        refine (HI1.out _ HB6.out).mono ?_
        rintro e w7 ⟨rfl,hb⟩
        have HB7:=hid (HB6.out.trans (hb.mono HB6.out.size))
        clear hb c0
        go_wp2
        go_ret
        rw [HF0.out]
        exact ⟨rfl,HB0.out.trans (HB7.out.mono HB0.out.size)⟩
       case true =>
        go_wp2_with fail
        refine (HRV2.out _ HB.out).mono ?_
        rintro e w5 ⟨rfl,hb⟩
        have HB5:=hid (HB.out.trans (hb.mono HB.out.size))
        clear hb ck c0 c1 x1
        have c0:w5.cell? ⟨w.heap.size,0,none⟩=some (.slice m.o.A m.o.l.length m.o.k):=by rw [Lib.cell_of_heap ((HB5.out.block _ (lt_of_block H2.out)).trans H2.out)];rfl
        have c1:w5.cell? ⟨w.heap.size,1,none⟩=some (.slice m.B m.hs.length m.k):=by rw [Lib.cell_of_heap ((HB5.out.block _ (lt_of_block H2.out)).trans H2.out)];rfl
        clear c1
        go_wp2_with fail
        refine (HM1.out _ HB5.out).mono ?_
        rintro e w6 ⟨rfl,hb⟩
        have HB6:=hid (HB5.out.trans (hb.mono HB5.out.size))
        clear hb c0
        have c0:w6.cell? ⟨w.heap.size,0,none⟩=some (.slice m.o.A m.o.l.length m.o.k):=by rw [Lib.cell_of_heap ((HB6.out.block _ (lt_of_block H2.out)).trans H2.out)];rfl
        have c1:w6.cell? ⟨w.heap.size,1,none⟩=some (.slice m.B m.hs.length m.k):=by rw [Lib.cell_of_heap ((HB6.out.block _ (lt_of_block H2.out)).trans H2.out)];rfl
        clear c1
        go_wp2_with fail
        refine (HI1.out _ HB6.out).mono ?_
        rintro e w7 ⟨rfl,hb⟩
        have HB7:=hid (HB6.out.trans (hb.mono HB6.out.size))
        clear hb c0
        go_wp2
        go_loopw [6] (fun i wr=>∃ j:Nat,i=.int .i64 (j:Int)∧j≤k∧Hid (pq=allFrom (fun j=>rpairB x.l (hAt (holesL m) j)) (k - j) j)∧Hid (Below W.heap.size W wr)) (fun i _=>k - (intOf i).toNat)
        case atStart=>exact ⟨0,rfl,Nat.zero_le _,HPQ0,HB7⟩
        case round =>
         obtain ⟨j,rfl,hj,HPQ,HBI⟩:=hrel
         by_cases hjk:j < k
         ·have hjl:j < m.hs.length:=by omega
          have HP1:Hid (pq=(rpairB x.l (hAt (holesL m) j)&&allFrom (fun j=>rpairB x.l (hAt (holesL m) j)) (k - (j+1)) (j+1))):=hid (by rw [HPQ.out,allFrom_step hjk])
          have HAJ:Hid (hAt (holesL m) j=m.hs[j].l):=hid (by unfold hAt holesL;rw [List.getD_eq_getElem?_getD,List.getElem?_eq_getElem (by simpa using hjl)];simp)
          have hyv:=HVH.out j hjk
          rw [HAJ.out] at HP1 hyv
          have hy:=ring_near hyv
          have hym:m.hs[j]∈ringsM m:=List.mem_cons_of_mem _ (List.getElem_mem hjl)
          have CJ:=hid (HCA.out j hjl)
          clear HAJ
          generalize m.hs[j]=y at *
          have HM2:=hid (fun W' (hW:Below W.heap.size W W')=>rmeets_any x.l y.l x.A y.A x.k y.k W' (HRW.out W' hW x HXM.out) (HRW.out W' hW y hym) ⟨by omega,by omega⟩ ⟨by omega,by omega⟩ hx.1 hy.1)
          have HI2:=hid (fun W' (hW:Below W.heap.size W W')=>rinAny_any y.l x.l y.A x.A y.k x.k W' (HRW.out W' hW y hym) hyv (HRW.out W' hW x HXM.out) hx.1 (by omega))
          have HI3:=hid (fun W' (hW:Below W.heap.size W W')=>rinAny_any x.l y.l x.A y.A x.k y.k W' (HRW.out W' hW x HXM.out) HXV.out (HRW.out W' hW y hym) hy.1 (by omega))
          have HPB:Hid (rpairB x.l y.l = !(rmeets x.l y.l || (insideAny x.l y.l || insideAny y.l x.l))):=hid rfl
          generalize rpairB x.l y.l=pb at *
          generalize rmeets x.l y.l=q1 at *
          generalize insideAny x.l y.l=q2 at *
          generalize insideAny y.l x.l=q3 at *
          have CJ2:Hid (W.cell? ⟨g,off+j,none⟩=some (.slice y.A y.l.length y.k)):=CJ
          have hj1:(0:Int)≤(j:Int):=by omega
          have hj2:(j:Int) < (k:Int):=by omega
          have hj3:(j:Int) < (m.hs.length:Int):=by omega
          clear hy hym hyv
          have cj:=(HBI.out.cell (p:=⟨g,off+j,none⟩) HGW.out).trans CJ2.out
          have c0:wr.cell? ⟨w.heap.size,0,none⟩=some (.slice m.o.A m.o.l.length m.o.k):=by rw [Lib.cell_of_heap ((HBI.out.block _ (lt_of_block H2.out)).trans H2.out)];rfl
          have c1:wr.cell? ⟨w.heap.size,1,none⟩=some (.slice m.B m.hs.length m.k):=by rw [Lib.cell_of_heap ((HBI.out.block _ (lt_of_block H2.out)).trans H2.out)];rfl
          rw [hB] at c1
          cases q1
          ·cases q2
           ·cases q3
            ·have HP2:Hid (pq=allFrom (fun j=>rpairB x.l (hAt (holesL m) j)) (k - (j+1)) (j+1)):=hid (by rw [HP1.out,HPB.out];rfl)
             go_wp2_with fail
             refine (HM2.out _ HBI.out).mono ?_
             rintro e w7 ⟨rfl,hb⟩
             have HB7:=hid (HBI.out.trans (hb.mono HBI.out.size))
             clear hb cj c0 c1
             have cj:=(HB7.out.cell (p:=⟨g,off+j,none⟩) HGW.out).trans CJ2.out
             have c0:w7.cell? ⟨w.heap.size,0,none⟩=some (.slice m.o.A m.o.l.length m.o.k):=by rw [Lib.cell_of_heap ((HB7.out.block _ (lt_of_block H2.out)).trans H2.out)];rfl
             have c1:w7.cell? ⟨w.heap.size,1,none⟩=some (.slice m.B m.hs.length m.k):=by rw [Lib.cell_of_heap ((HB7.out.block _ (lt_of_block H2.out)).trans H2.out)];rfl
             rw [hB] at c1
             go_wp2_with fail
             refine (HI2.out _ HB7.out).mono ?_
             rintro e w8 ⟨rfl,hb⟩
             have HB8:=hid (HB7.out.trans (hb.mono HB7.out.size))
             clear hb cj c0 c1
             have cj:=(HB8.out.cell (p:=⟨g,off+j,none⟩) HGW.out).trans CJ2.out
             have c0:w8.cell? ⟨w.heap.size,0,none⟩=some (.slice m.o.A m.o.l.length m.o.k):=by rw [Lib.cell_of_heap ((HB8.out.block _ (lt_of_block H2.out)).trans H2.out)];rfl
             have c1:w8.cell? ⟨w.heap.size,1,none⟩=some (.slice m.B m.hs.length m.k):=by rw [Lib.cell_of_heap ((HB8.out.block _ (lt_of_block H2.out)).trans H2.out)];rfl
             rw [hB] at c1
             go_wp2_with fail
             refine (HI3.out _ HB8.out).mono ?_
             rintro e w9 ⟨rfl,hb⟩
             have HB9:=hid (HB8.out.trans (hb.mono HB8.out.size))
             clear hb cj c0 c1
             go_wp2
             go_roundw
             case rel=>exact ⟨j+1,by go_num,by omega,HP2,HB9⟩
             case measure=>simp [intOf];omega
            ·have HF0:Hid (rb=false):=hid (by rw [HRB.out,HD1.out,HHB.out,HP1.out,HPB.out];simp)
             go_wp2_with fail
             refine (HM2.out _ HBI.out).mono ?_
             rintro e w7 ⟨rfl,hb⟩
             have HB7:=hid (HBI.out.trans (hb.mono HBI.out.size))
             clear hb cj c0 c1
             have cj:=(HB7.out.cell (p:=⟨g,off+j,none⟩) HGW.out).trans CJ2.out
             have c0:w7.cell? ⟨w.heap.size,0,none⟩=some (.slice m.o.A m.o.l.length m.o.k):=by rw [Lib.cell_of_heap ((HB7.out.block _ (lt_of_block H2.out)).trans H2.out)];rfl
             have c1:w7.cell? ⟨w.heap.size,1,none⟩=some (.slice m.B m.hs.length m.k):=by rw [Lib.cell_of_heap ((HB7.out.block _ (lt_of_block H2.out)).trans H2.out)];rfl
             rw [hB] at c1
             go_wp2_with fail
             refine (HI2.out _ HB7.out).mono ?_
             rintro e w8 ⟨rfl,hb⟩
             have HB8:=hid (HB7.out.trans (hb.mono HB7.out.size))
             clear hb cj c0 c1
             have cj:=(HB8.out.cell (p:=⟨g,off+j,none⟩) HGW.out).trans CJ2.out
             have c0:w8.cell? ⟨w.heap.size,0,none⟩=some (.slice m.o.A m.o.l.length m.o.k):=by rw [Lib.cell_of_heap ((HB8.out.block _ (lt_of_block H2.out)).trans H2.out)];rfl
             have c1:w8.cell? ⟨w.heap.size,1,none⟩=some (.slice m.B m.hs.length m.k):=by rw [Lib.cell_of_heap ((HB8.out.block _ (lt_of_block H2.out)).trans H2.out)];rfl
             rw [hB] at c1
             go_wp2_with fail
             refine (HI3.out _ HB8.out).mono ?_
             rintro e w9 ⟨rfl,hb⟩
             have HB9:=hid (HB8.out.trans (hb.mono HB8.out.size))
             clear hb cj c0 c1
             go_wp2
             go_ret
             rw [HF0.out]
             exact ⟨rfl,HB0.out.trans (HB9.out.mono HB0.out.size)⟩
           ·have HF0:Hid (rb=false):=hid (by rw [HRB.out,HD1.out,HHB.out,HP1.out,HPB.out];simp)
            go_wp2_with fail
            refine (HM2.out _ HBI.out).mono ?_
            rintro e w7 ⟨rfl,hb⟩
            have HB7:=hid (HBI.out.trans (hb.mono HBI.out.size))
            clear hb cj c0 c1
            have cj:=(HB7.out.cell (p:=⟨g,off+j,none⟩) HGW.out).trans CJ2.out
            have c0:w7.cell? ⟨w.heap.size,0,none⟩=some (.slice m.o.A m.o.l.length m.o.k):=by rw [Lib.cell_of_heap ((HB7.out.block _ (lt_of_block H2.out)).trans H2.out)];rfl
            have c1:w7.cell? ⟨w.heap.size,1,none⟩=some (.slice m.B m.hs.length m.k):=by rw [Lib.cell_of_heap ((HB7.out.block _ (lt_of_block H2.out)).trans H2.out)];rfl
            rw [hB] at c1
            go_wp2_with fail
            refine (HI2.out _ HB7.out).mono ?_
            rintro e w8 ⟨rfl,hb⟩
            have HB8:=hid (HB7.out.trans (hb.mono HB7.out.size))
            clear hb cj c0 c1
            go_wp2
            go_ret
            rw [HF0.out]
            exact ⟨rfl,HB0.out.trans (HB8.out.mono HB0.out.size)⟩
          ·have HF0:Hid (rb=false):=hid (by rw [HRB.out,HD1.out,HHB.out,HP1.out,HPB.out];simp)
           go_wp2_with fail
           refine (HM2.out _ HBI.out).mono ?_
           rintro e w7 ⟨rfl,hb⟩
           have HB7:=hid (HBI.out.trans (hb.mono HBI.out.size))
           clear hb cj c0 c1
           go_wp2
           go_ret
           rw [HF0.out]
           exact ⟨rfl,HB0.out.trans (HB7.out.mono HB0.out.size)⟩
         ·obtain rfl:j=k:=by omega
          have HD2:Hid (ah=allFrom (rholeB m.o.l (holesL m)) (m.hs.length - (j+1)) (j+1)):=hid (by rw [HD1.out,HHB.out,HPQ.out,allFrom_end];rfl)
          have HV2:Hid (∀ i,i < j+1→ringB (hAt (holesL m) i)=true):=hid (fun i hi=>by
           rcases Nat.lt_or_ge i j with h | h
           ·exact HVH.out i h
           ·obtain rfl:i=j:=by omega
            rw [HAT.out]
            exact HXV.out)
          go_wp2
          go_roundw
          case rel=>exact ⟨j+1,by rw [HTN.out],by go_num,by omega,HD2,HV2,HBI⟩
          case measure=>simp [intOf];omega
    ·obtain rfl:k=m.hs.length:=by omega
     have HTL:Hid ((holesL m).take m.hs.length=holesL m):=hid (by rw [show m.hs.length=(holesL m).length by simp [holesL],List.take_length])
     rw [HTL.out]
     have HRE:Hid (rb=decide (total (m.o.l::holesL m)≤80)):=hid (by rw [HRB.out,HD.out,allFrom_end];rfl)
     have c0:wr.cell? ⟨w.heap.size,0,none⟩=some (.slice m.o.A m.o.l.length m.o.k):=by rw [Lib.cell_of_heap ((HB.out.block _ (lt_of_block H2.out)).trans H2.out)];rfl
     have c1:wr.cell? ⟨w.heap.size,1,none⟩=some (.slice m.B m.hs.length m.k):=by rw [Lib.cell_of_heap ((HB.out.block _ (lt_of_block H2.out)).trans H2.out)];rfl
     by_cases ht:total (m.o.l::holesL m)≤80
     ·have t1:decide ((total (m.o.l::holesL m):Int)≤80)=true:=decide_eq_true (by omega)
      have HF0:Hid (rb=true):=hid (by rw [HRE.out];exact decide_eq_true ht)
      clear ht
      generalize (total (m.o.l::holesL m):Int)=tn at *
      go_wp2
      go_ret
      rw [HF0.out]
      exact ⟨rfl,HB0.out.trans (HB.out.mono HB0.out.size)⟩
     ·have t1:decide ((total (m.o.l::holesL m):Int)≤80)=false:=decide_eq_false (by omega)
      have HF0:Hid (rb=false):=hid (by rw [HRE.out];exact decide_eq_false ht)
      clear ht
      generalize (total (m.o.l::holesL m):Int)=tn at *
      go_wp2
      go_ret
      rw [HF0.out]
      exact ⟨rfl,HB0.out.trans (HB.out.mono HB0.out.size)⟩
end Go.Proofs.YtnkkcknogkgdkaaGreatDoor.GeW
