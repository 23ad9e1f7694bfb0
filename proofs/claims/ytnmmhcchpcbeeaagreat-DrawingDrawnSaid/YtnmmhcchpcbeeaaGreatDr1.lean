/- Walk: the drawing of shapes. Conditions: the shapes lie in memory. -/
import Derived.Test.YtnmmhcchpcbeeaaGreatSh7
import Derived.Test.YtnmmhcchpcbeeaaGreatDwX

namespace Go.Proofs.YtnmmhcchpcbeeaaGreat.GeW
open Lib (hid)
open Go Go.RowKit Go.Proofs.YtnmmhcchpcbeeaaGreat.Mem Go.Proofs.YtnmmhcchpcbeeaaGreat.Ge
attribute [local go_sem ↓] Go.wp_at_zero Go.wp_at_succ
def shapeL (m:ShapeM):List Value:=[rowVal m.o,holesVal m]
theorem shapeL_len (m:ShapeM):(shapeL m).length=2:=rfl
def okAll (ms:List ShapeM):Bool:=ms.all fun m=>shapeB m.o.l (holesL m)
def allEdges (ms:List ShapeM):List S:=ms.flatMap fun m=>edgesAll (ringsM m)
theorem allEdges_snoc (ms:List ShapeM) (m:ShapeM):allEdges (ms++[m])=allEdges ms++edgesAll (ringsM m):=by simp [allEdges]
def drawP (ms:List ShapeM) (layer:List UInt8):List S×Int :=
 if okAll ms then (if Lex.isName layer then (if (allEdges ms).length≤200 then (allEdges ms,0) else ([],9)) else ([],6)) else ([],11)
def lineCells (L:ByteArray) (e:S):List Value:=[.int .i64 1,.string L,.int .i64 e.1.1,.int .i64 e.1.2,.int .i64 e.2.1,.int .i64 e.2.2,.int .i64 0,.int .i64 0,.int .i64 0,.int .i64 0,.int .i64 0,.int .i64 0,.bool false,.slice none 0 0]
theorem line_one (L:ByteArray) (es:List S):∀ u∈es.flatMap (lineCells L),u.oneCell'=true:=by
 intro u hu
 obtain ⟨x,_,hx⟩:=List.mem_flatMap.1 hu
 unfold lineCells at hx
 simp at hx
 rcases hx with rfl | rfl | rfl | rfl | rfl | rfl | rfl | rfl | rfl<;>rfl
structure ShapesIn (w:World) (A:Option Addr) (ms:List ShapeM):Prop where
 row:Row w A (ms.flatMap shapeL)
 each:∀ m∈ms,ShapeIn w m
 few:ms.length≤100
 parts:∀ m∈ms,m.hs.length≤20
theorem ShapesIn.below {w w':World} {A:Option Addr} {ms:List ShapeM} (h:ShapesIn w A ms) (hb:Below w.heap.size w w'):ShapesIn w' A ms :=
 ⟨h.row.below hb,fun m hm=>(h.each m hm).below hb,h.few,h.parts⟩
theorem okRings {m:ShapeM} (h:shapeB m.o.l (holesL m)=true):∀ x∈ringsM m,2≤x.l.length∧x.l.length≤40:=by
 intro x hx
 unfold shapeB at h
 simp only [Bool.and_eq_true,List.all_eq_true] at h
 have:ringB x.l=true:=by
  rcases List.mem_cons.1 hx with rfl | hx
  ·exact h.2.1 _ (by simp)
  ·exact h.2.1 _ (List.mem_cons_of_mem _ (List.mem_map_of_mem hx))
 have:=ring_near this
 omega
theorem okEdges {m:ShapeM} (h:shapeB m.o.l (holesL m)=true) (hf:m.hs.length≤20):(edgesAll (ringsM m)).length≤21*40:=by
 refine Nat.le_trans (edgesAll_len 40 _ (fun x hx=>(okRings h x hx).2)) (Nat.mul_le_mul_right _ ?_)
 simp [ringsM]
 omega
theorem okPos {m:ShapeM} (h:shapeB m.o.l (holesL m)=true):0 < (edgesAll (ringsM m)).length:=by
 have h1:=(okRings h m.o (by simp [ringsM])).1
 have e:edgesAll (ringsM m)=edgesN m.o.l m.o.l.length++edgesAll m.hs:=by simp [edgesAll,ringsM]
 rw [e,List.length_append,edgesN_len]
 omega
theorem allEdges_len:∀ ms:List ShapeM,okAll ms=true→(∀ m∈ms,m.hs.length≤20)→(allEdges ms).length≤ms.length*840
 | [],_,_=>by simp [allEdges]
 | m::ms,h,hf=>by
  unfold okAll at h
  rw [List.all_cons,Bool.and_eq_true] at h
  have h1:=okEdges h.1 (hf m (by simp))
  have h2:=allEdges_len ms h.2 (fun x hx=>hf x (by simp [hx]))
  have e:allEdges (m::ms)=edgesAll (ringsM m)++allEdges ms:=by simp [allEdges]
  rw [e,List.length_append,List.length_cons,Nat.add_mul]
  omega
theorem okAll_take {ms:List ShapeM} (h:okAll ms=true) (k:Nat):okAll (ms.take k)=true:=by
 unfold okAll at *
 rw [List.all_eq_true] at *
 exact fun x hx=>h x (List.mem_of_mem_take hx)
theorem info_ent:(Tryz.prog.info? 66).map (fun i=>(i.zero,i.size,i.bytes))=some (some (.agg #[.int .i64 0,.string ⟨#[]⟩,.int .i64 0,.int .i64 0,.int .i64 0,.int .i64 0,.int .i64 0,.int .i64 0,.int .i64 0,.int .i64 0,.int .i64 0,.int .i64 0,.bool false,.slice none 0 0]),14,136):=by kernel_rfl
set_option maxRecDepth 100000 in
theorem badShape_any (m:ShapeM) (w:World) (h:ShapeIn w m):Calls Tryz.prog 34 #[.agg #[.slice m.o.A m.o.l.length m.o.k,.slice m.B m.hs.length m.k]] w fun e w'=>e=.returned (.bool (!shapeB m.o.l (holesL m)))∧Below w.heap.size w w':=by
 have HO:=hid (one_vec w (.cells #[.slice m.o.A m.o.l.length m.o.k,.slice m.B m.hs.length m.k] 29))
 have HV:=hid (shapeOk_any m (w.alloc (.cells #[.slice m.o.A m.o.l.length m.o.k,.slice m.B m.hs.length m.k] 29)) (h.below HO.out.1))
 have HUN:Hid (shapeVals m=#[.slice m.o.A m.o.l.length m.o.k,.slice m.B m.hs.length m.k]):=hid rfl
 rw [HUN.out] at HV
 have c0:(w.alloc (.cells #[.slice m.o.A m.o.l.length m.o.k,.slice m.B m.hs.length m.k] 29)).cell? ⟨w.heap.size,0,none⟩=some (.slice m.o.A m.o.l.length m.o.k):=by rw [Lib.cell_of_heap HO.out.2];rfl
 have c1:(w.alloc (.cells #[.slice m.o.A m.o.l.length m.o.k,.slice m.B m.hs.length m.k] 29)).cell? ⟨w.heap.size,1,none⟩=some (.slice m.B m.hs.length m.k):=by rw [Lib.cell_of_heap HO.out.2];rfl
 generalize shapeB m.o.l (holesL m)=b at *
 clear h HUN
 go_enter Tryz.func34,Tryz.ntmps34
 go_wp2_with fail
 refine HV.out.mono ?_
 rintro e w2 ⟨rfl,hb2⟩
 go_wp2
 go_ret
 exact ⟨rfl,HO.out.1.trans (hb2.mono HO.out.1.size)⟩
def badS (m:ShapeM):Bool := !shapeB m.o.l (holesL m)
set_option maxRecDepth 100000 in
set_option maxHeartbeats 1000000 in
theorem idxShapes_any (ms:List ShapeM) (A:Option Addr) (c:Nat) (w:World) (hr:ShapesIn w A ms) :
  Calls Tryz.prog 85 #[.slice A ms.length c,.func (.func 34) #[] #[]] w fun e w'=>e=.returned (.int .i64 (idx badS ms 0))∧Below w.heap.size w w':=by
 have HR:=hid hr
 have hfw:=hr.few
 clear hr
 have hst:=hid (show idx badS ms 0=idx badS (ms.drop 0) 0 by simp)
 go_enter Tryz.func85,Tryz.ntmps85
 go_wp2
 go_loopw [5,8] (fun _ t wr=>∃ k:Nat,k≤ms.length∧t=.int .i64 k∧Hid (idx badS ms 0=idx badS (ms.drop k) k)∧Below w.heap.size w wr) (fun _ t _=>ms.length - (intOf t).toNat)
 case atStart=>exact ⟨0,Nat.zero_le _,rfl,hst,Below.refl _ _⟩
 case round =>
  obtain ⟨k,hk,rfl,hd,hbel⟩:=hrel
  by_cases hlt:k < ms.length
  ·obtain ⟨g,off,rfl,hg,ca⟩:=row_get shapeL_len (by decide) HR.out.row (by omega)
   have a0:=(hbel.cell (p:=⟨g,off+k*2,none⟩) hg).trans (ca k hlt 0 (by decide))
   have a1:=(hbel.cell (p:=⟨g,off+k*2+1,none⟩) hg).trans (ca k hlt 1 (by decide))
   have hno:=hid (idx_no badS ms k hlt)
   have hyes:=hid (idx_yes badS ms k hlt)
   have HM:=hid (fun W (hW:Below w.heap.size w W)=>badShape_any ms[k] W ((HR.out.each _ (List.getElem_mem hlt)).below hW))
   have HBD:Hid (badS ms[k] = !shapeB ms[k].o.l (holesL ms[k])):=hid rfl
   have hk1:(0:Int)≤(k:Int):=by omega
   have hk2:(k:Int) < (ms.length:Int):=by omega
   clear ca
   generalize ms[k]=m at *
   simp only [shapeL,rowVal,holesVal,List.getElem?_cons_zero,List.getElem?_cons_succ] at a0 a1
   rw [← HBD.out] at HM
   generalize badS m=b at *
   cases b
   ·go_wp2_with fail
    refine (HM.out _ hbel).mono ?_
    rintro e w2 ⟨rfl,hb2⟩
    have HB2:=hid (hbel.trans (hb2.mono hbel.size))
    clear hb2
    go_wp2
    go_roundw
    case rel=>exact ⟨k+1,hlt,by go_num,hid (hd.out.trans (hno.out trivial)),HB2.out⟩
    case measure=>simp [intOf];omega
   ·go_wp2_with fail
    refine (HM.out _ hbel).mono ?_
    rintro e w2 ⟨rfl,hb2⟩
    have HB2:=hid (hbel.trans (hb2.mono hbel.size))
    clear hb2
    go_wp2
    go_ret
    rw [hd.out,hyes.out trivial]
    exact ⟨rfl,HB2.out⟩
  ·obtain rfl:k=ms.length:=by omega
   go_wp2
   go_ret
   rw [hd.out,List.drop_length]
   exact ⟨rfl,hbel⟩
theorem anyBad_any (ms:List ShapeM) (A:Option Addr) (c:Nat) (w:World) (hr:ShapesIn w A ms) :
  Calls Tryz.prog 33 #[.slice A ms.length c,.func (.func 34) #[] #[]] w fun e w'=>e=.returned (.bool (!okAll ms))∧Below w.heap.size w w':=by
 have hi:=hid (idxShapes_any ms A c w hr)
 have hq:=hid (idx_ge badS ms 0)
 have hz:Hid (ms.any badS = !okAll ms):=hid (by unfold okAll;simp [List.all_eq_not_any_not];rfl)
 clear hr
 go_enter Tryz.func33,Tryz.ntmps33
 go_wp2_with fail
 refine hi.out.mono ?_
 rintro e w1 ⟨rfl,hb1⟩
 go_wp2
 go_ret
 rw [hq.out,hz.out]
 exact ⟨rfl,hb1⟩
set_option maxRecDepth 100000 in
set_option maxHeartbeats 4000000 in
theorem draw_any (ms:List ShapeM) (A:Option Addr) (c:Nat) (layer:List UInt8) (w:World) (hr:ShapesIn w A ms) (hlay:layer.length≤1000000) :
  Calls Tryz.prog 10 #[.slice A ms.length c,.string ⟨layer.toArray⟩] w fun e w'=>(∃ v,e=.returned (.tuple #[v,.int .i64 (drawP ms layer).2])∧w'.ownsRow w.heap.size 66 14 v (drawP ms layer).1.length ((drawP ms layer).1.flatMap (lineCells ⟨layer.toArray⟩)))∧Below w.heap.size w w':=by
 have HR:=hid hr
 have hfw:=hr.few
 have HCF:=hid (anyBad_any ms A c w hr)
 have HIN:=hid (fun W=>isName2 layer hlay W)
 obtain ⟨i0,ia,ib,ic,id⟩:=info_parts info_ent
 obtain ⟨dp,HDP⟩:∃ dp,Hid (dp=drawP ms layer):=⟨_,hid rfl⟩
 rw [← HDP.out]
 clear hr hlay
 cases hok:okAll ms
 case false =>
  have HE:Hid (dp=([],11)):=hid (by rw [HDP.out];unfold drawP;rw [hok];rfl)
  rw [hok] at HCF
  clear hok
  go_enter Tryz.func10,Tryz.ntmps10
  go_wp2_with fail
  refine HCF.out.mono ?_
  rintro e w1 ⟨rfl,HBX⟩
  go_wp2
  refine bodyPost_ret (v:=.tuple #[.slice none 0 0,.int .i64 11]) (by simp [results,Tryz.results10,go_sem]) rfl ?_
  rw [HE.out]
  exact ⟨⟨_,rfl,World.ownsRow_nil _ _ _ _⟩,HBX⟩
 case true =>
  have HOK:=hid hok
  rw [hok] at HCF
  clear hok
  cases hnm:Lex.isName layer
  case false =>
   have HE:Hid (dp=([],6)):=hid (by rw [HDP.out];unfold drawP;rw [HOK.out,hnm];rfl)
   rw [hnm] at HIN
   clear hnm
   generalize (⟨layer.toArray⟩:ByteArray)=L at *
   go_enter Tryz.func10,Tryz.ntmps10
   go_wp2_with fail
   refine HCF.out.mono ?_
   rintro e w1 ⟨rfl,HBX⟩
   go_wp2_with fail
   refine (HIN.out _).mono ?_
   rintro e w2 ⟨rfl,rfl⟩
   go_wp2
   refine bodyPost_ret (v:=.tuple #[.slice none 0 0,.int .i64 6]) (by simp [results,Tryz.results10,go_sem]) rfl ?_
   rw [HE.out]
   exact ⟨⟨_,rfl,World.ownsRow_nil _ _ _ _⟩,HBX⟩
  case true =>
   have HE:Hid (dp=if (allEdges ms).length≤200 then (allEdges ms,0) else ([],9)):=hid (by rw [HDP.out];unfold drawP;rw [HOK.out,hnm];rfl)
   rw [hnm] at HIN
   clear hnm
   generalize (⟨layer.toArray⟩:ByteArray)=L at *
   go_enter Tryz.func10,Tryz.ntmps10
   go_wp2_with fail
   refine HCF.out.mono ?_
   rintro e w1 ⟨rfl,hb1⟩
   go_wp2_with fail
   refine (HIN.out _).mono ?_
   rintro e w2 ⟨rfl,rfl⟩
   have HB1:=hid hb1
   have HR1:=hid (HR.out.below hb1)
   clear hb1 HCF HIN
   go_wp2
   go_loopw [6,8,10,18] (fun o _ _ i wr=>∃ k:Nat,i=.int .i64 (k:Int)∧k≤ms.length∧Hid (wr.ownsRow w2.heap.size 66 14 o (allEdges (ms.take k)).length ((allEdges (ms.take k)).flatMap (lineCells L)))∧Hid (Below w2.heap.size w2 wr)) (fun _ _ _ i _=>ms.length - (intOf i).toNat)
   case atStart=>exact ⟨0,rfl,Nat.zero_le _,hid (World.ownsRow_nil _ _ _ _),hid (Below.refl _ _)⟩
   case round =>
    obtain ⟨k,rfl,hk,HOW,HB⟩:=hrel
    by_cases hlt:k < ms.length
    ·have HTK:Hid (allEdges (ms.take (k+1))=allEdges (ms.take k)++edgesAll (ringsM ms[k])):=hid (by rw [List.take_succ_eq_append_getElem hlt,allEdges_snoc])
     obtain ⟨oA,oc,rfl,hoc⟩:=own_shape HOW.out
     have hel:(allEdges (ms.take k)).length≤100*840:=Nat.le_trans (allEdges_len _ (okAll_take HOK.out k) (fun m hm=>HR1.out.parts m (List.mem_of_mem_take hm))) (Nat.mul_le_mul_right _ (by rw [List.length_take];omega))
     obtain ⟨g,off,rfl,hg,ca⟩:=row_get shapeL_len (by decide) HR1.out.row (by omega)
     have a0:=(HB.out.cell (p:=⟨g,off+k*2,none⟩) hg).trans (ca k hlt 0 (by decide))
     have a1:=(HB.out.cell (p:=⟨g,off+k*2+1,none⟩) hg).trans (ca k hlt 1 (by decide))
     have hmm:=List.getElem_mem hlt
     have hsb:shapeB ms[k].o.l (holesL ms[k])=true:=by have:=HOK.out;unfold okAll at this;exact List.all_eq_true.1 this _ hmm
     have HSE:=hid (fun W (hW:Below w2.heap.size w2 W)=>shapeEdges_any ms[k] W ((HR1.out.each _ hmm).below hW) (fun x hx=>⟨(okRings hsb x hx).1,Nat.le_trans (okRings hsb x hx).2 (by omega)⟩))
     have hee:=okEdges hsb (HR1.out.parts _ hmm)
     have hep:=okPos hsb
     clear ca hmm hsb
     have HUN:Hid (shapeVals ms[k]=#[.slice ms[k].o.A ms[k].o.l.length ms[k].o.k,.slice ms[k].B ms[k].hs.length ms[k].k]):=hid rfl
     rw [HUN.out] at HSE
     clear HUN
     generalize ms[k]=m at *
     simp only [shapeL,rowVal,holesVal,List.getElem?_cons_zero,List.getElem?_cons_succ] at a0 a1
     obtain ⟨es,hes⟩:∃ es,es=edgesAll (ringsM m):=⟨_,rfl⟩
     rw [← hes] at HTK HSE hee hep
     clear hes
     obtain ⟨ea,hea⟩:∃ ea,Hid (ea=allEdges (ms.take k)):=⟨_,hid rfl⟩
     rw [← hea.out] at HTK hel
     have hk1:(0:Int)≤(k:Int):=by omega
     have hk2:(k:Int) < (ms.length:Int):=by omega
     have HO:=hid (one_vec wr (.cells #[.slice m.o.A m.o.l.length m.o.k,.slice m.B m.hs.length m.k] 29))
     have HBW:=hid (HB.out.trans (HO.out.1.mono HB.out.size))
     have HOW1:Hid ((wr.alloc (.cells #[.slice m.o.A m.o.l.length m.o.k,.slice m.B m.hs.length m.k] 29)).ownsRow w2.heap.size 66 14 (.slice oA ea.length oc) ea.length (ea.flatMap (lineCells L))):=hid (by rw [hea.out];exact HOW.out.alloc _)
     rw [← hea.out]
     clear hea
     have e0:(wr.alloc (.cells #[.slice m.o.A m.o.l.length m.o.k,.slice m.B m.hs.length m.k] 29)).cell? ⟨wr.heap.size,0,none⟩=some (.slice m.o.A m.o.l.length m.o.k):=by rw [Lib.cell_of_heap HO.out.2];rfl
     have e1:(wr.alloc (.cells #[.slice m.o.A m.o.l.length m.o.k,.slice m.B m.hs.length m.k] 29)).cell? ⟨wr.heap.size,1,none⟩=some (.slice m.B m.hs.length m.k):=by rw [Lib.cell_of_heap HO.out.2];rfl
     go_wp2_with fail
     clear e0 e1 a0 a1
     generalize wr.alloc (.cells #[.slice m.o.A m.o.l.length m.o.k,.slice m.B m.hs.length m.k] 29)=W at *
     refine (HSE.out _ HBW.out).mono ?_
     rintro e w3 ⟨⟨v3,rfl,hown3⟩,hb3⟩
     have HEO3:=hid hown3
     obtain ⟨g3,k3,rfl,hk3,hg3b,hg3,_⟩:=own_get seg_len rfl hown3 hep
     have HB3:=hid (HBW.out.trans (hb3.mono HBW.out.size))
     have HO3:=hid (own_below HOW1.out hb3)
     clear hown3 hb3 HOW1
     go_wp2
     go_loopw [6,10,25] (fun o _ i wr=>∃ j:Nat,i=.int .i64 (j:Int)∧j≤es.length∧Hid (wr.ownsRow w2.heap.size 66 14 o (ea++es.take j).length ((ea++es.take j).flatMap (lineCells L)))∧Hid (wr.ownsRow W.heap.size 74 4 (.slice (some ⟨g3,0,none⟩) es.length k3) es.length (es.flatMap segCells))∧Hid (Below w2.heap.size w2 wr)) (fun _ _ i _=>es.length - (intOf i).toNat)
     case atStart=>exact ⟨0,rfl,Nat.zero_le _,hid (by rw [List.take_zero,List.append_nil];exact HO3.out),HEO3,HB3⟩
     case round =>
      obtain ⟨j,rfl,hj,HOJ,HEJ,HBJ⟩:=hrel
      obtain ⟨oA,oc,rfl,hoc⟩:=own_shape HOJ.out
      by_cases hjl:j < es.length
      ·have HTJ:Hid (ea++es.take (j+1)=(ea++es.take j)++[es[j]]):=hid (by rw [List.take_succ_eq_append_getElem hjl,List.append_assoc])
       have hll:(ea++es.take j).length≤100*840+21*40:=by rw [List.length_append,List.length_take];omega
       obtain ⟨gq,oq,hq,hgq,cq⟩:=row_get seg_len (by decide) (Row.of_own HEJ.out) (by omega)
       simp only [Option.some.injEq,Addr.mk.injEq] at hq
       obtain ⟨hq1,hq2,_⟩:=hq
       subst hq1 hq2
       have d0:=cq j hjl 0 (by decide)
       have d1:=cq j hjl 1 (by decide)
       have d2:=cq j hjl 2 (by decide)
       have d3:=cq j hjl 3 (by decide)
       generalize es[j]=q at *
       obtain ⟨⟨ax,ay⟩,bx,b_y⟩:=q
       simp only [segCells,List.getElem?_cons_zero,List.getElem?_cons_succ,Nat.add_zero,Nat.zero_add] at d0 d1 d2 d3
       generalize ea++es.take j=cur at *
       have hj1:(0:Int)≤(j:Int):=by omega
       have hj2:(j:Int) < (es.length:Int):=by omega
       have HOB:=hid (one_vec wr (.cells #[.int .i64 ax,.int .i64 ay,.int .i64 bx,.int .i64 b_y] 74))
       have HBE:=hid (HBJ.out.trans (HOB.out.1.mono HBJ.out.size))
       obtain ⟨x0,x1,x2,x3⟩:=quad_at HOB.out.2 (Below.refl _ _)
       have HO4:=hid (HOJ.out.alloc (.cells #[.int .i64 ax,.int .i64 ay,.int .i64 bx,.int .i64 b_y] 74))
       have HE4:=hid (HEJ.out.alloc (.cells #[.int .i64 ax,.int .i64 ay,.int .i64 bx,.int .i64 b_y] 74))
       have C2:Hid (cur.length+1≤maxLen∧(cur.length+1)*136≤140737488355328∧∀ u∈([.int .i64 1,.string L,.int .i64 ax,.int .i64 ay,.int .i64 bx,.int .i64 b_y,.int .i64 0,.int .i64 0,.int .i64 0,.int .i64 0,.int .i64 0,.int .i64 0,.bool false,.slice none 0 0]:List Value),u.oneCell'=true):=hid ⟨by unfold maxLen;omega,by omega,by
        have:=line_one L [((ax,ay),bx,b_y)]
        simpa [lineCells] using this⟩
       clear cq
       go_upto_region 12 with fail
       clear d0 d1 d2 d3
       generalize wr.alloc (.cells #[.int .i64 ax,.int .i64 ay,.int .i64 bx,.int .i64 b_y] 74)=W5 at *
       go_wp2_with (at_builtin;refine wpList_append_row _ rfl _ _ 30 rfl w2.heap.size 66 i0 _ 14 136 Tryz.underlying30 ia ib ic id rfl (by omega) _ _ _ rfl (HO4.out.alloc (.cells #[.int .i64 1,.string L,.int .i64 ax,.int .i64 ay,.int .i64 bx,.int .i64 b_y,.int .i64 0,.int .i64 0,.int .i64 0,.int .i64 0,.int .i64 0,.int .i64 0,.bool false,.slice none 0 0] 66)) (some ⟨W5.heap.size,0,none⟩) 1 1 [.int .i64 1,.string L,.int .i64 ax,.int .i64 ay,.int .i64 bx,.int .i64 b_y,.int .i64 0,.int .i64 0,.int .i64 0,.int .i64 0,.int .i64 0,.int .i64 0,.bool false,.slice none 0 0] rfl (newN_row W5 [.int .i64 1,.string L,.int .i64 ax,.int .i64 ay,.int .i64 bx,.int .i64 b_y,.int .i64 0,.int .i64 0,.int .i64 0,.int .i64 0,.int .i64 0,.int .i64 0,.bool false,.slice none 0 0] 66) rfl C2.out.2.2 C2.out.1 C2.out.2.1 (by have:=HBE.out.size;simp<;>omega) ?_;intro v' wa hown hg1;have HF1:=hid (below_append (HBE.out.alloc HBE.out.size (.cells #[.int .i64 1,.string L,.int .i64 ax,.int .i64 ay,.int .i64 bx,.int .i64 b_y,.int .i64 0,.int .i64 0,.int .i64 0,.int .i64 0,.int .i64 0,.int .i64 0,.bool false,.slice none 0 0] 66)) (by have:=HBE.out.size;simp<;>omega) (HO4.out.alloc (.cells #[.int .i64 1,.string L,.int .i64 ax,.int .i64 ay,.int .i64 bx,.int .i64 b_y,.int .i64 0,.int .i64 0,.int .i64 0,.int .i64 0,.int .i64 0,.int .i64 0,.bool false,.slice none 0 0] 66)) hg1 (Nat.le_refl _));have HE5:=hid (own_keep hg1 ((RowT.own (HO4.out.alloc (.cells #[.int .i64 1,.string L,.int .i64 ax,.int .i64 ay,.int .i64 bx,.int .i64 b_y,.int .i64 0,.int .i64 0,.int .i64 0,.int .i64 0,.int .i64 0,.int .i64 0,.bool false,.slice none 0 0] 66))).weak) (by decide) (HE4.out.alloc (.cells #[.int .i64 1,.string L,.int .i64 ax,.int .i64 ay,.int .i64 bx,.int .i64 b_y,.int .i64 0,.int .i64 0,.int .i64 0,.int .i64 0,.int .i64 0,.int .i64 0,.bool false,.slice none 0 0] 66)));have HP:=hid hown;clear hown hg1)
       clear x0 x1 x2 x3
       go_wp2
       go_roundw
       case rel=>exact ⟨j+1,by go_num,by omega,hid (by rw [HTJ.out];simpa [List.flatMap_append,lineCells] using HP.out),HE5,HF1⟩
       case measure=>simp [intOf];omega
      ·obtain rfl:j=es.length:=by omega
       have HTF:Hid (allEdges (ms.take (k+1))=ea++es.take es.length):=hid (by rw [HTK.out,List.take_length])
       go_wp2
       go_roundw
       case rel=>exact ⟨k+1,by go_num,by omega,hid (by rw [HTF.out];exact HOJ.out),HBJ⟩
       case measure=>simp [intOf];omega
    ·obtain rfl:k=ms.length:=by omega
     obtain ⟨oA,oc,rfl,hoc⟩:=own_shape HOW.out
     have HTL:Hid (ms.take ms.length=ms):=hid List.take_length
     rw [HTL.out] at HOW ⊢
     have HBX0:=hid (HB1.out.trans (HB.out.mono HB1.out.size))
     have HOX:=hid (own_more HOW.out HB1.out.size)
     clear HTL
     generalize allEdges ms=ea at *
     by_cases h200:ea.length≤200
     ·have d2:decide (200 < (ea.length:Int))=false:=decide_eq_false (by omega)
      have HEE:Hid (dp=(ea,0)):=hid (by rw [HE.out,if_pos h200])
      clear h200
      go_wp2
      refine bodyPost_ret (v:=.tuple #[.slice oA ea.length oc,.int .i64 0]) (by simp [results,Tryz.results10,go_sem]) rfl ?_
      rw [HEE.out]
      exact ⟨⟨_,rfl,HOX.out⟩,HBX0.out⟩
     ·have d2:decide (200 < (ea.length:Int))=true:=decide_eq_true (by omega)
      have HEE:Hid (dp=([],9)):=hid (by rw [HE.out,if_neg h200])
      clear h200
      go_wp2
      refine bodyPost_ret (v:=.tuple #[.slice none 0 0,.int .i64 9]) (by simp [results,Tryz.results10,go_sem]) rfl ?_
      rw [HEE.out]
      exact ⟨⟨_,rfl,World.ownsRow_nil _ _ _ _⟩,HBX0.out⟩
end Go.Proofs.YtnmmhcchpcbeeaaGreat.GeW
