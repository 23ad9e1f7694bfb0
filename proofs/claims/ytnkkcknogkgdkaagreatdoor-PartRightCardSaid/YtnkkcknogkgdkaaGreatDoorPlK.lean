/- Walk: Canonical of a valid shape. Conditions: the shape lies in memory and is valid. -/
import Derived.Test.YtnkkcknogkgdkaaGreatDoorPlE
import Derived.Test.YtnkkcknogkgdkaaGreatDoorSh2
import Derived.Test.YtnkkcknogkgdkaaGreatDoorShelfS
import Derived.Test.YtnkkcknogkgdkaaGreatDoorPcC

namespace Go.Proofs.YtnkkcknogkgdkaaGreatDoor.GeW
open Lib (hid)
open Go Go.RowKit Go.Proofs.YtnkkcknogkgdkaaGreatDoor.Mem Go.Proofs.YtnkkcknogkgdkaaGreatDoor.Ge
open Go.Sort Go.Shelf
/-- From its address on a row can be read, in another block than b. -/
def RowNot (b:Nat) (w:World) (A:Option Addr) (xs:List Value):Prop:=∃ g off,A=some ⟨g,off,none⟩∧g < w.heap.size∧g≠b∧∀ j,j < xs.length→w.cell? ⟨g,off+j,none⟩=xs[j]?
theorem RowNot.row {b:Nat} {w:World} {A:Option Addr} {xs:List Value} (h:RowNot b w A xs):Row w A xs:=fun _=>by
 obtain ⟨g,off,e,hg,_,hc⟩:=h
 exact ⟨g,off,e,hg,hc⟩
theorem RowNot.keep {b:Nat} {w w':World} {A:Option Addr} {xs:List Value} (h:RowNot b w A xs) (hg:w.grownBy w' (some b)):RowNot b w' A xs:=by
 obtain ⟨g,off,e,hlt,hne,hc⟩:=h
 refine ⟨g,off,e,Nat.lt_of_lt_of_le hlt hg.size,hne,fun j hj=>?_⟩
 rw [World.cell?_of_block (hg.block g hlt (by intro e;injection e with e;exact hne e))]
 exact hc j hj
theorem sortW_grown {α:Type} [Inhabited α] (enc:α→Value) (w:World) (b m:Nat) (d:Array α) (os:Array Obj):w.grownBy (sortWorld enc w b 0 m d os) (some b):=by
 refine ⟨rfl,rfl,rfl,?_,fun k hk hne=>?_⟩
 ·unfold sortWorld putRow mapBlock grow Go.Sort.ahead
  simp
 ·unfold sortWorld putRow mapBlock grow Go.Sort.ahead
  have hnk : ¬ b=k:=fun e=>hne (by rw [e])
  rw [Array.getElem?_append_left (by simpa using hk),Array.getElem?_modify,if_neg hnk]
theorem sortW_tag {α:Type} [Inhabited α] (enc:α→Value) (w:World) (b m:Nat) (d:Array α) (os:Array Obj) {cur:Array Value} {T:TypeId} {fz:Nat×Nat} (h:w.heap[b]? = some (.cells cur T fz)):∃ cur' fz',(sortWorld enc w b 0 m d os).heap[b]? = some (.cells cur' T fz'):=by
 have hlt:=(Array.getElem?_eq_some_iff.1 h).1
 have e:(sortWorld enc w b 0 m d os).heap[b]? = (w.heap[b]?).map (onCells (putCells enc 0 d)):=by
  unfold sortWorld putRow mapBlock grow Go.Sort.ahead
  rw [Array.getElem?_append_left (by simpa using hlt),Array.getElem?_modify,if_pos rfl]
 rw [e,h]
 exact ⟨_,_,rfl⟩
abbrev RingN (b:Nat) (w:World):Type := {r:RowV // 0 < r.l.length∧RowNot b w r.A (r.l.flatMap ptCells)}
theorem ltOf_less {b:Nat} {w:World} (x y:RingN b w):Go.Proofs.ltOf (fun x y:RingN b w=>vcmp (hd x.1.l) (hd y.1.l)) x y=less (hd x.1.l) (hd y.1.l):=(vcmp_less _ _)
theorem swo_ring (b:Nat) (w:World):SWO (Go.Proofs.ltOf (fun x y:RingN b w=>vcmp (hd x.1.l) (hd y.1.l))) where
 irrefl x:=by rw [ltOf_less];exact less_irr _
 trans x y z h1 h2:=by
  rw [ltOf_less] at *
  cases h3:less (hd x.1.l) (hd z.1.l)
  ·rw [nless_trans (less_asymm h2) h3] at h1;cases h1
  ·rfl
 ntrans x y z h1 h2:=by rw [ltOf_less] at *;exact nless_trans h2 h1
set_option maxRecDepth 100000 in
theorem sortRings_any (b c base:Nat) (l:List RowV) (w:World) (hown:w.ownsRow base 45 1 (.slice (some ⟨b,0,none⟩) l.length c) l.length (l.map rowVal)) (h0:0 < l.length) (hl:l.length≤1000000) (hr:∀ r∈l,0 < r.l.length∧RowNot b w r.A (r.l.flatMap ptCells)) :
  Calls Tryz.prog 103 #[.slice (some ⟨b,0,none⟩) l.length c,.func (.func 104) #[] #[]] w fun e w'=>e=.returned (.tuple #[])∧w.grownBy w' (some b)∧∃ l':List RowV,l'.Perm l∧Asc (l'.map RowV.l)∧Row w' (some ⟨b,0,none⟩) (l'.map rowVal)∧∃ cur fz,w'.heap[b]? = some (.cells cur 45 fz):=by
 haveI:Inhabited (RingN b w):=⟨⟨l[0],hr _ (List.getElem_mem h0)⟩⟩
 obtain ⟨la,hla⟩:∃ la:List (RingN b w),la.map Subtype.val=l:=⟨l.attachWith _ hr,by simp⟩
 have hsz:la.length=l.length:=by rw [← hla,List.length_map]
 have hblk:b < w.heap.size:=(hown.lt b rfl).2
 obtain ⟨enc,henc⟩:∃ enc:RingN b w→Value,enc=fun x=>rowVal x.1:=⟨_,rfl⟩
 have hH:Holds enc w b 0 la.toArray:=by
  intro j hj
  have hj1:j < la.length:=by simpa using hj
  have hj2:j < l.length:=by omega
  refine ⟨?_,?_⟩
  ·have e1:=hown.cellAt (g:=b) j (by omega)
   rw [Nat.zero_add,e1,List.getElem?_map,List.getElem?_eq_getElem hj2,Option.map_some]
   congr 1
   rw [getElem!_pos _ j (by simpa using hj1),henc]
   simp only [List.getElem_toArray]
   have:l[j]=(la[j]).1:=by
    have h2:(la.map Subtype.val)[j]'(by simpa using hj1)=l[j]:=by simp only [hla]
    rw [← h2,List.getElem_map]
   rw [this]
  ·rcases hown.2 with ⟨_,h2⟩ | ⟨g',cap,cur,hv,_,hh,_⟩
   ·omega
   ·injection hv with hv1
    injection hv1 with hv1
    injection hv1 with hv1
    subst hv1
    unfold World.frozen?
    rw [hh]
    simp
 have hcmp:Go.Proofs.CmpLays1 Tryz.prog 104 #[] enc (fun x y:RingN b w=>vcmp (hd x.1.l) (hd y.1.l)) b 0 la.toArray.size w:=fun m os dk _ x y=>by
  have hg:=sortW_grown enc w b m dk os
  have h1:=cmpRing_grew x.1.l y.1.l x.1.A y.1.A x.1.k y.1.k (sortWorld enc w b 0 m dk os) (x.2.2.keep hg).row (y.2.2.keep hg).row x.2.1 y.2.1
  subst henc
  exact h1
 have hmain:=Go.Proofs.Any.slices_SortFunc Tryz.sortRing enc (by subst henc;exact fun x=>rfl) _ (swo_ring b w) 104 #[] b 0 c la.toArray w (fun args w=>rfl) hcmp hH hblk (by simp;omega)
 have es:la.toArray.size=l.length:=by simpa using hsz
 rw [es] at hmain
 refine hmain.mono ?_
 rintro e' w' ⟨rfl,d',m,os,hp,hso,rfl⟩
 have hds:d'.size=l.length:=by rw [hp.1];exact es
 refine ⟨rfl,sortW_grown enc w b m d' os,d'.toList.map Subtype.val,?_,?_,?_,?_⟩
 ·have h3:=hp.2.2
  have e1:d'.extract 0 l.length=d':=by rw [← hds];exact Array.extract_size
  have e2:la.toArray.extract 0 l.length=la.toArray:=by rw [← es];exact Array.extract_size
  rw [e1,e2] at h3
  have h4:=h3.map Subtype.val
  rw [show la.toArray.toList=la from rfl,hla] at h4
  exact h4
 ·unfold Asc
  rw [List.pairwise_iff_getElem]
  intro i j hi hj hij
  simp only [List.length_map,Array.length_toList] at hi hj
  have h5:=hso i j (Nat.zero_le _) hij (by omega)
  rw [getElem!_pos d' i hi,getElem!_pos d' j hj,ltOf_less] at h5
  simpa using h5
 ·have hS:Go.Proofs.SW enc w b 0 d' (sortWorld enc w b 0 m d' os):=⟨m,os,rfl⟩
  have hK:=hS.holds hblk hH hp.1
  intro _
  refine ⟨b,0,rfl,Nat.lt_of_lt_of_le hblk (sortW_grown enc w b m d' os).size,fun j hj=>?_⟩
  simp only [List.length_map,Array.length_toList] at hj
  rw [(hK j hj).1,getElem!_pos d' j hj]
  subst henc
  simp [hj]
 ·rcases hown.2 with ⟨_,h2⟩ | ⟨g',cap,cur,hv,_,hh,_⟩
  ·omega
  ·injection hv with hv1
   injection hv1 with hv1
   injection hv1 with hv1
   subst hv1
   exact sortW_tag enc w b m d' os hh
end Go.Proofs.YtnkkcknogkgdkaaGreatDoor.GeW

namespace Go.Proofs.YtnkkcknogkgdkaaGreatDoor.PaW
open Lib (hid)
open Go Go.RowKit Go.Proofs.YtnkkcknogkgdkaaGreatDoor.Mem Go.Proofs.YtnkkcknogkgdkaaGreatDoor.Pa
open Go.Proofs.YtnkkcknogkgdkaaGreatDoor.Ge (V)
open Go.Proofs.YtnkkcknogkgdkaaGreatDoor.Lex (Tok)
open Go.Proofs.YtnkkcknogkgdkaaGreatDoor.LexW (tokCells)
attribute [local go_sem ↓] Go.wp_at_zero Go.wp_at_succ

open Go.Proofs.YtnkkcknogkgdkaaGreatDoor.GeW (ptCells pt_len RowV rowVal ShapeM ShapeIn shapeVals holesL holesVal shapeOk_any canon_any row_one sortRings_any RowNot)
open Go.Proofs.YtnkkcknogkgdkaaGreatDoor.Ge (canonR shapeB beginL sortH Asc holes_one canonR_begin shape_rings ring_facts hd)
theorem info_ring1:(Tryz.prog.info? 45).map (fun i=>(i.zero,i.size,i.bytes))=some (some (.slice none 0 0),1,24):=by kernel_rfl
/-- A shape in memory whose rows lie in blocks of their types. -/
structure ShapeAt (w:World) (m:ShapeM):Prop where
 ro:At 35 0 w m.o.A (m.o.l.flatMap ptCells)
 rB:At 45 0 w m.B (m.hs.map rowVal)
 rh:∀ r∈m.hs,At 35 0 w r.A (r.l.flatMap ptCells)
 few:m.hs.length≤1000
 short:∀ r∈GeW.ringsM m,r.l.length≤1000∧r.l.length≤r.k
 room:m.hs.length≤m.k
theorem ShapeAt.sin {w:World} {m:ShapeM} (h:ShapeAt w m):ShapeIn w m:=⟨h.ro.1,h.rB.1,fun r hr=>(h.rh r hr).1,h.few,h.short,h.room⟩
theorem ShapeAt.keep {w w':World} {row:Option Nat} {T:TypeId} {m:ShapeM} (h:ShapeAt w m) (hg:w.grownBy w' row) (hr:RowW w 0 T row) (h1:T ≠ 35) (h2:T ≠ 45):ShapeAt w' m :=
 ⟨h.ro.keep hg hr h1,h.rB.keep hg hr h2,fun r hm=>(h.rh r hm).keep hg hr h1,h.few,h.short,h.room⟩
theorem ShapeAt.below {w w':World} {m:ShapeM} (h:ShapeAt w m) (hb:Below w.heap.size w w'):ShapeAt w' m :=
 ⟨h.ro.below hb,h.rB.below hb,fun r hm=>(h.rh r hm).below hb,h.few,h.short,h.room⟩
theorem tag_ne {w:World} {g g':Nat} {T T':TypeId} (h:Tagged w g T) (h':Tagged w g' T') (hne:T≠T'):g≠g':=by
 rintro rfl
 obtain ⟨c,f,h⟩:=h
 obtain ⟨c',f',h'⟩:=h'
 rw [h] at h'
 cases h'
 exact hne rfl
theorem sortRings_own {base n c:Nat} {A:Option Addr} (l:List RowV) (w:World) (hn:n=l.length) (hown:w.ownsRow base 45 1 (.slice A n c) n (l.map rowVal)) (hl:l.length≤1000000) (hr:∀ r∈l,0 < r.l.length∧At 35 0 w r.A (r.l.flatMap ptCells)) :
  Calls Tryz.prog 103 #[.slice A n c,.func (.func 104) #[] #[]] w fun e w'=>e=.returned (.tuple #[])∧w.grownBy w' (Value.slice A n c).ownBlock∧∃ l':List RowV,l'.Perm l∧Asc (l'.map RowV.l)∧At 45 0 w' A (l'.map rowVal):=by
 subst hn
 rcases Nat.eq_zero_or_pos l.length with h0 | h0
 ·have hl0:l=[]:=List.eq_nil_of_length_eq_zero h0
  subst hl0
  refine (sort_none A c _ w).mono ?_
  rintro e w' ⟨rfl,rfl⟩
  exact ⟨rfl,grown_refl _ _,[],List.Perm.refl _,List.Pairwise.nil,At.nil _ _ _ _⟩
 ·obtain ⟨b,rfl⟩:∃ b,A=some ⟨b,0,none⟩:=by
   rcases hown.2 with ⟨_,h2⟩ | ⟨g',cap,cur,hv,_⟩
   ·omega
   ·injection hv with hv1
    exact ⟨g',hv1⟩
  have ht:=(own_tag hown (g:=b) rfl).1
  refine (sortRings_any b c base l w hown h0 hl (fun r hr1=>⟨(hr r hr1).1,?_⟩)).mono ?_
  ·have h1:=hr r hr1
   have hne:r.l.flatMap ptCells≠[]:=by
    intro e
    have:=flatMap_len pt_len r.l
    rw [e] at this
    simp at this
    omega
   obtain ⟨g,off,hA,hlt,hc⟩:=h1.2.1 hne
   refine ⟨g,off,hA,hlt,?_,hc⟩
   rcases h1.2.2 hne g off hA with h2 | h2
   ·exact absurd h2 (Nat.not_lt_zero _)
   ·exact tag_ne h2 ht (by decide)
  ·rintro e w' ⟨rfl,hg,l',hp,ha,hrow,htag⟩
   exact ⟨rfl,hg,l',hp,ha,hrow,fun _ g off hA=>by cases hA;exact .inr htag⟩
theorem begin_len (l:List V):(beginL l).length=l.length:=by
 unfold beginL
 simp
 omega
set_option maxRecDepth 100000 in
set_option maxHeartbeats 2000000 in
theorem canonS_any (m:ShapeM) (w:World) (h:ShapeIn w m) (hv:shapeB m.o.l (holesL m)=true) :
  Calls Tryz.prog 50 #[.agg (shapeVals m)] w fun e w'=>(∃ m':ShapeM,e=.returned (.agg (shapeVals m'))∧ShapeAt w' m'∧m'.o.l=beginL m.o.l∧holesL m'=sortH ((holesL m).map beginL))∧Below w.heap.size w w':=by
 obtain ⟨i0,ia,ib,ic,id⟩:=info_parts info_ring1
 obtain ⟨⟨ol,oA,ok⟩,hs,mB,mk⟩:=m
 have hb1:=bel1 w (.cells #[.slice oA ol.length ok,.slice mB hs.length mk] 48)
 have hb2:=bel1 (w.alloc (.cells #[.slice oA ol.length ok,.slice mB hs.length mk] 48)) (.cells #[.slice none 0 0,.slice none 0 0] 48)
 have hz:(w.alloc (.cells #[.slice oA ol.length ok,.slice mB hs.length mk] 48)).heap.size=w.heap.size+1:=by simp
 have HN1:=hid (p_below (heap_new w (.cells #[.slice oA ol.length ok,.slice mB hs.length mk] 48)) hb2)
 have HN2:Hid (((w.alloc (.cells #[.slice oA ol.length ok,.slice mB hs.length mk] 48)).alloc (.cells #[.slice none 0 0,.slice none 0 0] 48)).heap[w.heap.size+1]? = some (.cells #[.slice none 0 0,.slice none 0 0] 48)):=hid (by have:=heap_new (w.alloc (.cells #[.slice oA ol.length ok,.slice mB hs.length mk] 48)) (.cells #[.slice none 0 0,.slice none 0 0] 48);rw [hz] at this;exact this)
 have HBB:=hid (hb1.trans (hb2.mono (by omega)))
 have HAA:=hid ((h.below hb1).below hb2)
 have HIN:=hid h
 have HVL:=hid hv
 have HVA:=hid (shapeOk_any ⟨⟨ol,oA,ok⟩,hs,mB,mk⟩ _ HAA.out)
 rw [hv] at HVA
 clear h hb1 hb2 hz hv
 unfold shapeVals holesVal rowVal at HVA ⊢
 dsimp only at HVA ⊢
 have HRO:Hid (canonR ol=beginL ol):=hid (canonR_begin (shape_rings HVL.out _ List.mem_cons_self))
 have HRH:Hid (∀ r∈hs,canonR r.l=beginL r.l∧3≤r.l.length∧r.l.length≤1000∧r.l.length≤r.k):=hid (fun r hr=>by
  have h1:=shape_rings HVL.out r.l (List.mem_cons_of_mem _ (List.mem_map_of_mem hr))
  have h2:=HIN.out.short r (List.mem_cons_of_mem _ hr)
  exact ⟨canonR_begin h1,(ring_facts h1).1,h2.1,h2.2⟩)
 have HFW:Hid (hs.length≤1000∧ol.length≤1000∧ol.length≤ok∧hs.length≤mk):=hid ⟨HIN.out.few,(HIN.out.short _ List.mem_cons_self).1,(HIN.out.short _ List.mem_cons_self).2,HIN.out.room⟩
 obtain ⟨n,HNN⟩:∃ n,Hid ((canonR ol).length=n):=⟨_,hid rfl⟩
 have HNB:Hid (n≤1000):=hid (by rw [← HNN.out,HRO.out,begin_len];exact HFW.out.2.1)
 go_enter Tryz.func50,Tryz.ntmps50
 go_upto_region 1 with fail
 generalize (w.alloc (.cells #[.slice oA ol.length ok,.slice mB hs.length mk] 48)).alloc (.cells #[.slice none 0 0,.slice none 0 0] 48)=W at *
 have x0:=cell_of HN1.out 0 _ rfl
 have x1:=cell_of HN1.out 1 _ rfl
 go_wp2_with fail
 refine HVA.out.mono ?_
 rintro e w2 ⟨rfl,hb2⟩
 have HB2:=hid (HBB.out.trans (hb2.mono HBB.out.size))
 have HC1:=hid (p_below HN1.out hb2)
 have HC2:=hid (p_below HN2.out hb2)
 have HA2:=hid (HAA.out.below hb2)
 clear hb2 x0 x1 HVA
 have x0:=cell_of HC1.out 0 _ rfl
 have HCN:=hid (canon_any ol oA ok w2 HA2.out.ro (by have:=HFW.out.2.1;omega) HFW.out.2.2.1)
 go_wp2_with fail
 refine HCN.out.mono ?_
 rintro e w3 ⟨⟨v,rfl,hown⟩,hb3⟩
 rw [HNN.out] at hown
 obtain ⟨B,d,rfl,hnd⟩:=own_shape hown
 have HND:=hid hnd
 have HOW3:Hid (w3.ownsRow (w.heap.size+2) 35 2 (.slice B n d) n ((canonR ol).flatMap ptCells)):=hid (own_more2 hown (by have:=blk_lt HC2.out;omega))
 have HB3:=hid (HB2.out.trans (hb3.mono HB2.out.size))
 have HD1:=hid (p_below HC1.out hb3)
 have HD2:=hid (p_below HC2.out hb3)
 clear hown hb3 x0 HCN hnd
 have hb4:=bel1 w3 (.cells #[.slice B n d,.slice none 0 0] 48)
 have HN4:=hid (heap_new w3 (.cells #[.slice B n d,.slice none 0 0] 48))
 have HB4:=hid (HB3.out.trans (hb4.mono HB3.out.size))
 have HE1:=hid (p_below HD1.out hb4)
 have HE2:=hid (p_below HD2.out hb4)
 have HOW4:Hid (At 35 0 (w3.alloc (.cells #[.slice B n d,.slice none 0 0] 48)) B ((canonR ol).flatMap ptCells)):=hid (At.of_own (HOW3.out.alloc (.cells #[.slice B n d,.slice none 0 0] 48)))
 have HOG:Hid (∀ g,(Value.slice B n d).ownBlock=some g→w.heap.size+2≤g):=hid (fun g hg=>(HOW3.out.lt g hg).1)
 have hob:w.heap.size+2≤w3.heap.size:=blk_lt HD2.out
 have HOS:Hid (∀ w',Below w3.heap.size (w3.alloc (.cells #[.slice B n d,.slice none 0 0] 48)) w'→w3.heap.size≤w'.heap.size):=hid (fun w' hb=>Nat.le_trans (by simp) hb.size)
 clear hb4
 go_upto_region 4 with fail
 generalize w3.alloc (.cells #[.slice B n d,.slice none 0 0] 48)=W4 at *
 generalize w3.heap.size=ob at *
 have x1:=cell_of HE1.out 1 _ rfl
 go_wp2_with fail
 go_loopw [5,17] (fun _ i wr=>∃ (k:Nat) (rs:List RowV) (hA:Option Addr) (hc:Nat),i=.int .i64 (k:Int)∧k≤hs.length∧Hid (rs.length=k)∧Hid (rs.map RowV.l=(hs.take k).map (fun r=>canonR r.l))∧Hid (wr.heap[ob]? = some (.cells #[.slice B n d,.slice hA rs.length hc] 48))∧Hid (∀ r∈rs,At 35 0 wr r.A (r.l.flatMap ptCells)∧r.l.length≤r.k)∧Hid (wr.ownsRow (ob+1) 45 1 (.slice hA rs.length hc) rs.length (rs.map rowVal))∧Hid (At 35 0 wr B ((canonR ol).flatMap ptCells))∧Hid (Below ob W4 wr)) (fun _ i _=>hs.length - (intOf i).toNat)
 case atStart=>exact ⟨0,[],none,0,rfl,Nat.zero_le _,hid rfl,hid (by simp),HN4,hid (fun r hr=>by cases hr),hid (World.ownsRow_nil _ _ _ _),HOW4,hid (Below.refl _ _)⟩
 case round =>
  obtain ⟨k,rs,hA,hc,rfl,hk,HLK,HMS,HX,HRS,HOW,HOB,HBO⟩:=hrel
  clear x1
  by_cases hlt:k < hs.length
  ·have HBR:=hid (HB4.out.trans (HBO.out.mono (show w.heap.size≤ob by omega)))
   have HBD:Hid (Below w.heap.size w wr.drew):=hid (below_drewN HBR.out 1)
   obtain ⟨g,off,rfl,hg,ca⟩:=row_one HIN.out.rB (k:=k) (by rw [List.length_map];exact hlt)
   have ck:=(HBR.out.cell (p:=⟨g,off+k,none⟩) hg).trans (ca k (by rw [List.length_map];exact hlt))
   rw [List.getElem_map] at ck
   have HTK:Hid ((hs.take (k+1)).map (fun r=>canonR r.l)=(hs.take k).map (fun r=>canonR r.l)++[canonR (hs[k]).l]):=hid (by rw [List.take_succ_eq_append_getElem hlt,List.map_append,List.map_cons,List.map_nil])
   have hmem:=List.getElem_mem hlt
   have hsh:=HRH.out _ hmem
   have HCN:=hid (fun W (hW:Below w.heap.size w W)=>canon_any (hs[k]).l (hs[k]).A (hs[k]).k W ((HIN.out.rh _ hmem).below hW) (by omega) hsh.2.2.2)
   have HPC:Hid ((canonR (hs[k]).l).length=(hs[k]).l.length):=hid (by rw [hsh.1,begin_len])
   have hfw:=HFW.out.1
   have hk1:(0:Int)≤(k:Int):=by omega
   have hk2:(k:Int) < (hs.length:Int):=by omega
   have C3:Hid (rs.length+1≤maxLen∧(rs.length+1)*24≤140737488355328):=hid (by have:=HLK.out;have:=HFW.out.1;unfold maxLen;omega)
   clear ca hmem hsh
   generalize hs[k]=p at *
   obtain ⟨pl,pA,pk⟩:=p
   unfold rowVal at ck
   dsimp only at ck HCN HTK HPC
   have z1:wr.drew.cell? ⟨ob,1,none⟩=some (.slice hA rs.length hc):=cell_of (show wr.drew.heap[ob]? = _ from HX.out) 1 _ rfl
   go_upto_region 7 with fail
   clear ck
   refine wp_region_tillK (k:=7) (S1:=fun w'=>True) (S2:=fun w'=>w'.cell? ⟨ob,1,none⟩=some (.slice hA rs.length hc)) (by kernel_rfl) ?_ (fun hHeld=>?_)
   ·exact ⟨trivial,z1⟩
   refine tK (i:=0) (v:=?_) rfl (Or.inl ⟨by rfl,?_⟩) ?_
   rotate_left
   ·intro w' hSw
    (try dsimp only at hSw)
    go_simp<;>with_reducible rfl
   try simp only [Act.put,sA]
   refine tK (i:=1) (v:=?_) rfl (Or.inl ⟨by rfl,?_⟩) ?_
   rotate_left
   ·intro w' hSw
    (try dsimp only at hSw)
    go_simp<;>with_reducible rfl
   try simp only [Act.put]
   refine tK (i:=2) (v:=?_) rfl (Or.inl ⟨by rfl,?_⟩) ?_
   rotate_left
   ·intro w' hSw
    (try dsimp only at hSw)
    go_simp<;>with_reducible rfl
   try simp only [Act.put]
   refine wpAnyK_one (i:=3) (o:=_) (by kernel_rfl) rfl (fun K hK=>?_)
   clear hHeld
   go_simp
   go_at_call 102
   refine (HCN.out wr.drew HBD.out).mono ?_
   rintro e w10 ⟨⟨v,rfl,hown⟩,hb10d⟩
   obtain ⟨A10,c10,rfl,hle10⟩:=own_shape hown
   have hb10:Below wr.heap.size wr w10:=(show Below wr.heap.size wr wr.drew from below_drewN (Below.refl _ _) 1).trans hb10d
   have HB10:=hid (HBO.out.trans (hb10.mono (HOS.out _ HBO.out)))
   have HX10:=hid (p_below HX.out hb10)
   have HRS10:=hid (fun r hr=>(HRS.out r hr).1.below hb10)
   have HOW10:=hid (own_below HOW.out hb10)
   have HOB10:=hid (HOB.out.below hb10)
   have HNA10:Hid (At 35 0 w10 A10 ((canonR pl).flatMap ptCells)):=hid (At.of_own hown)
   have y10:=cell_of HX10.out 1 (.slice hA rs.length hc) rfl
   clear hown hb10d hb10
   refine hK.out _ _ ?_ (fun _=>?_) (fun hHeld=>?_)
   ·exact trivial
   ·exact y10
   replace hHeld:=And.intro hHeld.1 (hHeld.2 (by decide))
   clear hK K
   try simp only [Act.put,sA,sB,sC]
   refine wpAnyK_one (i:=4) (o:=_) (by kernel_rfl) rfl (fun K hK=>?_)
   go_simp
   have hbn:=bel1 w10 (.cells #[.slice A10 (canonR pl).length c10] 45)
   have HB11:=hid (HB10.out.trans (hbn.mono (HOS.out _ HB10.out)))
   have HX11:=hid (p_below HX10.out hbn)
   have HRS11:=hid (fun r hr=>(HRS10.out r hr).below hbn)
   have HOB11:=hid (HOB10.out.below hbn)
   have HNA11:=hid (HNA10.out.below hbn)
   have HOW11:=hid (own_below HOW10.out hbn)
   have HNW:=hid (newN_row w10 [.slice A10 (canonR pl).length c10] 45)
   have y11:=cell_of HX11.out 1 (.slice hA rs.length hc) rfl
   have C5:Hid (ob+1≤(w10.alloc (.cells #[.slice A10 (canonR pl).length c10] 45)).heap.size):=hid (blk_lt HX11.out)
   clear hbn
   refine hK.out _ _ ?_ (fun _=>?_) (fun hHeld=>?_)
   ·exact trivial
   ·exact y11
   replace hHeld:=And.intro hHeld.1 (hHeld.2 (by decide))
   clear hK K
   try simp only [Act.put,sA,sB,sC]
   refine wpAnyK_one (i:=5) (o:=_) (by kernel_rfl) rfl (fun K hK=>?_)
   refine step_append_row (by rfl) _ _ _ (by rfl) (ob+1) 45 i0 _ 1 24 Tryz.underlying46 ia ib ic id rfl (by omega) (.slice hA rs.length hc) rs.length (rs.map rowVal) (by rfl) HOW11.out (some ⟨w10.heap.size,0,none⟩) 1 1 [.slice A10 (canonR pl).length c10] (by rfl) HNW.out rfl (by intro uu hu;simp at hu;subst hu;rfl) C3.out.1 C3.out.2 C5.out ?_
   intro v12 w12 hown12 hg12
   obtain ⟨B12,d12,rfl,_⟩:=own_shape hown12
   have HB12:=hid (below_grown2 HB11.out hg12 (fun q hq=>by have:=(HOW11.out.lt q hq).1;omega) (HOS.out _ HB11.out))
   have HX12:=hid (heap_keep hg12 (RowW.own HOW11.out) (by decide) HX11.out)
   have HRS12:=hid (fun r hr=>(HRS11.out r hr).keep hg12 ((RowW.own HOW11.out).mono (Nat.zero_le _)) (by decide))
   have HOB12:=hid (HOB11.out.keep hg12 ((RowW.own HOW11.out).mono (Nat.zero_le _)) (by decide))
   have HNA12:=hid (HNA11.out.keep hg12 ((RowW.own HOW11.out).mono (Nat.zero_le _)) (by decide))
   have HOW12:=hid hown12
   have y12:=cell_of HX12.out 1 (.slice hA rs.length hc) rfl
   have q12:=free_of HX12.out 1
   clear hown12 hg12 y10 y11 hHeld
   refine hK.out _ _ ?_ (fun _=>?_) (fun hHeld=>?_)
   ·exact trivial
   ·exact y12
   replace hHeld:=And.intro hHeld.1 (hHeld.2 (by decide))
   clear hK K
   try simp only [Act.put,sA]
   refine tK (i:=6) (v:=?_) rfl (Or.inl ⟨by rfl,?_⟩) ?_
   rotate_left
   ·intro w' hSw
    (try dsimp only at hSw)
    go_simp<;>with_reducible rfl
   try simp only [Act.put]
   refine wpAnyK_one (i:=7) (o:=_) (by kernel_rfl) rfl (fun K hK=>?_)
   go_simp
   have HG14:=hid (grown_set (grown_refl w12 (some ob)) 1 (.slice B12 (rs.length+1) d12))
   have HB14:Hid (Below ob W4 (w12.setCell ⟨ob,1,none⟩ (.slice B12 (rs.length+1) d12))):=hid (HB12.out.setCell (p:=⟨ob,1,none⟩) (Nat.le_refl _) _)
   have HX14:Hid ((w12.setCell ⟨ob,1,none⟩ (.slice B12 (rs.length+1) d12)).heap[ob]? = some (.cells #[.slice B n d,.slice B12 (rs.length+1) d12] 48)):=hid (by simpa using block_set HX12.out 1 (.slice B12 (rs.length+1) d12))
   have HRS14:=hid (fun r hr=>(HRS12.out r hr).keep HG14.out (RowW.at HX12.out (Nat.zero_le _)) (by decide))
   have HOB14:=hid (HOB12.out.keep HG14.out (RowW.at HX12.out (Nat.zero_le _)) (by decide))
   have HNA14:=hid (HNA12.out.keep HG14.out (RowW.at HX12.out (Nat.zero_le _)) (by decide))
   have HOW14:=hid (own_keep HG14.out (RowW.at HX12.out (Nat.zero_le _)) (by decide) HOW12.out)
   refine hK.out _ _ ?_ (fun hne=>?_) (fun hHeld=>?_)
   ·exact trivial
   ·exact absurd rfl hne
   clear hK K
   try simp only [Act.put,sA,sB,sC]
   refine wpAnyK_done (by kernel_rfl) ?_ _
   clear hHeld y12 q12 z1
   go_wp2_with fail
   go_roundw
   case rel=>exact ⟨k+1,rs++[⟨canonR pl,A10,c10⟩],B12,d12,by go_num,hlt,hid (by rw [List.length_append,HLK.out];rfl),hid (by rw [HTK.out,List.map_append,HMS.out];rfl),hid (by rw [List.length_append];exact HX14.out),hid (fun r hr=>by
    rcases List.mem_append.1 hr with hr | hr
    ·exact ⟨HRS14.out r hr,(HRS.out r hr).2⟩
    ·rw [List.mem_singleton.1 hr];exact ⟨HNA14.out,hle10⟩),hid (by rw [List.length_append,List.map_append];exact HOW14.out),HOB14,HB14⟩
   case measure=>simp [intOf];omega
  ·obtain rfl:k=hs.length:=by omega
   have HLL:Hid (rs.map RowV.l=(hs.map RowV.l).map beginL):=hid (by
    have h1:=HMS.out
    rw [List.take_length] at h1
    rw [h1,List.map_map]
    exact List.map_congr_left (fun r hr=>(HRH.out r hr).1))
   have HRL:Hid (∀ r∈rs,0 < r.l.length∧r.l.length≤1000):=hid (fun r hr=>by
    have h1:r.l∈(hs.map RowV.l).map beginL:=by rw [← HLL.out];exact List.mem_map_of_mem hr
    obtain ⟨l2,h2,h3⟩:=List.mem_map.1 h1
    obtain ⟨r2,h4,rfl⟩:=List.mem_map.1 h2
    have h5:=HRH.out r2 h4
    rw [← h3,begin_len]
    omega)
   have HSR:=hid (sortRings_own rs wr rfl HOW.out (by have:=HLK.out;have:=HFW.out.1;omega) (fun r hr=>⟨(HRL.out r hr).1,(HRS.out r hr).1⟩))
   have x1:=cell_of HX.out 1 _ rfl
   go_wp2_with fail
   refine HSR.out.mono ?_
   rintro e w5 ⟨rfl,hg5,l',hp,ha,hrow⟩
   have hb5:Below (ob+1) wr w5:=below_grown2 (Below.refl _ _) hg5 (fun q hq=>(HOW.out.lt q hq).1) (blk_lt HX.out)
   have HB5:=hid (HBO.out.trans (hb5.mono (Nat.le_succ ob)))
   have HX5:=hid ((hb5.block ob (Nat.lt_succ_self ob)).trans HX.out)
   have HE5:=hid ((HB5.out.block (w.heap.size+1) (by omega)).trans HE2.out)
   have hrw:=(RowW.own HOW.out).mono (Nat.zero_le (ob+1))
   have HRS5:=hid (fun r hr=>(HRS.out r hr).1.keep hg5 hrw (by decide))
   have HOB5:=hid (HOB.out.keep hg5 hrw (by decide))
   have HOL:Hid (∀ q,(Value.slice hA rs.length hc).ownBlock=some q→ob+1≤q):=hid (fun q hq=>(HOW.out.lt q hq).1)
   have HRW5:=hid hrow
   have HPM:=hid hp
   have HAS:=hid ha
   clear hg5 hb5 hrw hrow hp ha x1 HSR
   have o0:=cell_of HX5.out 0 _ rfl
   have o1:=cell_of HX5.out 1 _ rfl
   have z0:=cell_of HE5.out 0 _ rfl
   have z1:=cell_of HE5.out 1 _ rfl
   have q0:=free_of HE5.out 0
   have q1:=free_of HE5.out 1
   have HWF:=hid (block_set (block_set HE5.out 0 (.slice B n d)) 1 (.slice hA rs.length hc))
   have HGF:=hid (grown_set (grown_set (grown_refl w5 (some (w.heap.size+1))) 0 (.slice B n d)) 1 (.slice hA rs.length hc))
   go_wp2_with fail
   clear o0 o1 z0 z1 q0 q1
   generalize (w5.setCell ⟨w.heap.size+1,0,none⟩ (.slice B n d)).setCell ⟨w.heap.size+1,1,none⟩ (.slice hA rs.length hc)=WF at *
   have z0:=cell_of HWF.out 0 _ rfl
   have z1:=cell_of HWF.out 1 _ rfl
   have hbf:Below w.heap.size w WF:=below_grown2 (HB4.out.trans (HB5.out.mono (show w.heap.size≤ob by omega))) HGF.out (fun q hq=>by cases hq;omega) (HB4.out.trans (HB5.out.mono (show w.heap.size≤ob by omega))).size
   have hw5:=RowW.at HE5.out (Nat.zero_le (w.heap.size+1))
   have hlen:l'.length=rs.length:=HPM.out.length_eq
   refine bodyPost_ret (v:=.agg #[.slice B n d,.slice hA rs.length hc]) (by simp [results,Tryz.results50,go_sem,z0,z1]) rfl ?_
   refine ⟨⟨⟨⟨canonR ol,B,d⟩,l',hA,hc⟩,?_,⟨HOB5.out.keep HGF.out hw5 (by decide),HRW5.out.keep HGF.out hw5 (by decide),fun r hr=>(HRS5.out r (HPM.out.mem_iff.1 hr)).keep HGF.out hw5 (by decide),?_,fun r hr=>?_,?_⟩,HRO.out,?_⟩,hbf⟩
   ·rw [← HNN.out,← hlen]
   ·show l'.length≤1000
    rw [hlen,HLK.out];exact HFW.out.1
   ·rcases List.mem_cons.1 hr with rfl | hr
    ·exact ⟨by show (canonR ol).length≤1000;rw [HNN.out];exact HNB.out,by show (canonR ol).length≤d;rw [HNN.out];exact HND.out⟩
    ·have hr2:=HPM.out.mem_iff.1 hr
     exact ⟨(HRL.out r hr2).2,(HRS.out r hr2).2⟩
   ·show l'.length≤hc
    rw [hlen]
    obtain ⟨A2,c2,e2,h2⟩:=own_shape HOW.out
    injection e2 with _ _ e2
    omega
   ·exact holes_one HVL.out (by
     show (l'.map RowV.l).Perm ((hs.map RowV.l).map beginL)
     rw [← HLL.out]
     exact HPM.out.map _) HAS.out
end Go.Proofs.YtnkkcknogkgdkaaGreatDoor.PaW
