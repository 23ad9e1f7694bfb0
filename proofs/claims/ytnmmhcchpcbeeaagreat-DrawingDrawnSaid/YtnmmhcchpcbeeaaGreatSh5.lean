/- Walks: of the reference: whether the edges of two rings meet; whether vertices lie inside of a ring. Conditions: the rings lie in memory; the points are near. -/
import Derived.Test.YtnmmhcchpcbeeaaGreatSh3
import Derived.Test.YtnmmhcchpcbeeaaGreatRf13
import Derived.Test.YtnmmhcchpcbeeaaGreatWh3

namespace Go.Proofs.YtnmmhcchpcbeeaaGreat.GeW
open Lib (hid)
open Go Go.RowKit Go.Proofs.YtnmmhcchpcbeeaaGreat.Mem Go.Proofs.YtnmmhcchpcbeeaaGreat.Ge
theorem row_turn {base b:Nat} {e:TypeId} {size n:Nat} {v:Value} {xs:List Value} {A B:World} (h:A.ownsRow base e size v n xs) (hb:b < base) (ht:Turn b A B):B.ownsRow base e size v n xs:=by
 refine ⟨h.1,?_⟩
 rcases h.2 with h0 | ⟨g,cap,cur,hv,hg,hh,rest⟩
 ·exact .inl h0
 ·exact .inr ⟨g,cap,cur,hv,hg,(ht.block g (lt_of_block hh) (by omega)).trans hh,rest⟩
theorem row_cells {base:Nat} {e:TypeId} {size n:Nat} {v:Value} {xs:List Value} {A:World} (h:A.ownsRow base e size v n xs):∀ (j:Nat) (o:Obj),v.ownBlock=some j→A.heap[j]? = some o→o.isCells=true:=by
 intro j o hj ho
 rcases h.2 with ⟨rfl,_⟩ | ⟨g,cap,cur,rfl,_,hh,_⟩
 ·cases hj
 ·simp [Value.ownBlock] at hj
  subst hj
  rw [hh] at ho;cases ho;rfl
theorem row_put {base l:Nat} {e:TypeId} {size n:Nat} {v:Value} {xs:List Value} {A:World} {o o':Obj} (h:A.ownsRow base e size v n xs) (ho:A.heap[l]? = some o) (hc:o.isCells=false):(A.putObj l o').ownsRow base e size v n xs:=by
 refine ⟨h.1,?_⟩
 rcases h.2 with h0 | ⟨g,cap,cur,hv,hg,hh,rest⟩
 ·exact .inl h0
 ·refine .inr ⟨g,cap,cur,hv,hg,(World.putObj_heap_other ?_).trans hh,rest⟩
  intro e
  subst e
  rw [hh] at ho;cases ho;cases hc
def edgesAll (pre:List RowV):List S:=pre.flatMap fun r=>edgesN r.l r.l.length
theorem edgesAll_snoc (pre:List RowV) (x:RowV):edgesAll (pre++[x])=edgesAll pre++edgesN x.l x.l.length:=by simp [edgesAll]
theorem edgesAll_len (n:Nat):∀ pre:List RowV,(∀ x∈pre,x.l.length≤n)→(edgesAll pre).length≤pre.length*n
 | [],_=>by simp [edgesAll]
 | x::r,h=>by
  have h1:=h x (by simp)
  have h2:=edgesAll_len n r (fun y hy=>h y (by simp [hy]))
  have e:edgesAll (x::r)=edgesN x.l x.l.length++edgesAll r:=by simp [edgesAll]
  rw [e,List.length_append,edgesN_len,List.length_cons,Nat.add_mul]
  omega
theorem wpIn_append_one {F:Fence} {n:Nat} {P:Program} (w:World) {o:Oper} {a:Act} {K:Act→World→Prop} {Q:Exit→Act→World→Prop}
  (s x:Operand) (t:TypeId) (hop:o.op=Op.call { callee:=Callee.builtin Builtin.append,args:=#[s,x],argTypes:=#[t,t] })
  (base:Nat) (e:TypeId) (i:TypeInfo) (z:Value) (size bytes:Nat) (h1:P.underlying t=some (.slice e)) (h2:P.info? e=some i) (h3:i.zero=some z) (h4:i.size=size) (h5:i.bytes=bytes) (h6:z.cells.size=size) (h7:0 < size)
  (v:Value) (k:Nat) (xs:List Value) (hs:a.eval s=v) (hown:w.ownsRow base e size v k xs) (ad:Addr) (m c:Nat) (news:List Value) (hx:a.eval x=.slice (some ad) m c) (hn:news.length=m*size)
  (hc:∀ j u,news[j]? = some u→w.cell? (ad.add j)=some u) (h1c:∀ u∈news,u.oneCell'=true) (b1:k+m≤maxLen) (b2:(k+m)*bytes≤140737488355328) (b3:base≤w.heap.size)
  (hK:∀ v' w',w'.ownsRow base e size v' (k+m) (xs++news)→w.grownBy w' v.ownBlock→K (a.put o.dst v') w'):o.wpIn F n P a w K Q:=by
 obtain ⟨v',w',hrun,r1,r2,r3⟩:=run_append_own (P:=P) w base t o.type e i z size bytes h1 h2 h3 h4 h5 h6 h7 v k xs hown ad m c news hn hc h1c b1 b2 b3
 unfold Oper.wpIn
 refine ⟨?_,?_⟩
 ·simp [Oper.about,hop,resolve,Target.leads,Sem.run_pure]
 ·rw [Oper.semAt_plain F _ _ (by rw [hop];intro c hc';cases hc')]
  simp [execOp,hop,resolve,invoke,builtin,hs,hx,hrun,Result.andThen]
  exact hK v' w' r1 r2
theorem row_at {w:World} {g off:Nat} {xs:List Value} (h:Row w (some ⟨g,off,none⟩) xs):∀ j u,xs[j]? = some u→w.cell? ((⟨g,off,none⟩:Addr).add j)=some u:=by
 intro j u hj
 have hlt:j < xs.length:=(List.getElem?_eq_some_iff.1 hj).1
 obtain ⟨g',off',e,_,hc⟩:=h (by intro h0;rw [h0] at hlt;simp at hlt)
 cases e
 have:=(hc j hlt).trans hj
 unfold Addr.add
 by_cases h0:j=0
 ·subst h0;simpa using this
 ·rw [if_neg h0];exact this
def EI (w:World) (r:Nat) (pre:List RowV) (W:World):Prop :=
 ∃ v,W.heap[r+1]? = some (.cells #[v] 71)∧W.ownsRow (r+1+1+1) 74 4 v (edgesAll pre).length ((edgesAll pre).flatMap segCells)∧Below r w W∧r+1+1+1≤W.heap.size
attribute [local go_sem] Oper.semAt_some
set_option maxRecDepth 100000 in
set_option maxHeartbeats 4000000 in
theorem shapeEdges_any (m:ShapeM) (w:World) (h:ShapeIn w m) (hl:∀ x∈ringsM m,2≤x.l.length∧x.l.length≤200) :
  Calls Tryz.prog 36 #[.agg (shapeVals m)] w fun e w'=>(∃ v,e=.returned v∧w'.ownsRow w.heap.size 74 4 v (edgesAll (ringsM m)).length ((edgesAll (ringsM m)).flatMap segCells))∧Below w.heap.size w w':=by
 have HS:=hid h
 have HF:=hid h.few
 have HL:=hid hl
 have hbel:=(((Below.refl w.heap.size w).alloc (Nat.le_refl _) (.cells (shapeVals m) 29)).alloc (by simp) (.cells #[.slice none 0 0] 71))
 have hs2:((w.alloc (.cells (shapeVals m) 29)).alloc (.cells #[.slice none 0 0] 71)).heap.size=w.heap.size+1+1:=by simp
 have hc1:=heap_alloc_new (w.alloc (.cells (shapeVals m) 29)) (.cells #[.slice none 0 0] 71)
 simp only [World.size_alloc] at hc1
 have HRI:=hid (fun W=>rings_in 8 m W)
 have HBEL:=hid hbel
 have HS2:=hid hs2
 have HC:=hid hc1
 have HUN:Hid (shapeVals m=#[rowVal m.o,holesVal m]):=hid rfl
 rw [HUN.out] at HRI HC HBEL HS2
 obtain ⟨vh,hvh⟩:∃ vh,holesVal m=vh:=⟨_,rfl⟩
 obtain ⟨ov,hov⟩:∃ ov,rowVal m.o=ov:=⟨_,rfl⟩
 rw [HUN.out]
 rw [hvh,hov] at HRI HC HBEL HS2 ⊢
 have HOV:=hid hov
 have HVH:=hid hvh
 obtain ⟨i0,ia,ib,ic,id⟩:=info_parts info_seg
 clear hbel hs2 hc1 h hov hvh hl
 refine (callsIn_wide (n:=9)).1 ?_
 refine callsIn_of_wp_marks Tryz.func36 rfl trivial ?_ rfl
 simp only [Tryz.ntmps36,List.size_toArray,List.length_cons,List.length_nil,Nat.reduceAdd,Nat.reduceSub,Array.replicate_succ,Array.replicate_zero,List.push_toArray,List.append_toArray,List.nil_append,List.cons_append]
 gi_wp2
 refine ⟨trivial,?_⟩
 refine (HRI.out _).mono ?_
 rintro e w1 ⟨rfl,rfl⟩
 have HBX:=hid (heap_alloc_new2 ((w.alloc (.cells #[ov,vh] 29)).alloc (.cells #[.slice none 0 0] 71)) (.cells #[ov,vh] 29) HS2.out.symm)
 have HBE3:=hid (HBEL.out.alloc (by rw [HS2.out];omega) (.cells #[ov,vh] 29))
 have HC3:=hid (block_old (o':=(.cells #[ov,vh] 29)) HC.out)
 have HS3:Hid ((((w.alloc (.cells #[ov,vh] 29)).alloc (.cells #[.slice none 0 0] 71)).alloc (.cells #[ov,vh] 29)).heap.size=w.heap.size+1+1+1):=hid (by rw [World.size_alloc,HS2.out])
 gi_wp2
 clear HBEL HC HS2
 generalize (((w.alloc (.cells #[ov,vh] 29)).alloc (.cells #[.slice none 0 0] 71)).alloc (.cells #[ov,vh] 29))=W4 at *
 generalize hr:w.heap.size=r at *
 have HR:=hid hr
 clear hr
 refine' wpIn_rangeFunc_box rfl (by decide) (gf := 129) (lb:=#[.pointer (some ⟨r+1+1,0,none⟩)]) rfl trivial (enters_of Tryz.func129 (by kernel_rfl) rfl)
  (b:=r+1+1) (N:=r) (by rw [HS3.out];omega) (by rw [HS3.out];omega)
  (by rw [← HR.out];exact rings1_gives _ _ m w W4 (by rw [← HOV.out,← HVH.out] at HBX;rw [HR.out];exact HBX.out) HS.out.rB (fun k hk=>HBE3.out.block k (by rw [← HR.out];exact hk)) (by rw [HS3.out,HR.out];omega) HF.out (by decide))
  (fun _=>rfl) (EI w r) (fun _ _ _=>False) ?hI ?hI2 ?hX ?hX2 ?h0 _ ?assign ?body ?done ?stop
 case hI =>
  rintro pre A B ⟨v,h1,h2,h3,h4⟩ ht
  exact ⟨v,(ht.block _ (lt_of_block h1) (by omega)).trans h1,row_turn h2 (by omega) ht,below_turn h3 (by omega) (by omega) ht,Nat.le_trans h4 ht.size⟩
 case hI2 =>
  rintro pre A l o o' ⟨v,h1,h2,h3,h4⟩ hl ho hc
  rw [HS3.out] at hl
  exact ⟨v,(World.putObj_heap_other (by omega)).trans h1,row_put h2 ho hc,below_put h3 (by omega) _,by simpa [World.putObj] using h4⟩
 case hX=>exact fun _ _ _ _ h _=>h
 case hX2=>exact fun _ _ _ _ _ _ h _ _ _=>h
 case h0=>exact ⟨_,HC3.out,World.ownsRow_nil _ _ _ _,HBE3.out,by rw [HS3.out];exact Nat.le_refl _⟩
 case assign =>
  intro l x W K hK
  dsimp only [encRing]
  gi_wp2
  exact hK
 case body =>
  rintro l pre x W ⟨v,h1,h2,h3,h4⟩ hpre
  have hx:x∈ringsM m:=hpre.subset (by simp)
  have hlx:=HL.out x hx
  have hpl:pre.length≤1001:=by
   have h:=hpre.length_le
   have h6:=HF.out
   simp [ringsM] at h
   omega
  have htl:(edgesAll pre).length≤1001*200:=Nat.le_trans (edgesAll_len 200 _ (fun y hy=>(HL.out y (hpre.subset (by simp [hy]))).2)) (Nat.mul_le_mul_right _ hpl)
  have HED:=hid (fun W' (hW:Below r w W')=>edges_any x.l x.A x.k W' ((HS.out.row hx).below (by rw [HR.out];exact hW)) hlx.2 hlx.1)
  obtain ⟨vA,vc,rfl,hvc⟩:=own_shape h2
  have HLX:Hid (2≤x.l.length∧x.l.length≤200∧(edgesAll pre).length≤1001*200):=hid ⟨hlx.1,hlx.2,htl⟩
  have HES:=hid (edgesAll_snoc pre x)
  have HEL:=hid (edgesN_len x.l x.l.length)
  have H1:=hid h1
  have H2:=hid h2
  have H3:=hid h3
  have H4:=hid h4
  have c1:W.cell? ⟨r+1,0,none⟩=some (.slice vA (edgesAll pre).length vc):=by rw [Lib.cell_of_heap h1];rfl
  clear h1 h2 h3 h4 hx hlx hpl htl hpre
  generalize edgesAll pre=ea at *
  generalize edgesN x.l x.l.length=ex at *
  unfold rowVal
  gi_wp2
  refine wpIn_region_any (by kernel_rfl) ?_
  refine wpAnyIn_ready (rs:=[0,1]) (by kernel_rfl) (by simp) ?_
  refine (AllReadyIn.cons rfl (fun K hK=>?_) (AllReadyIn.cons rfl (fun K hK=>?_) AllReadyIn.nil))
  ·skip
   go_simp
   refine hK _ _ ?_
   refine wpAnyIn_ready (rs:=[1]) (by kernel_rfl) (by simp) ?_
   refine (AllReadyIn.cons rfl (fun K hK=>?_) AllReadyIn.nil)
   ·skip
    go_simp
    refine hK _ _ ?_
    refine wpAnyIn_ready (rs:=[2]) (by kernel_rfl) (by simp) ?_
    refine (AllReadyIn.cons rfl (fun K hK=>?_) AllReadyIn.nil)
    ·skip
     go_simp
     refine ⟨trivial,?_⟩
     refine (CallsIn.inRound l (callsIn_wide.2 (HED.out _ (below_drew H3.out)))).mono ?_
     rintro e w5 ⟨v5,rfl,hown5,hb5⟩
     obtain ⟨g5,k5,rfl,hk5,_,hg5,_⟩:=own_get seg_len HEL.out.symm hown5 (by have:=HLX.out;omega)
     have HB5:=hid ((below_drew (Below.refl W.heap.size W)).trans (hb5.mono (Nat.le_refl _)))
     have HR5:=hid (Row.of_own hown5)
     clear c1
     have c1:w5.cell? ⟨r+1,0,none⟩=some (.slice vA ea.length vc):=(HB5.out.cell (p:=⟨r+1,0,none⟩) (lt_of_block H1.out)).trans (by rw [Lib.cell_of_heap H1.out];rfl)
     clear hown5 hb5
     refine hK _ _ ?_
     refine wpAnyIn_ready (rs:=[3]) (by kernel_rfl) (by simp) ?_
     refine (AllReadyIn.cons rfl (fun K hK=>?_) AllReadyIn.nil)
     ·skip
      simp only [Region.wanted]
      refine wpIn_append_one w5 _ _ _ rfl (r+1+1+1) 74 i0 _ 4 32 Tryz.underlying71 ia ib ic id rfl (by omega) _ _ _ rfl (own_below H2.out HB5.out) ⟨g5,0,none⟩ x.l.length k5 (ex.flatMap segCells) rfl (by rw [flatMap_len seg_len,HEL.out]) (row_at HR5.out) (seg_one _) (by have:=HLX.out;unfold maxLen;omega) (by have:=HLX.out;omega) (Nat.le_trans H4.out HB5.out.size) ?_
      intro v6 w6 hown6 hg6
      obtain ⟨A6,k6,rfl,_⟩:=own_shape hown6
      have hb6:Below (r+1+1+1) W w6:=below_append (HB5.out.mono H4.out) (Nat.le_trans H4.out HB5.out.size) (own_below H2.out HB5.out) hg6 (Nat.le_refl _)
      have H16:=hid ((hb6.block (r+1) (by omega)).trans H1.out)
      have H6:=hid hb6
      have HKO:=hid ((others_below HB5.out).trans (KeepsOthers.of_grownBy hg6 (row_cells (own_below H2.out HB5.out))))
      have HO6:=hid hown6
      have f6:w6.frozen? ⟨r+1,0,none⟩=false:=Lib.frozen_of_heap H16.out 0
      have c6:w6.cell? ⟨r+1,0,none⟩=some (.slice vA ea.length vc):=by rw [Lib.cell_of_heap H16.out];rfl
      have hlt6:=lt_of_block H16.out
      clear hown6 hg6 hb6 c1
      refine hK _ _ ?_
      refine wpAnyIn_ready (rs:=[4]) (by kernel_rfl) (by simp) ?_
      refine (AllReadyIn.cons rfl (fun K hK=>?_) AllReadyIn.nil)
      ·skip
       go_simp
       refine hK _ _ ?_
       refine wpAnyIn_done (by kernel_rfl) ?_ _
       have h4:=H4.out
       have h16:=block_set H16.out 0 (.slice A6 (ea.length+x.l.length) k6)
       gi_wp2
       refine ⟨HKO.out.trans (KeepsOthers.setCell _ _ _),⟨?_,?_⟩,.slice A6 (ea.length+x.l.length) k6,h16,?_,?_,?_⟩
       ·exact (block_other w6 (r+1) 0 _ (by omega)).trans (H6.out.block _ (by omega))
       ·intro k hk
        exact (block_other w6 (r+1) 0 _ (by omega)).trans (H6.out.block _ (by omega))
       ·rw [HES.out,List.length_append,HEL.out,List.flatMap_append]
        exact ownsRow_setCell_below HO6.out (a:=⟨r+1,0,none⟩) (by show r+1 < _;omega) _
       ·exact (H3.out.trans (H6.out.mono (by omega))).setCell (p:=⟨r+1,0,none⟩) (by simp) _
       ·have:=H6.out.size
        simp [World.setCell]
        omega
  ·skip
   go_simp
   refine hK _ _ ?_
   refine wpAnyIn_ready (rs:=[0,2]) (by kernel_rfl) (by simp) ?_
   refine (AllReadyIn.cons rfl (fun K hK=>?_) (AllReadyIn.cons rfl (fun K hK=>?_) AllReadyIn.nil))
   ·skip
    go_simp
    refine hK _ _ ?_
    refine wpAnyIn_ready (rs:=[2]) (by kernel_rfl) (by simp) ?_
    refine (AllReadyIn.cons rfl (fun K hK=>?_) AllReadyIn.nil)
    ·skip
     go_simp
     refine ⟨trivial,?_⟩
     refine (CallsIn.inRound l (callsIn_wide.2 (HED.out _ (below_drew H3.out)))).mono ?_
     rintro e w5 ⟨v5,rfl,hown5,hb5⟩
     obtain ⟨g5,k5,rfl,hk5,_,hg5,_⟩:=own_get seg_len HEL.out.symm hown5 (by have:=HLX.out;omega)
     have HB5:=hid ((below_drew (Below.refl W.heap.size W)).trans (hb5.mono (Nat.le_refl _)))
     have HR5:=hid (Row.of_own hown5)
     clear c1
     have c1:w5.cell? ⟨r+1,0,none⟩=some (.slice vA ea.length vc):=(HB5.out.cell (p:=⟨r+1,0,none⟩) (lt_of_block H1.out)).trans (by rw [Lib.cell_of_heap H1.out];rfl)
     clear hown5 hb5
     refine hK _ _ ?_
     refine wpAnyIn_ready (rs:=[3]) (by kernel_rfl) (by simp) ?_
     refine (AllReadyIn.cons rfl (fun K hK=>?_) AllReadyIn.nil)
     ·skip
      simp only [Region.wanted]
      refine wpIn_append_one w5 _ _ _ rfl (r+1+1+1) 74 i0 _ 4 32 Tryz.underlying71 ia ib ic id rfl (by omega) _ _ _ rfl (own_below H2.out HB5.out) ⟨g5,0,none⟩ x.l.length k5 (ex.flatMap segCells) rfl (by rw [flatMap_len seg_len,HEL.out]) (row_at HR5.out) (seg_one _) (by have:=HLX.out;unfold maxLen;omega) (by have:=HLX.out;omega) (Nat.le_trans H4.out HB5.out.size) ?_
      intro v6 w6 hown6 hg6
      obtain ⟨A6,k6,rfl,_⟩:=own_shape hown6
      have hb6:Below (r+1+1+1) W w6:=below_append (HB5.out.mono H4.out) (Nat.le_trans H4.out HB5.out.size) (own_below H2.out HB5.out) hg6 (Nat.le_refl _)
      have H16:=hid ((hb6.block (r+1) (by omega)).trans H1.out)
      have H6:=hid hb6
      have HKO:=hid ((others_below HB5.out).trans (KeepsOthers.of_grownBy hg6 (row_cells (own_below H2.out HB5.out))))
      have HO6:=hid hown6
      have f6:w6.frozen? ⟨r+1,0,none⟩=false:=Lib.frozen_of_heap H16.out 0
      have c6:w6.cell? ⟨r+1,0,none⟩=some (.slice vA ea.length vc):=by rw [Lib.cell_of_heap H16.out];rfl
      have hlt6:=lt_of_block H16.out
      clear hown6 hg6 hb6 c1
      refine hK _ _ ?_
      refine wpAnyIn_ready (rs:=[4]) (by kernel_rfl) (by simp) ?_
      refine (AllReadyIn.cons rfl (fun K hK=>?_) AllReadyIn.nil)
      ·skip
       go_simp
       refine hK _ _ ?_
       refine wpAnyIn_done (by kernel_rfl) ?_ _
       have h4:=H4.out
       have h16:=block_set H16.out 0 (.slice A6 (ea.length+x.l.length) k6)
       gi_wp2
       refine ⟨HKO.out.trans (KeepsOthers.setCell _ _ _),⟨?_,?_⟩,.slice A6 (ea.length+x.l.length) k6,h16,?_,?_,?_⟩
       ·exact (block_other w6 (r+1) 0 _ (by omega)).trans (H6.out.block _ (by omega))
       ·intro k hk
        exact (block_other w6 (r+1) 0 _ (by omega)).trans (H6.out.block _ (by omega))
       ·rw [HES.out,List.length_append,HEL.out,List.flatMap_append]
        exact ownsRow_setCell_below HO6.out (a:=⟨r+1,0,none⟩) (by show r+1 < _;omega) _
       ·exact (H3.out.trans (H6.out.mono (by omega))).setCell (p:=⟨r+1,0,none⟩) (by simp) _
       ·have:=H6.out.size
        simp [World.setCell]
        omega
   ·skip
    go_simp
    refine ⟨trivial,?_⟩
    refine (CallsIn.inRound l (callsIn_wide.2 (HED.out _ (below_drew H3.out)))).mono ?_
    rintro e w5 ⟨v5,rfl,hown5,hb5⟩
    obtain ⟨g5,k5,rfl,hk5,_,hg5,_⟩:=own_get seg_len HEL.out.symm hown5 (by have:=HLX.out;omega)
    have HB5:=hid ((below_drew (Below.refl W.heap.size W)).trans (hb5.mono (Nat.le_refl _)))
    have HR5:=hid (Row.of_own hown5)
    clear c1
    have c1:w5.cell? ⟨r+1,0,none⟩=some (.slice vA ea.length vc):=(HB5.out.cell (p:=⟨r+1,0,none⟩) (lt_of_block H1.out)).trans (by rw [Lib.cell_of_heap H1.out];rfl)
    clear hown5 hb5
    refine hK _ _ ?_
    refine wpAnyIn_ready (rs:=[0]) (by kernel_rfl) (by simp) ?_
    refine (AllReadyIn.cons rfl (fun K hK=>?_) AllReadyIn.nil)
    ·skip
     go_simp
     refine hK _ _ ?_
     refine wpAnyIn_ready (rs:=[3]) (by kernel_rfl) (by simp) ?_
     refine (AllReadyIn.cons rfl (fun K hK=>?_) AllReadyIn.nil)
     ·skip
      simp only [Region.wanted]
      refine wpIn_append_one w5 _ _ _ rfl (r+1+1+1) 74 i0 _ 4 32 Tryz.underlying71 ia ib ic id rfl (by omega) _ _ _ rfl (own_below H2.out HB5.out) ⟨g5,0,none⟩ x.l.length k5 (ex.flatMap segCells) rfl (by rw [flatMap_len seg_len,HEL.out]) (row_at HR5.out) (seg_one _) (by have:=HLX.out;unfold maxLen;omega) (by have:=HLX.out;omega) (Nat.le_trans H4.out HB5.out.size) ?_
      intro v6 w6 hown6 hg6
      obtain ⟨A6,k6,rfl,_⟩:=own_shape hown6
      have hb6:Below (r+1+1+1) W w6:=below_append (HB5.out.mono H4.out) (Nat.le_trans H4.out HB5.out.size) (own_below H2.out HB5.out) hg6 (Nat.le_refl _)
      have H16:=hid ((hb6.block (r+1) (by omega)).trans H1.out)
      have H6:=hid hb6
      have HKO:=hid ((others_below HB5.out).trans (KeepsOthers.of_grownBy hg6 (row_cells (own_below H2.out HB5.out))))
      have HO6:=hid hown6
      have f6:w6.frozen? ⟨r+1,0,none⟩=false:=Lib.frozen_of_heap H16.out 0
      have c6:w6.cell? ⟨r+1,0,none⟩=some (.slice vA ea.length vc):=by rw [Lib.cell_of_heap H16.out];rfl
      have hlt6:=lt_of_block H16.out
      clear hown6 hg6 hb6 c1
      refine hK _ _ ?_
      refine wpAnyIn_ready (rs:=[4]) (by kernel_rfl) (by simp) ?_
      refine (AllReadyIn.cons rfl (fun K hK=>?_) AllReadyIn.nil)
      ·skip
       go_simp
       refine hK _ _ ?_
       refine wpAnyIn_done (by kernel_rfl) ?_ _
       have h4:=H4.out
       have h16:=block_set H16.out 0 (.slice A6 (ea.length+x.l.length) k6)
       gi_wp2
       refine ⟨HKO.out.trans (KeepsOthers.setCell _ _ _),⟨?_,?_⟩,.slice A6 (ea.length+x.l.length) k6,h16,?_,?_,?_⟩
       ·exact (block_other w6 (r+1) 0 _ (by omega)).trans (H6.out.block _ (by omega))
       ·intro k hk
        exact (block_other w6 (r+1) 0 _ (by omega)).trans (H6.out.block _ (by omega))
       ·rw [HES.out,List.length_append,HEL.out,List.flatMap_append]
        exact ownsRow_setCell_below HO6.out (a:=⟨r+1,0,none⟩) (by show r+1 < _;omega) _
       ·exact (H3.out.trans (H6.out.mono (by omega))).setCell (p:=⟨r+1,0,none⟩) (by simp) _
       ·have:=H6.out.size
        simp [World.setCell]
        omega
 case done =>
  rintro D W hD ⟨v,h1,h2,h3,h4⟩ hK
  rw [HS3.out] at hD
  obtain ⟨vA,vc,rfl,hvc⟩:=own_shape h2
  have H1:=hid h1
  have H2:=hid h2
  have H3:=hid h3
  have HKD:=hid hK
  have c1:W.cell? ⟨r+1,0,none⟩=some (.slice vA (edgesAll (ringsM m)).length vc):=by rw [Lib.cell_of_heap h1];rfl
  clear h1 h2 h3 h4 hK
  gi_wp2
  have hh:=row_put H2.out (o':=.deferred none) HKD.out rfl
  refine ⟨by simp,.inl ⟨_,_,rfl,run_takeDeferred HKD.out,?_⟩⟩
  exact ⟨.slice vA (edgesAll (ringsM m)).length vc,by simp [results,Tryz.results36,go_sem],⟨_,rfl,by rw [HR.out];exact own_more hh (by omega)⟩,by rw [HR.out];exact below_put H3.out (by omega) _⟩
 case stop=>exact fun _ _ _ _ _ _ h _=>h.elim
attribute [local go_sem ↓] Go.wp_at_zero Go.wp_at_succ
theorem rwhereB_at {l:List V} {v:V} (hv:ringB l=true) (hp:within v 2000=true):rwhereB l v=rwhereL (edges l) v false:=by
 unfold rwhereB
 rw [within_more hp (by omega),ring_same,hv]
 rfl
theorem insideAll_at {l m:List V} (hv:ringB l=true) (hn:near m=true):insideAll m l=m.all fun v=>decide (rwhereL (edges l) v false=2):=by
 unfold insideAll
 rw [Bool.eq_iff_iff]
 simp only [List.all_eq_true,decide_eq_true_eq]
 exact ⟨fun g v hm=>(rwhereB_at hv (List.all_eq_true.1 hn v hm)) ▸ g v hm,fun g v hm=>(rwhereB_at hv (List.all_eq_true.1 hn v hm)).trans (g v hm)⟩
theorem insideAny_at {l m:List V} (hv:ringB l=true) (hn:near m=true):insideAny m l=m.any fun v=>decide (rwhereL (edges l) v false=2):=by
 unfold insideAny
 rw [Bool.eq_iff_iff]
 simp only [List.any_eq_true,decide_eq_true_eq]
 exact ⟨fun ⟨v,hm,g⟩=>⟨v,hm,(rwhereB_at hv (List.all_eq_true.1 hn v hm)) ▸ g⟩,fun ⟨v,hm,g⟩=>⟨v,hm,(rwhereB_at hv (List.all_eq_true.1 hn v hm)).trans g⟩⟩
set_option maxRecDepth 100000 in
set_option maxHeartbeats 1000000 in
theorem rinAll_any (l m:List V) (A B:Option Addr) (c d:Nat) (w:World) (hr:Row w A (l.flatMap ptCells)) (hv:ringB l=true) (hs:Row w B (m.flatMap ptCells)) (hn:near m=true) (hl:m.length≤17592186043904) :
  Calls Tryz.prog 66 #[.slice B m.length d,.slice A l.length c,.bool true] w fun e w'=>e=.returned (.bool (insideAll m l))∧Below w.heap.size w w':=by
 rw [insideAll_at hv hn]
 have HR:=hid hs
 have HW:=hid (fun (v:V) (hp:within v 2000=true) W (hW:Below w.heap.size w W)=>rwhere_any l v.1 v.2 A c W (hr.below hW) hv hp)
 have HN:=hid hn
 obtain ⟨p,HP⟩:∃ p:V→Bool,Hid (p=fun v=>decide (rwhereL (edges l) v false=2)):=⟨_,hid rfl⟩
 rw [← HP.out]
 obtain ⟨rb,HRB⟩:∃ rb,Hid (rb=m.all p):=⟨_,hid rfl⟩
 rw [← HRB.out]
 clear hs hr hv hn
 go_enter Tryz.func66,Tryz.ntmps66
 go_wp2
 go_loopw [7] (fun t wr=>∃ k:Nat,t=.int .i64 k∧k≤m.length∧Hid (rb=(m.drop k).all p)∧Hid (Below w.heap.size w wr)) (fun t _=>m.length - (intOf t).toNat)
 case atStart=>exact ⟨0,rfl,Nat.zero_le _,HRB,hid (Below.refl _ _)⟩
 case round =>
  obtain ⟨k,rfl,hk,HD,HB⟩:=hrel
  by_cases hlt:k < m.length
  ·have HD1:Hid (rb=(p m[k]&&(m.drop (k+1)).all p)):=hid (by rw [HD.out,List.drop_eq_getElem_cons hlt,List.all_cons])
   have HPV:Hid (p m[k]=decide (rwhereL (edges l) m[k] false=2)):=hid (by rw [HP.out])
   obtain ⟨g,off,rfl,hg,ca⟩:=row_get pt_len (by decide) HR.out (by omega)
   have a0:=(HB.out.cell (p:=⟨g,off+k*2,none⟩) hg).trans (ca k hlt 0 (by decide))
   have a1:=(HB.out.cell (p:=⟨g,off+k*2+1,none⟩) hg).trans (ca k hlt 1 (by decide))
   have HM:=hid (fun W hW=>HW.out m[k] (List.all_eq_true.1 HN.out _ (List.getElem_mem hlt)) W hW)
   have hk1:(0:Int)≤(k:Int):=by omega
   have hk2:(k:Int) < (m.length:Int):=by omega
   clear ca
   generalize m[k]=q at *
   obtain ⟨mx,my⟩:=q
   simp only [ptCells,List.getElem?_cons_zero,List.getElem?_cons_succ] at a0 a1
   generalize p (mx,my)=pv at *
   simp only at HM
   generalize rwhereL (edges l) (mx,my) false=rv at *
   by_cases h2:rv=2
   ·have e1:(rv == 2)=true:=beq_iff_eq.2 h2
    have HPT:Hid (pv=true):=hid (by rw [HPV.out];exact decide_eq_true h2)
    clear h2
    go_wp2_with fail
    refine (HM.out _ HB.out).mono ?_
    rintro e w9 ⟨rfl,hb9⟩
    have HB9:=hid (HB.out.trans (hb9.mono HB.out.size))
    clear hb9 a0 a1
    go_wp2
    go_roundw
    case rel=>exact ⟨k+1,by go_num,by omega,hid (by rw [HD1.out,HPT.out];rfl),HB9⟩
    case measure=>simp [intOf];omega
   ·have e1:(rv == 2)=false:=beq_eq_false_iff_ne.2 h2
    have HPT:Hid (pv=false):=hid (by rw [HPV.out];exact decide_eq_false h2)
    clear h2
    go_wp2_with fail
    refine (HM.out _ HB.out).mono ?_
    rintro e w9 ⟨rfl,hb9⟩
    have HB9:=hid (HB.out.trans (hb9.mono HB.out.size))
    clear hb9 a0 a1
    go_wp2
    go_ret
    rw [HD1.out,HPT.out]
    exact ⟨rfl,HB9.out⟩
  ·obtain rfl:k=m.length:=by omega
   have HF:Hid (rb=true):=hid (by rw [HD.out,List.drop_length];rfl)
   go_wp2
   go_ret
   rw [HF.out]
   exact ⟨rfl,HB.out⟩
set_option maxRecDepth 100000 in
set_option maxHeartbeats 1000000 in
theorem rinAny_any (l m:List V) (A B:Option Addr) (c d:Nat) (w:World) (hr:Row w A (l.flatMap ptCells)) (hv:ringB l=true) (hs:Row w B (m.flatMap ptCells)) (hn:near m=true) (hl:m.length≤17592186043904) :
  Calls Tryz.prog 66 #[.slice B m.length d,.slice A l.length c,.bool false] w fun e w'=>e=.returned (.bool (insideAny m l))∧Below w.heap.size w w':=by
 rw [insideAny_at hv hn]
 have HR:=hid hs
 have HW:=hid (fun (v:V) (hp:within v 2000=true) W (hW:Below w.heap.size w W)=>rwhere_any l v.1 v.2 A c W (hr.below hW) hv hp)
 have HN:=hid hn
 obtain ⟨p,HP⟩:∃ p:V→Bool,Hid (p=fun v=>decide (rwhereL (edges l) v false=2)):=⟨_,hid rfl⟩
 rw [← HP.out]
 obtain ⟨rb,HRB⟩:∃ rb,Hid (rb=m.any p):=⟨_,hid rfl⟩
 rw [← HRB.out]
 clear hs hr hv hn
 go_enter Tryz.func66,Tryz.ntmps66
 go_wp2
 go_loopw [7] (fun t wr=>∃ k:Nat,t=.int .i64 k∧k≤m.length∧Hid (rb=(m.drop k).any p)∧Hid (Below w.heap.size w wr)) (fun t _=>m.length - (intOf t).toNat)
 case atStart=>exact ⟨0,rfl,Nat.zero_le _,HRB,hid (Below.refl _ _)⟩
 case round =>
  obtain ⟨k,rfl,hk,HD,HB⟩:=hrel
  by_cases hlt:k < m.length
  ·have HD1:Hid (rb=(p m[k] || (m.drop (k+1)).any p)):=hid (by rw [HD.out,List.drop_eq_getElem_cons hlt,List.any_cons])
   have HPV:Hid (p m[k]=decide (rwhereL (edges l) m[k] false=2)):=hid (by rw [HP.out])
   obtain ⟨g,off,rfl,hg,ca⟩:=row_get pt_len (by decide) HR.out (by omega)
   have a0:=(HB.out.cell (p:=⟨g,off+k*2,none⟩) hg).trans (ca k hlt 0 (by decide))
   have a1:=(HB.out.cell (p:=⟨g,off+k*2+1,none⟩) hg).trans (ca k hlt 1 (by decide))
   have HM:=hid (fun W hW=>HW.out m[k] (List.all_eq_true.1 HN.out _ (List.getElem_mem hlt)) W hW)
   have hk1:(0:Int)≤(k:Int):=by omega
   have hk2:(k:Int) < (m.length:Int):=by omega
   clear ca
   generalize m[k]=q at *
   obtain ⟨mx,my⟩:=q
   simp only [ptCells,List.getElem?_cons_zero,List.getElem?_cons_succ] at a0 a1
   generalize p (mx,my)=pv at *
   simp only at HM
   generalize rwhereL (edges l) (mx,my) false=rv at *
   by_cases h2:rv=2
   ·have e1:(rv == 2)=true:=beq_iff_eq.2 h2
    have HPT:Hid (pv=true):=hid (by rw [HPV.out];exact decide_eq_true h2)
    clear h2
    go_wp2_with fail
    refine (HM.out _ HB.out).mono ?_
    rintro e w9 ⟨rfl,hb9⟩
    have HB9:=hid (HB.out.trans (hb9.mono HB.out.size))
    clear hb9 a0 a1
    go_wp2
    go_ret
    rw [HD1.out,HPT.out]
    exact ⟨rfl,HB9.out⟩
   ·have e1:(rv == 2)=false:=beq_eq_false_iff_ne.2 h2
    have HPT:Hid (pv=false):=hid (by rw [HPV.out];exact decide_eq_false h2)
    clear h2
    go_wp2_with fail
    refine (HM.out _ HB.out).mono ?_
    rintro e w9 ⟨rfl,hb9⟩
    have HB9:=hid (HB.out.trans (hb9.mono HB.out.size))
    clear hb9 a0 a1
    go_wp2
    go_roundw
    case rel=>exact ⟨k+1,by go_num,by omega,hid (by rw [HD1.out,HPT.out];rfl),HB9⟩
    case measure=>simp [intOf];omega
  ·obtain rfl:k=m.length:=by omega
   have HF:Hid (rb=false):=hid (by rw [HD.out,List.drop_length];rfl)
   go_wp2
   go_ret
   rw [HF.out]
   exact ⟨rfl,HB.out⟩
theorem edgesN_ok {l:List V} (h:near l=true) {e:S} (he:e∈edgesN l l.length):segOk e=true:=by
 unfold edgesN at he
 obtain ⟨i,_,rfl⟩:=List.mem_map.1 he
 exact seg_near h i ((i+1) % l.length)
set_option maxRecDepth 100000 in
set_option maxHeartbeats 2000000 in
theorem rmeets_any (l m:List V) (A B:Option Addr) (c d:Nat) (w:World) (hr:Row w A (l.flatMap ptCells)) (hs:Row w B (m.flatMap ptCells)) (hl:2≤l.length∧l.length≤200) (hm:2≤m.length∧m.length≤200) (hnl:near l=true) (hnm:near m=true) :
  Calls Tryz.prog 65 #[.slice A l.length c,.slice B m.length d] w fun e w'=>e=.returned (.bool (rmeets l m))∧Below w.heap.size w w':=by
 have HEA:=hid (redges_any l A c w hr hl.2 hl.1)
 have HEB:=hid (fun W (hW:Below w.heap.size w W)=>redges_any m B d W (hs.below hW) hm.2 hm.1)
 have HQ:Hid (rmeets l m=(edgesN l l.length).any fun x=>(edgesN m m.length).any fun y=>decide (rmeetK x y≠0)):=hid (by unfold rmeets;rw [edges_get hl.1,edges_get hm.1];rfl)
 have hla:=edgesN_len l l.length
 have hlb:=edgesN_len m m.length
 have HOA:Hid (∀ e∈edgesN l l.length,segOk e=true):=hid (fun e he=>edgesN_ok hnl he)
 have HOB:Hid (∀ e∈edgesN m m.length,segOk e=true):=hid (fun e he=>edgesN_ok hnm he)
 generalize rmeets l m=ab at *
 generalize edgesN l l.length=ea at *
 generalize edgesN m m.length=eb at *
 have hl1:=hl.1
 have hm1:=hm.1
 have hl2:=hl.2
 have hm2:=hm.2
 clear hr hs hl hm hnl hnm
 generalize l.length=n at *
 generalize m.length=mn at *
 subst hla
 subst hlb
 go_enter Tryz.func65,Tryz.ntmps65
 go_wp2_with fail
 refine HEA.out.mono ?_
 rintro e w1 ⟨v,rfl,hown,hb1⟩
 obtain ⟨ga,ka,rfl,hca,hga,hgaw,hcell⟩:=own_get seg_len rfl hown (by omega)
 have HCga:=hid hcell
 have HB1:=hid hb1
 clear hcell hown hb1 hga
 go_wp2_with fail
 refine (HEB.out _ HB1.out).mono ?_
 rintro e w2 ⟨v,rfl,hown,hb2⟩
 obtain ⟨gb,kb,rfl,hcb,hgb,hgbw,hcell⟩:=own_get seg_len rfl hown (by omega)
 have HCgb:=hid hcell
 have HB2:=hid hb2
 clear hcell hown hb2 hgb
 go_wp2
 go_loopw [7,8] (fun i _ wr=>∃ k:Nat,i=.int .i64 (k:Int)∧k≤ea.length∧Hid (ab=(ea.drop k).any fun x=>eb.any fun y=>decide (rmeetK x y≠0))∧Hid (Below w2.heap.size w2 wr)) (fun i _ _=>ea.length - (intOf i).toNat)
 case atStart=>exact ⟨0,rfl,Nat.zero_le _,HQ,hid (Below.refl _ _)⟩
 case round =>
  obtain ⟨k,rfl,hk,HD,HBA⟩:=hrel
  by_cases hltga:k < ea.length
  ·have HD1:Hid (ab=((eb.any fun y=>decide (rmeetK ea[k] y≠0)) || (ea.drop (k+1)).any fun x=>eb.any fun y=>decide (rmeetK x y≠0))):=hid (by rw [HD.out,List.drop_eq_getElem_cons hltga,List.any_cons])
   have HSA:=hid (HOA.out ea[k] (List.getElem_mem hltga))
   go_wp2
   go_loopw [8] (fun i wr=>∃ j:Nat,i=.int .i64 (j:Int)∧j≤eb.length∧Hid ((eb.any fun y=>decide (rmeetK ea[k] y≠0))=((eb.drop j).any fun y=>decide (rmeetK ea[k] y≠0)))∧Hid (Below w2.heap.size w2 wr)) (fun i _=>eb.length - (intOf i).toNat)
   case atStart=>exact ⟨0,rfl,Nat.zero_le _,hid rfl,HBA⟩
   case round =>
    obtain ⟨j,rfl,hj,HDJ,HBB⟩:=hrel
    by_cases hltgb:j < eb.length
    ·have HD2:Hid ((eb.any fun y=>decide (rmeetK ea[k] y≠0))=(decide (rmeetK ea[k] eb[j]≠0) || ((eb.drop (j+1)).any fun y=>decide (rmeetK ea[k] y≠0)))):=hid (by rw [HDJ.out,List.drop_eq_getElem_cons hltgb,List.any_cons])
     have HSB:=hid (HOB.out eb[j] (List.getElem_mem hltgb))
     have hgar:ga < wr.heap.size:=Nat.lt_of_lt_of_le hgaw (Nat.le_trans HB2.out.size HBB.out.size)
     have hgbr:gb < wr.heap.size:=Nat.lt_of_lt_of_le hgbw HBB.out.size
     have HBC:=hid (HB2.out.trans (HBB.out.mono HB2.out.size))
     have E0:∀ p:Later wr,p.w.cell? ⟨ga,k*4,none⟩=some (.int .i64 ea[k].1.1):=later_cell hgar ((HBC.out.cell (p:=⟨ga,k*4+0,none⟩) hgaw).trans (HCga.out k hltga 0 (by decide)))
     have E1:∀ p:Later wr,p.w.cell? ⟨ga,k*4+1,none⟩=some (.int .i64 ea[k].1.2):=later_cell hgar ((HBC.out.cell (p:=⟨ga,k*4+1,none⟩) hgaw).trans (HCga.out k hltga 1 (by decide)))
     have E2:∀ p:Later wr,p.w.cell? ⟨ga,k*4+2,none⟩=some (.int .i64 ea[k].2.1):=later_cell hgar ((HBC.out.cell (p:=⟨ga,k*4+2,none⟩) hgaw).trans (HCga.out k hltga 2 (by decide)))
     have E3:∀ p:Later wr,p.w.cell? ⟨ga,k*4+3,none⟩=some (.int .i64 ea[k].2.2):=later_cell hgar ((HBC.out.cell (p:=⟨ga,k*4+3,none⟩) hgaw).trans (HCga.out k hltga 3 (by decide)))
     have F0:∀ p:Later wr,p.w.cell? ⟨gb,j*4,none⟩=some (.int .i64 eb[j].1.1):=later_cell hgbr ((HBB.out.cell (p:=⟨gb,j*4+0,none⟩) hgbw).trans (HCgb.out j hltgb 0 (by decide)))
     have F1:∀ p:Later wr,p.w.cell? ⟨gb,j*4+1,none⟩=some (.int .i64 eb[j].1.2):=later_cell hgbr ((HBB.out.cell (p:=⟨gb,j*4+1,none⟩) hgbw).trans (HCgb.out j hltgb 1 (by decide)))
     have F2:∀ p:Later wr,p.w.cell? ⟨gb,j*4+2,none⟩=some (.int .i64 eb[j].2.1):=later_cell hgbr ((HBB.out.cell (p:=⟨gb,j*4+2,none⟩) hgbw).trans (HCgb.out j hltgb 2 (by decide)))
     have F3:∀ p:Later wr,p.w.cell? ⟨gb,j*4+3,none⟩=some (.int .i64 eb[j].2.2):=later_cell hgbr ((HBB.out.cell (p:=⟨gb,j*4+3,none⟩) hgbw).trans (HCgb.out j hltgb 3 (by decide)))
     generalize hek:ea[k]=e at *
     generalize hfj:eb[j]=f at *
     obtain ⟨⟨ax,ay⟩,bx,b_y⟩:=e
     obtain ⟨⟨cx,cy⟩,dx,dy⟩:=f
     simp only at E0 E1 E2 E3 F0 F1 F2 F3
     have hk1:(0:Int)≤(k:Int):=by omega
     have hk2:(k:Int) < (ea.length:Int):=by omega
     have hj1:(0:Int)≤(j:Int):=by omega
     have hj2:(j:Int) < (eb.length:Int):=by omega
     have HME:=hid (fun W=>rMeet_any ax ay bx b_y cx cy dx dy W HSA.out HSB.out)
     generalize rmeetK ((ax,ay),bx,b_y) ((cx,cy),dx,dy)=mk at *
     clear hek hfj
     go_wp2
     refine wp_region_later wr (by kernel_rfl) (by kernel_rfl) (Below.refl _ _) ?_
     repeat (go_big_quiet_step (first | (go_at_call 68;with_reducible exact Calls.later (HME.out _))))
     refine wpQuiet_nil ?_
     rintro w9 hex;have hb9:=later_of hex;clear hex
     have HB9:=hid (HBB.out.trans (hb9.mono HBB.out.size))
     clear E0 E1 E2 E3 F0 F1 F2 F3 hb9
     by_cases hmk:mk=0
     ·have m1:(mk != 0)=false:=bne_eq_false_iff_eq.2 hmk
      have HD3:Hid ((eb.any fun y=>decide (rmeetK ((ax,ay),bx,b_y) y≠0))=((eb.drop (j+1)).any fun y=>decide (rmeetK ((ax,ay),bx,b_y) y≠0))):=hid (by rw [HD2.out,hmk];rfl)
      clear hmk
      go_wp2
      go_roundw
      case rel=>exact ⟨j+1,by go_num,by omega,HD3,HB9⟩
      case measure=>simp [intOf];omega
     ·have m1:(mk != 0)=true:=bne_iff_ne.2 hmk
      have HF:Hid (ab=true):=hid (by rw [HD1.out,HD2.out,decide_eq_true hmk];rfl)
      clear hmk
      go_wp2
      go_ret
      rw [HF.out]
      exact ⟨rfl,HB1.out.trans ((HB2.out.trans (HB9.out.mono HB2.out.size)).mono HB1.out.size)⟩
    ·obtain rfl:j=eb.length:=by omega
     have HD3:Hid (ab=(ea.drop (k+1)).any fun x=>eb.any fun y=>decide (rmeetK x y≠0)):=hid (by rw [HD1.out,HDJ.out,List.drop_length];rfl)
     go_wp2
     go_roundw
     case rel=>exact ⟨k+1,by go_num,by omega,HD3,HBB⟩
     case measure=>simp [intOf];omega
  ·obtain rfl:k=ea.length:=by omega
   have HF:Hid (ab=false):=hid (by rw [HD.out,List.drop_length];rfl)
   go_wp2
   go_ret
   rw [HF.out]
   exact ⟨rfl,HB1.out.trans ((HB2.out.trans (HBA.out.mono HB2.out.size)).mono HB1.out.size)⟩
end Go.Proofs.YtnmmhcchpcbeeaaGreat.GeW
