/- Walks: of the reference: whether a point lies on a segment. Conditions: none. -/
import Derived.Test.YtnmmhcchpcbeeaaGreatGeH
import Derived.Test.YtnmmhcchpcbeeaaGreatRf6
import Derived.Test.YtnmmhcchpcbeeaaGreatGeDe
import Derived.Test.YtnmmhcchpcbeeaaGreatGeR
import Derived.Test.YtnmmhcchpcbeeaaGreatApR
import Derived.Test.YtnmmhcchpcbeeaaGreatGeD
import Derived.Laws.Small

namespace Go.Proofs.YtnmmhcchpcbeeaaGreat.Ge
open Lib (hid)
open Go
def pos:List V→V→Nat
 | [],_=>0
 | o::os,v=>if less o v then pos os v+1 else 0
theorem pos_len (v:V):∀ l:List V,pos l v≤l.length
 | []=>Nat.le_refl _
 | o::os=>by
  unfold pos
  split
  ·have:=pos_len v os
   simp;omega
  ·simp
theorem pos_lt {v:V} : ∀ {l:List V} {k:Nat} (h:k < l.length),k < pos l v→less l[k] v=true
 | o::os,0,_,hp=>by
  unfold pos at hp
  split at hp
  ·assumption
  ·omega
 | o::os,k+1,h,hp=>by
  unfold pos at hp
  split at hp
  ·exact pos_lt (l:=os) (by simpa using h) (by omega)
  ·omega
theorem pos_at {v:V} : ∀ {l:List V} (h:pos l v < l.length),less l[pos l v] v=false
 | [],h=>absurd h (by simp [pos])
 | o::os,h=>by
  by_cases ho:less o v=true
  ·have hp:pos (o::os) v=pos os v+1:=by rw [pos,if_pos ho]
   have h2:pos os v < os.length:=by rw [hp] at h;simpa using h
   have:=pos_at h2
   simp only [hp,List.getElem_cons_succ]
   exact this
  ·have hp:pos (o::os) v=0:=by rw [pos,if_neg ho]
   simp only [hp,List.getElem_cons_zero]
   simpa using ho
theorem pos_step {v:V} {l:List V} {k:Nat} (hk:k≤pos l v) (h:k < l.length) (hl:less l[k] v=true):k+1≤pos l v:=by
 rcases Nat.lt_or_ge k (pos l v) with h1 | h1
 ·exact h1
 ·have he:k=pos l v:=by omega
  subst he
  rw [pos_at h] at hl
  cases hl
theorem pos_stop {v:V} {l:List V} {k:Nat} (hk:k≤pos l v) (h:k < l.length) (hl:less l[k] v=false):k=pos l v:=by
 rcases Nat.lt_or_ge k (pos l v) with h1 | h1
 ·rw [pos_lt h h1] at hl
  cases hl
 ·omega
theorem insV_pos (v:V):∀ l:List V,insV l v=if l[pos l v]? = some v then l else l.take (pos l v)++v::l.drop (pos l v)
 | []=>by simp [insV,pos]
 | o::os=>by
  unfold insV pos
  by_cases ho:less o v=true
  ·rw [if_pos ho,if_pos ho,insV_pos v os]
   simp only [List.getElem?_cons_succ,List.take_succ_cons,List.drop_succ_cons,List.cons_append]
   split<;>rfl
  ·rw [if_neg ho,if_neg ho]
   by_cases he:o=v
   ·rw [if_pos he,if_pos (by simp [he])]
   ·rw [if_neg he,if_neg (by simpa using he)]
    rfl
theorem sortedV_snoc (l:List V) (v:V):sortedV (l++[v])=insV (sortedV l) v:=by
 unfold sortedV
 rw [List.foldl_append]
 rfl
theorem insV_len (l:List V) (v:V):(insV l v).length≤l.length+1:=by
 rw [insV_pos]
 have:=pos_len v l
 split<;>simp<;>omega
theorem sortedV_len (l:List V):(sortedV l).length≤l.length:=by
 have h:∀ (l a:List V),(l.foldl insV a).length≤a.length+l.length:=by
  intro l
  induction l with
  | nil=>intro a;simp
  | cons x r ih =>
   intro a
   rw [List.foldl_cons,List.length_cons]
   have:=ih (insV a x)
   have:=insV_len a x
   omega
 simpa [sortedV] using h l []
end Go.Proofs.YtnmmhcchpcbeeaaGreat.Ge

namespace Go.Proofs.YtnmmhcchpcbeeaaGreat.GeW
open Lib (hid)
open Go Go.RowKit Go.Proofs.YtnmmhcchpcbeeaaGreat.Mem Go.Proofs.YtnmmhcchpcbeeaaGreat.Ge
set_option maxRecDepth 100000 in
set_option maxHeartbeats 4000000 in
theorem rsorted_any (l:List V) (A:Option Addr) (c:Nat) (w:World) (hr:Row w A (l.flatMap ptCells)) (hl:l.length≤1000) :
  Calls Tryz.prog 175 #[.slice A l.length c] w fun e w'=>(∃ v,e=.returned v∧w'.ownsRow w.heap.size 53 2 v (sortedV l).length ((sortedV l).flatMap ptCells))∧Below w.heap.size w w':=by
 have HR:=hid hr
 obtain ⟨i0,ia,ib,ic,id⟩:=info_parts info_vec
 clear hr
 go_enter Tryz.func175,Tryz.ntmps175
 go_wp2
 go_loopw [3,4] (fun o i wr=>∃ k:Nat,i=.int .i64 (k:Int)∧k≤l.length∧Hid (wr.ownsRow w.heap.size 53 2 o (sortedV (l.take k)).length ((sortedV (l.take k)).flatMap ptCells))∧Hid (Below w.heap.size w wr)) (fun _ i _=>l.length - (intOf i).toNat)
 case atStart=>exact ⟨0,rfl,Nat.zero_le _,hid (World.ownsRow_nil _ _ _ _),hid (Below.refl _ _)⟩
 case round =>
  obtain ⟨k,rfl,hk,HOW,HB⟩:=hrel
  obtain ⟨oA,oc,rfl,hoc⟩:=own_shape HOW.out
  by_cases hlt:k < l.length
  ·obtain ⟨g,off,rfl,hg,ca⟩:=row_get pt_len (by decide) HR.out (by omega)
   have a0:=(HB.out.cell (p:=⟨g,off+k*2,none⟩) hg).trans (ca k hlt 0 (by decide))
   have a1:=(HB.out.cell (p:=⟨g,off+k*2+1,none⟩) hg).trans (ca k hlt 1 (by decide))
   have hg2:g < wr.heap.size:=Nat.lt_of_lt_of_le hg HB.out.size
   have HTK:Hid (sortedV (l.take (k+1))=insV (sortedV (l.take k)) l[k]):=hid (by rw [List.take_succ_eq_append_getElem hlt,sortedV_snoc])
   have hsl:(sortedV (l.take k)).length≤1000:=Nat.le_trans (sortedV_len _) (by rw [List.length_take];omega)
   clear ca
   generalize sortedV (l.take k)=s at *
   generalize l[k]=v at *
   obtain ⟨x,y⟩:=v
   simp only [ptCells,List.getElem?_cons_zero,List.getElem?_cons_succ] at a0 a1
   have HA0:=hid a0
   have HA1:=hid a1
   clear a0 a1
   generalize hW:wr=W at *
   clear hW
   have HPL:=hid (pos_len (x,y) s)
   go_wp2
   go_loopw [5] (fun j wr=>∃ q:Nat,j=.int .i64 (q:Int)∧q≤pos s (x,y)∧Hid (Below W.heap.size W wr)) (fun j _=>s.length - (intOf j).toNat)
   case atStart=>exact ⟨0,rfl,Nat.zero_le _,hid (Below.refl _ _)⟩
   case round =>
    obtain ⟨q,rfl,hq,HBI⟩:=hrel
    have E0:∀ p:Later wr,p.w.cell? ⟨g,off+k*2,none⟩=some (.int .i64 x):=later_cell (Nat.lt_of_lt_of_le hg2 HBI.out.size) ((HBI.out.cell (p:=⟨g,off+k*2,none⟩) hg2).trans HA0.out)
    have E1:∀ p:Later wr,p.w.cell? ⟨g,off+k*2+1,none⟩=some (.int .i64 y):=later_cell (Nat.lt_of_lt_of_le hg2 HBI.out.size) ((HBI.out.cell (p:=⟨g,off+k*2+1,none⟩) hg2).trans HA1.out)
    have HOI:=hid (own_below HOW.out HBI.out)
    by_cases hql:q < s.length
    ·obtain ⟨og,oo,rfl,hog,cb⟩:=row_get pt_len (by decide) (Row.of_own HOI.out) (by omega)
     have b0:=cb q hql 0 (by decide)
     have b1:=cb q hql 1 (by decide)
     clear cb
     have HST:=hid (fun h=>pos_step hq hql h)
     have HSP:=hid (fun h=>pos_stop hq hql h)
     have HGQ:Hid (s[q]? = some s[q]):=hid (List.getElem?_eq_getElem hql)
     generalize s[q]=u at *
     obtain ⟨ux,uy⟩:=u
     simp only [ptCells,List.getElem?_cons_zero,List.getElem?_cons_succ] at b0 b1
     have F0:∀ p:Later wr,p.w.cell? ⟨og,oo+q*2,none⟩=some (.int .i64 ux):=later_cell hog b0
     have F1:∀ p:Later wr,p.w.cell? ⟨og,oo+q*2+1,none⟩=some (.int .i64 uy):=later_cell hog b1
     have hq1:(0:Int)≤(q:Int):=by omega
     have d1:decide ((q:Int) < (s.length:Int))=true:=decide_eq_true (by omega)
     cases hle:less (ux,uy) (x,y)
     ·have HLE:=hid (fun W=>rless_any ux uy x y W)
      rw [hle] at HLE
      have hqe:=HSP.out hle
      have HQE:=hid hqe
      clear hqe b0 b1
      go_wp2
      refine wp_region_later wr (by kernel_rfl) (by kernel_rfl) (Below.refl _ _) ?_
      repeat (go_big_quiet_step ((go_at_call 28;exact Calls.later (HLE.out _))))
      refine wpQuiet_nil ?_
      rintro w9 hex;have hb9:=later_of hex;clear hex
      have HB9:=hid (HBI.out.trans (hb9.mono HBI.out.size))
      have hog9:og < w9.heap.size:=Nat.lt_of_lt_of_le hog hb9.size
      have G0:∀ p:Later w9,p.w.cell? ⟨og,oo+q*2,none⟩=some (.int .i64 ux):=later_cell hog9 (F0 ⟨w9,hb9⟩)
      have G1:∀ p:Later w9,p.w.cell? ⟨og,oo+q*2+1,none⟩=some (.int .i64 uy):=later_cell hog9 (F1 ⟨w9,hb9⟩)
      have hgg9:g < w9.heap.size:=Nat.lt_of_lt_of_le hg2 HB9.out.size
      have K0:∀ p:Later w9,p.w.cell? ⟨g,off+k*2,none⟩=some (.int .i64 x):=later_cell hgg9 (E0 ⟨w9,hb9⟩)
      have K1:∀ p:Later w9,p.w.cell? ⟨g,off+k*2+1,none⟩=some (.int .i64 y):=later_cell hgg9 (E1 ⟨w9,hb9⟩)
      clear E0 E1 F0 F1 hb9 hle
      by_cases heq:(ux,uy)=(x,y)
      ·have HE1:∀ W,(binOp .eql 53 (.agg #[.int .i64 ux,.int .i64 uy]) (.agg #[.int .i64 x,.int .i64 y])).run Tryz.prog W=.ok (.bool true) W:=fun W=>by rw [eql_vec,decide_eq_true heq]
       have HIN:Hid (insV s (x,y)=s):=hid (by rw [insV_pos,← HQE.out,HGQ.out,if_pos (by rw [heq])])
       clear heq
       go_wp2
       refine wp_region_later w9 (by kernel_rfl) (by kernel_rfl) (Below.refl _ _) ?_
       repeat (go_big_quiet_step (fail))
       refine wpQuiet_nil ?_
       rintro w8 hex;have hb8:=later_of hex;clear hex
       have HB8:=hid (HB9.out.trans (hb8.mono HB9.out.size))
       clear G0 G1 K0 K1 hb8 HE1
       go_wp2
       go_roundw
       case rel=>exact ⟨k+1,by go_num,hlt,hid (by rw [HTK.out,HIN.out];exact own_below HOW.out HB8.out),hid (HB.out.trans (HB8.out.mono HB.out.size))⟩
       case measure=>simp [intOf];omega
      ·have HE1:∀ W,(binOp .eql 53 (.agg #[.int .i64 ux,.int .i64 uy]) (.agg #[.int .i64 x,.int .i64 y])).run Tryz.prog W=.ok (.bool false) W:=fun W=>by rw [eql_vec,decide_eq_false heq]
       have HIN:Hid (insV s (x,y)=s.take q++(x,y)::s.drop q):=hid (by rw [insV_pos,← HQE.out,HGQ.out,if_neg (fun h=>heq (Option.some.inj h))])
       clear heq
       go_wp2
       refine wp_region_later w9 (by kernel_rfl) (by kernel_rfl) (Below.refl _ _) ?_
       repeat (go_big_quiet_step (fail))
       refine wpQuiet_nil ?_
       rintro W hex;have hb8:=later_of hex;clear hex
       have HB8:=hid (HB9.out.trans (hb8.mono HB9.out.size))
       have k0:=K0 ⟨W,hb8⟩
       have k1:=K1 ⟨W,hb8⟩
       simp only at k0 k1
       clear G0 G1 K0 K1 hb8 HE1
       have hqc:(q:Int)≤(oc:Int):=by omega
       have hqs:(q:Int)≤(s.length:Int):=by omega
       have hqc':q≤oc:=by omega
       have HLA:Hid (0+q+1+(s.length - q)=(sortedV (l.take (k+1))).length):=hid (by rw [HTK.out,HIN.out];simp;omega)
       have HCL:Hid ([]++((s.take q).flatMap ptCells)++[.int .i64 x,.int .i64 y]++((s.drop q).flatMap ptCells)=(sortedV (l.take (k+1))).flatMap ptCells):=hid (by rw [HTK.out,HIN.out];simp [ptCells])
       have C1:Hid (0+q≤maxLen∧(0+q)*16≤140737488355328∧(((s.take q).flatMap ptCells):List Value).length=q*2∧∀ u∈(((s.take q).flatMap ptCells):List Value),u.oneCell'=true):=hid ⟨by unfold maxLen;omega,by omega,by rw [flatMap_len pt_len,List.length_take];omega,pt_one _⟩
       have C2:Hid (0+q+1≤maxLen∧(0+q+1)*16≤140737488355328∧([.int .i64 x,.int .i64 y]:List Value).length=1*2∧∀ u∈([.int .i64 x,.int .i64 y]:List Value),u.oneCell'=true):=hid ⟨by unfold maxLen;omega,by omega,rfl,by intro u hu;simp at hu;rcases hu with rfl | rfl<;>rfl⟩
       have C3:Hid (0+q+1+(s.length - q)≤maxLen∧(0+q+1+(s.length - q))*16≤140737488355328∧(((s.drop q).flatMap ptCells):List Value).length=(s.length - q)*2∧∀ u∈(((s.drop q).flatMap ptCells):List Value),u.oneCell'=true):=hid ⟨by unfold maxLen;omega,by omega,by rw [flatMap_len pt_len,List.length_drop],pt_one _⟩
       have HTD:Hid (s.flatMap ptCells=((s.take q).flatMap ptCells)++((s.drop q).flatMap ptCells)):=hid (by rw [← List.flatMap_append,List.take_append_drop])
       have HOA:=hid (Row.of_own (own_below HOW.out HB8.out))
       have HRT:=hid (Row.head (by rw [← HTD.out];exact HOA.out))
       obtain ⟨rfl,hoff⟩:oo=0∧True:=by
        rcases own_cases HOW.out with ⟨h,_,_⟩ | ⟨g9,h,_,_⟩
        ·cases h
        ·injection h with h;injection h with h1 h2;exact ⟨h2,trivial⟩
       have HRD:=hid (show Row W (some ⟨og,q*2,none⟩) ((s.drop q).flatMap ptCells) by
        have h1:Row W (some ⟨og,0,none⟩) (((s.take q).flatMap ptCells)++((s.drop q).flatMap ptCells)):=by rw [← HTD.out];exact HOA.out
        have h2:=Row.rest h1
        rw [C1.out.2.2.1,Nat.zero_add] at h2
        exact h2)
       have hdk : ¬ oc=q:=by omega
       have hk0:(0:Int)≤(k:Int):=by omega
       have hk1:(k:Int) < (l.length:Int):=by omega
       have hgw:g < W.heap.size:=Nat.lt_of_lt_of_le hg2 HB8.out.size
       have HBZ:Hid (w.heap.size≤W.heap.size):=hid (Nat.le_trans HB.out.size HB8.out.size)
       clear hoff
       go_wp2_with fail
       go_region_held3 (fun w'=>w'.cell? ⟨g,off+k*2,none⟩=some (.int .i64 x)∧w'.cell? ⟨g,off+k*2+1,none⟩=some (.int .i64 y)) (first | go_keep | exact ⟨keepC hF3.out hgw k0,keepC hF3.out hgw k1⟩ | exact ⟨keepC hF2.out hgw k0,keepC hF2.out hgw k1⟩ | exact ⟨keepC hF1.out hgw k0,keepC hF1.out hgw k1⟩ | exact ⟨keepC (hF1.out.alloc hF1.out.size _) hgw k0,keepC (hF1.out.alloc hF1.out.size _) hgw k1⟩)
        (first
        | (refine step_append_row (by rfl) _ _ _ (by rfl) W.heap.size 53 i0 _ 2 16 Tryz.underlying25 ia ib ic id rfl (by omega) _ 0 [] (by rfl) ((own_none W 53 2 W.heap.size (Nat.le_refl _)).drew) _ _ _ ((s.take q).flatMap ptCells) (by rfl) (HRT.out.below (below_drew (bel1 W (.cells #[] 53)))) C1.out.2.2.1 C1.out.2.2.2 C1.out.1 C1.out.2.1 (by simp<;>omega) ?_;intro v1 wa ho1 hg1;have hF1:=hid (below_append (below_drew (bel1 W (.cells #[] 53))) (by simp<;>omega) ((own_none W 53 2 W.heap.size (Nat.le_refl _)).drew) hg1 (Nat.le_refl _));have hP:=hid ho1;clear ho1 hg1)
        | (refine step_append_row (by rfl) _ _ _ (by rfl) W.heap.size 53 i0 _ 2 16 Tryz.underlying25 ia ib ic id rfl (by omega) _ 0 [] (by rfl) (((own_none W 53 2 W.heap.size (Nat.le_refl _)).alloc (.cells #[.int .i64 x,.int .i64 y] 53)).drew) _ _ _ ((s.take q).flatMap ptCells) (by rfl) (HRT.out.below (below_drew ((bel1 W (.cells #[] 53)).alloc (by simp) (.cells #[.int .i64 x,.int .i64 y] 53)))) C1.out.2.2.1 C1.out.2.2.2 C1.out.1 C1.out.2.1 (by simp<;>omega) ?_;intro v1 wa ho1 hg1;have hF1:=hid (below_append (below_drew ((bel1 W (.cells #[] 53)).alloc (by simp) (.cells #[.int .i64 x,.int .i64 y] 53))) (by simp<;>omega) (((own_none W 53 2 W.heap.size (Nat.le_refl _)).alloc (.cells #[.int .i64 x,.int .i64 y] 53)).drew) hg1 (Nat.le_refl _));have hP:=hid ho1;have HN:=hid (row_grown (newN_rowB W (.cells #[] 53) [.int .i64 x,.int .i64 y] 53) hg1 (by simp [Value.ownBlock]));clear ho1 hg1)
        | (refine step_append_row (by rfl) _ _ _ (by rfl) W.heap.size 53 i0 _ 2 16 Tryz.underlying25 ia ib ic id rfl (by omega) _ 0 [] (by rfl) (own_emptyC W (.cells #[.int .i64 x,.int .i64 y] 53) 53 2) _ _ _ ((s.take q).flatMap ptCells) (by rfl) (HRT.out.below (below_drew ((bel1 W (.cells #[.int .i64 x,.int .i64 y] 53)).alloc (by simp) (.cells #[] 53)))) C1.out.2.2.1 C1.out.2.2.2 C1.out.1 C1.out.2.1 (by simp<;>omega) ?_;intro v1 wa ho1 hg1;have hF1:=hid (below_append (below_drew ((bel1 W (.cells #[.int .i64 x,.int .i64 y] 53)).alloc (by simp) (.cells #[] 53))) (by simp<;>omega) (own_emptyC W (.cells #[.int .i64 x,.int .i64 y] 53) 53 2) hg1 (Nat.le_refl _));have hP:=hid ho1;have HN:=hid (row_grown (newN_rowC W (.cells #[] 53) [.int .i64 x,.int .i64 y] 53) hg1 (by simp [Value.ownBlock]));clear ho1 hg1)
        | (refine step_append_row (by rfl) _ _ _ (by rfl) W.heap.size 53 i0 _ 2 16 Tryz.underlying25 ia ib ic id rfl (by omega) _ _ _ (by rfl) (hP.out.alloc _) _ 1 _ [.int .i64 x,.int .i64 y] (by rfl) (newN_row _ [.int .i64 x,.int .i64 y] _) C2.out.2.2.1 C2.out.2.2.2 C2.out.1 C2.out.2.1 (Below.size (hF1.out.alloc hF1.out.size _)) ?_;intro v2 wb ho2 hg2;have hF2:=hid (below_append (hF1.out.alloc hF1.out.size _) (Below.size (hF1.out.alloc hF1.out.size _)) (hP.out.alloc _) hg2 (Nat.le_refl _));have hQ:=hid ho2;clear ho2 hg2)
        | (refine step_append_row (by rfl) _ _ _ (by rfl) W.heap.size 53 i0 _ 2 16 Tryz.underlying25 ia ib ic id rfl (by omega) _ _ _ (by rfl) hP.out _ 1 _ [.int .i64 x,.int .i64 y] (by rfl) HN.out C2.out.2.2.1 C2.out.2.2.2 C2.out.1 C2.out.2.1 (Below.size hF1.out) ?_;intro v2 wb ho2 hg2;have hF2:=hid (below_append hF1.out (Below.size hF1.out) hP.out hg2 (Nat.le_refl _));have hQ:=hid ho2;clear ho2 hg2)
        | (refine step_append_row (by rfl) _ _ _ (by rfl) W.heap.size 53 i0 _ 2 16 Tryz.underlying25 ia ib ic id rfl (by omega) _ _ _ (by rfl) hQ.out _ (s.length - q) _ ((s.drop q).flatMap ptCells) (by rfl) (HRD.out.below hF2.out) C3.out.2.2.1 C3.out.2.2.2 C3.out.1 C3.out.2.1 (Below.size hF2.out) ?_;intro v3 wc ho3 hg3;have hF3:=hid (below_append hF2.out (Below.size hF2.out) hQ.out hg3 (Nat.le_refl _));have hS:=hid ho3;clear ho3 hg3))
       all_goals
        have HOWN:Hid (wc.ownsRow w.heap.size 53 2 v3 (sortedV (l.take (k+1))).length ((sortedV (l.take (k+1))).flatMap ptCells)):=hid (own_fit hS.out HBZ.out HLA.out HCL.out)
        have HBEL:Hid (Below w.heap.size w wc):=hid ((HB.out.trans (HB8.out.mono HB.out.size)).trans (hF3.out.mono HBZ.out))
        clear hS hF3 hF2 hQ hF1 hP
        go_wp2
        go_roundw
        case rel=>exact ⟨k+1,by go_num,hlt,HOWN,HBEL⟩
        case measure=>simp [intOf];omega
     ·have HLE:=hid (fun W=>rless_any ux uy x y W)
      rw [hle] at HLE
      have hq2:=HST.out hle
      clear b0 b1 hle
      go_wp2
      refine wp_region_later wr (by kernel_rfl) (by kernel_rfl) (Below.refl _ _) ?_
      repeat (go_big_quiet_step ((go_at_call 28;exact Calls.later (HLE.out _))))
      refine wpQuiet_nil ?_
      rintro w9 hex;have hb9:=later_of hex;clear hex
      have HB9:=hid (HBI.out.trans (hb9.mono HBI.out.size))
      clear E0 E1 F0 F1 hb9
      go_wp2
      go_roundw
      case rel=>exact ⟨q+1,by go_num,hq2,HB9⟩
      case measure=>simp [intOf];omega
    ·obtain rfl:q=s.length:=by have:=HPL.out;omega
     have d1:decide ((s.length:Int) < (s.length:Int))=false:=decide_eq_false (by omega)
     have HPE:Hid (s.length=pos s (x,y)):=hid (by have:=HPL.out;omega)
     have HIN:Hid (insV s (x,y)=s++[(x,y)]):=hid (by rw [insV_pos,← HPE.out,List.getElem?_eq_none (Nat.le_refl _),if_neg (by simp),List.take_length,List.drop_length])
     go_wp2
     refine wp_region_later wr (by kernel_rfl) (by kernel_rfl) (Below.refl _ _) ?_
     repeat (go_big_quiet_step (fail))
     refine wpQuiet_nil ?_
     rintro w9 hex;have hb9:=later_of hex;clear hex
     have HB9:=hid (HBI.out.trans (hb9.mono HBI.out.size))
     have hgg9:g < w9.heap.size:=Nat.lt_of_lt_of_le hg2 HB9.out.size
     have K0:∀ p:Later w9,p.w.cell? ⟨g,off+k*2,none⟩=some (.int .i64 x):=later_cell hgg9 (E0 ⟨w9,hb9⟩)
     have K1:∀ p:Later w9,p.w.cell? ⟨g,off+k*2+1,none⟩=some (.int .i64 y):=later_cell hgg9 (E1 ⟨w9,hb9⟩)
     clear E0 E1 hb9
     go_wp2
     refine wp_region_later w9 (by kernel_rfl) (by kernel_rfl) (Below.refl _ _) ?_
     repeat (go_big_quiet_step (fail))
     refine wpQuiet_nil ?_
     rintro W hex;have hb8:=later_of hex;clear hex
     have HB8:=hid (HB9.out.trans (hb8.mono HB9.out.size))
     have k0:=K0 ⟨W,hb8⟩
     have k1:=K1 ⟨W,hb8⟩
     simp only at k0 k1
     clear K0 K1 hb8
     have hqc:(s.length:Int)≤(oc:Int):=by omega
     have hqs:(s.length:Int)≤(s.length:Int):=by omega
     have hqc':s.length≤oc:=by omega
     have HLA:Hid (0+s.length+1+0=(sortedV (l.take (k+1))).length):=hid (by rw [HTK.out,HIN.out];simp)
     have HCL:Hid ([]++(s.flatMap ptCells)++[.int .i64 x,.int .i64 y]++[]=(sortedV (l.take (k+1))).flatMap ptCells):=hid (by rw [HTK.out,HIN.out];simp [ptCells])
     have C1:Hid (0+s.length≤maxLen∧(0+s.length)*16≤140737488355328∧((s.flatMap ptCells):List Value).length=s.length*2∧∀ u∈((s.flatMap ptCells):List Value),u.oneCell'=true):=hid ⟨by unfold maxLen;omega,by omega,flatMap_len pt_len s,pt_one _⟩
     have C2:Hid (0+s.length+1≤maxLen∧(0+s.length+1)*16≤140737488355328∧([.int .i64 x,.int .i64 y]:List Value).length=1*2∧∀ u∈([.int .i64 x,.int .i64 y]:List Value),u.oneCell'=true):=hid ⟨by unfold maxLen;omega,by omega,rfl,by intro u hu;simp at hu;rcases hu with rfl | rfl<;>rfl⟩
     have C3:Hid (0+s.length+1+0≤maxLen∧(0+s.length+1+0)*16≤140737488355328∧([]:List Value).length=0*2∧∀ u∈([]:List Value),u.oneCell'=true):=hid ⟨by unfold maxLen;omega,by omega,rfl,by intro u hu;simp at hu⟩
     have HOA:=hid (Row.of_own (own_below HOW.out HB8.out))
     have hk0:(0:Int)≤(k:Int):=by omega
     have hk1:(k:Int) < (l.length:Int):=by omega
     have hgw:g < W.heap.size:=Nat.lt_of_lt_of_le hg2 HB8.out.size
     have HBZ:Hid (w.heap.size≤W.heap.size):=hid (Nat.le_trans HB.out.size HB8.out.size)
     go_wp2_with fail
     rcases own_cases HOW.out with ⟨rfl,hn0,hd0⟩ | ⟨g2,rfl,hg3,hg4⟩
     ·obtain rfl:oc=s.length:=by omega
      clear hn0 hd0
      go_region_held3 (fun w'=>w'.cell? ⟨g,off+k*2,none⟩=some (.int .i64 x)∧w'.cell? ⟨g,off+k*2+1,none⟩=some (.int .i64 y)) (first | go_keep | exact ⟨keepC hF3.out hgw k0,keepC hF3.out hgw k1⟩ | exact ⟨keepC hF2.out hgw k0,keepC hF2.out hgw k1⟩ | exact ⟨keepC hF1.out hgw k0,keepC hF1.out hgw k1⟩ | exact ⟨keepC (hF1.out.alloc hF1.out.size _) hgw k0,keepC (hF1.out.alloc hF1.out.size _) hgw k1⟩)
       (first
       | (refine step_append_row (by rfl) _ _ _ (by rfl) W.heap.size 53 i0 _ 2 16 Tryz.underlying25 ia ib ic id rfl (by omega) _ 0 [] (by rfl) ((own_none W 53 2 W.heap.size (Nat.le_refl _)).drew) _ _ _ (s.flatMap ptCells) (by rfl) (HOA.out.below (below_drew (bel1 W (.cells #[] 53)))) C1.out.2.2.1 C1.out.2.2.2 C1.out.1 C1.out.2.1 (by simp<;>omega) ?_;intro v1 wa ho1 hg1;have hF1:=hid (below_append (below_drew (bel1 W (.cells #[] 53))) (by simp<;>omega) ((own_none W 53 2 W.heap.size (Nat.le_refl _)).drew) hg1 (Nat.le_refl _));have hP:=hid ho1;clear ho1 hg1)
       | (refine step_append_row (by rfl) _ _ _ (by rfl) W.heap.size 53 i0 _ 2 16 Tryz.underlying25 ia ib ic id rfl (by omega) _ 0 [] (by rfl) (((own_none W 53 2 W.heap.size (Nat.le_refl _)).alloc (.cells #[.int .i64 x,.int .i64 y] 53)).drew) _ _ _ (s.flatMap ptCells) (by rfl) (HOA.out.below (below_drew ((bel1 W (.cells #[] 53)).alloc (by simp) (.cells #[.int .i64 x,.int .i64 y] 53)))) C1.out.2.2.1 C1.out.2.2.2 C1.out.1 C1.out.2.1 (by simp<;>omega) ?_;intro v1 wa ho1 hg1;have hF1:=hid (below_append (below_drew ((bel1 W (.cells #[] 53)).alloc (by simp) (.cells #[.int .i64 x,.int .i64 y] 53))) (by simp<;>omega) (((own_none W 53 2 W.heap.size (Nat.le_refl _)).alloc (.cells #[.int .i64 x,.int .i64 y] 53)).drew) hg1 (Nat.le_refl _));have hP:=hid ho1;have HN:=hid (row_grown (newN_rowB W (.cells #[] 53) [.int .i64 x,.int .i64 y] 53) hg1 (by simp [Value.ownBlock]));clear ho1 hg1)
       | (refine step_append_row (by rfl) _ _ _ (by rfl) W.heap.size 53 i0 _ 2 16 Tryz.underlying25 ia ib ic id rfl (by omega) _ 0 [] (by rfl) (own_emptyC W (.cells #[.int .i64 x,.int .i64 y] 53) 53 2) _ _ _ (s.flatMap ptCells) (by rfl) (HOA.out.below (below_drew ((bel1 W (.cells #[.int .i64 x,.int .i64 y] 53)).alloc (by simp) (.cells #[] 53)))) C1.out.2.2.1 C1.out.2.2.2 C1.out.1 C1.out.2.1 (by simp<;>omega) ?_;intro v1 wa ho1 hg1;have hF1:=hid (below_append (below_drew ((bel1 W (.cells #[.int .i64 x,.int .i64 y] 53)).alloc (by simp) (.cells #[] 53))) (by simp<;>omega) (own_emptyC W (.cells #[.int .i64 x,.int .i64 y] 53) 53 2) hg1 (Nat.le_refl _));have hP:=hid ho1;have HN:=hid (row_grown (newN_rowC W (.cells #[] 53) [.int .i64 x,.int .i64 y] 53) hg1 (by simp [Value.ownBlock]));clear ho1 hg1)
       | (refine step_append_row (by rfl) _ _ _ (by rfl) W.heap.size 53 i0 _ 2 16 Tryz.underlying25 ia ib ic id rfl (by omega) _ _ _ (by rfl) (hP.out.alloc _) _ 1 _ [.int .i64 x,.int .i64 y] (by rfl) (newN_row _ [.int .i64 x,.int .i64 y] _) C2.out.2.2.1 C2.out.2.2.2 C2.out.1 C2.out.2.1 (Below.size (hF1.out.alloc hF1.out.size _)) ?_;intro v2 wb ho2 hg2;have hF2:=hid (below_append (hF1.out.alloc hF1.out.size _) (Below.size (hF1.out.alloc hF1.out.size _)) (hP.out.alloc _) hg2 (Nat.le_refl _));have hQ:=hid ho2;clear ho2 hg2)
       | (refine step_append_row (by rfl) _ _ _ (by rfl) W.heap.size 53 i0 _ 2 16 Tryz.underlying25 ia ib ic id rfl (by omega) _ _ _ (by rfl) hP.out _ 1 _ [.int .i64 x,.int .i64 y] (by rfl) HN.out C2.out.2.2.1 C2.out.2.2.2 C2.out.1 C2.out.2.1 (Below.size hF1.out) ?_;intro v2 wb ho2 hg2;have hF2:=hid (below_append hF1.out (Below.size hF1.out) hP.out hg2 (Nat.le_refl _));have hQ:=hid ho2;clear ho2 hg2)
       | (refine step_append_row (by rfl) _ _ _ (by rfl) W.heap.size 53 i0 _ 2 16 Tryz.underlying25 ia ib ic id rfl (by omega) _ _ _ (by rfl) hQ.out _ 0 _ [] (by rfl) (Row.nil _ _) C3.out.2.2.1 C3.out.2.2.2 C3.out.1 C3.out.2.1 (Below.size hF2.out) ?_;intro v3 wc ho3 hg3;have hF3:=hid (below_append hF2.out (Below.size hF2.out) hQ.out hg3 (Nat.le_refl _));have hS:=hid ho3;clear ho3 hg3))
      all_goals
       have HOWN:Hid (wc.ownsRow w.heap.size 53 2 v3 (sortedV (l.take (k+1))).length ((sortedV (l.take (k+1))).flatMap ptCells)):=hid (own_fit hS.out HBZ.out HLA.out HCL.out)
       have HBEL:Hid (Below w.heap.size w wc):=hid ((HB.out.trans (HB8.out.mono HB.out.size)).trans (hF3.out.mono HBZ.out))
       clear hS hF3 hF2 hQ hF1 hP
       go_wp2
       go_roundw
       case rel=>exact ⟨k+1,by go_num,hlt,HOWN,HBEL⟩
       case measure=>simp [intOf];omega
     ·clear hg3 hg4
      by_cases hda:oc=s.length
      ·subst hda
       go_region_held3 (fun w'=>w'.cell? ⟨g,off+k*2,none⟩=some (.int .i64 x)∧w'.cell? ⟨g,off+k*2+1,none⟩=some (.int .i64 y)) (first | go_keep | exact ⟨keepC hF3.out hgw k0,keepC hF3.out hgw k1⟩ | exact ⟨keepC hF2.out hgw k0,keepC hF2.out hgw k1⟩ | exact ⟨keepC hF1.out hgw k0,keepC hF1.out hgw k1⟩ | exact ⟨keepC (hF1.out.alloc hF1.out.size _) hgw k0,keepC (hF1.out.alloc hF1.out.size _) hgw k1⟩)
        (first
        | (refine step_append_row (by rfl) _ _ _ (by rfl) W.heap.size 53 i0 _ 2 16 Tryz.underlying25 ia ib ic id rfl (by omega) _ 0 [] (by rfl) ((own_none W 53 2 W.heap.size (Nat.le_refl _)).drew) _ _ _ (s.flatMap ptCells) (by rfl) (HOA.out.below (below_drew (bel1 W (.cells #[] 53)))) C1.out.2.2.1 C1.out.2.2.2 C1.out.1 C1.out.2.1 (by simp<;>omega) ?_;intro v1 wa ho1 hg1;have hF1:=hid (below_append (below_drew (bel1 W (.cells #[] 53))) (by simp<;>omega) ((own_none W 53 2 W.heap.size (Nat.le_refl _)).drew) hg1 (Nat.le_refl _));have hP:=hid ho1;clear ho1 hg1)
        | (refine step_append_row (by rfl) _ _ _ (by rfl) W.heap.size 53 i0 _ 2 16 Tryz.underlying25 ia ib ic id rfl (by omega) _ 0 [] (by rfl) (((own_none W 53 2 W.heap.size (Nat.le_refl _)).alloc (.cells #[.int .i64 x,.int .i64 y] 53)).drew) _ _ _ (s.flatMap ptCells) (by rfl) (HOA.out.below (below_drew ((bel1 W (.cells #[] 53)).alloc (by simp) (.cells #[.int .i64 x,.int .i64 y] 53)))) C1.out.2.2.1 C1.out.2.2.2 C1.out.1 C1.out.2.1 (by simp<;>omega) ?_;intro v1 wa ho1 hg1;have hF1:=hid (below_append (below_drew ((bel1 W (.cells #[] 53)).alloc (by simp) (.cells #[.int .i64 x,.int .i64 y] 53))) (by simp<;>omega) (((own_none W 53 2 W.heap.size (Nat.le_refl _)).alloc (.cells #[.int .i64 x,.int .i64 y] 53)).drew) hg1 (Nat.le_refl _));have hP:=hid ho1;have HN:=hid (row_grown (newN_rowB W (.cells #[] 53) [.int .i64 x,.int .i64 y] 53) hg1 (by simp [Value.ownBlock]));clear ho1 hg1)
        | (refine step_append_row (by rfl) _ _ _ (by rfl) W.heap.size 53 i0 _ 2 16 Tryz.underlying25 ia ib ic id rfl (by omega) _ 0 [] (by rfl) (own_emptyC W (.cells #[.int .i64 x,.int .i64 y] 53) 53 2) _ _ _ (s.flatMap ptCells) (by rfl) (HOA.out.below (below_drew ((bel1 W (.cells #[.int .i64 x,.int .i64 y] 53)).alloc (by simp) (.cells #[] 53)))) C1.out.2.2.1 C1.out.2.2.2 C1.out.1 C1.out.2.1 (by simp<;>omega) ?_;intro v1 wa ho1 hg1;have hF1:=hid (below_append (below_drew ((bel1 W (.cells #[.int .i64 x,.int .i64 y] 53)).alloc (by simp) (.cells #[] 53))) (by simp<;>omega) (own_emptyC W (.cells #[.int .i64 x,.int .i64 y] 53) 53 2) hg1 (Nat.le_refl _));have hP:=hid ho1;have HN:=hid (row_grown (newN_rowC W (.cells #[] 53) [.int .i64 x,.int .i64 y] 53) hg1 (by simp [Value.ownBlock]));clear ho1 hg1)
        | (refine step_append_row (by rfl) _ _ _ (by rfl) W.heap.size 53 i0 _ 2 16 Tryz.underlying25 ia ib ic id rfl (by omega) _ _ _ (by rfl) (hP.out.alloc _) _ 1 _ [.int .i64 x,.int .i64 y] (by rfl) (newN_row _ [.int .i64 x,.int .i64 y] _) C2.out.2.2.1 C2.out.2.2.2 C2.out.1 C2.out.2.1 (Below.size (hF1.out.alloc hF1.out.size _)) ?_;intro v2 wb ho2 hg2;have hF2:=hid (below_append (hF1.out.alloc hF1.out.size _) (Below.size (hF1.out.alloc hF1.out.size _)) (hP.out.alloc _) hg2 (Nat.le_refl _));have hQ:=hid ho2;clear ho2 hg2)
        | (refine step_append_row (by rfl) _ _ _ (by rfl) W.heap.size 53 i0 _ 2 16 Tryz.underlying25 ia ib ic id rfl (by omega) _ _ _ (by rfl) hP.out _ 1 _ [.int .i64 x,.int .i64 y] (by rfl) HN.out C2.out.2.2.1 C2.out.2.2.2 C2.out.1 C2.out.2.1 (Below.size hF1.out) ?_;intro v2 wb ho2 hg2;have hF2:=hid (below_append hF1.out (Below.size hF1.out) hP.out hg2 (Nat.le_refl _));have hQ:=hid ho2;clear ho2 hg2)
        | (refine step_append_row (by rfl) _ _ _ (by rfl) W.heap.size 53 i0 _ 2 16 Tryz.underlying25 ia ib ic id rfl (by omega) _ _ _ (by rfl) hQ.out _ 0 _ [] (by rfl) (Row.nil _ _) C3.out.2.2.1 C3.out.2.2.2 C3.out.1 C3.out.2.1 (Below.size hF2.out) ?_;intro v3 wc ho3 hg3;have hF3:=hid (below_append hF2.out (Below.size hF2.out) hQ.out hg3 (Nat.le_refl _));have hS:=hid ho3;clear ho3 hg3))
       all_goals
        have HOWN:Hid (wc.ownsRow w.heap.size 53 2 v3 (sortedV (l.take (k+1))).length ((sortedV (l.take (k+1))).flatMap ptCells)):=hid (own_fit hS.out HBZ.out HLA.out HCL.out)
        have HBEL:Hid (Below w.heap.size w wc):=hid ((HB.out.trans (HB8.out.mono HB.out.size)).trans (hF3.out.mono HBZ.out))
        clear hS hF3 hF2 hQ hF1 hP
        go_wp2
        go_roundw
        case rel=>exact ⟨k+1,by go_num,hlt,HOWN,HBEL⟩
        case measure=>simp [intOf];omega
      ·
       go_region_held3 (fun w'=>w'.cell? ⟨g,off+k*2,none⟩=some (.int .i64 x)∧w'.cell? ⟨g,off+k*2+1,none⟩=some (.int .i64 y)) (first | go_keep | exact ⟨keepC hF3.out hgw k0,keepC hF3.out hgw k1⟩ | exact ⟨keepC hF2.out hgw k0,keepC hF2.out hgw k1⟩ | exact ⟨keepC hF1.out hgw k0,keepC hF1.out hgw k1⟩ | exact ⟨keepC (hF1.out.alloc hF1.out.size _) hgw k0,keepC (hF1.out.alloc hF1.out.size _) hgw k1⟩)
        (first
        | (refine step_append_row (by rfl) _ _ _ (by rfl) W.heap.size 53 i0 _ 2 16 Tryz.underlying25 ia ib ic id rfl (by omega) _ 0 [] (by rfl) ((own_none W 53 2 W.heap.size (Nat.le_refl _)).drew) _ _ _ (s.flatMap ptCells) (by rfl) (HOA.out.below (below_drew (bel1 W (.cells #[] 53)))) C1.out.2.2.1 C1.out.2.2.2 C1.out.1 C1.out.2.1 (by simp<;>omega) ?_;intro v1 wa ho1 hg1;have hF1:=hid (below_append (below_drew (bel1 W (.cells #[] 53))) (by simp<;>omega) ((own_none W 53 2 W.heap.size (Nat.le_refl _)).drew) hg1 (Nat.le_refl _));have hP:=hid ho1;clear ho1 hg1)
        | (refine step_append_row (by rfl) _ _ _ (by rfl) W.heap.size 53 i0 _ 2 16 Tryz.underlying25 ia ib ic id rfl (by omega) _ 0 [] (by rfl) (((own_none W 53 2 W.heap.size (Nat.le_refl _)).alloc (.cells #[.int .i64 x,.int .i64 y] 53)).drew) _ _ _ (s.flatMap ptCells) (by rfl) (HOA.out.below (below_drew ((bel1 W (.cells #[] 53)).alloc (by simp) (.cells #[.int .i64 x,.int .i64 y] 53)))) C1.out.2.2.1 C1.out.2.2.2 C1.out.1 C1.out.2.1 (by simp<;>omega) ?_;intro v1 wa ho1 hg1;have hF1:=hid (below_append (below_drew ((bel1 W (.cells #[] 53)).alloc (by simp) (.cells #[.int .i64 x,.int .i64 y] 53))) (by simp<;>omega) (((own_none W 53 2 W.heap.size (Nat.le_refl _)).alloc (.cells #[.int .i64 x,.int .i64 y] 53)).drew) hg1 (Nat.le_refl _));have hP:=hid ho1;have HN:=hid (row_grown (newN_rowB W (.cells #[] 53) [.int .i64 x,.int .i64 y] 53) hg1 (by simp [Value.ownBlock]));clear ho1 hg1)
        | (refine step_append_row (by rfl) _ _ _ (by rfl) W.heap.size 53 i0 _ 2 16 Tryz.underlying25 ia ib ic id rfl (by omega) _ 0 [] (by rfl) (own_emptyC W (.cells #[.int .i64 x,.int .i64 y] 53) 53 2) _ _ _ (s.flatMap ptCells) (by rfl) (HOA.out.below (below_drew ((bel1 W (.cells #[.int .i64 x,.int .i64 y] 53)).alloc (by simp) (.cells #[] 53)))) C1.out.2.2.1 C1.out.2.2.2 C1.out.1 C1.out.2.1 (by simp<;>omega) ?_;intro v1 wa ho1 hg1;have hF1:=hid (below_append (below_drew ((bel1 W (.cells #[.int .i64 x,.int .i64 y] 53)).alloc (by simp) (.cells #[] 53))) (by simp<;>omega) (own_emptyC W (.cells #[.int .i64 x,.int .i64 y] 53) 53 2) hg1 (Nat.le_refl _));have hP:=hid ho1;have HN:=hid (row_grown (newN_rowC W (.cells #[] 53) [.int .i64 x,.int .i64 y] 53) hg1 (by simp [Value.ownBlock]));clear ho1 hg1)
        | (refine step_append_row (by rfl) _ _ _ (by rfl) W.heap.size 53 i0 _ 2 16 Tryz.underlying25 ia ib ic id rfl (by omega) _ _ _ (by rfl) (hP.out.alloc _) _ 1 _ [.int .i64 x,.int .i64 y] (by rfl) (newN_row _ [.int .i64 x,.int .i64 y] _) C2.out.2.2.1 C2.out.2.2.2 C2.out.1 C2.out.2.1 (Below.size (hF1.out.alloc hF1.out.size _)) ?_;intro v2 wb ho2 hg2;have hF2:=hid (below_append (hF1.out.alloc hF1.out.size _) (Below.size (hF1.out.alloc hF1.out.size _)) (hP.out.alloc _) hg2 (Nat.le_refl _));have hQ:=hid ho2;clear ho2 hg2)
        | (refine step_append_row (by rfl) _ _ _ (by rfl) W.heap.size 53 i0 _ 2 16 Tryz.underlying25 ia ib ic id rfl (by omega) _ _ _ (by rfl) hP.out _ 1 _ [.int .i64 x,.int .i64 y] (by rfl) HN.out C2.out.2.2.1 C2.out.2.2.2 C2.out.1 C2.out.2.1 (Below.size hF1.out) ?_;intro v2 wb ho2 hg2;have hF2:=hid (below_append hF1.out (Below.size hF1.out) hP.out hg2 (Nat.le_refl _));have hQ:=hid ho2;clear ho2 hg2)
        | (refine step_append_row (by rfl) _ _ _ (by rfl) W.heap.size 53 i0 _ 2 16 Tryz.underlying25 ia ib ic id rfl (by omega) _ _ _ (by rfl) hQ.out _ 0 _ [] (by rfl) (Row.nil _ _) C3.out.2.2.1 C3.out.2.2.2 C3.out.1 C3.out.2.1 (Below.size hF2.out) ?_;intro v3 wc ho3 hg3;have hF3:=hid (below_append hF2.out (Below.size hF2.out) hQ.out hg3 (Nat.le_refl _));have hS:=hid ho3;clear ho3 hg3))
       all_goals
        have HOWN:Hid (wc.ownsRow w.heap.size 53 2 v3 (sortedV (l.take (k+1))).length ((sortedV (l.take (k+1))).flatMap ptCells)):=hid (own_fit hS.out HBZ.out HLA.out HCL.out)
        have HBEL:Hid (Below w.heap.size w wc):=hid ((HB.out.trans (HB8.out.mono HB.out.size)).trans (hF3.out.mono HBZ.out))
        clear hS hF3 hF2 hQ hF1 hP
        go_wp2
        go_roundw
        case rel=>exact ⟨k+1,by go_num,hlt,HOWN,HBEL⟩
        case measure=>simp [intOf];omega
  ·obtain rfl:k=l.length:=by omega
   rw [List.take_length] at HOW
   go_wp2
   refine bodyPost_ret (v:=.slice oA (sortedV l).length oc) (by simp [results,Tryz.results175,go_sem]) rfl ⟨⟨_,rfl,HOW.out⟩,HB.out⟩
set_option maxRecDepth 100000 in
set_option maxHeartbeats 2000000 in
theorem rside_any (ax ay bx b_y x y:Int) (w:World) :
  Calls Tryz.prog 125 #[.agg #[.int .i64 ax,.int .i64 ay,.int .i64 bx,.int .i64 b_y],.agg #[.int .i64 x,.int .i64 y]] w fun e w'=>e=.returned (.int .i64 (rside ((ax,ay),(bx,b_y)) (x,y)))∧Below w.heap.size w w':=by
 have HX:Hid (((w.alloc (.cells #[.int .i64 ax,.int .i64 ay,.int .i64 bx,.int .i64 b_y] 74)).alloc (.cells #[.int .i64 x,.int .i64 y] 53)).heap[w.heap.size]? = some (.cells #[.int .i64 ax,.int .i64 ay,.int .i64 bx,.int .i64 b_y] 74)∧((w.alloc (.cells #[.int .i64 ax,.int .i64 ay,.int .i64 bx,.int .i64 b_y] 74)).alloc (.cells #[.int .i64 x,.int .i64 y] 53)).heap[w.heap.size+1]? = some (.cells #[.int .i64 x,.int .i64 y] 53)):=hid (two_vecs w _ _)
 have HB:=hid (((Below.refl w.heap.size w).alloc (Nat.le_refl _) (.cells #[.int .i64 ax,.int .i64 ay,.int .i64 bx,.int .i64 b_y] 74)).alloc (by simp) (.cells #[.int .i64 x,.int .i64 y] 53))
 have HSV:=hid (fun W=>rsegok_any ax ay bx b_y W)
 have HW:=hid (fun W=>rwithin_any x y 4000 W (by omega))
 have HT0:Hid (segOk ((ax,ay),(bx,b_y))=true→within (x,y) 4000=true→∀ W,Calls Tryz.prog 122 #[.agg #[.int .i64 ax,.int .i64 ay],.agg #[.int .i64 bx,.int .i64 b_y],.agg #[.int .i64 x,.int .i64 y]] W fun e w'=>e=.returned (.int .i64 (turn (ax,ay) (bx,b_y) (x,y)))∧Below W.heap.size W w'):=hid (fun h1 h2 W=>by
  unfold segOk at h1
  simp only [Bool.and_eq_true] at h1
  obtain ⟨⟨a1,a2⟩,a3,a4⟩:=within_in h1.1
  obtain ⟨⟨b1,b2⟩,b3,b4⟩:=within_in h1.2
  obtain ⟨⟨c1,c2⟩,c3,c4⟩:=within_in h2
  simp only at a1 a2 a3 a4 b1 b2 b3 b4 c1 c2 c3 c4
  exact rturn_any ax ay bx b_y x y W (by omega) (by omega) (by omega) (by omega) (by omega) (by omega))
 have HE:Hid (rside ((ax,ay),(bx,b_y)) (x,y)=if (segOk ((ax,ay),(bx,b_y))&&within (x,y) 4000)=true then turn (ax,ay) (bx,b_y) (x,y) else 0):=hid rfl
 rw [HE.out]
 clear HE
 obtain ⟨s0,s1,s2,s3⟩:=quad_at HX.out.1 (Below.refl _ _)
 generalize turn (ax,ay) (bx,b_y) (x,y)=tn at *
 cases h1:segOk ((ax,ay),(bx,b_y))
 ·rw [h1] at HSV
  rw [Bool.false_and,if_neg Bool.false_ne_true]
  clear h1 HT0
  go_enter Tryz.func125,Tryz.ntmps125
  go_wp2_with fail
  generalize ((w.alloc (.cells #[.int .i64 ax,.int .i64 ay,.int .i64 bx,.int .i64 b_y] 74)).alloc (.cells #[.int .i64 x,.int .i64 y] 53))=W at *
  refine (HSV.out _).mono ?_
  rintro e w1 ⟨rfl,hb1⟩
  have HB1:=hid hb1
  clear s0 s1 s2 s3 hb1
  go_wp2
  go_ret
  exact ⟨rfl,HB.out.trans (HB1.out.mono (Below.size HB.out))⟩
 ·rw [h1] at HSV
  cases h2:within (x,y) 4000
  ·rw [h2] at HW
   rw [Bool.true_and,if_neg Bool.false_ne_true]
   clear h1 h2 HT0
   go_enter Tryz.func125,Tryz.ntmps125
   go_wp2_with fail
   generalize ((w.alloc (.cells #[.int .i64 ax,.int .i64 ay,.int .i64 bx,.int .i64 b_y] 74)).alloc (.cells #[.int .i64 x,.int .i64 y] 53))=W at *
   refine (HSV.out _).mono ?_
   rintro e w1 ⟨rfl,hb1⟩
   have HB1:=hid hb1
   clear s0 s1 s2 s3 hb1
   obtain ⟨p0,p1⟩:=pair_at HX.out.2 HB1.out
   go_wp2_with fail
   refine (HW.out _).mono ?_
   rintro e w2 ⟨rfl,hb2⟩
   have HB2:=hid (HB1.out.trans (hb2.mono (Below.size HB1.out)))
   clear p0 p1 hb2
   go_wp2
   go_ret
   exact ⟨rfl,HB.out.trans (HB2.out.mono (Below.size HB.out))⟩
  ·rw [h2] at HW
   have HT:=hid (HT0.out h1 h2)
   rw [Bool.true_and,if_pos rfl]
   clear h1 h2 HT0
   go_enter Tryz.func125,Tryz.ntmps125
   go_wp2_with fail
   generalize ((w.alloc (.cells #[.int .i64 ax,.int .i64 ay,.int .i64 bx,.int .i64 b_y] 74)).alloc (.cells #[.int .i64 x,.int .i64 y] 53))=W at *
   refine (HSV.out _).mono ?_
   rintro e w1 ⟨rfl,hb1⟩
   have HB1:=hid hb1
   clear s0 s1 s2 s3 hb1
   obtain ⟨p0,p1⟩:=pair_at HX.out.2 HB1.out
   go_wp2_with fail
   refine (HW.out _).mono ?_
   rintro e w2 ⟨rfl,hb2⟩
   have HB2:=hid (HB1.out.trans (hb2.mono (Below.size HB1.out)))
   clear p0 p1 hb2
   obtain ⟨s0,s1,s2,s3⟩:=quad_at HX.out.1 HB2.out
   obtain ⟨p0,p1⟩:=pair_at HX.out.2 HB2.out
   go_wp2_with fail
   refine (HT.out _).mono ?_
   rintro e w3 ⟨rfl,hb3⟩
   have HB3:=hid (HB2.out.trans (hb3.mono (Below.size HB2.out)))
   clear hb3 s0 s1 s2 s3 p0 p1
   go_wp2
   go_ret
   exact ⟨rfl,HB.out.trans (HB3.out.mono (Below.size HB.out))⟩
set_option maxRecDepth 100000 in
set_option maxHeartbeats 2000000 in
theorem ron_any (ax ay bx b_y x y:Int) (w:World) :
  Calls Tryz.prog 174 #[.agg #[.int .i64 ax,.int .i64 ay,.int .i64 bx,.int .i64 b_y],.agg #[.int .i64 x,.int .i64 y]] w fun e w'=>e=.returned (.bool (on ((ax,ay),(bx,b_y)) (x,y)))∧Below w.heap.size w w':=by
 have HX:Hid (((w.alloc (.cells #[.int .i64 ax,.int .i64 ay,.int .i64 bx,.int .i64 b_y] 74)).alloc (.cells #[.int .i64 x,.int .i64 y] 53)).heap[w.heap.size]? = some (.cells #[.int .i64 ax,.int .i64 ay,.int .i64 bx,.int .i64 b_y] 74)∧((w.alloc (.cells #[.int .i64 ax,.int .i64 ay,.int .i64 bx,.int .i64 b_y] 74)).alloc (.cells #[.int .i64 x,.int .i64 y] 53)).heap[w.heap.size+1]? = some (.cells #[.int .i64 x,.int .i64 y] 53)):=hid (two_vecs w _ _)
 have HB:=hid (((Below.refl w.heap.size w).alloc (Nat.le_refl _) (.cells #[.int .i64 ax,.int .i64 ay,.int .i64 bx,.int .i64 b_y] 74)).alloc (by simp) (.cells #[.int .i64 x,.int .i64 y] 53))
 have HSV:=hid (fun W=>rsegok_any ax ay bx b_y W)
 have HE:Hid (on ((ax,ay),(bx,b_y)) (x,y)=(segOk ((ax,ay),(bx,b_y))&&((decide (min ax bx≤x)&&(decide (x≤max ax bx)&&(decide (min ay b_y≤y)&&decide (y≤max ay b_y))))&&decide (turn (ax,ay) (bx,b_y) (x,y)=0)))):=hid rfl
 rw [HE.out]
 clear HE
 obtain ⟨s0,s1,s2,s3⟩:=quad_at HX.out.1 (Below.refl _ _)
 cases h1:segOk ((ax,ay),(bx,b_y))
 ·rw [h1] at HSV
  rw [Bool.false_and]
  clear h1
  go_enter Tryz.func174,Tryz.ntmps174
  go_wp2_with fail
  generalize ((w.alloc (.cells #[.int .i64 ax,.int .i64 ay,.int .i64 bx,.int .i64 b_y] 74)).alloc (.cells #[.int .i64 x,.int .i64 y] 53))=W at *
  refine (HSV.out _).mono ?_
  rintro e w1 ⟨rfl,hb1⟩
  have HB1:=hid hb1
  clear s0 s1 s2 s3 hb1
  go_wp2
  go_ret
  exact ⟨rfl,HB.out.trans (HB1.out.mono (Below.size HB.out))⟩
 ·rw [h1] at HSV
  have HT0:Hid (((min ax bx≤x∧x≤max ax bx)∧min ay b_y≤y∧y≤max ay b_y)→∀ W,Calls Tryz.prog 122 #[.agg #[.int .i64 ax,.int .i64 ay],.agg #[.int .i64 bx,.int .i64 b_y],.agg #[.int .i64 x,.int .i64 y]] W fun e w'=>e=.returned (.int .i64 (turn (ax,ay) (bx,b_y) (x,y)))∧Below W.heap.size W w'):=hid (fun h2 W=>by
   unfold segOk at h1
   simp only [Bool.and_eq_true] at h1
   obtain ⟨⟨a1,a2⟩,a3,a4⟩:=within_in h1.1
   obtain ⟨⟨b1,b2⟩,b3,b4⟩:=within_in h1.2
   simp only at a1 a2 a3 a4 b1 b2 b3 b4
   exact rturn_any ax ay bx b_y x y W (by omega) (by omega) (by omega) (by omega) (by omega) (by omega))
  generalize turn (ax,ay) (bx,b_y) (x,y)=tn at *
  rw [Bool.true_and]
  clear h1
  cases d0:decide (min ax bx≤x)
  ·simp only [Bool.false_and]
   clear HT0
   go_enter Tryz.func174,Tryz.ntmps174
   go_wp2_with fail
   generalize ((w.alloc (.cells #[.int .i64 ax,.int .i64 ay,.int .i64 bx,.int .i64 b_y] 74)).alloc (.cells #[.int .i64 x,.int .i64 y] 53))=W at *
   refine (HSV.out _).mono ?_
   rintro e w1 ⟨rfl,hb1⟩
   have HB1:=hid hb1
   clear s0 s1 s2 s3 hb1
   obtain ⟨s0,s1,s2,s3⟩:=quad_at HX.out.1 HB1.out
   obtain ⟨p0,p1⟩:=pair_at HX.out.2 HB1.out
   go_wp2
   go_ret
   exact ⟨rfl,HB.out.trans (HB1.out.mono (Below.size HB.out))⟩
  ·skip
   cases d1:decide (x≤max ax bx)
   ·simp only [Bool.true_and,Bool.false_and]
    clear HT0
    go_enter Tryz.func174,Tryz.ntmps174
    go_wp2_with fail
    generalize ((w.alloc (.cells #[.int .i64 ax,.int .i64 ay,.int .i64 bx,.int .i64 b_y] 74)).alloc (.cells #[.int .i64 x,.int .i64 y] 53))=W at *
    refine (HSV.out _).mono ?_
    rintro e w1 ⟨rfl,hb1⟩
    have HB1:=hid hb1
    clear s0 s1 s2 s3 hb1
    obtain ⟨s0,s1,s2,s3⟩:=quad_at HX.out.1 HB1.out
    obtain ⟨p0,p1⟩:=pair_at HX.out.2 HB1.out
    go_wp2
    go_ret
    exact ⟨rfl,HB.out.trans (HB1.out.mono (Below.size HB.out))⟩
   ·skip
    cases d2:decide (min ay b_y≤y)
    ·simp only [Bool.true_and,Bool.false_and]
     clear HT0
     go_enter Tryz.func174,Tryz.ntmps174
     go_wp2_with fail
     generalize ((w.alloc (.cells #[.int .i64 ax,.int .i64 ay,.int .i64 bx,.int .i64 b_y] 74)).alloc (.cells #[.int .i64 x,.int .i64 y] 53))=W at *
     refine (HSV.out _).mono ?_
     rintro e w1 ⟨rfl,hb1⟩
     have HB1:=hid hb1
     clear s0 s1 s2 s3 hb1
     obtain ⟨s0,s1,s2,s3⟩:=quad_at HX.out.1 HB1.out
     obtain ⟨p0,p1⟩:=pair_at HX.out.2 HB1.out
     go_wp2
     go_ret
     exact ⟨rfl,HB.out.trans (HB1.out.mono (Below.size HB.out))⟩
    ·skip
     cases d3:decide (y≤max ay b_y)
     ·simp only [Bool.true_and,Bool.false_and]
      clear HT0
      go_enter Tryz.func174,Tryz.ntmps174
      go_wp2_with fail
      generalize ((w.alloc (.cells #[.int .i64 ax,.int .i64 ay,.int .i64 bx,.int .i64 b_y] 74)).alloc (.cells #[.int .i64 x,.int .i64 y] 53))=W at *
      refine (HSV.out _).mono ?_
      rintro e w1 ⟨rfl,hb1⟩
      have HB1:=hid hb1
      clear s0 s1 s2 s3 hb1
      obtain ⟨s0,s1,s2,s3⟩:=quad_at HX.out.1 HB1.out
      obtain ⟨p0,p1⟩:=pair_at HX.out.2 HB1.out
      go_wp2
      go_ret
      exact ⟨rfl,HB.out.trans (HB1.out.mono (Below.size HB.out))⟩
     ·skip
      simp only [Bool.true_and]
      have HT:=hid (HT0.out ⟨⟨of_decide_eq_true d0,of_decide_eq_true d1⟩,of_decide_eq_true d2,of_decide_eq_true d3⟩)
      clear HT0
      go_enter Tryz.func174,Tryz.ntmps174
      go_wp2_with fail
      generalize ((w.alloc (.cells #[.int .i64 ax,.int .i64 ay,.int .i64 bx,.int .i64 b_y] 74)).alloc (.cells #[.int .i64 x,.int .i64 y] 53))=W at *
      refine (HSV.out _).mono ?_
      rintro e w1 ⟨rfl,hb1⟩
      have HB1:=hid hb1
      clear s0 s1 s2 s3 hb1
      obtain ⟨s0,s1,s2,s3⟩:=quad_at HX.out.1 HB1.out
      obtain ⟨p0,p1⟩:=pair_at HX.out.2 HB1.out
      go_wp2_with fail
      refine (HT.out _).mono ?_
      rintro e w3 ⟨rfl,hb3⟩
      have HB3:=hid (HB1.out.trans (hb3.mono (Below.size HB1.out)))
      clear hb3 s0 s1 s2 s3 p0 p1
      go_wp2
      go_ret
      exact ⟨rfl,HB.out.trans (HB3.out.mono (Below.size HB.out))⟩
end Go.Proofs.YtnmmhcchpcbeeaaGreat.GeW
