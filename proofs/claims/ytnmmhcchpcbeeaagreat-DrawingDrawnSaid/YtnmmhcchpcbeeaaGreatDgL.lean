/- Plain: the rings of the drawing of rings that are apart are these rings, each begun at its least point. No function is in sight. Conditions: the rings are valid. -/
import Derived.Test.YtnmmhcchpcbeeaaGreatDgG

namespace Go.Proofs.YtnmmhcchpcbeeaaGreat.Ge
open Go
/-! ### Rings begun elsewhere -/
theorem oddL_perm {l m:List S} (h:l.Perm m) (p:V):oddL l p=oddL m p:=by
 induction h with
 | nil=>rfl
 | cons x _ ih=>rw [oddL,oddL,ih]
 | swap x y l=>rw [oddL,oddL,oddL,oddL];cases tE x p<;>cases tE y p<;>cases oddL l p<;>rfl
 | trans _ _ h1 h2=>exact h1.trans h2
theorem edges_rot {l m:List V} (h:Rot l m):(edges m).Perm (edges l):=by
 obtain ⟨x,y,rfl,rfl⟩:=h
 rcases Nat.lt_or_ge (x++y).length 2 with c | c
 ·have c':(y++x).length < 2:=by simp at c ⊢;omega
  unfold edges
  rw [if_pos c,if_pos c']
 ·have c':2≤(y++x).length:=by simp at c ⊢;omega
  have hlen:(y++x).length=(x++y).length:=by simp;omega
  have hel:(edges (x++y)).length=(x++y).length:=by rw [edges_get c];simp
  have e:edges (y++x)=(List.range (edges (x++y)).length).map (fun i=>(edges (x++y)).getD ((i+x.length) % (edges (x++y)).length) ((0,0),(0,0))):=by
   rw [hel,edges_get c',hlen]
   refine List.map_congr_left fun i hi=>?_
   have hi:=List.mem_range.1 hi
   have hs:sig (x++y).length x.length i=(i+x.length) % (x++y).length:=by
    unfold sig
    have hx:x.length≤(x++y).length:=by simp
    split
    ·rename_i h;rw [Nat.mod_eq_of_lt h]
    ·rename_i h;rw [Nat.mod_eq_sub_mod (by omega),Nat.mod_eq_of_lt (by omega)]
   rw [rot_get x y hi,rot_nxt x y hi,hs]
   have hj:(i+x.length) % (x++y).length < (x++y).length:=Nat.mod_lt _ (by omega)
   rw [edges_get c,List.getD_eq_getElem?_getD (l:=List.map _ _),List.getElem?_map,List.getElem?_range hj]
   rfl
  rw [e,rot_range]
  exact List.perm_append_comm.trans (List.Perm.of_eq (List.take_append_drop _ _))
theorem in_rot {l m:List V} (h:Rot l m) (p:V):In m p=In l p:=oddL_perm (edges_rot h) p
theorem off_begin {a b:List V} (h:Off a b):Off (beginL a) (beginL b):=fun e he f hf =>
 h e ((edges_rot rot_begin).mem_iff.1 he) f ((edges_rot rot_begin).mem_iff.1 hf)
theorem ins_begin {a b:List V} (ha:ringB a=true) (h:Off a b):Ins (beginL a) (beginL b)=Ins a b:=by
 unfold Ins
 rw [in_rot rot_begin]
 exact in_all (two_of ha) h _ (beginL_hd (by have:=two_of ha;omega))
theorem begin_len' (l:List V):(beginL l).length=l.length:=rot_begin.len.symm
theorem begin_twice {l:List V} (h:ringB l=true):beginL (beginL l)=beginL l:=(begin_rot rot_begin (ring_nodup h) (by have:=two_of h;omega)).symm
theorem total_begin:∀ hs:List (List V),total (hs.map beginL)=total hs
 | []=>rfl
 | h::hs=>by rw [List.map_cons,total,total,begin_len',total_begin hs]
def rotS (s:Shp):Shp:=(beginL s.1,s.2.map beginL)
theorem Good.rot {s:Shp} (h:Good s):Good (rotS s) where
 few:=by show (s.2.map beginL).length≤6;rw [List.length_map];exact h.few
 rings:=fun r hr=>by
  have e:(rotS s).1::(rotS s).2=(s.1::s.2).map beginL:=rfl
  rw [e] at hr
  obtain ⟨q,hq,rfl⟩:=List.mem_map.1 hr
  exact begin_ring (h.rings q hq)
 sum:=by
  have e:(rotS s).1::(rotS s).2=(s.1::s.2).map beginL:=rfl
  rw [e,total_begin]
  exact h.sum
 holes:=fun k hk=>by
  obtain ⟨q,hq,rfl⟩:=List.mem_map.1 hk
  obtain ⟨o,i⟩:=h.holes q hq
  exact ⟨off_begin o,by show Ins (beginL q) (beginL s.1)=true;rw [ins_begin (h.hole hq) o];exact i⟩
 pairs:=by
  show (s.2.map beginL).Pairwise _
  rw [List.pairwise_map]
  refine List.Pairwise.imp_of_mem ?_ h.pairs
  intro a b ha hb hp
  exact ⟨off_begin hp.1,by rw [ins_begin (h.hole ha) hp.1];exact hp.2.1,by rw [ins_begin (h.hole hb) hp.1.symm];exact hp.2.2⟩
theorem Far.rot {s t:Shp} (hs:Good s) (ht:Good t) (h:Far s t):Far (rotS s) (rotS t) :=
 ⟨off_begin h.off,by show Ins (beginL s.1) (beginL t.1)=false;rw [ins_begin hs.outer h.off];exact h.in1,by show Ins (beginL t.1) (beginL s.1)=false;rw [ins_begin ht.outer h.off.symm];exact h.in2⟩
/-! ### The rings of shapes that lie apart -/
def ringsL (s:Shp):List (List V):=s.1::s.2
def allRings (l:List Shp):List (List V):=l.flatMap ringsL
theorem inB_ins {a b:List V} (ha:ringB a=true) (hb:ringB b=true) (h:Off a b):inB a b=Ins a b:=by
 unfold inB
 rw [where_is hb (hd_near ha) (vert_free (two_of ha) h _ (hd_mem' (by have:=two_of ha;omega)))]
 unfold Ins
 cases In b (hd a)<;>rfl
section
variable {s:Shp}
theorem in_holes (h:Good s) {k j:List V} (hk:k∈s.2) (hj:j∈s.2):inB k j=false:=by
 obtain ⟨a,ha,rfl⟩:=List.getElem_of_mem hk
 obtain ⟨b,hb,rfl⟩:=List.getElem_of_mem hj
 have hp:=List.pairwise_iff_getElem.1 h.pairs
 rcases Nat.lt_trichotomy a b with c | c | c
 ·obtain ⟨o,i,_⟩:=hp a b ha hb c
  rw [inB_ins (h.hole hk) (h.hole hj) o,i]
 ·subst c
  exact in_self (h.hole hk)
 ·obtain ⟨o,_,i⟩:=hp b a hb ha c
  rw [inB_ins (h.hole hk) (h.hole hj) o.symm,i]
theorem filter_none {p:List V→Bool} {l:List (List V)} (h:∀ x∈l,p x=false):l.filter p=[]:=by
 rw [List.filter_eq_nil_iff]
 exact fun x hx=>not_on (h x hx)
theorem far_in {l:List Shp} {s:Shp} (hs:Good s) (hl:∀ t∈l,Good t∧Far s t) {r:List V} (hr:r∈ringsL s):∀ x∈allRings l,inB r x=false∧inB x r=false:=by
 intro x hx
 obtain ⟨t,ht,hxt⟩:=List.mem_flatMap.1 hx
 obtain ⟨gt,f⟩:=hl t ht
 have h1:=far_rings hs gt f hr hxt
 have h2:=far_rings gt hs f.symm hxt hr
 exact ⟨by rw [inB_ins (hs.rings r hr) (gt.rings x hxt) h1.1,h1.2],by rw [inB_ins (gt.rings x hxt) (hs.rings r hr) h2.1,h2.2]⟩
theorem own_in (h:Good s) {r:List V} (hr:r∈ringsL s):(ringsL s).filter (fun x=>inB r x)=if r=s.1 then [] else [s.1]:=by
 by_cases c:r=s.1
 ·rw [if_pos c,c]
  refine filter_none fun x hx=>?_
  rcases List.mem_cons.1 hx with rfl | hx
  ·exact in_self h.outer
  ·rw [inB_ins h.outer (h.hole hx) (h.holes x hx).1.symm];exact own_out h hx
 ·rw [if_neg c]
  have hr2:r∈s.2:=by
   rcases List.mem_cons.1 hr with rfl | hr
   ·exact absurd rfl c
   ·exact hr
  unfold ringsL
  rw [List.filter_cons,inB_ins (h.hole hr2) h.outer (h.holes r hr2).1,(h.holes r hr2).2,if_pos rfl,filter_none fun x hx=>in_holes h hr2 hx]
end
/-- The list about a member. -/
theorem about {l:List Shp} (hG:∀ s∈l,Good s) (hF:l.Pairwise Far) {s:Shp} (hs:s∈l):∃ l1 l2,l=l1++s::l2∧(∀ t∈l1,Good t∧Far s t)∧∀ t∈l2,Good t∧Far s t:=by
 obtain ⟨l1,l2,rfl⟩:=List.append_of_mem hs
 rw [List.pairwise_append] at hF
 obtain ⟨_,h2,h3⟩:=hF
 rw [List.pairwise_cons] at h2
 exact ⟨l1,l2,rfl,fun t ht=>⟨hG t (by simp [ht]),(h3 t ht s List.mem_cons_self).symm⟩,fun t ht=>⟨hG t (by simp [ht]),h2.1 t ht⟩⟩
theorem allRings_mid (l1 l2:List Shp) (s:Shp):allRings (l1++s::l2)=allRings l1++(ringsL s++allRings l2):=by
 unfold allRings
 rw [List.flatMap_append,List.flatMap_cons]
theorem depth_of {l:List Shp} (hG:∀ s∈l,Good s) (hF:l.Pairwise Far) {s:Shp} (hs:s∈l) {r:List V} (hr:r∈ringsL s):depthB (allRings l) r=if r=s.1 then 0 else 1:=by
 obtain ⟨l1,l2,rfl,h1,h2⟩:=about hG hF hs
 unfold depthB
 rw [allRings_mid,List.filter_append,List.filter_append,filter_none (fun x hx=>(far_in (hG s hs) h1 hr x hx).1),filter_none (l:=allRings l2) (fun x hx=>(far_in (hG s hs) h2 hr x hx).1),own_in (hG s hs) hr]
 split<;>rfl
theorem hole_ne {s:Shp} (h:Good s) {k:List V} (hk:k∈s.2):k≠s.1:=by
 rintro rfl
 have h1:=inB_ins (h.hole hk) h.outer (h.holes _ hk).1
 rw [in_self h.outer,(h.holes _ hk).2] at h1
 cases h1
theorem holes_of {l:List Shp} (hG:∀ s∈l,Good s) (hF:l.Pairwise Far) {s:Shp} (hs:s∈l):holesB (allRings l) s.1=s.2:=by
 have hd:∀ r∈ringsL s,depthB (allRings l) r=if r=s.1 then 0 else 1:=fun r hr=>depth_of hG hF hs hr
 obtain ⟨l1,l2,rfl,h1,h2⟩:=about hG hF hs
 have h0:s.1∈ringsL s:=List.mem_cons_self
 have key:∀ R:List (List V),(∀ r∈ringsL s,depthB R r=if r=s.1 then 0 else 1)→(allRings l1++(ringsL s++allRings l2)).filter (fun x=>decide (depthB R x=0+1)&&inB x s.1)=s.2:=by
  intro R hd
  rw [List.filter_append,List.filter_append]
  rw [filter_none (fun x hx=>by rw [(far_in (hG s hs) h1 h0 x hx).2,Bool.and_false]),filter_none (l:=allRings l2) (fun x hx=>by rw [(far_in (hG s hs) h2 h0 x hx).2,Bool.and_false])]
  rw [List.nil_append,List.append_nil]
  unfold ringsL
  rw [List.filter_cons,hd s.1 h0,if_pos rfl,if_neg (by simp)]
  rw [List.filter_eq_self]
  intro k hk
  rw [hd k (List.mem_cons_of_mem _ hk),if_neg (hole_ne (hG s hs) hk),inB_ins ((hG s hs).hole hk) (hG s hs).outer ((hG s hs).holes k hk).1,((hG s hs).holes k hk).2]
  rfl
 have:=key _ hd
 rw [← allRings_mid] at this
 unfold holesB
 rw [hd s.1 h0,if_pos rfl]
 exact this
theorem outers_of {l:List Shp} (hG:∀ s∈l,Good s) (hF:l.Pairwise Far):outersB (allRings l)=l.map Prod.fst:=by
 have key:∀ m:List Shp,(∀ s∈m,s∈l)→(allRings m).filter (fun r=>decide (depthB (allRings l) r % 2=0))=m.map Prod.fst:=by
  intro m
  induction m with
  | nil=>intro _;rfl
  | cons s m ih =>
   intro hm
   have hs:=hm s List.mem_cons_self
   have e:allRings (s::m)=ringsL s++allRings m:=rfl
   rw [e,List.filter_append,ih fun t ht=>hm t (List.mem_cons_of_mem _ ht),List.map_cons]
   have e2:(ringsL s).filter (fun r=>decide (depthB (allRings l) r % 2=0))=[s.1]:=by
    unfold ringsL
    rw [List.filter_cons,depth_of hG hF hs List.mem_cons_self,if_pos rfl,if_pos (by decide)]
    rw [filter_none fun k hk=>by rw [depth_of hG hF hs (List.mem_cons_of_mem _ hk),if_neg (hole_ne (hG s hs) hk)];rfl]
   rw [e2]
   rfl
 exact key l fun s hs=>hs
theorem rings_good {l:List Shp} (hG:∀ s∈l,Good s):∀ r∈allRings l,ringB r=true:=by
 intro r hr
 obtain ⟨s,hs,hrs⟩:=List.mem_flatMap.1 hr
 exact (hG s hs).rings r hrs
theorem apart_all {l:List Shp} (hG:∀ s∈l,Good s) (hF:l.Pairwise Far):ApartAll (allRings l):=by
 have ap:∀ {a b:List V},ringB a=true→ringB b=true→Off a b→apartB a b=true:=fun ha hb h=>(apart_off' (ring_near ha).1 (ring_near hb).1).2 h
 unfold ApartAll
 induction l with
 | nil=>exact List.Pairwise.nil
 | cons s l ih =>
  rw [List.pairwise_cons] at hF
  have gs:=hG s List.mem_cons_self
  have hG':∀ t∈l,Good t:=fun t ht=>hG t (List.mem_cons_of_mem _ ht)
  have e:allRings (s::l)=ringsL s++allRings l:=rfl
  rw [e,List.pairwise_append]
  refine ⟨?_,ih hG' hF.2,fun a ha b hb=>?_⟩
  ·unfold ringsL
   rw [List.pairwise_cons]
   refine ⟨fun k hk=>ap gs.outer (gs.hole hk) (gs.holes k hk).1.symm,?_⟩
   exact List.Pairwise.imp_of_mem (fun ha hb h=>ap (gs.hole ha) (gs.hole hb) h.1) gs.pairs
  ·obtain ⟨t,ht,hbt⟩:=List.mem_flatMap.1 hb
   exact ap (gs.rings a ha) ((hG' t ht).rings b hbt) (far_rings gs (hG' t ht) (hF.1 t ht) ha hbt).1
/-- The canonical shape. -/
def canonS (s:Shp):Shp:=(beginL s.1,sortH (s.2.map beginL))
theorem canonS_ok {s:Shp} (h:Good s):shapeB (canonS s).1 (canonS s).2=true:=by
 unfold canonS
 rw [shape_perm (sortH_perm (s.2.map beginL))]
 exact good_iff.2 h.rot
theorem begun {s:Shp} (h:Good s) {x:List V} (hx:x∈(canonS s).2):beginL x=x:=by
 have h1:=(sortH_perm (s.2.map beginL)).mem_iff.1 hx
 obtain ⟨q,hq,rfl⟩:=List.mem_map.1 h1
 exact begin_twice (h.hole hq)
theorem canonS_twice {s:Shp} (h:Good s):canonS (canonS s)=canonS s:=by
 have e1:(canonS s).2.map beginL=(canonS s).2:=by
  have:(canonS s).2.map beginL=(canonS s).2.map id:=List.map_congr_left fun x hx=>begun h hx
  rw [this,List.map_id]
 have e2:sortH (canonS s).2=(canonS s).2:=by
  refine (asc_one ?_ (List.Perm.refl _) (sortH_asc _)).symm
  have h1:=heads_differ (good_iff.2 h)
  exact (((sortH_perm (s.2.map beginL)).map hd).nodup_iff).2 h1
 show (beginL (canonS s).1,sortH ((canonS s).2.map beginL))=canonS s
 rw [e1,e2]
 show (beginL (beginL s.1),(canonS s).2)=canonS s
 rw [begin_twice h.outer]
 rfl
theorem heads_far {l:List Shp} (hG:∀ s∈l,Good s) (hF:l.Pairwise Far):((l.map canonS).map fun s=>hd s.1).Nodup:=by
 have h1:ApartAll (l.map Prod.fst):=by
  unfold ApartAll
  rw [List.pairwise_map]
  refine List.Pairwise.imp_of_mem ?_ hF
  intro a b ha hb h
  exact (apart_off' (ring_near (hG a ha).outer).1 (ring_near (hG b hb).outer).1).2 h.off
 have h2:=heads_apart (rs:=l.map Prod.fst) (fun r hr=>by
  obtain ⟨s,hs,rfl⟩:=List.mem_map.1 hr
  exact (hG s hs).outer) h1
 rw [List.map_map,List.map_map] at h2
 rw [List.map_map]
 exact h2
/-- The shapes of the drawing of shapes that lie apart. -/
theorem drawn_shapes {l:List Shp} (hG:∀ s∈l,Good s) (hF:l.Pairwise Far) {q:List (List V)} (hq:q.Perm (allRings (l.map rotS))) {e:Int} {ls:List Shp} (h:ShapesR q e ls):e=0∧ls.Perm (l.map canonS)∧AscS ls:=by
 have hG':∀ s∈l.map rotS,Good s:=fun s hs=>by
  obtain ⟨t,ht,rfl⟩:=List.mem_map.1 hs
  exact (hG t ht).rot
 have hF':(l.map rotS).Pairwise Far:=by
  rw [List.pairwise_map]
  exact List.Pairwise.imp_of_mem (fun ha hb h=>h.rot (hG _ ha) (hG _ hb)) hF
 have hR:=rings_good hG'
 have hA:=apart_all hG' hF'
 have hQ:∀ r∈q,ringB r=true:=fun r hr=>hR r (hq.mem_iff.1 hr)
 have hAQ:=apart_perm hq.symm hR hA
 have hO:=outers_perm hq
 rw [outers_of hG' hF'] at hO
 have hV:∀ r∈outersB q,shapeB r (holesB q r)=true:=by
  intro r hr
  obtain ⟨s,hs,rfl⟩:=List.mem_map.1 (hO.mem_iff.1 hr)
  rw [shape_perm (holes_perm hq _),holes_of hG' hF' hs]
  exact good_iff.2 (hG' s hs)
 rcases h with ⟨_,_,h3,h4,h5⟩ | ⟨h1,_,_⟩
 ·refine ⟨h3,?_,h5⟩
  refine h4.trans ?_
  have h6:=hO.map (canonOf q)
  refine h6.trans (List.Perm.of_eq ?_)
  rw [List.map_map,List.map_map]
  refine List.map_congr_left fun s hs=>?_
  show canonOf q (rotS s).1=canonS s
  rw [canon_perm hq hQ hAQ]
  unfold canonOf
  rw [holes_of hG' hF' (List.mem_map_of_mem hs)]
  show (beginL (beginL s.1),sortH ((s.2.map beginL).map beginL))=canonS s
  rw [begin_twice (hG s hs).outer]
  have e1:(s.2.map beginL).map beginL=s.2.map beginL:=by
   rw [List.map_map]
   exact List.map_congr_left fun k hk=>begin_twice ((hG s hs).hole hk)
  rw [e1]
  rfl
 ·exact absurd ⟨hAQ,hV⟩ h1
theorem asc_strict {ls:List Shp} (hn:(ls.map fun s=>hd s.1).Nodup) (h:AscS ls):ls.Pairwise fun x y=>less (hd x.1) (hd y.1)=true:=by
 have h1:=List.nodup_iff_pairwise_ne.1 hn
 rw [List.pairwise_map] at h1
 unfold AscS at h
 refine (h.and h1).imp ?_
 rintro x y ⟨a,b⟩
 cases c:less (hd x.1) (hd y.1)
 ·exact absurd (less_tri c a) b
 ·rfl
/-! ### The rings of lines -/
def pOf (e:S):Pass:=⟨e.1,e.2,[e.1,e.2]⟩
def passesOf (rs:List (List V)):List Pass:=(rs.flatMap edges).map pOf
theorem passes_append (a b:List (List V)):passesOf (a++b)=passesOf a++passesOf b:=by
 unfold passesOf
 rw [List.flatMap_append,List.map_append]
theorem passes_cons (r:List V) (b:List (List V)):passesOf (r::b)=(edges r).map pOf++passesOf b:=by
 unfold passesOf
 rw [List.flatMap_cons,List.map_append]
theorem edges_len {r:List V} (h:2≤r.length):(edges r).length=r.length:=by rw [edges_get h];simp
theorem edges_fst {r:List V} (h:2≤r.length):(edges r).map Prod.fst=r:=by
 rw [edges_get h,List.map_map]
 exact range_getD r (0,0)
theorem edges_snd {r:List V} (h:2≤r.length):((edges r).map Prod.snd).Perm r:=by
 rw [edges_get h,List.map_map]
 have h1:=rot_range r (0,0) 1
 have e:(List.range r.length).map (Prod.snd ∘ fun i=>(r.getD i (0,0),nxt r i))=(List.range r.length).map (fun i=>r.getD ((i+1) % r.length) (0,0)):=rfl
 rw [e,h1]
 exact List.perm_append_comm.trans (List.Perm.of_eq (List.take_append_drop _ _))
theorem nb_edges (v:V):∀ l:List S,(nb (l.map pOf) v).length=(l.map Prod.fst).count v+(l.map Prod.snd).count v
 | []=>rfl
 | e::l=>by
  have ih:=nb_edges v l
  unfold nb at ih ⊢
  rw [List.map_cons,List.flatMap_cons,List.length_append,ih,List.map_cons,List.map_cons,List.count_cons,List.count_cons]
  unfold nbOf pOf
  simp only [beq_iff_eq]
  by_cases c1:e.1=v<;>by_cases c2:e.2=v<;>simp [c1,c2]<;>omega
theorem nb_ring {r:List V} (h:ringB r=true) (v:V):(nb ((edges r).map pOf) v).length=if v∈r then 2 else 0:=by
 have h2:=two_of h
 have hn:=ring_nodup h
 rw [nb_edges,edges_fst h2,(edges_snd h2).count_eq]
 split
 ·rename_i hv
  have h1:0 < r.count v:=List.count_pos_iff.2 hv
  have h3:=List.nodup_iff_count.1 hn v
  omega
 ·rename_i hv
  rw [List.count_eq_zero.2 hv]
theorem nb_append (a b:List Pass) (v:V):nb (a++b) v=nb a v++nb b v:=by
 unfold nb
 rw [List.flatMap_append]
theorem nb_rings:∀ {rs:List (List V)},(∀ r∈rs,ringB r=true)→(rs.Pairwise fun a b=>∀ v∈a,v ∉ b)→∀ v,((∀ r∈rs,v ∉ r)→nb (passesOf rs) v=[])∧(nb (passesOf rs) v=[]∨(nb (passesOf rs) v).length=2)
 | [],_,_,v=>⟨fun _=>rfl,.inl rfl⟩
 | r::rs,hr,hd,v=>by
  rw [List.pairwise_cons] at hd
  obtain ⟨h1,h2⟩:=nb_rings (fun x hx=>hr x (List.mem_cons_of_mem _ hx)) hd.2 v
  have h3:=nb_ring (hr r List.mem_cons_self) v
  rw [passes_cons,nb_append]
  constructor
  ·intro hv
   rw [if_neg (hv r List.mem_cons_self)] at h3
   rw [List.eq_nil_of_length_eq_zero h3,h1 fun x hx=>hv x (List.mem_cons_of_mem _ hx)]
   rfl
  ·by_cases c:v∈r
   ·rw [if_pos c] at h3
    rw [h1 fun x hx=>hd.1 x hx v c]
    right
    simp [h3]
   ·rw [if_neg c] at h3
    rw [List.eq_nil_of_length_eq_zero h3,List.nil_append]
    exact h2
theorem twice_rings {rs:List (List V)} (hr:∀ r∈rs,ringB r=true) (hd:rs.Pairwise fun a b=>∀ v∈a,v ∉ b):twice (passesOf rs)=true:=by
 rw [twice_nb]
 intro v hv
 exact ((nb_rings hr hd v).2).resolve_left hv
def cycAt (o n:Nat):List (Nat×Nat):=(List.range n).map fun i=>(o+i,0)
theorem cycAt_succ (o n:Nat):cycAt o (n+1)=cycAt o n++[(o+n,0)]:=by
 unfold cycAt
 rw [List.range_succ,List.map_append]
 rfl
theorem pass_at {a b:List (List V)} {r:List V} (h2:2≤r.length) {i:Nat} (hi:i < r.length):passAt (passesOf (a++r::b)) ((passesOf a).length+i)=pOf (r.getD i (0,0),nxt r i)∧(passesOf a).length+i < (passesOf (a++r::b)).length:=by
 have hel:=edges_len h2
 have hlt:i < ((edges r).map pOf).length:=by rw [List.length_map,hel];exact hi
 rw [passes_append,passes_cons]
 constructor
 ·unfold passAt
  rw [List.getD_eq_getElem?_getD,List.getElem?_append_right (by omega),Nat.add_sub_cancel_left,List.getElem?_append_left hlt,List.getElem?_map,edges_get h2,List.getElem?_map,List.getElem?_range hi]
  rfl
 ·rw [List.length_append,List.length_append]
  omega
theorem cyc_ring {a b:List (List V)} {r:List V} (ht:twice (passesOf (a++r::b))=true) (hr:ringB r=true):Cyc (passesOf (a++r::b)) (cycAt (passesOf a).length r.length)∧vsOf (passesOf (a++r::b)) (cycAt (passesOf a).length r.length)=r:=by
 have h2:=two_of hr
 generalize ho:(passesOf a).length=o
 generalize hps:passesOf (a++r::b)=ps at ht
 have hat:∀ i,i < r.length→passAt ps (o+i)=pOf (r.getD i (0,0),nxt r i)∧o+i < ps.length:=fun i hi=>by
  rw [← ho,← hps];exact pass_at h2 hi
 have e0:∀ i,i < r.length→EndI ps (o+i,0)∧endV ps (o+i,0)=r.getD i (0,0):=fun i hi=>⟨⟨(hat i hi).2,Nat.zero_le _⟩,by unfold endV endOf;rw [if_pos rfl,(hat i hi).1];rfl⟩
 have e1:∀ i,i < r.length→EndI ps (o+i,1)∧endV ps (o+i,1)=nxt r i:=fun i hi=>⟨⟨(hat i hi).2,Nat.le_refl _⟩,by unfold endV endOf;rw [if_neg (show ¬ (1:Nat)=0 by decide),(hat i hi).1];rfl⟩
 have hpar:∀ i,i < r.length→par ps (flipE (o+i,0))=(o+(i+1) % r.length,0):=by
  intro i hi
  have hj:(i+1) % r.length < r.length:=Nat.mod_lt _ (by omega)
  have hf:flipE (o+i,0)=(o+i,1):=rfl
  rw [hf]
  have hsp:=par_spec ht (e1 i hi).1
  rcases hsp.2.2.2 (o+(i+1) % r.length,0) (e0 _ hj).1 (by rw [(e0 _ hj).2,(e1 i hi).2];rfl) with h | h
  ·simp at h
  ·exact h.symm
 have hpath:∀ k,k+1≤r.length→Path ps (cycAt o (k+1)):=by
  intro k
  induction k with
  | zero =>
   intro _
   have:=(e0 0 (by omega)).1
   exact Path.one this
  | succ k ih =>
   intro hk
   have h1:=ih (by omega)
   rw [cycAt_succ] at h1
   rw [cycAt_succ,cycAt_succ]
   refine Path.snoc h1 ?_
   rw [hpar k (by omega),Nat.mod_eq_of_lt (by omega)]
 obtain ⟨k,hk⟩:∃ k,r.length=k+1:=⟨r.length - 1,by omega⟩
 refine ⟨⟨by rw [hk];exact hpath k (by omega),?_,?_⟩,?_⟩
 ·unfold cycAt
  rw [List.map_map]
  rw [List.nodup_iff_pairwise_ne,List.pairwise_map]
  exact List.nodup_range.imp fun h e=>h (by simpa using e)
 ·intro x y hx hy
  have hx':x=(o+0,0):=by
   unfold cycAt at hx
   rw [List.head?_map,List.head?_range,if_neg (by omega)] at hx
   simpa using hx.symm
  have hy':y=(o+k,0):=by
   rw [hk,cycAt_succ,List.getLast?_append] at hy
   simpa using hy.symm
  rw [hx',hy',hpar k (by omega),← hk,Nat.mod_self]
 ·unfold vsOf cycAt
  rw [List.map_map]
  refine List.ext_getElem (by simp) fun i h1 h3=>?_
  have hi:i < r.length:=h3
  rw [List.getElem_map,List.getElem_range]
  show endV ps (o+i,0)=r[i]
  rw [(e0 i hi).2,List.getD_eq_getElem?_getD,List.getElem?_eq_getElem hi,Option.getD_some]
def cycsFrom:Nat→List (List V)→List (List (Nat×Nat))
 | _,[]=>[]
 | o,r::rs=>cycAt o r.length::cycsFrom (o+r.length) rs
theorem cyc_fst {o n:Nat} {x:Nat×Nat} : x∈cycAt o n→o≤x.1∧x.1 < o+n:=by
 unfold cycAt
 intro h
 obtain ⟨i,hi,rfl⟩:=List.mem_map.1 h
 have:=List.mem_range.1 hi
 exact ⟨by simp,by simp;omega⟩
theorem cycs_from:∀ (rs:List (List V)) (o:Nat),∀ c∈cycsFrom o rs,∀ x∈c,o≤x.1
 | r::rs,o,c,hc,x,hx=>by
  rcases List.mem_cons.1 hc with rfl | hc
  ·exact (cyc_fst hx).1
  ·have:=cycs_from rs _ c hc x hx
   omega
theorem cycs_apart:∀ (rs:List (List V)) (o:Nat),(cycsFrom o rs).Pairwise fun c d=>∀ x∈c,∀ y∈d,x.1≠y.1
 | [],_=>List.Pairwise.nil
 | r::rs,o=>by
  rw [cycsFrom,List.pairwise_cons]
  refine ⟨fun d hd x hx y hy=>?_,cycs_apart rs _⟩
  have h1:=cyc_fst hx
  have h2:=cycs_from rs _ d hd y hy
  omega
theorem cycs_cover:∀ (rs:List (List V)) (o n:Nat),(∀ r∈rs,2≤r.length)→o≤n→n < o+(passesOf rs).length→∃ c∈cycsFrom o rs,n∈c.map Prod.fst
 | [],o,n,_,h1,h2=>by simp [passesOf] at h2;omega
 | r::rs,o,n,hr,h1,h2=>by
  rw [passes_cons,List.length_append,List.length_map,edges_len (hr r List.mem_cons_self)] at h2
  by_cases c:n < o+r.length
  ·refine ⟨_,List.mem_cons_self,?_⟩
   unfold cycAt
   rw [List.map_map]
   exact List.mem_map.2 ⟨n - o,List.mem_range.2 (by omega),by show o+(n - o)=n;omega⟩
  ·obtain ⟨d,hd,hn⟩:=cycs_cover rs (o+r.length) n (fun x hx=>hr x (List.mem_cons_of_mem _ hx)) (by omega) (by omega)
   exact ⟨d,List.mem_cons_of_mem _ hd,hn⟩
theorem cycs_all:∀ (rs a:List (List V)),(∀ r∈rs,ringB r=true)→twice (passesOf (a++rs))=true→(∀ c∈cycsFrom (passesOf a).length rs,Cyc (passesOf (a++rs)) c)∧(cycsFrom (passesOf a).length rs).map (vsOf (passesOf (a++rs)))=rs
 | [],_,_,_=>⟨(fun c h=>by cases h),rfl⟩
 | r::rs,a,hr,ht=>by
  have hrr:=hr r List.mem_cons_self
  have h1:=cyc_ring ht hrr
  have e:a++r::rs=(a++[r])++rs:=by simp
  have el:(passesOf (a++[r])).length=(passesOf a).length+r.length:=by
   rw [passes_append,List.length_append,passes_cons,List.length_append,List.length_map,edges_len (two_of hrr)]
   rfl
  have ih:=cycs_all rs (a++[r]) (fun x hx=>hr x (List.mem_cons_of_mem _ hx)) (by rw [← e];exact ht)
  rw [el,← e] at ih
  rw [cycsFrom]
  refine ⟨fun c hc=>?_,?_⟩
  ·rcases List.mem_cons.1 hc with rfl | hc
   ·exact h1.1
   ·exact ih.1 c hc
  ·rw [List.map_cons,h1.2,ih.2]
theorem ring_need {r:List V} (h:ringB r=true):need r = -1:=by
 unfold need
 rcases needFrom_range r r.length 0 with c | ⟨k,hk,hlt⟩
 ·exact c
 ·rw [Nat.zero_add] at hk
  have h1:=needFrom_yes r r.length 0 k hk
  obtain ⟨_,_,_,_,hb,_⟩:=(ring_iff r).1 h
  have h2:=hb k hlt
  unfold needB at h1
  simp only [Bool.or_eq_true,decide_eq_true_eq] at h1
  rcases h1 with e | e
  ·rw [e,turn_same] at h2
   exact absurd rfl h2
  ·exact absurd e h2
theorem clean_ring {r:List V} (h:ringB r=true):FW (closedL r)=(0,beginL r):=by
 obtain ⟨hn,h3,h40⟩:=ring_near h
 have ha:0 < area r:=((ring_iff r).1 h).2.2.2.1
 have hu:upright (strip r)=r:=by
  rw [strip_none (ring_need h)]
  unfold upright
  rw [if_neg (by omega)]
 rw [closed_fw (by intro e;rw [e] at h3;simp at h3),hu,h,hn]
 have h200 : ¬ 200 < r.length+1:=by omega
 simp only [h200,if_false,Bool.true_eq_false,if_true,canonR_begin h]
def lineEnt (layer:List UInt8) (e:S):Ent:=⟨1,layer,e.1,e.2,z0,z0,z0,false,[]⟩
def drawnEnts (layer:List UInt8) (rs:List (List V)):List Ent:=(rs.flatMap edges).map (lineEnt layer)
theorem edge_facts {r:List V} (h:ringB r=true) {e:S} (he:e∈edges r):e.1≠e.2∧within e.1 2000=true∧within e.2 2000=true:=by
 obtain ⟨hn,h3,_⟩:=ring_near h
 have hel:=he
 rw [edges_get (two_of h)] at hel
 obtain ⟨i,hi,rfl⟩:=List.mem_map.1 hel
 have hi:=List.mem_range.1 hi
 refine ⟨?_,near_at hn i,near_at hn _⟩
 intro hh
 obtain ⟨_,_,_,_,hb,_⟩:=(ring_iff r).1 h
 have h2:=hb i hi
 simp only at hh
 rw [hh,turn_same] at h2
 exact h2 rfl
theorem opens_drawn (fl:Ent→List V) (layer:List UInt8) (rs:List (List V)):opensOf fl layer (drawnEnts layer rs)=passesOf rs∧ringsOf fl layer (drawnEnts layer rs)=[]:=by
 unfold opensOf ringsOf drawnEnts passesOf
 generalize rs.flatMap edges=l
 constructor
 ·rw [List.filter_eq_self.2,List.map_map]
  ·rfl
  ·intro x hx
   obtain ⟨e,_,rfl⟩:=List.mem_map.1 hx
   simp [lineEnt,isClosed]
 ·rw [List.filter_eq_nil_iff.2]
  ·rfl
  ·intro x hx
   obtain ⟨e,_,rfl⟩:=List.mem_map.1 hx
   simp [lineEnt,isClosed]
/-- The rings of the drawing of rings that are apart. -/
theorem drawn_rings {layer:List UInt8} {rs:List (List V)} (fl:Ent→List V) (hr:∀ r∈rs,ringB r=true) (ha:ApartAll rs) (hl:Lex.isName layer=true) (hn:(rs.flatMap edges).length≤200) :
  (ringsP fl (drawnEnts layer rs) layer 1).1=0∧(ringsP fl (drawnEnts layer rs) layer 1).2.Perm (rs.map beginL):=by
 have hd:rs.Pairwise fun a b=>∀ v∈a,v ∉ b:=by
  refine List.Pairwise.imp_of_mem ?_ ha
  intro a b hma hmb h v hv hvb
  obtain ⟨na,la,_⟩:=ring_near (hr a hma)
  obtain ⟨nb,lb,_⟩:=ring_near (hr b hmb)
  exact apart_points (by omega) (by omega) na nb h hv hvb rfl
 have ht:=twice_rings hr hd
 have hk:∀ x∈drawnEnts layer rs,x.kind≠2:=fun x hx=>by
  obtain ⟨e,_,rfl⟩:=List.mem_map.1 hx
  show (1:Int)≠2
  decide
 have hok:(drawnEnts layer rs).all entOk=true:=by
  rw [List.all_eq_true]
  intro x hx
  obtain ⟨e,he,rfl⟩:=List.mem_map.1 hx
  obtain ⟨r,hrr,her⟩:=List.mem_flatMap.1 he
  obtain ⟨f1,f2,f3⟩:=edge_facts (hr r hrr) her
  unfold entOk lineEnt lineOk noArc noPts
  simp only
  rw [hl,f2,f3,decide_eq_false f1]
  simp
 have hdo:drawOk (drawnEnts layer rs)=true:=by
  unfold drawOk
  rw [hok,decide_eq_true (by unfold drawnEnts;rw [List.length_map];exact hn)]
  rfl
 obtain ⟨ho,hrs⟩:=opens_drawn fl layer rs
 have hlines:=lines_open (fl:=fl) (layer:=layer) hk hok
 rw [ho] at hlines
 have hci:∀ n,Itm.chain n∈itemsFrom fl layer 0 (drawnEnts layer rs) ↔ n < (passesOf rs).length:=fun n=>by
  rw [chain_items,ho]
  omega
 obtain ⟨cs,c1,_,c3,c4,c5⟩:=words_run ht hlines (itemsFrom fl layer 0 (drawnEnts layer rs)) (fun _=>false) (fun _ _=>rfl) (fun n h=>(hci n).1 h)
 rw [polys_items,hrs,List.nil_append] at c4
 have hda:=cycs_all rs [] hr ht
 have h0:(passesOf ([]:List (List V))).length=0:=rfl
 rw [h0,List.nil_append] at hda
 have hp:=cycs_perm ht ht (fun _=>List.Perm.refl _) c1 hda.1 c3 (cycs_apart rs 0) (fun n hn=>by
  rcases c5 n ((hci n).2 hn) with h | h
  ·cases h
  ·exact h) (fun n hn=>cycs_cover rs 0 n (fun r h=>two_of (hr r h)) (Nat.zero_le _) (by omega))
 have hq:(cycsFrom 0 rs).map (fun d=>FW (closedL (vsOf (passesOf rs) d)))=rs.map (fun r=>((0:Int),beginL r)):=by
  have e1:(cycsFrom 0 rs).map (fun d=>FW (closedL (vsOf (passesOf rs) d)))=((cycsFrom 0 rs).map (vsOf (passesOf rs))).map (fun r=>FW (closedL r)):=by rw [List.map_map];rfl
  rw [e1,hda.2]
  exact List.map_congr_left fun r h=>clean_ring (hr r h)
 rw [hq] at hp
 have hw:((wordsGo (passesOf rs) (itemsFrom fl layer 0 (drawnEnts layer rs)) fun _=>false).map FW).Perm (rs.map (fun r=>((0:Int),beginL r))):=by
  have h1:=c4.map FW
  rw [List.map_map] at h1
  exact h1.trans hp
 have hz:∀ w∈wordsGo (passesOf rs) (itemsFrom fl layer 0 (drawnEnts layer rs)) fun _=>false,cleanE w=0:=by
  intro w hwm
  have h1:=hw.mem_iff.1 (List.mem_map_of_mem hwm)
  obtain ⟨r,_,e⟩:=List.mem_map.1 h1
  exact (congrArg Prod.fst e).symm
 have hg:=(rings_words (passesOf rs) (itemsFrom fl layer 0 (drawnEnts layer rs)) (fun _=>false) []).1 hz
 have hR:ringsP fl (drawnEnts layer rs) layer 1=(0,(wordsGo (passesOf rs) (itemsFrom fl layer 0 (drawnEnts layer rs)) fun _=>false).map cleanR):=by
  unfold ringsP
  rw [hdo,if_pos rfl,if_neg (by omega),gather_eq,ho]
  simp only
  rw [ht,if_pos rfl,hg,List.nil_append]
 rw [hR]
 refine ⟨rfl,?_⟩
 have h2:=hw.map Prod.snd
 rw [List.map_map,List.map_map] at h2
 exact h2
/-- The shapes of the drawing of shapes that lie apart. -/
theorem drawn_all {layer:List UInt8} {l:List Shp} (fl:Ent→List V) (hG:∀ s∈l,Good s) (hF:l.Pairwise Far) (hl:Lex.isName layer=true) (hn:((allRings l).flatMap edges).length≤200) :
  (ringsP fl (drawnEnts layer (allRings l)) layer 1).1=0∧∀ (e:Int) (ls:List Shp),ShapesR (ringsP fl (drawnEnts layer (allRings l)) layer 1).2 e ls→e=0∧ls.Perm (l.map canonS)∧AscS ls:=by
 have h:=drawn_rings fl (rings_good hG) (apart_all hG hF) hl hn
 refine ⟨h.1,fun e ls hs=>drawn_shapes hG hF (h.2.trans (List.Perm.of_eq ?_)) hs⟩
 unfold allRings
 rw [List.map_flatMap,List.flatMap_map]
 rfl
end Go.Proofs.YtnmmhcchpcbeeaaGreat.Ge
