/- Walk: the part language's Parse. Conditions: none. -/
import Derived.Test.YtnkkcknogkgdkaaGreatDoorPaM
import Derived.Test.YtnkkcknogkgdkaaGreatDoorPaL

namespace Go.Proofs.YtnkkcknogkgdkaaGreatDoor.PaW
open Lib (hid)
open Go Go.RowKit Go.Proofs.YtnkkcknogkgdkaaGreatDoor.Mem Go.Proofs.YtnkkcknogkgdkaaGreatDoor.Pa
open Go.Proofs.YtnkkcknogkgdkaaGreatDoor.Ge (V)
open Go.Proofs.YtnkkcknogkgdkaaGreatDoor.Lex (Tok)
open Go.Proofs.YtnkkcknogkgdkaaGreatDoor.LexW (tokCells)
attribute [local go_sem ↓] Go.wp_at_zero Go.wp_at_succ

open Go.Proofs.YtnkkcknogkgdkaaGreatDoor.LexW (tokens_any TokensPost toksCells)
theorem below_grown {B:Nat} {w0 wr w1:World} {row:Option Nat} (h:Below B w0 wr) (hg:wr.grownBy w1 row) (hr:∀ k,row=some k→B≤k) (hB:B≤wr.heap.size):Below B w0 w1 :=
 ⟨hg.os.trans h.os,hg.tape.trans h.tape,hg.output.trans h.output,Nat.le_trans h.size hg.size,fun i hi=>(hg.block i (by omega) (fun e=>by have:=hr i e.symm;omega)).trans (h.block i hi)⟩
theorem info_src:(Tryz.prog.info? 58).map (fun i=>(i.zero,i.size,i.bytes))=some (some (.agg #[.string ⟨#[]⟩,.string ⟨#[]⟩,.int .i64 0,.slice none 0 0,.int .i64 0,.bool false,.int .i64 0,.int .i64 0,.int .i64 0,.slice none 0 0,.slice none 0 0]),11,152):=by kernel_rfl
structure LSt (w0 wr:World) (b:Nat) (TA:Option Addr) (c:Nat) (L:List Tok) (E j:Nat) (x1 x2:Value) (ms:List SrcM) (A:Option Addr) (d:Nat):Prop where
 pc:Pc wr b TA c L E j
 bx0:wr.heap[w0.heap.size]? = some (.cells #[.slice A ms.length d] 23 (0,0))
 bx1:wr.heap[w0.heap.size+1]? = some (.cells #[x1] 3 (0,0))
 bx2:wr.heap[w0.heap.size+2]? = some (.cells #[x2] 24 (0,0))
 tok:wr.ownsRow (w0.heap.size+3) 69 4 (.slice TA L.length c) L.length (L.flatMap tokCells)
 own:wr.ownsRow (w0.heap.size+3) 58 11 (.slice A ms.length d) ms.length (ms.flatMap srcCells)
 srcs:∀ m∈ms,SrcIn 55 153 0 wr m
 tf:∀ m∈ms,TurnsFrom (w0.heap.size+3) m
 be:Below w0.heap.size w0 wr
 lb:w0.heap.size+3≤b
section
variable {w0 wr w1:World} {b:Nat} {TA:Option Addr} {c:Nat} {L:List Tok} {E j j':Nat} {x1 x2:Value} {ms:List SrcM} {A:Option Addr} {d:Nat}
theorem LSt.step (h:LSt w0 wr b TA c L E j x1 x2 ms A d) (hp:Pc w1 b TA c L E j') (hg:wr.grownBy w1 (some b)):LSt w0 w1 b TA c L E j' x1 x2 ms A d:=by
 have hl:=h.lb
 have hw:=RowW.at h.pc.obj (Nat.zero_le b)
 have hz:=blk_lt h.bx0
 exact ⟨hp,(hg.block _ (blk_lt h.bx0) (fun e=>by injection e;omega)).trans h.bx0,(hg.block _ (blk_lt h.bx1) (fun e=>by injection e;omega)).trans h.bx1,(hg.block _ (blk_lt h.bx2) (fun e=>by injection e;omega)).trans h.bx2,own_keep hg hw (by decide) h.tok,own_keep hg hw (by decide) h.own,fun m hm=>(h.srcs m hm).keep hg hw (by decide) (by decide) (by decide),h.tf,below_grown h.be hg (fun k e=>by cases e;omega) (by omega),hl⟩
theorem LSt.below (h:LSt w0 wr b TA c L E j x1 x2 ms A d) (hb:Below wr.heap.size wr w1):LSt w0 w1 b TA c L E j x1 x2 ms A d :=
 h.step (h.pc.below hb) (grown_below (grown_refl wr (some b)) hb)
theorem LSt.push {w4 w5:World} {m:SrcM} {B':Option Addr} {d':Nat} (h:LSt w0 w4 b TA c L E j x1 x2 ms A d) (hx:SrcIn 55 153 0 w4 m) (hxt:TurnsFrom (w0.heap.size+3) m)
  (hown:w5.ownsRow (w0.heap.size+3) 58 11 (.slice B' (ms.length+1) d') (ms.length+1) (ms.flatMap srcCells++srcCells m)) (hg:w4.grownBy w5 (Value.slice A ms.length d).ownBlock) :
  LSt w0 (w5.setCell ⟨w0.heap.size,0,none⟩ (.slice B' (ms.length+1) d')) b TA c L E j x1 x2 (ms++[m]) B' d':=by
 have hl:=h.lb
 have hw:=(RowW.own h.own).mono (Nat.zero_le _)
 have h0:=heap_keep hg hw (by decide) h.bx0
 have h1:=heap_keep hg hw (by decide) h.bx1
 have h2:=heap_keep hg hw (by decide) h.bx2
 have hp:=heap_keep hg hw (by decide) h.pc.obj
 have ht:=own_keep hg hw (by decide) h.tok
 have hgs:=grown_set (grown_refl w5 (some w0.heap.size)) 0 (.slice B' (ms.length+1) d')
 have hws:=RowW.at h0 (Nat.zero_le _)
 have ht2:=own_keep hgs hws (by decide) ht
 have e1:(ms++[m]).length=ms.length+1:=by simp
 have e2:(ms++[m]).flatMap srcCells=ms.flatMap srcCells++srcCells m:=by simp
 have hz:=blk_lt h.bx0
 refine ⟨⟨(hgs.block _ (blk_lt hp) (fun e=>by injection e;omega)).trans hp,Row.of_own ht2,h.pc.apart,h.pc.few,h.pc.ix⟩,?_,(hgs.block _ (blk_lt h1) (fun e=>by injection e;omega)).trans h1,(hgs.block _ (blk_lt h2) (fun e=>by injection e;omega)).trans h2,ht2,?_,?_,?_,?_,hl⟩
 ·rw [e1]
  exact block_set h0 0 _
 ·rw [e1,e2]
  exact own_keep hgs hws (by decide) hown
 ·intro y hy
  rcases List.mem_append.1 hy with hy | hy
  ·exact ((h.srcs y hy).keep hg hw (by decide) (by decide) (by decide)).keep hgs hws (by decide) (by decide) (by decide)
  ·rw [List.mem_singleton.1 hy]
   exact (hx.keep hg hw (by decide) (by decide) (by decide)).keep hgs hws (by decide) (by decide) (by decide)
 ·intro y hy
  rcases List.mem_append.1 hy with hy | hy
  ·exact h.tf y hy
  ·rw [List.mem_singleton.1 hy]
   exact hxt
 ·exact (below_grown h.be hg (fun k hk=>by have:=(h.own.lt k hk).1;omega) (by omega)).setCell (p:=⟨w0.heap.size,0,none⟩) (Nat.le_refl _) _
end
theorem parts_go {f:Nat} {acc:List Pa.Source} {L:List Tok} {j:Nat} (h:j < L.length):partsO (f+1) acc L j=bnd sourceO (fun x=>partsO f (acc++[x])) L j:=by
 rw [partsO]
 exact if_pos h
theorem parts_end {f:Nat} {acc:List Pa.Source} {L:List Tok} {j:Nat} (h : ¬ j < L.length):partsO (f+1) acc L j=.ok acc j:=by
 rw [partsO]
 exact if_neg h
theorem leaves_same {P:Program} {fn:Func} {t1 t2:Array Value} {R:Ending→World→Prop} (h:results fn t1=results fn t2):∀ (ds:List Deferred) (u:FrameMode) (w:World),Leaves P fn t1 R ds u w→Leaves P fn t2 R ds u w
 | [],.returning,_,hl=>by
  unfold Leaves at hl ⊢
  rwa [← h]
 | [],.panicking _,_,hl=>hl
 | [],.run,_,hl=>hl
 | d::ds,u,w,hl=>by
  obtain ⟨hu,fv,cap,f,args,h1,h2,h3⟩:=hl
  refine ⟨hu,fv,cap,f,args,h1,h2,h3.mono fun e u' w' he=>?_⟩
  cases e with
  | returned v=>exact leaves_same h ds _ _ he
  | panicked c=>exact leaves_same h ds _ _ he
  | outgrown=>exact he
theorem panic_put {P:Program} {fn:Func} {R:Ending→World→Prop} {c:List PanicEntry} {a:Act} {w:World} {n:Nat} {v:Value} (h:∀ (t:Array Value) (v:Value),results fn (t.setIfInBounds n v)=results fn t) (hl:bodyPostD P fn R (.panic c) (a.put (some n) v) w):bodyPostD P fn R (.panic c) a w :=
 leaves_same (h _ _) _ _ _ hl
theorem parse_res {n:Nat} (hn:5≤n) (t:Array Value) (v:Value):results Tryz.f13 (t.setIfInBounds n v)=results Tryz.f13 t:=by
 have h2 : ¬ n=2:=by omega
 have h3 : ¬ n=3:=by omega
 have h4 : ¬ n=4:=by omega
 simp [results,Tryz.results13,Array.getElem?_setIfInBounds,h2,h3,h4]
/-- What Parse hands back. -/
def ParQ (p:List Pa.Source×Nat×Int) (w:World) (e:Ending) (w':World):Prop:=∃ (ms:List SrcM) (A:Option Addr) (d:Nat),ms.map SrcM.src=p.1∧e=.returned (.tuple #[.slice A ms.length d,.int .i64 (p.2.1:Int),.int .i64 p.2.2])∧ms.length≤d∧ms.length≤20000∧SrcsIn 58 55 153 0 w' A ms∧Below w.heap.size w w'
theorem SrcsIn.nil (TT TO TS:TypeId) (base:Nat) (w:World) (A:Option Addr):SrcsIn TT TO TS base w A []:=⟨At.nil _ _ _ _,fun m hm=>by cases hm⟩
theorem res_parse {t:Array Value} {W:World} {b0 b1 b2:Nat} {v0 v1 v2:Value} (h2:t[2]? = some (.pointer (some ⟨b0,0,none⟩))) (h3:t[3]? = some (.pointer (some ⟨b1,0,none⟩))) (h4:t[4]? = some (.pointer (some ⟨b2,0,none⟩))) (c0:W.heap[b0]? = some (.cells #[v0] 23 (0,0))) (c1:W.heap[b1]? = some (.cells #[v1] 3 (0,0))) (c2:W.heap[b2]? = some (.cells #[v2] 24 (0,0))):(results Tryz.f13 t).run Tryz.prog W=.ok (.tuple #[v0,v1,v2]) W:=by
 have e0:=cell_of c0 0 _ rfl
 have e1:=cell_of c1 0 _ rfl
 have e2:=cell_of c2 0 _ rfl
 simp [results,Tryz.results13,go_sem,h2,h3,h4,e0,e1,e2]
def badS (m:SrcM):Bool:=decide (6 < m.holes.length) || (long m.outer.o || m.holes.any fun h=>long h.o)
theorem tooMany_map (ms:List SrcM):tooMany (ms.map SrcM.src)=(decide (20 < ms.length) || ms.any badS):=by
 unfold tooMany
 rw [List.length_map,List.any_map]
 congr 1
 congr 1
 funext m
 simp [Function.comp,SrcM.src,badS,List.any_map]
 rfl
theorem ParQ.nought {p:List Pa.Source×Nat×Int} {w W:World} {at_:Nat} {e:Int} (h:p=([],at_,e)) (hb:Below w.heap.size w W):ParQ p w (.returned (.tuple #[.slice none 0 0,.int .i64 (at_:Int),.int .i64 e])) W:=by
 subst h
 exact ⟨[],none,0,rfl,rfl,Nat.le_refl _,by simp,SrcsIn.nil _ _ _ _ _ _,hb⟩
end Go.Proofs.YtnkkcknogkgdkaaGreatDoor.PaW

namespace Go.Proofs.YtnkkcknogkgdkaaGreatDoor.PaW
open Lib (hid)
open Go Go.RowKit Go.Proofs.YtnkkcknogkgdkaaGreatDoor.Mem Go.Proofs.YtnkkcknogkgdkaaGreatDoor.Pa
open Go.Proofs.YtnkkcknogkgdkaaGreatDoor.Ge (V)
open Go.Proofs.YtnkkcknogkgdkaaGreatDoor.Lex (Tok)
open Go.Proofs.YtnkkcknogkgdkaaGreatDoor.LexW (tokCells)
attribute [local go_sem ↓] Go.wp_at_zero Go.wp_at_succ

open Go.Proofs.YtnkkcknogkgdkaaGreatDoor.LexW (tokens_any TokensPost toksCells)
set_option maxRecDepth 100000 in
set_option maxHeartbeats 8000000 in
theorem parse_any (s:List UInt8) (w:World):Calls Tryz.prog 13 #[.string ⟨s.toArray⟩] w (ParQ (parse s) w):=by
 have HT:=hid (fun W=>tokens_any ⟨s.toArray⟩ W)
 have hlen:=tokens_len s
 have HSZ:Hid ((ByteArray.mk s.toArray).size=s.length):=hid (str_size s)
 have HPS:Hid (parse s=if (Lex.tokens s).err≠0 then ([],(Lex.tokens s).pos,(Lex.tokens s).err) else match partsO big [] (Lex.tokens s).toks 0 with
  | .no k e=>([],offs (Lex.tokens s).toks s.length k,e)
  | .ok l _=>if tooMany l=true then ([],0,9) else (l,0,0)):=hid rfl
 rw [← HSZ.out] at HPS
 have HT2:Hid (∀ W,Calls Tryz.prog 26 #[.string ⟨s.toArray⟩] W (TokensPost 69 W (Lex.tokens s))):=HT
 clear HT
 obtain ⟨PS,HPE⟩:∃ PS,Hid (parse s=PS):=⟨_,hid rfl⟩
 rw [HPE.out] at HPS ⊢
 generalize Lex.tokens s=R at *
 obtain ⟨toks,pos,err⟩:=R
 simp only at hlen HPS
 clear HPE HSZ
 generalize (ByteArray.mk s.toArray)=SB at *
 have hmf:∀ (fn:Fn) (first cap:Array Value) (W:World),(Instr.makeFunc fn first cap).run Tryz.prog W=.ok (.func fn first cap) W:=fun _ _ _ _=>rfl
 have hz1:(w.alloc (.cells #[.slice none 0 0] 23)).heap.size=w.heap.size+1:=by simp
 have hz2:((w.alloc (.cells #[.slice none 0 0] 23)).alloc (.cells #[.int .i64 0] 3)).heap.size=w.heap.size+2:=by simp
 have hz3:(((w.alloc (.cells #[.slice none 0 0] 23)).alloc (.cells #[.int .i64 0] 3)).alloc (.cells #[.int .i64 0] 24)).heap.size=w.heap.size+3:=by simp
 have hb2:=bel1 (w.alloc (.cells #[.slice none 0 0] 23)) (.cells #[.int .i64 0] 3)
 have hb3:=bel1 ((w.alloc (.cells #[.slice none 0 0] 23)).alloc (.cells #[.int .i64 0] 3)) (.cells #[.int .i64 0] 24)
 have HA0:=hid (p_below (p_below (heap_new w (.cells #[.slice none 0 0] 23)) hb2) hb3)
 have HA1:Hid ((((w.alloc (.cells #[.slice none 0 0] 23)).alloc (.cells #[.int .i64 0] 3)).alloc (.cells #[.int .i64 0] 24)).heap[w.heap.size+1]? = some (.cells #[.int .i64 0] 3 (0,0))):=hid (p_below (by have:=heap_new (w.alloc (.cells #[.slice none 0 0] 23)) (.cells #[.int .i64 0] 3);rw [hz1] at this;exact this) hb3)
 have HA2:Hid ((((w.alloc (.cells #[.slice none 0 0] 23)).alloc (.cells #[.int .i64 0] 3)).alloc (.cells #[.int .i64 0] 24)).heap[w.heap.size+1+1]? = some (.cells #[.int .i64 0] 24 (0,0))):=hid (by have:=heap_new ((w.alloc (.cells #[.slice none 0 0] 23)).alloc (.cells #[.int .i64 0] 3)) (.cells #[.int .i64 0] 24);rw [hz2] at this;exact this)
 have HB0:=hid (((bel1 w (.cells #[.slice none 0 0] 23)).trans (hb2.mono (by omega))).trans (hb3.mono (by omega)))
 have HZ3:=hid hz3
 clear hb2 hb3 hz1 hz2 hz3
 go_enter_defers Tryz.func13,Tryz.ntmps13
 go_upto_region 1 with fail
 generalize ((w.alloc (.cells #[.slice none 0 0] 23)).alloc (.cells #[.int .i64 0] 3)).alloc (.cells #[.int .i64 0] 24)=WZ at *
 go_wp2_with fail
 refine (HT2.out WZ).mono ?_
 rintro e w1 ⟨tv,rfl,hown,hb1⟩
 obtain ⟨TA,tc,rfl,htc⟩:=own_shape hown
 have HOWN:Hid (w1.ownsRow (w.heap.size+3) 69 4 (.slice TA toks.length tc) toks.length (toks.flatMap tokCells)):=hid (by rw [← HZ3.out];exact hown)
 have HB1:=hid (HB0.out.trans (hb1.mono HB0.out.size))
 have HA0b:=hid (p_below HA0.out hb1)
 have HA1b:=hid (p_below HA1.out hb1)
 have HA2b:=hid (p_below HA2.out hb1)
 clear hown hb1 HA0 HA1 HA2 HB0 HT2
 have e1:=cell_of HA1b.out 0 _ rfl
 have f1:=free_of HA1b.out 0
 have e2:=cell_of HA2b.out 0 _ rfl
 have f2:=free_of HA2b.out 0
 go_upto_region 2 with fail
 clear e1 f1 e2 f2
 have HC2:Hid (((w1.setCell ⟨w.heap.size+1,0,none⟩ (.int .i64 (pos:Int))).setCell ⟨w.heap.size+1+1,0,none⟩ (.int .i64 err)).heap[w.heap.size+1]? = some (.cells #[.int .i64 (pos:Int)] 3 (0,0))∧((w1.setCell ⟨w.heap.size+1,0,none⟩ (.int .i64 (pos:Int))).setCell ⟨w.heap.size+1+1,0,none⟩ (.int .i64 err)).heap[w.heap.size+1+1]? = some (.cells #[.int .i64 err] 24 (0,0))∧((w1.setCell ⟨w.heap.size+1,0,none⟩ (.int .i64 (pos:Int))).setCell ⟨w.heap.size+1+1,0,none⟩ (.int .i64 err)).heap[w.heap.size]? = some (.cells #[.slice none 0 0] 23 (0,0))):=hid ⟨(block_other _ _ _ _ (by omega)).trans (block_set HA1b.out 0 _),block_set ((block_other _ _ _ _ (by omega)).trans HA2b.out) 0 _,(block_other _ _ _ _ (by omega)).trans ((block_other _ _ _ _ (by omega)).trans HA0b.out)⟩
 have HB2:Hid (Below w.heap.size w ((w1.setCell ⟨w.heap.size+1,0,none⟩ (.int .i64 (pos:Int))).setCell ⟨w.heap.size+1+1,0,none⟩ (.int .i64 err))):=hid ((HB1.out.setCell (p:=⟨w.heap.size+1,0,none⟩) (by show w.heap.size≤w.heap.size+1;omega) _).setCell (p:=⟨w.heap.size+1+1,0,none⟩) (by show w.heap.size≤w.heap.size+1+1;omega) _)
 have HG1:=grown_set (grown_refl w1 (some (w.heap.size+1))) 0 (.int .i64 (pos:Int))
 have HG2:=grown_set (grown_refl (w1.setCell ⟨w.heap.size+1,0,none⟩ (.int .i64 (pos:Int))) (some (w.heap.size+1+1))) 0 (.int .i64 err)
 have HOW2:Hid (((w1.setCell ⟨w.heap.size+1,0,none⟩ (.int .i64 (pos:Int))).setCell ⟨w.heap.size+1+1,0,none⟩ (.int .i64 err)).ownsRow (w.heap.size+3) 69 4 (.slice TA toks.length tc) toks.length (toks.flatMap tokCells)):=hid (own_old (own_old HOWN.out HG1 (by omega)) HG2 (by omega))
 have hz1:=blk_lt HA2b.out
 clear HG1 HG2 HOWN HB1 HA0b HA1b HA2b
 have HSZ2:Hid (w.heap.size+1+1 < (((w1.setCell ⟨w.heap.size+1,0,none⟩ (.int .i64 (pos:Int))).setCell ⟨w.heap.size+1+1,0,none⟩ (.int .i64 err))).heap.size):=hid (by simpa using hz1)
 clear hz1
 generalize ((w1.setCell ⟨w.heap.size+1,0,none⟩ (.int .i64 (pos:Int))).setCell ⟨w.heap.size+1+1,0,none⟩ (.int .i64 err))=W2 at *
 obtain ⟨e1,e2⟩:=And.intro (cell_of HC2.out.1 0 _ rfl) (cell_of HC2.out.2.1 0 _ rfl)
 have f0:=free_of HC2.out.2.2 0
 have e0:=cell_of HC2.out.2.2 0 _ rfl
 have f1:=free_of HC2.out.1 0
 have f2:=free_of HC2.out.2.1 0
 by_cases he:err=0
 case neg =>
  have n1:(err != 0)=true:=bne_iff_ne.2 he
  rw [if_pos he] at HPS
  have X0:Hid ((W2.setCell ⟨w.heap.size,0,none⟩ (.slice none 0 0)).heap[w.heap.size+1]? = some (.cells #[.int .i64 (pos:Int)] 3 (0,0))∧(W2.setCell ⟨w.heap.size,0,none⟩ (.slice none 0 0)).heap[w.heap.size+1+1]? = some (.cells #[.int .i64 err] 24 (0,0))∧(W2.setCell ⟨w.heap.size,0,none⟩ (.slice none 0 0)).heap[w.heap.size]? = some (.cells #[.slice none 0 0] 23 (0,0))):=hid ⟨(block_other _ _ _ _ (by omega)).trans HC2.out.1,(block_other _ _ _ _ (by omega)).trans HC2.out.2.1,block_set HC2.out.2.2 0 _⟩
  have X1:Hid (((W2.setCell ⟨w.heap.size,0,none⟩ (.slice none 0 0)).setCell ⟨w.heap.size+1,0,none⟩ (.int .i64 (pos:Int))).heap[w.heap.size+1]? = some (.cells #[.int .i64 (pos:Int)] 3 (0,0))∧((W2.setCell ⟨w.heap.size,0,none⟩ (.slice none 0 0)).setCell ⟨w.heap.size+1,0,none⟩ (.int .i64 (pos:Int))).heap[w.heap.size+1+1]? = some (.cells #[.int .i64 err] 24 (0,0))∧((W2.setCell ⟨w.heap.size,0,none⟩ (.slice none 0 0)).setCell ⟨w.heap.size+1,0,none⟩ (.int .i64 (pos:Int))).heap[w.heap.size]? = some (.cells #[.slice none 0 0] 23 (0,0))):=hid ⟨block_set X0.out.1 0 _,(block_other _ _ _ _ (by omega)).trans X0.out.2.1,(block_other _ _ _ _ (by omega)).trans X0.out.2.2⟩
  have X2:Hid ((((W2.setCell ⟨w.heap.size,0,none⟩ (.slice none 0 0)).setCell ⟨w.heap.size+1,0,none⟩ (.int .i64 (pos:Int))).setCell ⟨w.heap.size+1+1,0,none⟩ (.int .i64 err)).heap[w.heap.size+1]? = some (.cells #[.int .i64 (pos:Int)] 3 (0,0))∧(((W2.setCell ⟨w.heap.size,0,none⟩ (.slice none 0 0)).setCell ⟨w.heap.size+1,0,none⟩ (.int .i64 (pos:Int))).setCell ⟨w.heap.size+1+1,0,none⟩ (.int .i64 err)).heap[w.heap.size+1+1]? = some (.cells #[.int .i64 err] 24 (0,0))∧(((W2.setCell ⟨w.heap.size,0,none⟩ (.slice none 0 0)).setCell ⟨w.heap.size+1,0,none⟩ (.int .i64 (pos:Int))).setCell ⟨w.heap.size+1+1,0,none⟩ (.int .i64 err)).heap[w.heap.size]? = some (.cells #[.slice none 0 0] 23 (0,0))):=hid ⟨(block_other _ _ _ _ (by omega)).trans X1.out.1,block_set X1.out.2.1 0 _,(block_other _ _ _ _ (by omega)).trans X1.out.2.2⟩
  have n01 : ¬ w.heap.size=w.heap.size+1:=by omega
  go_upto_region 3 with fail
  refine wp_region_held_drew (S:=fun w'=>w'.cell? ⟨w.heap.size+1,0,none⟩=some (.int .i64 (pos:Int))∧w'.cell? ⟨w.heap.size+1+1,0,none⟩=some (.int .i64 err)) (by kernel_rfl) ?_ (fun hHeld=>?_)
  ·exact ⟨e1,e2⟩
  refine wpAnyH_take (i:=0) (oi:=_) (v:=?_) rfl (by kernel_rfl) (by kernel_rfl) (by kernel_rfl) (fun _ _ _ h=>panic_put (parse_res (by decide)) h) (Or.inl ⟨by rfl,?_⟩) (by assumption) ?_
  rotate_left
  ·intro w' hSw
   (try dsimp only at hSw)
   go_simp<;>with_reducible rfl
  try simp only [Act.put,sA]
  refine wpAnyH_take (i:=1) (oi:=_) (v:=?_) rfl (by kernel_rfl) (by kernel_rfl) (by kernel_rfl) (fun _ _ _ h=>panic_put (parse_res (by decide)) h) (Or.inl ⟨by rfl,?_⟩) (by assumption) ?_
  rotate_left
  ·intro w' hSw
   (try dsimp only at hSw)
   go_simp<;>with_reducible rfl
  try simp only [Act.put]
  refine wpAnyH_ready (rs:=[2]) (by kernel_rfl) (by simp) ?_
  refine AllReadyH.cons (o := { dst:=none,op:=Op.store 23 (Operand.tmp 2) (Operand.const (Value.slice none 0 0)),type:=0,pos := "part.go:188",after:=#[{ on:=0,ground:=Ground.textOnly Departure.lateStoresUnsure },{ on:=1,ground:=Ground.textOnly Departure.lateStoresUnsure }],guard:=none }) rfl (fun K hK=>?_) AllReadyH.nil
  go_simp
  refine hK.out _ _ ?_ (fun hHeld=>?_)
  ·exact ⟨cell_of (w:=(W2.setCell ⟨w.heap.size,0,none⟩ (.slice none 0 0))) (b:=w.heap.size+1) X0.out.1 0 _ rfl,cell_of (w:=(W2.setCell ⟨w.heap.size,0,none⟩ (.slice none 0 0))) (b:=w.heap.size+1+1) X0.out.2.1 0 _ rfl⟩
  clear hK K
  try simp only [Act.put,sA,sB,sC]
  refine wpAnyH_ready (rs:=[3]) (by kernel_rfl) (by simp) ?_
  refine AllReadyH.cons (o := { dst:=none,op:=Op.store 3 (Operand.tmp 3) (Operand.tmp 18),type:=0,pos := "part.go:188",after:=#[{ on:=0,ground:=Ground.data },{ on:=2,ground:=Ground.chain },{ on:=0,ground:=Ground.phase },{ on:=1,ground:=Ground.textOnly Departure.lateStoresUnsure },{ on:=2,ground:=Ground.phase }],guard:=none }) rfl (fun K hK=>?_) AllReadyH.nil
  go_simp
  refine hK.out _ _ ?_ (fun hHeld=>?_)
  ·exact ⟨cell_of (w:=((W2.setCell ⟨w.heap.size,0,none⟩ (.slice none 0 0)).setCell ⟨w.heap.size+1,0,none⟩ (.int .i64 (pos:Int)))) (b:=w.heap.size+1) X1.out.1 0 _ rfl,cell_of (w:=((W2.setCell ⟨w.heap.size,0,none⟩ (.slice none 0 0)).setCell ⟨w.heap.size+1,0,none⟩ (.int .i64 (pos:Int)))) (b:=w.heap.size+1+1) X1.out.2.1 0 _ rfl⟩
  clear hK K
  try simp only [Act.put,sA,sB,sC]
  refine wpAnyH_ready (rs:=[4]) (by kernel_rfl) (by simp) ?_
  refine AllReadyH.cons (o := { dst:=none,op:=Op.store 24 (Operand.tmp 4) (Operand.tmp 19),type:=0,pos := "part.go:188",after:=#[{ on:=1,ground:=Ground.data },{ on:=3,ground:=Ground.chain },{ on:=0,ground:=Ground.phase },{ on:=1,ground:=Ground.phase },{ on:=2,ground:=Ground.phase },{ on:=3,ground:=Ground.phase }],guard:=none }) rfl (fun K hK=>?_) AllReadyH.nil
  go_simp
  refine hK.out _ _ ?_ (fun hHeld=>?_)
  ·exact ⟨cell_of (w:=(((W2.setCell ⟨w.heap.size,0,none⟩ (.slice none 0 0)).setCell ⟨w.heap.size+1,0,none⟩ (.int .i64 (pos:Int))).setCell ⟨w.heap.size+1+1,0,none⟩ (.int .i64 err))) (b:=w.heap.size+1) X2.out.1 0 _ rfl,cell_of (w:=(((W2.setCell ⟨w.heap.size,0,none⟩ (.slice none 0 0)).setCell ⟨w.heap.size+1,0,none⟩ (.int .i64 (pos:Int))).setCell ⟨w.heap.size+1+1,0,none⟩ (.int .i64 err))) (b:=w.heap.size+1+1) X2.out.2.1 0 _ rfl⟩
  clear hK K
  try simp only [Act.put,sA,sB,sC]
  refine wpAnyH_done (by kernel_rfl) ?_ _
  go_wp2_with fail
  refine ⟨_,res_parse rfl rfl rfl X2.out.2.2 X2.out.1 X2.out.2.1,ParQ.nought HPS.out ?_⟩
  exact below_drewN (((HB2.out.setCell (p:=⟨w.heap.size,0,none⟩) (Nat.le_refl _) _).setCell (p:=⟨w.heap.size+1,0,none⟩) (by show w.heap.size≤w.heap.size+1;omega) _).setCell (p:=⟨w.heap.size+1+1,0,none⟩) (by show w.heap.size≤w.heap.size+1+1;omega) _) 1
 case pos =>
  subst he
  have n1:((0:Int) != 0)=false:=rfl
  have HP3:Hid (PS=match partsO 20001 [] toks 0 with
   | .no k e=>([],offs toks SB.size k,e)
   | .ok l _=>if tooMany l=true then ([],0,9) else (l,0,0)):=hid (by
   have:=HPS.out
   rw [if_neg (by simp)] at this
   exact this)
  clear HPS
  have hb3:=bel1 W2 (.cells #[.slice TA toks.length tc,.int .i64 0,.int .i64 (SB.size:Int)] 94)
  have HL3:Hid (LSt w (W2.alloc (.cells #[.slice TA toks.length tc,.int .i64 0,.int .i64 (SB.size:Int)] 94)) W2.heap.size TA tc toks SB.size 0 (.int .i64 (pos:Int)) (.int .i64 0) [] none 0):=hid (by
   have h1:=HOW2.out.alloc (.cells #[.slice TA toks.length tc,.int .i64 0,.int .i64 (SB.size:Int)] 94)
   exact ⟨⟨heap_new W2 (.cells #[.slice TA toks.length tc,.int .i64 0,.int .i64 (SB.size:Int)] 94),Row.of_own h1,fun g off e=>by
    subst e
    have:=(HOW2.out.lt g rfl).2
    omega,hlen,Nat.zero_le _⟩,p_below HC2.out.2.2 hb3,p_below HC2.out.1 hb3,p_below HC2.out.2.1 hb3,h1,World.ownsRow_nil _ _ _ _,(fun m hm=>by cases hm),(fun m hm=>by cases hm),HB2.out.trans (hb3.mono (by have:=HSZ2.out;omega)),by have:=HSZ2.out;omega⟩)
  clear hb3
  go_upto_region 6 with fail
  clear e0 e1 e2 f0 f1 f2 HC2 HB2 HOW2
  generalize W2.alloc (.cells #[.slice TA toks.length tc,.int .i64 0,.int .i64 (SB.size:Int)] 94)=W3 at *
  generalize W2.heap.size=b at *
  obtain ⟨RS,HRS⟩:∃ RS,Hid (partsO 20001 [] toks 0=RS):=⟨_,hid rfl⟩
  rw [HRS.out] at HP3
  obtain ⟨i0,ia,ib,ic,id⟩:=info_parts info_src
  go_loopg [] 20001 (fun f wr=>∃ (ms:List SrcM) (A:Option Addr) (d j:Nat),Hid (partsO f (ms.map SrcM.src) toks j=RS)∧toks.length < f+j∧ms.length≤j∧Hid (LSt w wr b TA tc toks SB.size j (.int .i64 (pos:Int)) (.int .i64 0) ms A d))
  case atStart=>exact ⟨[],none,0,0,HRS,by omega,by simp,HL3⟩
  case round =>
   obtain ⟨ms,A,d,j,HR,hfj,hmj,HL⟩:=hrel
   rcases gk with _ | f
   ·have:=HL.out.pc.ix
    omega
   clear HRS HL3
   obtain ⟨c0,c1,c2,cf⟩:=pcell HL.out.pc.obj
   clear cf
   have hj0:(0:Int)≤(j:Int):=by omega
   by_cases hlt:j < toks.length
   ·have hd1:decide ((j:Int) < (toks.length:Int))=true:=decide_eq_true (by omega)
    have hd2:decide (j < toks.length)=true:=decide_eq_true hlt
    have HRN:=hid ((parts_go hlt).symm.trans HR.out)
    go_upto_region 6 with fail
    go_quiet (fail)
    go_upto_region 7 with fail
    have HSD:=hid (HL.out.below (show Below _ wr (wr.drewN nq).drew from below_drewN (below_drewN (Below.refl _ _) nq) 1))
    generalize (wr.drewN nq)=W7 at *
    have HNB:=hid (source_any b TA tc toks SB.size j W7.drew HSD.out.pc)
    have e0:W7.drew.cell? ⟨w.heap.size,0,none⟩=some (.slice A ms.length d):=cell_of HSD.out.bx0 0 _ rfl
    refine wp_region_tillK (k:=5) (S1:=fun w'=>True) (S2:=fun w'=>w'.cell? ⟨w.heap.size,0,none⟩=some (.slice A ms.length d)) (by kernel_rfl) ?_ (fun hHeld=>?_)
    ·exact ⟨trivial,e0⟩
    refine wpAnyK_take (i:=0) (oi:=_) (v:=?_) rfl (by kernel_rfl) (by kernel_rfl) (by kernel_rfl) (by kernel_rfl) (fun _ _ _ h=>panic_put (parse_res (by decide)) h) (Or.inl ⟨by rfl,?_⟩) (by assumption) ?_
    rotate_left
    ·intro w' hSw
     (try dsimp only at hSw)
     go_simp<;>with_reducible rfl
    try simp only [Act.put,sA]
    refine wpAnyK_take (i:=1) (oi:=_) (v:=?_) rfl (by kernel_rfl) (by kernel_rfl) (by kernel_rfl) (by kernel_rfl) (fun _ _ _ h=>panic_put (parse_res (by decide)) h) (Or.inl ⟨by rfl,?_⟩) (by assumption) ?_
    rotate_left
    ·intro w' hSw
     (try dsimp only at hSw)
     go_simp<;>with_reducible rfl
    try simp only [Act.put]
    refine wpAnyK_one (i:=2) (o:=_) (by kernel_rfl) rfl (fun K hK=>?_)
    go_simp
    go_at_call 40
    refine HNB.out.mono ?_
    rintro e w31 hres
    cases h31:sourceO toks j with
    | no k er =>
     rw [h31] at hres
     obtain ⟨rfl,hg⟩:=hres
     have hrs:=(bnd_no h31).symm.trans HRN.out
     have HPX:Hid (PS=([],offs toks SB.size k,er)):=hid (by have:=HP3.out;rw [← hrs] at this;exact this)
     have hw:=RowW.at HSD.out.pc.obj (Nat.zero_le _)
     have hbe:=below_grown HSD.out.be hg (fun k e=>by cases e;have:=HSD.out.lb;omega) (by have:=blk_lt HSD.out.bx0;omega)
     refine leaves_cons (f := 39) (args:=#[.pointer (some ⟨w.heap.size,0,none⟩),.pointer (some ⟨w.heap.size+1,0,none⟩),.pointer (some ⟨w.heap.size+1+1,0,none⟩)]) (by simp) (by simp [go_sem]) ?_
     refine (catch_wrong (offs toks SB.size k) er w.heap.size (w.heap.size+1) (w.heap.size+1+1) _ _ _ w31 (heap_keep hg hw (by decide) HSD.out.bx0) (heap_keep hg hw (by decide) HSD.out.bx1) (heap_keep hg hw (by decide) HSD.out.bx2) (by omega) (by omega)).mono ?_
     rintro e u' w'' ⟨rfl,rfl,c0,c1,c2,hb⟩
     exact ⟨_,res_parse rfl rfl rfl c0 c1 c2,ParQ.nought HPX.out (hbe.trans hb)⟩
    | ok x j31 =>
    rw [h31] at hres
    obtain ⟨⟨_,rfl,m,rfl,rfl,hin,htf⟩,hp31,hg31⟩:=hres
    have HSI:=hid hin
    have HTF:Hid (TurnsFrom (w.heap.size+3) m):=hid (fun g off e=>by have:=htf g off e;have:=HSD.out.lb;have:b < W7.drew.heap.size:=blk_lt HSD.out.pc.obj;omega)
    clear htf
    have HS31:=hid (HSD.out.step hp31 hg31)
    have HR31:Hid (partsO f (ms.map SrcM.src++[m.src]) toks j31=RS):=hid ((bnd_ok h31).symm.trans HRN.out)
    have HN31:=hid (source_more h31)
    clear hp31 hg31 h31 hin e0
    unfold srcCells strV
    have e0:w31.cell? ⟨w.heap.size,0,none⟩=some (.slice A ms.length d):=cell_of HS31.out.bx0 0 _ rfl
    refine hK.out _ _ ?_ (fun _=>?_) (fun hHeld=>?_)
    ·trivial
    ·exact e0
    replace hHeld:=And.intro hHeld.1 (hHeld.2 (by decide))
    clear hK K
    try simp only [Act.put,sA,sB,sC]
    refine wpAnyK_one (i:=3) (o:=_) (by kernel_rfl) rfl (fun K hK=>?_)
    go_simp
    have HS32:=hid (HS31.out.below (bel1 w31 (.cells #[.string ⟨m.name.toArray⟩,.string ⟨m.grade.toArray⟩,.int .i64 m.grain,.slice m.tA m.turns.length m.tc,.int .i64 m.tol,.bool m.outer.o.circle,.int .i64 m.outer.o.center.1,.int .i64 m.outer.o.center.2,.int .i64 m.outer.o.radius,.slice m.outer.A m.outer.o.steps.length m.outer.d,.slice m.hA m.holes.length m.hc] 58)))
    have HSI2:=hid (HSI.out.below (bel1 w31 (.cells #[.string ⟨m.name.toArray⟩,.string ⟨m.grade.toArray⟩,.int .i64 m.grain,.slice m.tA m.turns.length m.tc,.int .i64 m.tol,.bool m.outer.o.circle,.int .i64 m.outer.o.center.1,.int .i64 m.outer.o.center.2,.int .i64 m.outer.o.radius,.slice m.outer.A m.outer.o.steps.length m.outer.d,.slice m.hA m.holes.length m.hc] 58)))
    have HNW:=hid (newN_row w31 [.string ⟨m.name.toArray⟩,.string ⟨m.grade.toArray⟩,.int .i64 m.grain,.slice m.tA m.turns.length m.tc,.int .i64 m.tol,.bool m.outer.o.circle,.int .i64 m.outer.o.center.1,.int .i64 m.outer.o.center.2,.int .i64 m.outer.o.radius,.slice m.outer.A m.outer.o.steps.length m.outer.d,.slice m.hA m.holes.length m.hc] 58)
    have z3:(w31.alloc (.cells #[.string ⟨m.name.toArray⟩,.string ⟨m.grade.toArray⟩,.int .i64 m.grain,.slice m.tA m.turns.length m.tc,.int .i64 m.tol,.bool m.outer.o.circle,.int .i64 m.outer.o.center.1,.int .i64 m.outer.o.center.2,.int .i64 m.outer.o.radius,.slice m.outer.A m.outer.o.steps.length m.outer.d,.slice m.hA m.holes.length m.hc] 58)).cell? ⟨w.heap.size,0,none⟩=some (.slice A ms.length d):=cell_of HS32.out.bx0 0 _ rfl
    have HO82:Hid ((w31.alloc (.cells #[.string ⟨m.name.toArray⟩,.string ⟨m.grade.toArray⟩,.int .i64 m.grain,.slice m.tA m.turns.length m.tc,.int .i64 m.tol,.bool m.outer.o.circle,.int .i64 m.outer.o.center.1,.int .i64 m.outer.o.center.2,.int .i64 m.outer.o.radius,.slice m.outer.A m.outer.o.steps.length m.outer.d,.slice m.hA m.holes.length m.hc] 58)).ownsRow (w.heap.size+3) 58 11 (.slice A ms.length d) ms.length (ms.flatMap srcCells)):=hid HS32.out.own
    have C3:Hid (ms.length+1≤maxLen∧(ms.length+1)*152≤140737488355328):=hid (by have:=HS32.out.pc.ix;have:=HN31.out;unfold maxLen;omega)
    have C5:Hid (w.heap.size+3≤(w31.alloc (.cells #[.string ⟨m.name.toArray⟩,.string ⟨m.grade.toArray⟩,.int .i64 m.grain,.slice m.tA m.turns.length m.tc,.int .i64 m.tol,.bool m.outer.o.circle,.int .i64 m.outer.o.center.1,.int .i64 m.outer.o.center.2,.int .i64 m.outer.o.radius,.slice m.outer.A m.outer.o.steps.length m.outer.d,.slice m.hA m.holes.length m.hc] 58)).heap.size):=hid (by have:=blk_lt HS32.out.bx2;have:=blk_lt HS32.out.pc.obj;have:=HS32.out.lb;omega)
    refine hK.out _ _ ?_ (fun _=>?_) (fun hHeld=>?_)
    ·trivial
    ·exact z3
    replace hHeld:=And.intro hHeld.1 (hHeld.2 (by decide))
    clear hK K
    try simp only [Act.put,sA,sB,sC]
    refine wpAnyK_one (i:=4) (o:=_) (by kernel_rfl) rfl (fun K hK=>?_)
    refine step_append_row (by rfl) _ _ _ (by rfl) (w.heap.size+3) 58 i0 _ 11 152 Tryz.underlying23 ia ib ic id rfl (by omega) (.slice A ms.length d) ms.length (ms.flatMap srcCells) (by rfl) HO82.out (some ⟨w31.heap.size,0,none⟩) 1 1 [.string ⟨m.name.toArray⟩,.string ⟨m.grade.toArray⟩,.int .i64 m.grain,.slice m.tA m.turns.length m.tc,.int .i64 m.tol,.bool m.outer.o.circle,.int .i64 m.outer.o.center.1,.int .i64 m.outer.o.center.2,.int .i64 m.outer.o.radius,.slice m.outer.A m.outer.o.steps.length m.outer.d,.slice m.hA m.holes.length m.hc] (by rfl) HNW.out rfl (by intro uu hu;simp at hu;rcases hu with rfl | rfl | rfl | rfl | rfl | rfl | rfl | rfl | rfl | rfl | rfl<;>rfl) C3.out.1 C3.out.2 C5.out ?_
    intro v5 w5 hown5 hg5
    obtain ⟨B5,d5,rfl,_⟩:=own_shape hown5
    have HP5:=hid (LSt.push (m:=m) (B':=B5) (d':=d5) HS32.out HSI2.out HTF.out (w5:=w5) hown5 hg5)
    have HO5:=hid (heap_keep hg5 ((RowW.own HO82.out).mono (Nat.zero_le _)) (by decide) HS32.out.bx0)
    have y5:w5.cell? ⟨w.heap.size,0,none⟩=some (.slice A ms.length d):=cell_of HO5.out 0 _ rfl
    have q5:=free_of HO5.out 0
    clear hown5 hg5 z3
    refine hK.out _ _ ?_ (fun _=>?_) (fun hHeld=>?_)
    ·trivial
    ·exact y5
    replace hHeld:=And.intro hHeld.1 (hHeld.2 (by decide))
    clear hK K
    try simp only [Act.put,sA]
    refine wpAnyK_one (i:=5) (o:=_) (by kernel_rfl) rfl (fun K hK=>?_)
    go_simp
    refine hK.out _ _ ?_ (fun hne=>?_) (fun hHeld=>?_)
    ·trivial
    ·exact absurd rfl hne
    clear hK K
    try simp only [Act.put,sA,sB,sC]
    refine wpAnyK_done (by kernel_rfl) ?_ _
    go_wp2_with fail
    go_roundg f
    case measure=>omega
    case rel=>exact ⟨ms++[m],B5,d5,j31,by rw [List.map_append];exact HR31,by have:=HN31.out;omega,by rw [List.length_append];simp only [List.length_singleton];have:=HN31.out;omega,HP5⟩
   ·have hd1:decide ((j:Int) < (toks.length:Int))=false:=decide_eq_false (by omega)
    have hd2:decide (j < toks.length)=false:=decide_eq_false hlt
    have hrs:=(parts_end hlt).symm.trans HR.out
    subst hrs
    have HML:Hid (ms.length≤20000):=hid (by have:=HL.out.pc.ix;omega)
    have HP4:Hid (PS=if (decide (20 < ms.length) || ms.any badS)=true then ([],0,9) else (ms.map SrcM.src,0,0)):=hid (by rw [← tooMany_map];exact HP3.out)
    clear HR HP3 i0 ia ib ic id
    go_upto_region 6 with fail
    go_quiet (fail)
    go_upto_region 8 with fail
    have HL8:=hid (HL.out.below (show Below _ wr (wr.drewN nq) from below_drewN (Below.refl _ _) nq))
    clear c0 c1 c2 HL hd1 hd2
    generalize (wr.drewN nq)=W8 at *
    have e0:=cell_of HL8.out.bx0 0 _ rfl
    go_wp2_with fail
    clear e0
    have HMAX:=HML.out
    go_loopw [8,9,43] (fun _ _ v wr=>∃ k:Nat,v=.int .i64 (k:Int)∧k≤ms.length∧Hid (∀ m (h:m < ms.length),m < k→badS ms[m]=false∧¬ 20 < ms.length)∧Hid (Below W8.heap.size W8 wr)) (fun _ _ v _=>ms.length - (intOf v).toNat)
    case atStart=>exact ⟨0,rfl,Nat.zero_le _,hid (fun m h h0=>absurd h0 (by omega)),hid (Below.refl _ _)⟩
    case round =>
     obtain ⟨k,rfl,hk,HGK,HBK⟩:=hrel
     by_cases hkl:k < ms.length
     ·skip
      obtain ⟨g,off,hAe,hg,ca⟩:=row_get src_len (by decide) ((Row.of_own HL8.out.own).below HBK.out) (by omega)
      have a0:=ca k hkl 0 (by decide)
      have a1:=ca k hkl 1 (by decide)
      have a2:=ca k hkl 2 (by decide)
      have a3:=ca k hkl 3 (by decide)
      have a4:=ca k hkl 4 (by decide)
      have a5:=ca k hkl 5 (by decide)
      have a6:=ca k hkl 6 (by decide)
      have a7:=ca k hkl 7 (by decide)
      have a8:=ca k hkl 8 (by decide)
      have a9:=ca k hkl 9 (by decide)
      have a10:=ca k hkl 10 (by decide)
      have HIN:=hid ((HL8.out.srcs ms[k] (List.getElem_mem _)).below HBK.out)
      have HBAD:Hid (badS ms[k]=true→PS=([],0,9)):=hid (fun hb=>by rw [HP4.out,if_pos];rw [Bool.or_eq_true];exact .inr (List.any_eq_true.2 ⟨_,List.getElem_mem _,hb⟩))
      have H20:Hid (20 < ms.length→PS=([],0,9)):=hid (fun hb=>by rw [HP4.out,if_pos];rw [Bool.or_eq_true];exact .inl (decide_eq_true hb))
      have HGO:Hid (badS ms[k]=false→¬ 20 < ms.length→∀ q (h:q < ms.length),q < k+1→badS ms[q]=false∧¬ 20 < ms.length):=hid (fun h1 h2 q h hq=>by
       rcases Nat.lt_or_ge q k with h3 | h3
       ·exact HGK.out q h h3
       ·obtain rfl:q=k:=by omega
        exact ⟨h1,h2⟩)
      have hk1:(0:Int)≤(k:Int):=by omega
      have hk2:(k:Int) < (ms.length:Int):=by omega
      clear ca HGK HP4
      subst hAe
      generalize ms[k]=m at *
      simp only [srcCells,strV,List.getElem?_cons_zero,List.getElem?_cons_succ,Nat.add_zero] at a0 a1 a2 a3 a4 a5 a6 a7 a8 a9 a10
      have HXN:=hid (heap_new wr (.cells #[.string ⟨m.name.toArray⟩,.string ⟨m.grade.toArray⟩,.int .i64 m.grain,.slice m.tA m.turns.length m.tc,.int .i64 m.tol,.bool m.outer.o.circle,.int .i64 m.outer.o.center.1,.int .i64 m.outer.o.center.2,.int .i64 m.outer.o.radius,.slice m.outer.A m.outer.o.steps.length m.outer.d,.slice m.hA m.holes.length m.hc] 58))
      have hbx:=bel1 wr (.cells #[.string ⟨m.name.toArray⟩,.string ⟨m.grade.toArray⟩,.int .i64 m.grain,.slice m.tA m.turns.length m.tc,.int .i64 m.tol,.bool m.outer.o.circle,.int .i64 m.outer.o.center.1,.int .i64 m.outer.o.center.2,.int .i64 m.outer.o.radius,.slice m.outer.A m.outer.o.steps.length m.outer.d,.slice m.hA m.holes.length m.hc] 58)
      have HBX:=hid (HBK.out.trans (hbx.mono HBK.out.size))
      have HOI:=hid (HIN.out.below hbx)
      go_upto_region 12 with fail
      clear a0 a1 a2 a3 a4 a5 a6 a7 a8 a9 a10 hbx HIN
      generalize wr.alloc (.cells #[.string ⟨m.name.toArray⟩,.string ⟨m.grade.toArray⟩,.int .i64 m.grain,.slice m.tA m.turns.length m.tc,.int .i64 m.tol,.bool m.outer.o.circle,.int .i64 m.outer.o.center.1,.int .i64 m.outer.o.center.2,.int .i64 m.outer.o.radius,.slice m.outer.A m.outer.o.steps.length m.outer.d,.slice m.hA m.holes.length m.hc] 58)=WX at *
      generalize wr.heap.size=xb at *
      have HLX:=hid (HL8.out.below HBX.out)
      have e0:WX.cell? ⟨w.heap.size,0,none⟩=some (.slice (some ⟨g,off,none⟩) ms.length d):=cell_of HLX.out.bx0 0 _ rfl
      have f0:WX.frozen? ⟨w.heap.size,0,none⟩=false:=free_of HLX.out.bx0 0
      have e1:WX.cell? ⟨w.heap.size+1,0,none⟩=some (.int .i64 (pos:Int)):=cell_of HLX.out.bx1 0 _ rfl
      have f1:WX.frozen? ⟨w.heap.size+1,0,none⟩=false:=free_of HLX.out.bx1 0
      have e2:WX.cell? ⟨w.heap.size+1+1,0,none⟩=some (.int .i64 0):=cell_of HLX.out.bx2 0 _ rfl
      have f2:WX.frozen? ⟨w.heap.size+1+1,0,none⟩=false:=free_of HLX.out.bx2 0
      by_cases h20:20 < ms.length
      ·have d20:decide ((20:Int) < (ms.length:Int))=true:=decide_eq_true (by omega)
       have HPX:Hid (PS=([],0,9)):=hid (H20.out h20)
       have k1:(WX.setCell ⟨w.heap.size,0,none⟩ (.slice none 0 0)).heap[w.heap.size+1]? = _:=(block_other _ _ _ _ (by omega)).trans HLX.out.bx1
       have k2:((WX.setCell ⟨w.heap.size,0,none⟩ (.slice none 0 0)).setCell ⟨w.heap.size+1,0,none⟩ (.int .i64 0)).heap[w.heap.size+1+1]? = _:=(block_other _ _ _ _ (by omega)).trans ((block_other _ _ _ _ (by omega)).trans HLX.out.bx2)
       have HCF:Hid ((((WX.setCell ⟨w.heap.size,0,none⟩ (.slice none 0 0)).setCell ⟨w.heap.size+1,0,none⟩ (.int .i64 0)).setCell ⟨w.heap.size+1+1,0,none⟩ (.int .i64 9)).heap[w.heap.size]? = some (.cells #[.slice none 0 0] 23 (0,0))∧(((WX.setCell ⟨w.heap.size,0,none⟩ (.slice none 0 0)).setCell ⟨w.heap.size+1,0,none⟩ (.int .i64 0)).setCell ⟨w.heap.size+1+1,0,none⟩ (.int .i64 9)).heap[w.heap.size+1]? = some (.cells #[.int .i64 0] 3 (0,0))∧(((WX.setCell ⟨w.heap.size,0,none⟩ (.slice none 0 0)).setCell ⟨w.heap.size+1,0,none⟩ (.int .i64 0)).setCell ⟨w.heap.size+1+1,0,none⟩ (.int .i64 9)).heap[w.heap.size+1+1]? = some (.cells #[.int .i64 9] 24 (0,0))∧Below w.heap.size w (((WX.setCell ⟨w.heap.size,0,none⟩ (.slice none 0 0)).setCell ⟨w.heap.size+1,0,none⟩ (.int .i64 0)).setCell ⟨w.heap.size+1+1,0,none⟩ (.int .i64 9))∧True):=hid ⟨(block_other _ _ _ _ (by omega)).trans ((block_other _ _ _ _ (by omega)).trans (block_set HLX.out.bx0 0 _)),(block_other _ _ _ _ (by omega)).trans (block_set k1 0 _),block_set k2 0 _,((HLX.out.be.setCell (p:=⟨w.heap.size,0,none⟩) (Nat.le_refl _) _).setCell (p:=⟨w.heap.size+1,0,none⟩) (by show w.heap.size≤w.heap.size+1;omega) _).setCell (p:=⟨w.heap.size+1+1,0,none⟩) (by show w.heap.size≤w.heap.size+1+1;omega) _,trivial⟩
       clear k1 k2
       go_wp2_with fail
       clear e0 f0 e1 f1 e2 f2
       generalize (((WX.setCell ⟨w.heap.size,0,none⟩ (.slice none 0 0)).setCell ⟨w.heap.size+1,0,none⟩ (.int .i64 0)).setCell ⟨w.heap.size+1+1,0,none⟩ (.int .i64 9))=WF at *
       refine leaves_cons (f := 39) (args:=#[.pointer (some ⟨w.heap.size,0,none⟩),.pointer (some ⟨w.heap.size+1,0,none⟩),.pointer (some ⟨w.heap.size+1+1,0,none⟩)]) (by simp) (by simp [go_sem]) ?_
       refine (catch_idle _ _ _ _).mono ?_
       rintro e u' w'' ⟨rfl,rfl,hbi⟩
       have hB:=HCF.out.2.2.2.1.trans (hbi.mono HCF.out.2.2.2.1.size)
       exact ⟨_,res_parse rfl rfl rfl (p_below HCF.out.1 hbi) (p_below HCF.out.2.1 hbi) (p_below HCF.out.2.2.1 hbi),ParQ.nought HPX.out hB⟩
      have d20:decide ((20:Int) < (ms.length:Int))=false:=decide_eq_false (by omega)
      have x5:=cell_of HXN.out 5 _ rfl
      have x6:=cell_of HXN.out 6 _ rfl
      have x7:=cell_of HXN.out 7 _ rfl
      have x8:=cell_of HXN.out 8 _ rfl
      have x9:=cell_of HXN.out 9 _ rfl
      have x10:=cell_of HXN.out 10 _ rfl
      by_cases h6:6 < m.holes.length
      ·have d6:decide ((6:Int) < (m.holes.length:Int))=true:=decide_eq_true (by omega)
       have HPX:Hid (PS=([],0,9)):=hid (HBAD.out (by unfold badS;rw [decide_eq_true h6];rfl))
       have k1:(WX.setCell ⟨w.heap.size,0,none⟩ (.slice none 0 0)).heap[w.heap.size+1]? = _:=(block_other _ _ _ _ (by omega)).trans HLX.out.bx1
       have k2:((WX.setCell ⟨w.heap.size,0,none⟩ (.slice none 0 0)).setCell ⟨w.heap.size+1,0,none⟩ (.int .i64 0)).heap[w.heap.size+1+1]? = _:=(block_other _ _ _ _ (by omega)).trans ((block_other _ _ _ _ (by omega)).trans HLX.out.bx2)
       have HCF:Hid ((((WX.setCell ⟨w.heap.size,0,none⟩ (.slice none 0 0)).setCell ⟨w.heap.size+1,0,none⟩ (.int .i64 0)).setCell ⟨w.heap.size+1+1,0,none⟩ (.int .i64 9)).heap[w.heap.size]? = some (.cells #[.slice none 0 0] 23 (0,0))∧(((WX.setCell ⟨w.heap.size,0,none⟩ (.slice none 0 0)).setCell ⟨w.heap.size+1,0,none⟩ (.int .i64 0)).setCell ⟨w.heap.size+1+1,0,none⟩ (.int .i64 9)).heap[w.heap.size+1]? = some (.cells #[.int .i64 0] 3 (0,0))∧(((WX.setCell ⟨w.heap.size,0,none⟩ (.slice none 0 0)).setCell ⟨w.heap.size+1,0,none⟩ (.int .i64 0)).setCell ⟨w.heap.size+1+1,0,none⟩ (.int .i64 9)).heap[w.heap.size+1+1]? = some (.cells #[.int .i64 9] 24 (0,0))∧Below w.heap.size w (((WX.setCell ⟨w.heap.size,0,none⟩ (.slice none 0 0)).setCell ⟨w.heap.size+1,0,none⟩ (.int .i64 0)).setCell ⟨w.heap.size+1+1,0,none⟩ (.int .i64 9))∧True):=hid ⟨(block_other _ _ _ _ (by omega)).trans ((block_other _ _ _ _ (by omega)).trans (block_set HLX.out.bx0 0 _)),(block_other _ _ _ _ (by omega)).trans (block_set k1 0 _),block_set k2 0 _,((HLX.out.be.setCell (p:=⟨w.heap.size,0,none⟩) (Nat.le_refl _) _).setCell (p:=⟨w.heap.size+1,0,none⟩) (by show w.heap.size≤w.heap.size+1;omega) _).setCell (p:=⟨w.heap.size+1+1,0,none⟩) (by show w.heap.size≤w.heap.size+1+1;omega) _,trivial⟩
       clear k1 k2
       go_wp2_with fail
       clear e0 f0 e1 f1 e2 f2
       generalize (((WX.setCell ⟨w.heap.size,0,none⟩ (.slice none 0 0)).setCell ⟨w.heap.size+1,0,none⟩ (.int .i64 0)).setCell ⟨w.heap.size+1+1,0,none⟩ (.int .i64 9))=WF at *
       refine leaves_cons (f := 39) (args:=#[.pointer (some ⟨w.heap.size,0,none⟩),.pointer (some ⟨w.heap.size+1,0,none⟩),.pointer (some ⟨w.heap.size+1+1,0,none⟩)]) (by simp) (by simp [go_sem]) ?_
       refine (catch_idle _ _ _ _).mono ?_
       rintro e u' w'' ⟨rfl,rfl,hbi⟩
       have hB:=HCF.out.2.2.2.1.trans (hbi.mono HCF.out.2.2.2.1.size)
       exact ⟨_,res_parse rfl rfl rfl (p_below HCF.out.1 hbi) (p_below HCF.out.2.1 hbi) (p_below HCF.out.2.2.1 hbi),ParQ.nought HPX.out hB⟩
      have d6:decide ((6:Int) < (m.holes.length:Int))=false:=decide_eq_false (by omega)
      have HLG:=hid (long_any m.outer WX HOI.out.2.1)
      unfold outV at HLG
      have HQ1:Hid (long m.outer.o=true→badS m=true):=hid (fun h=>by unfold badS;rw [h];simp)
      have HQ2:Hid ((m.holes.any fun h=>long h.o)=true→badS m=true):=hid (fun h=>by unfold badS;rw [h];simp)
      have HQ3:Hid (long m.outer.o=false→(m.holes.any fun h=>long h.o)=false→badS m=false):=hid (fun h h'=>by unfold badS;rw [h,h',decide_eq_false h6];rfl)
      obtain ⟨q1,hq1⟩:∃ q,long m.outer.o=q:=⟨_,rfl⟩
      rw [hq1] at HLG HQ1 HQ3
      clear hq1
      go_wp2_with fail
      refine HLG.out.mono ?_
      rintro e w2 ⟨rfl,hb2⟩
      have HL2:=hid (HLX.out.below hb2)
      have HX2:=hid (p_below HXN.out hb2)
      have HO2:=hid (HOI.out.below hb2)
      have HBX2:=hid (HBX.out.trans (hb2.mono HBX.out.size))
      clear e0 f0 e1 f1 e2 f2 hb2 HLG x5 x6 x7 x8 x9 x10
      have e0:w2.cell? ⟨w.heap.size,0,none⟩=some (.slice (some ⟨g,off,none⟩) ms.length d):=cell_of HL2.out.bx0 0 _ rfl
      have f0:w2.frozen? ⟨w.heap.size,0,none⟩=false:=free_of HL2.out.bx0 0
      have e1:w2.cell? ⟨w.heap.size+1,0,none⟩=some (.int .i64 (pos:Int)):=cell_of HL2.out.bx1 0 _ rfl
      have f1:w2.frozen? ⟨w.heap.size+1,0,none⟩=false:=free_of HL2.out.bx1 0
      have e2:w2.cell? ⟨w.heap.size+1+1,0,none⟩=some (.int .i64 0):=cell_of HL2.out.bx2 0 _ rfl
      have f2:w2.frozen? ⟨w.heap.size+1+1,0,none⟩=false:=free_of HL2.out.bx2 0
      cases q1
      case true =>
       have HPX:Hid (PS=([],0,9)):=hid (HBAD.out (HQ1.out rfl))
       have k1:(w2.setCell ⟨w.heap.size,0,none⟩ (.slice none 0 0)).heap[w.heap.size+1]? = _:=(block_other _ _ _ _ (by omega)).trans HL2.out.bx1
       have k2:((w2.setCell ⟨w.heap.size,0,none⟩ (.slice none 0 0)).setCell ⟨w.heap.size+1,0,none⟩ (.int .i64 0)).heap[w.heap.size+1+1]? = _:=(block_other _ _ _ _ (by omega)).trans ((block_other _ _ _ _ (by omega)).trans HL2.out.bx2)
       have HCF:Hid ((((w2.setCell ⟨w.heap.size,0,none⟩ (.slice none 0 0)).setCell ⟨w.heap.size+1,0,none⟩ (.int .i64 0)).setCell ⟨w.heap.size+1+1,0,none⟩ (.int .i64 9)).heap[w.heap.size]? = some (.cells #[.slice none 0 0] 23 (0,0))∧(((w2.setCell ⟨w.heap.size,0,none⟩ (.slice none 0 0)).setCell ⟨w.heap.size+1,0,none⟩ (.int .i64 0)).setCell ⟨w.heap.size+1+1,0,none⟩ (.int .i64 9)).heap[w.heap.size+1]? = some (.cells #[.int .i64 0] 3 (0,0))∧(((w2.setCell ⟨w.heap.size,0,none⟩ (.slice none 0 0)).setCell ⟨w.heap.size+1,0,none⟩ (.int .i64 0)).setCell ⟨w.heap.size+1+1,0,none⟩ (.int .i64 9)).heap[w.heap.size+1+1]? = some (.cells #[.int .i64 9] 24 (0,0))∧Below w.heap.size w (((w2.setCell ⟨w.heap.size,0,none⟩ (.slice none 0 0)).setCell ⟨w.heap.size+1,0,none⟩ (.int .i64 0)).setCell ⟨w.heap.size+1+1,0,none⟩ (.int .i64 9))∧True):=hid ⟨(block_other _ _ _ _ (by omega)).trans ((block_other _ _ _ _ (by omega)).trans (block_set HL2.out.bx0 0 _)),(block_other _ _ _ _ (by omega)).trans (block_set k1 0 _),block_set k2 0 _,((HL2.out.be.setCell (p:=⟨w.heap.size,0,none⟩) (Nat.le_refl _) _).setCell (p:=⟨w.heap.size+1,0,none⟩) (by show w.heap.size≤w.heap.size+1;omega) _).setCell (p:=⟨w.heap.size+1+1,0,none⟩) (by show w.heap.size≤w.heap.size+1+1;omega) _,trivial⟩
       clear k1 k2
       go_wp2_with fail
       clear e0 f0 e1 f1 e2 f2
       generalize (((w2.setCell ⟨w.heap.size,0,none⟩ (.slice none 0 0)).setCell ⟨w.heap.size+1,0,none⟩ (.int .i64 0)).setCell ⟨w.heap.size+1+1,0,none⟩ (.int .i64 9))=WF at *
       refine leaves_cons (f := 39) (args:=#[.pointer (some ⟨w.heap.size,0,none⟩),.pointer (some ⟨w.heap.size+1,0,none⟩),.pointer (some ⟨w.heap.size+1+1,0,none⟩)]) (by simp) (by simp [go_sem]) ?_
       refine (catch_idle _ _ _ _).mono ?_
       rintro e u' w'' ⟨rfl,rfl,hbi⟩
       have hB:=HCF.out.2.2.2.1.trans (hbi.mono HCF.out.2.2.2.1.size)
       exact ⟨_,res_parse rfl rfl rfl (p_below HCF.out.1 hbi) (p_below HCF.out.2.1 hbi) (p_below HCF.out.2.2.1 hbi),ParQ.nought HPX.out hB⟩
      case false =>
      have x10:=cell_of HX2.out 10 _ rfl
      have HCN:=hid (longAny_any m.holes m.hA m.hc w2 HO2.out.2.2.1.1 HO2.out.2.2.2.1 HO2.out.2.2.2.2.2)
      generalize (m.holes.any fun h=>long h.o)=q2 at *
      go_wp2_with fail
      refine HCN.out.mono ?_
      rintro e w3 ⟨rfl,hb3⟩
      have HL3:=hid (HL2.out.below hb3)
      have HBX3:=hid (HBX2.out.trans (hb3.mono HBX2.out.size))
      clear e0 f0 e1 f1 e2 f2 hb3 HCN x10
      have e0:w3.cell? ⟨w.heap.size,0,none⟩=some (.slice (some ⟨g,off,none⟩) ms.length d):=cell_of HL3.out.bx0 0 _ rfl
      have f0:w3.frozen? ⟨w.heap.size,0,none⟩=false:=free_of HL3.out.bx0 0
      have e1:w3.cell? ⟨w.heap.size+1,0,none⟩=some (.int .i64 (pos:Int)):=cell_of HL3.out.bx1 0 _ rfl
      have f1:w3.frozen? ⟨w.heap.size+1,0,none⟩=false:=free_of HL3.out.bx1 0
      have e2:w3.cell? ⟨w.heap.size+1+1,0,none⟩=some (.int .i64 0):=cell_of HL3.out.bx2 0 _ rfl
      have f2:w3.frozen? ⟨w.heap.size+1+1,0,none⟩=false:=free_of HL3.out.bx2 0
      cases q2
      case true =>
       have HPX:Hid (PS=([],0,9)):=hid (HBAD.out (HQ2.out rfl))
       have k1:(w3.setCell ⟨w.heap.size,0,none⟩ (.slice none 0 0)).heap[w.heap.size+1]? = _:=(block_other _ _ _ _ (by omega)).trans HL3.out.bx1
       have k2:((w3.setCell ⟨w.heap.size,0,none⟩ (.slice none 0 0)).setCell ⟨w.heap.size+1,0,none⟩ (.int .i64 0)).heap[w.heap.size+1+1]? = _:=(block_other _ _ _ _ (by omega)).trans ((block_other _ _ _ _ (by omega)).trans HL3.out.bx2)
       have HCF:Hid ((((w3.setCell ⟨w.heap.size,0,none⟩ (.slice none 0 0)).setCell ⟨w.heap.size+1,0,none⟩ (.int .i64 0)).setCell ⟨w.heap.size+1+1,0,none⟩ (.int .i64 9)).heap[w.heap.size]? = some (.cells #[.slice none 0 0] 23 (0,0))∧(((w3.setCell ⟨w.heap.size,0,none⟩ (.slice none 0 0)).setCell ⟨w.heap.size+1,0,none⟩ (.int .i64 0)).setCell ⟨w.heap.size+1+1,0,none⟩ (.int .i64 9)).heap[w.heap.size+1]? = some (.cells #[.int .i64 0] 3 (0,0))∧(((w3.setCell ⟨w.heap.size,0,none⟩ (.slice none 0 0)).setCell ⟨w.heap.size+1,0,none⟩ (.int .i64 0)).setCell ⟨w.heap.size+1+1,0,none⟩ (.int .i64 9)).heap[w.heap.size+1+1]? = some (.cells #[.int .i64 9] 24 (0,0))∧Below w.heap.size w (((w3.setCell ⟨w.heap.size,0,none⟩ (.slice none 0 0)).setCell ⟨w.heap.size+1,0,none⟩ (.int .i64 0)).setCell ⟨w.heap.size+1+1,0,none⟩ (.int .i64 9))∧True):=hid ⟨(block_other _ _ _ _ (by omega)).trans ((block_other _ _ _ _ (by omega)).trans (block_set HL3.out.bx0 0 _)),(block_other _ _ _ _ (by omega)).trans (block_set k1 0 _),block_set k2 0 _,((HL3.out.be.setCell (p:=⟨w.heap.size,0,none⟩) (Nat.le_refl _) _).setCell (p:=⟨w.heap.size+1,0,none⟩) (by show w.heap.size≤w.heap.size+1;omega) _).setCell (p:=⟨w.heap.size+1+1,0,none⟩) (by show w.heap.size≤w.heap.size+1+1;omega) _,trivial⟩
       clear k1 k2
       go_wp2_with fail
       clear e0 f0 e1 f1 e2 f2
       generalize (((w3.setCell ⟨w.heap.size,0,none⟩ (.slice none 0 0)).setCell ⟨w.heap.size+1,0,none⟩ (.int .i64 0)).setCell ⟨w.heap.size+1+1,0,none⟩ (.int .i64 9))=WF at *
       refine leaves_cons (f := 39) (args:=#[.pointer (some ⟨w.heap.size,0,none⟩),.pointer (some ⟨w.heap.size+1,0,none⟩),.pointer (some ⟨w.heap.size+1+1,0,none⟩)]) (by simp) (by simp [go_sem]) ?_
       refine (catch_idle _ _ _ _).mono ?_
       rintro e u' w'' ⟨rfl,rfl,hbi⟩
       have hB:=HCF.out.2.2.2.1.trans (hbi.mono HCF.out.2.2.2.1.size)
       exact ⟨_,res_parse rfl rfl rfl (p_below HCF.out.1 hbi) (p_below HCF.out.2.1 hbi) (p_below HCF.out.2.2.1 hbi),ParQ.nought HPX.out hB⟩
      case false =>
      clear e0 f0 e1 f1 e2 f2
      go_wp2
      go_roundw
      case rel=>exact ⟨k+1,by go_num,by omega,hid (HGO.out (HQ3.out (by trivial) (by trivial)) h20),HBX3⟩
      case measure=>simp [intOf];omega
     ·obtain rfl:k=ms.length:=by omega
      have HPX:Hid (PS=(ms.map SrcM.src,0,0)):=hid (by
       rw [HP4.out,if_neg]
       rw [Bool.or_eq_true,not_or]
       refine ⟨?_,?_⟩
       ·rcases Nat.eq_zero_or_pos ms.length with h0 | h0
        ·rw [h0];decide
        ·have:=(HGK.out 0 h0 h0).2
         simp [this]
       ·rw [Bool.not_eq_true,List.any_eq_false]
        intro m hm
        obtain ⟨q,hq,rfl⟩:=List.getElem_of_mem hm
        rw [(HGK.out q hq hq).1]
        decide)
      have HLK:=hid (HL8.out.below HBK.out)
      have e0:=cell_of HLK.out.bx0 0 _ rfl
      have f0:=free_of HLK.out.bx0 0
      have e1:=cell_of HLK.out.bx1 0 _ rfl
      have f1:=free_of HLK.out.bx1 0
      have e2:wr.cell? ⟨w.heap.size+1+1,0,none⟩=_:=cell_of HLK.out.bx2 0 _ rfl
      have f2:wr.frozen? ⟨w.heap.size+1+1,0,none⟩=_:=free_of HLK.out.bx2 0
      have k1:(wr.setCell ⟨w.heap.size,0,none⟩ (.slice A ms.length d)).heap[w.heap.size+1]? = _:=(block_other _ _ _ _ (by omega)).trans HLK.out.bx1
      have k2:((wr.setCell ⟨w.heap.size,0,none⟩ (.slice A ms.length d)).setCell ⟨w.heap.size+1,0,none⟩ (.int .i64 0)).heap[w.heap.size+1+1]? = _:=(block_other _ _ _ _ (by omega)).trans ((block_other _ _ _ _ (by omega)).trans HLK.out.bx2)
      have HD9:Hid (ms.length≤d):=hid (by
       obtain ⟨_,_,e,hd⟩:=own_shape HLK.out.own
       cases e
       exact hd)
      have HSF:Hid (SrcsIn 58 55 153 0 (((wr.setCell ⟨w.heap.size,0,none⟩ (.slice A ms.length d)).setCell ⟨w.heap.size+1,0,none⟩ (.int .i64 0)).setCell ⟨w.heap.size+1+1,0,none⟩ (.int .i64 0)) A ms):=hid (by
       have q1:=RowW.at HLK.out.bx0 (Nat.zero_le _)
       have q2:=RowW.at k1 (Nat.zero_le _)
       have q3:=RowW.at k2 (Nat.zero_le _)
       have h0:=At.of_own (base:=0) HLK.out.own
       refine ⟨((h0.keep (grown_set (grown_refl wr (some w.heap.size)) 0 (.slice A ms.length d)) q1 (by decide)).keep (grown_set (grown_refl (wr.setCell ⟨w.heap.size,0,none⟩ (.slice A ms.length d)) (some (w.heap.size+1))) 0 (.int .i64 0)) q2 (by decide)).keep (grown_set (grown_refl ((wr.setCell ⟨w.heap.size,0,none⟩ (.slice A ms.length d)).setCell ⟨w.heap.size+1,0,none⟩ (.int .i64 0)) (some (w.heap.size+1+1))) 0 (.int .i64 0)) q3 (by decide),fun m hm=>?_⟩
       exact (((HLK.out.srcs m hm).keep (grown_set (grown_refl wr (some w.heap.size)) 0 (.slice A ms.length d)) q1 (by decide) (by decide) (by decide)).keepInt (grown_set (grown_refl (wr.setCell ⟨w.heap.size,0,none⟩ (.slice A ms.length d)) (some (w.heap.size+1))) 0 (.int .i64 0)) q2 (fun g off e=>by have:=HLK.out.tf m hm g off e;omega) (by decide) (by decide)).keep (grown_set (grown_refl ((wr.setCell ⟨w.heap.size,0,none⟩ (.slice A ms.length d)).setCell ⟨w.heap.size+1,0,none⟩ (.int .i64 0)) (some (w.heap.size+1+1))) 0 (.int .i64 0)) q3 (by decide) (by decide) (by decide))
      have HCF:Hid ((((wr.setCell ⟨w.heap.size,0,none⟩ (.slice A ms.length d)).setCell ⟨w.heap.size+1,0,none⟩ (.int .i64 0)).setCell ⟨w.heap.size+1+1,0,none⟩ (.int .i64 0)).heap[w.heap.size]? = some (.cells #[.slice A ms.length d] 23 (0,0))∧(((wr.setCell ⟨w.heap.size,0,none⟩ (.slice A ms.length d)).setCell ⟨w.heap.size+1,0,none⟩ (.int .i64 0)).setCell ⟨w.heap.size+1+1,0,none⟩ (.int .i64 0)).heap[w.heap.size+1]? = some (.cells #[.int .i64 0] 3 (0,0))∧(((wr.setCell ⟨w.heap.size,0,none⟩ (.slice A ms.length d)).setCell ⟨w.heap.size+1,0,none⟩ (.int .i64 0)).setCell ⟨w.heap.size+1+1,0,none⟩ (.int .i64 0)).heap[w.heap.size+1+1]? = some (.cells #[.int .i64 0] 24 (0,0))∧Below w.heap.size w (((wr.setCell ⟨w.heap.size,0,none⟩ (.slice A ms.length d)).setCell ⟨w.heap.size+1,0,none⟩ (.int .i64 0)).setCell ⟨w.heap.size+1+1,0,none⟩ (.int .i64 0))∧True):=hid ⟨(block_other _ _ _ _ (by omega)).trans ((block_other _ _ _ _ (by omega)).trans (block_set HLK.out.bx0 0 _)),(block_other _ _ _ _ (by omega)).trans (block_set k1 0 _),block_set k2 0 _,((HLK.out.be.setCell (p:=⟨w.heap.size,0,none⟩) (Nat.le_refl _) _).setCell (p:=⟨w.heap.size+1,0,none⟩) (by show w.heap.size≤w.heap.size+1;omega) _).setCell (p:=⟨w.heap.size+1+1,0,none⟩) (by show w.heap.size≤w.heap.size+1+1;omega) _,trivial⟩
      clear k1 k2
      go_wp2_with fail
      clear e0 f0 e1 f1 e2 f2
      generalize (((wr.setCell ⟨w.heap.size,0,none⟩ (.slice A ms.length d)).setCell ⟨w.heap.size+1,0,none⟩ (.int .i64 0)).setCell ⟨w.heap.size+1+1,0,none⟩ (.int .i64 0))=WF at *
      refine leaves_cons (f := 39) (args:=#[.pointer (some ⟨w.heap.size,0,none⟩),.pointer (some ⟨w.heap.size+1,0,none⟩),.pointer (some ⟨w.heap.size+1+1,0,none⟩)]) (by simp) (by simp [go_sem]) ?_
      refine (catch_idle _ _ _ _).mono ?_
      rintro e u' w'' ⟨rfl,rfl,hbi⟩
      refine ⟨_,res_parse rfl rfl rfl (p_below HCF.out.1 hbi) (p_below HCF.out.2.1 hbi) (p_below HCF.out.2.2.1 hbi),ms,A,d,?_⟩
      rw [HPX.out]
      have hB:=HCF.out.2.2.2.1.trans (hbi.mono HCF.out.2.2.2.1.size)
      exact ⟨rfl,rfl,HD9.out,HML.out,HSF.out.below hbi,hB⟩
end Go.Proofs.YtnkkcknogkgdkaaGreatDoor.PaW
