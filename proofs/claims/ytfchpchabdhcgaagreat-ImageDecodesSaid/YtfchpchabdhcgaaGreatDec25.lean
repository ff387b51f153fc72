/- Lemmas. -/
import Derived.Test.YtfchpchabdhcgaaGreatDec24
import Derived.Test.YtfchpchabdhcgaaGreatDec18
import Derived.Deep.RegionHeld
set_option linter.unusedVariables false
set_option linter.unusedSimpArgs false
set_option maxHeartbeats 64000000
set_option maxRecDepth 100000
namespace Go.Proofs.YtfchpchabdhcgaaGreat
open Go.RowKit
theorem info_hash:(Tryz.prog.info? 116).map (fun i=>(i.zero,i.size,i.bytes))=some (some (.int .u32 0),1,4):=by kernel_rfl
def hashesK (syms:List SymL) (n:Nat):List Int:=(seenK syms n).map fun k=>hashB (symN syms k).name
structure HInv (B:Nat) (w0 w:World) (va vl:Value) (at_ l:List Int) (pend:List (Nat × Value)):Prop where
 a:OwnK 3 kInt B (fun _=>False) w va at_
 l:OwnK 116 kHash B (fun _=>False) w vl l
 apart:∀ k,va.ownBlock=some k→vl.ownBlock≠some k
 pend:∀ p∈pend,w.cell? ⟨p.1,0,none⟩=some p.2∧va.ownBlock≠some p.1∧vl.ownBlock≠some p.1
 below:Below B w0 w
 hB:B≤w.heap.size
section
variable {B : Nat} {w0 w : World} {va vl : Value} {at_ l : List Int} {pend : List (Nat × Value)}
theorem HInv.drew (h:HInv B w0 w va vl at_ l pend):HInv B w0 w.drew va vl at_ l pend:=⟨h.a.drew,h.l.drew,h.apart,h.pend,h.below.drew,h.hB⟩
theorem HInv.less {p2:List (Nat × Value)} (h:HInv B w0 w va vl at_ l pend) (hp:∀ p∈p2,p∈pend):HInv B w0 w va vl at_ l p2:=⟨h.a,h.l,h.apart,fun p hx=>h.pend p (hp p hx),h.below,h.hB⟩
theorem HInv.alloc (h:HInv B w0 w va vl at_ l pend) (v:Value) (t:TypeId):HInv B w0 (w.alloc (.cells #[v] t (0,0))) va vl at_ l ((w.heap.size,v) :: pend):=
 ⟨h.a.alloc _,h.l.alloc _,h.apart,fun p hp=>by
  rcases List.mem_cons.1 hp with rfl | hp
  ·refine⟨by simp,fun e=> ?_,fun e=> ?_⟩
   ·have:=(h.a.lt _ e).2;simp at this
   ·have:=(h.l.lt _ e).2;simp at this
  ·obtain⟨h1,h2⟩:=h.pend p hp
   exact⟨by rw [World.cell?_alloc_lt _ _ _ (World.block_lt_of_cell? _ _ h1)];exact h1,h2⟩,h.below.alloc h.hB _,by have:=h.hB;rw [World.size_alloc];omega⟩
theorem HInv.alloc' (h:HInv B w0 w va vl at_ l pend) (o:Obj):HInv B w0 (w.alloc o) va vl at_ l pend:=
 ⟨h.a.alloc _,h.l.alloc _,h.apart,fun p hp=>by
  obtain⟨h1,h2⟩:=h.pend p hp
  exact⟨by rw [World.cell?_alloc_lt _ _ _ (World.block_lt_of_cell? _ _ h1)];exact h1,h2⟩,h.below.alloc h.hB _,by have:=h.hB;rw [World.size_alloc];omega⟩
theorem HInv.cell (h:HInv B w0 w va vl at_ l pend) {n:Nat} {v:Value} (hp:(n,v)∈pend):w.cell? ⟨n,0,none⟩=some v:=(h.pend _ hp).1
theorem step_flat {α:Type} {e:TypeId} {K:Kind α} {w':World} {v:Value} {xs:List α} {row:Option Nat} (hflat:∀ S S' w w' x r,K.R S w x r→K.R S' w' x r) (h:OwnK e K B (fun _=>False) w v xs) (hs:Step (fun b=>b<w.heap.size∧row≠some b) w w')
  (hne:∀ k,v.ownBlock=some k→row≠some k):OwnK e K B (fun _=>False) w' v xs:=by
 obtain⟨ys,h1,h2,h3⟩:=h
 have hlt:=World.ownsRow.lt h1
 refine⟨ys,⟨h1.1,?_⟩,?_,h3⟩
 ·rcases h1.2 with h0 | ⟨g,cap,cur,hv,hg,hh,r⟩
  ·exact Or.inl h0
  ·refine Or.inr ⟨g,cap,cur,hv,hg,?_,r⟩
   have ho:v.ownBlock=some g:=by rw [hv];rfl
   rw [hs.block g ⟨(hlt g ho).2,hne g ho⟩];exact hh
 ·have:∀ {l:List α} {xs:List Value} {S S':Nat→Prop},RowsOf K S w l xs→RowsOf K S' w' l xs:=by
   intro l
   induction l with
   | nil=>intro xs S S' h;exact h
   | cons x l ih=>rintro xs S S' ⟨r,ys,e,a1,a2⟩;exact⟨r,ys,e,hflat _ _ _ _ _ _ a1,ih a2⟩
  exact this h2
theorem HInv.stepA {o:Oper} {a:Act} {K:Act→World→Prop} {Q:Exit→Act→World→Prop} (h:HInv B w0 w va vl at_ l pend) (s x:Operand)
  (ho:o.op=.call {callee:=.builtin .append,args:=#[s,x],argTypes:=#[38,38]}) (n:Nat) (hn:at_.length=n) (hs:a.eval s=va) (nb:Nat) (y:Int) (hx:a.eval x=.slice (some ⟨nb,0,none⟩) 1 1) (hp:(nb,Value.int .i64 y)∈pend) (hlen:n≤1000000)
  (hk:∀ g c w',HInv B w0 w' (.slice (some ⟨g,0,none⟩) (n+1) c) vl (at_++[y]) l pend→K (a.put o.dst (.slice (some ⟨g,0,none⟩) (n+1) c)) w'):Oper.wp Tryz.prog o a w K Q:=by
 subst hn
 obtain⟨i0,hi,hz0,hz1,hz2⟩:=info_parts info_int
 obtain⟨xs,h1,h2,h3⟩:=h.a
 have hlt:=World.ownsRow.lt h1
 have hcell:=h.cell hp
 refine wp_append_lies w s x 38 ho B 3 i0 (.int .i64 0) 1 8 Tryz.underlying38 hi hz0 hz1 hz2 rfl (by decide) va at_.length xs hs h1 ⟨nb,0,none⟩ 1 1 [.int .i64 y] hx rfl ?_ ?_ (by decide) (by unfold maxLen;omega) (by omega) h.hB _ rfl ?_
 ·intro j u hj
  match j,hj with
  | 0,hj=>simp at hj;subst hj;simpa [Addr.add_lit] using hcell
  | j+1,hj=>simp at hj
 ·intro u hu;simp at hu;subst hu;rfl
 ·intro g c w' g1 g2 g3 g4
  have hst:Step (fun b=>b<w.heap.size∧va.ownBlock≠some b) w w':=Step.of_grown g2 (fun b hb=>⟨hb.1,hb.2⟩)
  refine hk g c w' ?_
  refine⟨⟨xs++[.int .i64 y],by have g5:=g1;simpa [kInt,kHash] using g5,by
   have hr:RowsOf kInt (fun b=>b<w.heap.size∧¬ False∧va.ownBlock≠some b) w at_ xs:=h2
   have:∀ {l:List Int} {xs:List Value} {S S':Nat→Prop} {w w':World},RowsOf kInt S w l xs→RowsOf kInt S' w' l xs:=by
    intro l
    induction l with
    | nil=>intro xs S S' w w' h;exact h
    | cons x l ih=>rintro xs S S' w w' ⟨r,ys,e,a1,a2⟩;exact⟨r,ys,e,a1,ih a2⟩
   exact(this hr).snoc rfl,fun _ _ hE=>hE⟩,step_flat (fun _ _ _ _ _ _ h=>h) h.l hst (fun k hk e=>h.apart k e hk),?_,fun p hp=> ?_,?_,Nat.le_trans h.hB hst.size⟩
  ·intro k hk e
   have:k=g:=by simpa [Value.ownBlock] using hk.symm
   subst this
   rcases g3 with h' | h'
   ·exact h.apart _ h' e
   ·have:=(h.l.lt _ e).2;omega
  ·obtain⟨q1,q2,q3⟩:=h.pend p hp
   have hq:p.1<w.heap.size:=World.block_lt_of_cell? _ _ q1
   refine⟨by rw [World.cell?_of_block (a:=⟨p.1,0,none⟩) (hst.block p.1 ⟨hq,q2⟩)];exact q1,?_,?_⟩
   ·intro e
    have:p.1=g:=by simpa [Value.ownBlock] using e.symm
    rcases g3 with h' | h'
    ·exact q2 (by rw [this];exact h')
    ·omega
   ·exact q3
  ·exact h.below.trans (hst.imp (S':=(·<B)) (fun b hb=>⟨Nat.lt_of_lt_of_le hb h.hB,fun e=>by have h5:=(hlt b e).1;have h6:b<B:=hb;omega⟩)).below
theorem HInv.stepL {o:Oper} {a:Act} {K:Act→World→Prop} {Q:Exit→Act→World→Prop} (h:HInv B w0 w va vl at_ l pend) (s x:Operand)
  (ho:o.op=.call {callee:=.builtin .append,args:=#[s,x],argTypes:=#[118,118]}) (n:Nat) (hn:l.length=n) (hs:a.eval s=vl) (nb:Nat) (y:Int) (hx:a.eval x=.slice (some ⟨nb,0,none⟩) 1 1) (hp:(nb,Value.int .u32 y)∈pend) (hlen:n≤1000000)
  (hk:∀ g c w',HInv B w0 w' va (.slice (some ⟨g,0,none⟩) (n+1) c) at_ (l++[y]) pend→K (a.put o.dst (.slice (some ⟨g,0,none⟩) (n+1) c)) w'):Oper.wp Tryz.prog o a w K Q:=by
 subst hn
 obtain⟨i0,hi,hz0,hz1,hz2⟩:=info_parts info_hash
 obtain⟨xs,h1,h2,h3⟩:=h.l
 have hlt:=World.ownsRow.lt h1
 have hcell:=h.cell hp
 refine wp_append_lies w s x 118 ho B 116 i0 (.int .u32 0) 1 4 Tryz.underlying118 hi hz0 hz1 hz2 rfl (by decide) vl l.length xs hs h1 ⟨nb,0,none⟩ 1 1 [.int .u32 y] hx rfl ?_ ?_ (by decide) (by unfold maxLen;omega) (by omega) h.hB _ rfl ?_
 ·intro j u hj
  match j,hj with
  | 0,hj=>simp at hj;subst hj;simpa [Addr.add_lit] using hcell
  | j+1,hj=>simp at hj
 ·intro u hu;simp at hu;subst hu;rfl
 ·intro g c w' g1 g2 g3 g4
  have hst:Step (fun b=>b<w.heap.size∧vl.ownBlock≠some b) w w':=Step.of_grown g2 (fun b hb=>⟨hb.1,hb.2⟩)
  refine hk g c w' ?_
  refine⟨step_flat (fun _ _ _ _ _ _ h=>h) h.a hst (fun k hk e=>h.apart k hk e),⟨xs++[.int .u32 y],by have g5:=g1;simpa [kInt,kHash] using g5,by
   have hr:RowsOf kHash (fun b=>b<w.heap.size∧¬ False∧vl.ownBlock≠some b) w l xs:=h2
   have:∀ {l:List Int} {xs:List Value} {S S':Nat→Prop} {w w':World},RowsOf kHash S w l xs→RowsOf kHash S' w' l xs:=by
    intro l
    induction l with
    | nil=>intro xs S S' w w' h;exact h
    | cons x l ih=>rintro xs S S' w w' ⟨r,ys,e,a1,a2⟩;exact⟨r,ys,e,a1,ih a2⟩
   exact(this hr).snoc rfl,fun _ _ hE=>hE⟩,?_,fun p hp=> ?_,?_,Nat.le_trans h.hB hst.size⟩
  ·intro k hk e
   have:k=g:=by simpa [Value.ownBlock] using e.symm
   subst this
   rcases g3 with h' | h'
   ·exact h.apart _ hk h'
   ·have:=(h.a.lt _ hk).2;omega
  ·obtain⟨q1,q2,q3⟩:=h.pend p hp
   have hq:p.1<w.heap.size:=World.block_lt_of_cell? _ _ q1
   refine⟨by rw [World.cell?_of_block (a:=⟨p.1,0,none⟩) (hst.block p.1 ⟨hq,q3⟩)];exact q1,?_,?_⟩
   ·exact q2
   ·intro e
    have:p.1=g:=by simpa [Value.ownBlock] using e.symm
    rcases g3 with h' | h'
    ·exact q3 (by rw [this];exact h')
    ·omega
  ·exact h.below.trans (hst.imp (S':=(·<B)) (fun b hb=>⟨Nat.lt_of_lt_of_le hb h.hB,fun e=>by have h5:=(hlt b e).1;have h6:b<B:=hb;omega⟩)).below
end
theorem hashesK_succ (syms:List SymL) (n:Nat):hashesK syms (n+1)=hashesK syms n++if seenB (symN syms n) then [hashB (symN syms n).name] else []:=by
 rw [hashesK,seenK_succ,List.map_append]
 by_cases h:seenB (symN syms n)=true
 ·rw [if_pos h,if_pos h];rfl
 ·rw [if_neg h,if_neg h];rfl
theorem hashesK_len (syms:List SymL) (n:Nat):(hashesK syms n).length=(seenK syms n).length:=by simp [hashesK]
theorem thashes_any (w:World) (v:Value) (syms:List SymL) (hs:LB kSym (·<w.heap.size) w v syms) (hz:syms.length≤512):
  Calls Tryz.prog 81 #[v] w fun e w'=>∃ r l,e=.returned (.tuple #[r,l])∧OwnK 3 kInt w.heap.size (fun _=>False) w' r (toInts (seenIx syms))∧OwnK 116 kHash w.heap.size (fun _=>False) w' l (hashesK syms syms.length)∧Below w.heap.size w w':=by
 obtain⟨sa,sb,soff,scap,rfl,hsm,hsc,hat⟩:=hs.at
 have Hat:=Lib.hid hat
 clear hs hat
 go_enter Tryz.func81,Tryz.ntmps81
 go_wp2
 go_loopw [4,5,10] (fun o p i wr=>∃ k:Nat,i=.int .i64 k∧k≤syms.length∧HInv w.heap.size w wr o p (toInts (seenK syms k)) (hashesK syms k) []) (fun _ _ i _=>syms.length-(intOf i).toNat)
 case atStart=>exact⟨0,rfl,Nat.zero_le _,⟨OwnK.nil _ _ _ _ _,OwnK.nil _ _ _ _ _,fun k h=>by simp [Value.ownBlock]at h,fun p hp=>by simp at hp,Below.refl _ _,Nat.le_refl _⟩⟩
 case round=>
  obtain⟨k,rfl,hk,hinv⟩:=hrel
  have hBr:=hinv.below.size
  have hlN:=seenK_le syms k
  have hl2:=toInts_len (seenK syms k)
  have hl3:=hashesK_len syms k
  obtain⟨oa,oc,ho⟩:=hinv.a.form
  obtain⟨pa,pc,hp⟩:=hinv.l.form
  rw [hl2]at ho
  rw [hl3]at hp
  subst ho hp
  by_cases hlt:k<syms.length
  ·obtain rfl:=Hat.out.addr (by omega)
   obtain⟨s,hx⟩:∃ s,syms[k]? =some s:=⟨_,List.getElem?_eq_getElem hlt⟩
   obtain⟨hso,g0,g1,g2,g3,g4,g5,g6,g7,g8⟩:=(Hat.out.below hinv.below).sym9 k s hx
   have HS:=Lib.hid (seenK_succ syms k)
   have HS2:=Lib.hid (hashesK_succ syms k)
   rw [symN_at hx]at HS HS2
   have Hinv:=Lib.hid hinv
   have HJ:=Lib.hid (fun w=>shash_any w s.name hso.name)
   have hsb:=World.block_lt_of_cell? _ _ g0
   have Fs:=heap_alloc_new wr (.cells #[.string ⟨s.name.toArray⟩,.string ⟨s.version.toArray⟩,.bool s.old,.int .i64 s.kind,.bool s.weak,.int .i64 s.vis,.bool s.defined,.int .i64 s.value,.int .i64 s.size] 72 (0,0))
   have I1:=Lib.hid (hinv.alloc' (.cells #[.string ⟨s.name.toArray⟩,.string ⟨s.version.toArray⟩,.bool s.old,.int .i64 s.kind,.bool s.weak,.int .i64 s.vis,.bool s.defined,.int .i64 s.value,.int .i64 s.size] 72 (0,0)))
   have hzs:(wr.alloc (.cells #[.string ⟨s.name.toArray⟩,.string ⟨s.version.toArray⟩,.bool s.old,.int .i64 s.kind,.bool s.weak,.int .i64 s.vis,.bool s.defined,.int .i64 s.value,.int .i64 s.size] 72 (0,0))).heap.size=wr.heap.size+1:=by simp
   have hown1:=fun k h=>(hinv.a.lt k h).2
   have hown2:=fun k h=>(hinv.l.lt k h).2
   clear hinv hx hso
   go_upto_region 6 with fail
   generalize wr.alloc (.cells #[.string ⟨s.name.toArray⟩,.string ⟨s.version.toArray⟩,.bool s.old,.int .i64 s.kind,.bool s.weak,.int .i64 s.vis,.bool s.defined,.int .i64 s.value,.int .i64 s.size] 72 (0,0))=w1 at *
   obtain⟨c0,c1,c2,c3,c4,c5,c6,c7,c8⟩:=sym_cells Fs
   go_wp2_with fail
   refine(vseen_any w1 s).mono ?_
   rintro e w2 ⟨rfl,hb2⟩
   have hz2:=hb2.size
   have cn:=(hb2.cell (World.block_lt_of_cell? _ _ c0)).trans c0
   have I2:HInv w.heap.size w w2 (.slice oa (seenK syms k).length oc) (.slice pa (seenK syms k).length pc) (toInts (seenK syms k)) (hashesK syms k) [(wr.heap.size,.string ⟨s.name.toArray⟩)]:=by
    refine⟨I1.out.a.below hb2,I1.out.l.below hb2,I1.out.apart,fun p hp=> ?_,I1.out.below.trans (hb2.mono (by omega)),by omega⟩
    simp at hp
    subst hp
    exact⟨cn,fun e=>by have:=hown1 _ e;omega,fun e=>by have:=hown2 _ e;omega⟩
   clear hb2 c0 c1 c2 c3 c4 c5 c6 c7 c8 Fs I1 g0 g1 g2 g3 g4 g5 g6 g7 g8 Hinv
   cases hsn:seenB s with
   | false=>
    rw [hsn]at HS HS2
    have I3:=Lib.hid I2
    clear I2 cn
    go_wp2
    go_roundw
    case rel=>
     have h1:=HS.out
     have h2:=HS2.out
     simp only [Bool.false_eq_true,if_false,List.append_nil]at h1 h2
     exact⟨k+1,by go_num,by omega,by rw [h1,h2];exact I3.out.less (by simp)⟩
    case measure=>simp [intOf];omega
   | true=>
    rw [hsn]at HS HS2
    have I3:=Lib.hid I2.drew
    have h1:=HS.out
    have h2:=HS2.out
    simp only [if_true]at h1 h2
    have HN1:Hid (toInts (seenK syms (k+1))=toInts (seenK syms k)++[(k:Int)]):=Lib.hid (by rw [h1,toInts,List.map_append];rfl)
    have HN2:=Lib.hid h2
    have hlw:=World.block_lt_of_cell? _ _ cn
    clear I2 h1 h2 HS HS2
    generalize wr.heap.size=zs at *
    go_wp2_with fail
    refine wp_region_held_drew (S:=fun w'=>w'.cell? ⟨zs,0,none⟩=some (.string ⟨s.name.toArray⟩)) (by kernel_rfl) (by exact I3.out.cell (by simp)) (fun hHeld=> ?_)
    generalize w2.drew=wd at *
    refine wpAnyH_take (i:=0) (v:= ?_) rfl (by kernel_rfl) (by kernel_rfl) (by kernel_rfl) (fun _ _ _ h=>h) (Or.inl ⟨by rfl,?_⟩) hHeld ?_
    rotate_left
    ·(intro w hSw;(try dsimp only at hSw);go_simp;try with_reducible rfl)
    try simp only [Act.put,List.setIfInBounds_toArray,List.set_cons_zero,List.set_cons_succ]
    refine wpAnyH_take (i:=1) (v:= ?_) rfl (by kernel_rfl) (by kernel_rfl) (by kernel_rfl) (fun _ _ _ h=>h) (Or.inl ⟨by rfl,?_⟩) hHeld ?_
    rotate_left
    ·(intro w hSw;(try dsimp only at hSw);go_simp;try with_reducible rfl)
    try simp only [Act.put,List.setIfInBounds_toArray,List.set_cons_zero,List.set_cons_succ]
    refine wpAnyH_take (i:=4) (v:= ?_) rfl (by kernel_rfl) (by kernel_rfl) (by kernel_rfl) (fun _ _ _ h=>h) (Or.inl ⟨by rfl,?_⟩) hHeld ?_
    rotate_left
    ·(intro w hSw;(try dsimp only at hSw);go_simp;try with_reducible rfl)
    try simp only [Act.put,List.setIfInBounds_toArray,List.set_cons_zero,List.set_cons_succ]
    refine wpAnyH_take (i:=5) (v:= ?_) rfl (by kernel_rfl) (by kernel_rfl) (by kernel_rfl) (fun _ _ _ h=>h) (Or.inl ⟨by rfl,?_⟩) hHeld ?_
    rotate_left
    ·(intro w hSw;(try dsimp only at hSw);go_simp;try with_reducible rfl)
    try simp only [Act.put,List.setIfInBounds_toArray,List.set_cons_zero,List.set_cons_succ]
    refine wpAnyH_take (i:=6) (v:= ?_) rfl (by kernel_rfl) (by kernel_rfl) (by kernel_rfl) (fun _ _ _ h=>h) (Or.inl ⟨by rfl,?_⟩) hHeld ?_
    rotate_left
    ·(intro w hSw;(try dsimp only at hSw);go_simp;try with_reducible rfl)
    try simp only [Act.put,List.setIfInBounds_toArray,List.set_cons_zero,List.set_cons_succ]
    refine wpAnyH_ready (rs:=[2]) (by kernel_rfl) (by simp) ?_
    refine AllReadyH.cons rfl (fun K hK=> ?_) AllReadyH.nil
    go_simp
    have IA:=Lib.hid (I3.out.alloc (.int .i64 (k:Int)) 3)
    refine hK.out _ _ (by exact IA.out.cell (by simp)) (fun hHeld=> ?_)
    clear hK K
    try simp only [Act.put,List.setIfInBounds_toArray,List.set_cons_zero,List.set_cons_succ]
    generalize wd.alloc (.cells #[.int .i64 (k:Int)] 3 (0,0))=wA at *
    refine wpAnyH_ready (rs:=[3]) (by kernel_rfl) (by simp) ?_
    refine AllReadyH.cons rfl (fun K hK=> ?_) AllReadyH.nil
    rw [if_pos (by rfl)]
    simp only [List.getElem_toArray,List.getElem_cons_succ,List.getElem_cons_zero]
    refine IA.out.stepA (.tmp 17) (.tmp 19) ?_ (seenK syms k).length hl2 ?_ wd.heap.size (k:Int) ?_ (by simp) (by omega) (fun g c wAA hI=> ?_)
    ·rfl
    ·rfl
    ·rfl
    have IAA:=Lib.hid hI
    clear hI
    refine hK.out _ _ (by exact IAA.out.cell (by simp)) (fun hHeld=> ?_)
    clear hK K
    try simp only [Act.put,List.setIfInBounds_toArray,List.set_cons_zero,List.set_cons_succ]
    refine wpAnyH_ready (rs:=[7]) (by kernel_rfl) (by simp) ?_
    refine AllReadyH.cons rfl (fun K hK=> ?_) AllReadyH.nil
    go_simp
    refine(HJ.out _).mono ?_
    rintro e w5 ⟨rfl,hw5⟩
    rw [hw5]
    refine hK.out _ _ (by exact IAA.out.cell (by simp)) (fun hHeld=> ?_)
    clear hK K
    try simp only [Act.put,List.setIfInBounds_toArray,List.set_cons_zero,List.set_cons_succ]
    have IAAB:=IAA
    refine wpAnyH_ready (rs:=[8]) (by kernel_rfl) (by simp) ?_
    refine AllReadyH.cons rfl (fun K hK=> ?_) AllReadyH.nil
    go_simp
    have IAABB:=Lib.hid (IAAB.out.alloc (.int .u32 (hashB s.name)) 116)
    refine hK.out _ _ (by exact IAABB.out.cell (by simp)) (fun hHeld=> ?_)
    clear hK K
    try simp only [Act.put,List.setIfInBounds_toArray,List.set_cons_zero,List.set_cons_succ]
    generalize wAA.alloc (.cells #[.int .u32 (hashB s.name)] 116 (0,0))=wAABB at *
    refine wpAnyH_ready (rs:=[9]) (by kernel_rfl) (by simp) ?_
    refine AllReadyH.cons rfl (fun K hK=> ?_) AllReadyH.nil
    rw [if_pos (by rfl)]
    simp only [List.getElem_toArray,List.getElem_cons_succ,List.getElem_cons_zero]
    refine IAABB.out.stepL (.tmp 21) (.tmp 25) ?_ (seenK syms k).length hl3 ?_ wAA.heap.size (hashB s.name) ?_ (by simp) (by omega) (fun g c wAABBB hI=> ?_)
    ·rfl
    ·rfl
    ·rfl
    have IAABBB:=Lib.hid hI
    clear hI
    refine hK.out _ _ (by exact IAABBB.out.cell (by simp)) (fun hHeld=> ?_)
    clear hK K
    try simp only [Act.put,List.setIfInBounds_toArray,List.set_cons_zero,List.set_cons_succ]
    refine wpAnyH_take (i:=10) (v:= ?_) rfl (by kernel_rfl) (by kernel_rfl) (by kernel_rfl) (fun _ _ _ h=>h) (Or.inl ⟨by rfl,?_⟩) hHeld ?_
    rotate_left
    ·(intro w hSw;(try dsimp only at hSw);go_simp;try with_reducible rfl)
    try simp only [Act.put,List.setIfInBounds_toArray,List.set_cons_zero,List.set_cons_succ]
    refine wpAnyH_take (i:=11) (v:= ?_) rfl (by kernel_rfl) (by kernel_rfl) (by kernel_rfl) (fun _ _ _ h=>h) (Or.inl ⟨by rfl,?_⟩) hHeld ?_
    rotate_left
    ·(intro w hSw;(try dsimp only at hSw);go_simp;try with_reducible rfl)
    try simp only [Act.put,List.setIfInBounds_toArray,List.set_cons_zero,List.set_cons_succ]
    refine wpAnyH_done (by kernel_rfl) ?_ _
    clear hHeld
    go_wp2
    go_roundw
    case rel=>exact⟨k+1,by go_num,by omega,by rw [HN1.out,HN2.out];exact IAABBB.out.less (by simp)⟩
    case measure=>simp [intOf];omega
  ·have he:k=syms.length:=by omega
   subst he
   have Hinv:=Lib.hid hinv
   clear hinv
   go_wp2
   go_ret2
   exact⟨_,_,rfl,Hinv.out.a,Hinv.out.l,Hinv.out.below⟩
end Go.Proofs.YtfchpchabdhcgaaGreat
