/- Lemmas. -/
import Derived.Test.YtfchpchabdhcgaaGreatDec31
import Derived.Deep.DeepCutAuto
set_option linter.unusedVariables false
set_option linter.unusedSimpArgs false
set_option maxHeartbeats 64000000
set_option maxRecDepth 100000
namespace Go.Proofs.YtfchpchabdhcgaaGreat
open Go.RowKit
theorem dreg3 {Q:Exit→Act→World→Prop} (hP:∀ x a a' w,a'.defers=a.defers→Q (.panic x) a w→Q (.panic x) a' w) {a:Act} {wr:World} {z lb rb gb ib:Nat} {s0:Option (List UInt8)} {v1 v2:Value} (hF:Fr [(2,.pointer (some ⟨z,0,none⟩)),(4,.pointer (some ⟨lb,0,none⟩)),(5,.pointer (some ⟨ib,0,none⟩)),(112,v1),(113,v2)] a) (H:LD lb rb gb wr s0) (hne:lb≠rb) (hng:lb≠gb)
  (hR:∀ (a':Act) (wc:World) (sb:Nat) (a1 a2:List UInt8) (a3 a4:Int) (s1 s2 s3 s4:Option (List UInt8)),Fr [(2,.pointer (some ⟨z,0,none⟩)),(4,.pointer (some ⟨lb,0,none⟩)),(5,.pointer (some ⟨ib,0,none⟩)),(112,v1),(113,v2),(8,.pointer (some ⟨sb,0,none⟩))] a'→Got textP s0 a1 s1→a1.length≤4096→Got textP s1 a2 s2→a2.length≤4096→Got (numP 1) s2 a3 s3→okN 1 a3→Got (numP 1) s3 a4 s4→okN 1 a4→LD lb rb gb wc s4→wc.heap[sb]? =some (.cells #[.string ⟨a1.toArray⟩,.string ⟨a2.toArray⟩,.bool false,.int .i64 a3,.bool false,.int .i64 a4,.bool false,.int .i64 0,.int .i64 0] 72 (0,0))→Step (fun x=>x<wr.heap.size∧x≠rb) wr wc→wr.heap.size≤sb→Q .normal a' wc):(dReg Tryz.f6 7).wp Tryz.prog Q a wr:=by
 have H5:=Lib.hid H
 have HR:=Lib.hid hR
 have hlb:=H.lt
 have hrb:=H.rblt
 have hgb:=H.gblt
 have c:=H.cell
 clear H hR
 apply Fr.elim hF
 clear hF
 intro _ _
 intro V2
 intro _
 intro V4
 intro V5
 iterate 106 (intro _)
 intro V112
 intro V113
 iterate 218 (intro _)
 intro hF
 obtain⟨-,-,e2,e4,e5,e112,e113,-⟩:=hF
 replace e2:V2=.pointer (some ⟨z,0,none⟩):=e2
 subst e2
 replace e4:V4=.pointer (some ⟨lb,0,none⟩):=e4
 subst e4
 replace e5:V5=.pointer (some ⟨ib,0,none⟩):=e5
 subst e5
 replace e112:V112=v1:=e112
 subst e112
 replace e113:V113=v2:=e113
 subst e113
 conv in dReg Tryz.f6 7=>whnf
 refine wp_region_held_drew (S:=fun w'=>w'.cell? ⟨lb,0,none⟩=some (.pointer (some ⟨rb,0,none⟩))) (by kernel_rfl) c (fun hHeld=> ?_)
 refine wpAnyH_take (i:=0) (v:= ?_) rfl (by kernel_rfl) (by kernel_rfl) (by kernel_rfl) (fun _ _ _ h=>hP _ _ _ _ (by rfl) h) (Or.inl ⟨by rfl,?_⟩) hHeld ?_
 rotate_left
 ·(intro w hSw;(try dsimp only at hSw);go_simp;try with_reducible rfl)
 simp only [List.getElem_toArray,List.getElem_cons_zero,List.getElem_cons_succ,Act.put,List.setIfInBounds_toArray,List.set_cons_zero,List.set_cons_succ]
 refine wpAnyH_take (i:=1) (v:= ?_) rfl (by kernel_rfl) (by kernel_rfl) (by kernel_rfl) (fun _ _ _ h=>hP _ _ _ _ (by rfl) h) (Or.inl ⟨by rfl,?_⟩) hHeld ?_
 rotate_left
 ·(intro w hSw;(try dsimp only at hSw);go_simp;try with_reducible rfl)
 simp only [List.getElem_toArray,List.getElem_cons_zero,List.getElem_cons_succ,Act.put,List.setIfInBounds_toArray,List.set_cons_zero,List.set_cons_succ]
 refine wpAnyH_take (i:=2) (v:= ?_) rfl (by kernel_rfl) (by kernel_rfl) (by kernel_rfl) (fun _ _ _ h=>hP _ _ _ _ (by rfl) h) (Or.inl ⟨by rfl,?_⟩) hHeld ?_
 rotate_left
 ·(intro w hSw;(try dsimp only at hSw);go_simp;try with_reducible rfl)
 simp only [List.getElem_toArray,List.getElem_cons_zero,List.getElem_cons_succ,Act.put,List.setIfInBounds_toArray,List.set_cons_zero,List.set_cons_succ]
 refine wpAnyH_take (i:=3) (v:= ?_) rfl (by kernel_rfl) (by kernel_rfl) (by kernel_rfl) (fun _ _ _ h=>hP _ _ _ _ (by rfl) h) (Or.inl ⟨by rfl,?_⟩) hHeld ?_
 rotate_left
 ·(intro w hSw;(try dsimp only at hSw);go_simp;try with_reducible rfl)
 simp only [List.getElem_toArray,List.getElem_cons_zero,List.getElem_cons_succ,Act.put,List.setIfInBounds_toArray,List.set_cons_zero,List.set_cons_succ]
 refine wpAnyH_take (i:=5) (v:= ?_) rfl (by kernel_rfl) (by kernel_rfl) (by kernel_rfl) (fun _ _ _ h=>hP _ _ _ _ (by rfl) h) (Or.inl ⟨by rfl,?_⟩) hHeld ?_
 rotate_left
 ·(intro w hSw;(try dsimp only at hSw);go_simp;try with_reducible rfl)
 simp only [List.getElem_toArray,List.getElem_cons_zero,List.getElem_cons_succ,Act.put,List.setIfInBounds_toArray,List.set_cons_zero,List.set_cons_succ]
 refine wpAnyH_take (i:=6) (v:= ?_) rfl (by kernel_rfl) (by kernel_rfl) (by kernel_rfl) (fun _ _ _ h=>hP _ _ _ _ (by rfl) h) (Or.inl ⟨by rfl,?_⟩) hHeld ?_
 rotate_left
 ·(intro w hSw;(try dsimp only at hSw);go_simp;try with_reducible rfl)
 simp only [List.getElem_toArray,List.getElem_cons_zero,List.getElem_cons_succ,Act.put,List.setIfInBounds_toArray,List.set_cons_zero,List.set_cons_succ]
 refine wpAnyH_take (i:=7) (v:= ?_) rfl (by kernel_rfl) (by kernel_rfl) (by kernel_rfl) (fun _ _ _ h=>hP _ _ _ _ (by rfl) h) (Or.inl ⟨by rfl,?_⟩) hHeld ?_
 rotate_left
 ·(intro w hSw;(try dsimp only at hSw);go_simp;try with_reducible rfl)
 simp only [List.getElem_toArray,List.getElem_cons_zero,List.getElem_cons_succ,Act.put,List.setIfInBounds_toArray,List.set_cons_zero,List.set_cons_succ]
 refine wpAnyH_take (i:=8) (v:= ?_) rfl (by kernel_rfl) (by kernel_rfl) (by kernel_rfl) (fun _ _ _ h=>hP _ _ _ _ (by rfl) h) (Or.inl ⟨by rfl,?_⟩) hHeld ?_
 rotate_left
 ·(intro w hSw;(try dsimp only at hSw);go_simp;try with_reducible rfl)
 simp only [List.getElem_toArray,List.getElem_cons_zero,List.getElem_cons_succ,Act.put,List.setIfInBounds_toArray,List.set_cons_zero,List.set_cons_succ]
 refine wpAnyH_take (i:=10) (v:= ?_) rfl (by kernel_rfl) (by kernel_rfl) (by kernel_rfl) (fun _ _ _ h=>hP _ _ _ _ (by rfl) h) (Or.inl ⟨by rfl,?_⟩) hHeld ?_
 rotate_left
 ·(intro w hSw;(try dsimp only at hSw);go_simp;try with_reducible rfl)
 simp only [List.getElem_toArray,List.getElem_cons_zero,List.getElem_cons_succ,Act.put,List.setIfInBounds_toArray,List.set_cons_zero,List.set_cons_succ]
 refine wpAnyH_take (i:=11) (v:= ?_) rfl (by kernel_rfl) (by kernel_rfl) (by kernel_rfl) (fun _ _ _ h=>hP _ _ _ _ (by rfl) h) (Or.inl ⟨by rfl,?_⟩) hHeld ?_
 rotate_left
 ·(intro w hSw;(try dsimp only at hSw);go_simp;try with_reducible rfl)
 simp only [List.getElem_toArray,List.getElem_cons_zero,List.getElem_cons_succ,Act.put,List.setIfInBounds_toArray,List.set_cons_zero,List.set_cons_succ]
 refine wpAnyH_take (i:=12) (v:= ?_) rfl (by kernel_rfl) (by kernel_rfl) (by kernel_rfl) (fun _ _ _ h=>hP _ _ _ _ (by rfl) h) (Or.inl ⟨by rfl,?_⟩) hHeld ?_
 rotate_left
 ·(intro w hSw;(try dsimp only at hSw);go_simp;try with_reducible rfl)
 simp only [List.getElem_toArray,List.getElem_cons_zero,List.getElem_cons_succ,Act.put,List.setIfInBounds_toArray,List.set_cons_zero,List.set_cons_succ]
 refine wpAnyH_take (i:=13) (v:= ?_) rfl (by kernel_rfl) (by kernel_rfl) (by kernel_rfl) (fun _ _ _ h=>hP _ _ _ _ (by rfl) h) (Or.inl ⟨by rfl,?_⟩) hHeld ?_
 rotate_left
 ·(intro w hSw;(try dsimp only at hSw);go_simp;try with_reducible rfl)
 simp only [List.getElem_toArray,List.getElem_cons_zero,List.getElem_cons_succ,Act.put,List.setIfInBounds_toArray,List.set_cons_zero,List.set_cons_succ]
 refine wpAnyH_take (i:=15) (v:= ?_) rfl (by kernel_rfl) (by kernel_rfl) (by kernel_rfl) (fun _ _ _ h=>hP _ _ _ _ (by rfl) h) (Or.inl ⟨by rfl,?_⟩) hHeld ?_
 rotate_left
 ·(intro w hSw;(try dsimp only at hSw);go_simp;try with_reducible rfl)
 simp only [List.getElem_toArray,List.getElem_cons_zero,List.getElem_cons_succ,Act.put,List.setIfInBounds_toArray,List.set_cons_zero,List.set_cons_succ]
 refine wpAnyH_take (i:=16) (v:= ?_) rfl (by kernel_rfl) (by kernel_rfl) (by kernel_rfl) (fun _ _ _ h=>hP _ _ _ _ (by rfl) h) (Or.inl ⟨by rfl,?_⟩) hHeld ?_
 rotate_left
 ·(intro w hSw;(try dsimp only at hSw);go_simp;try with_reducible rfl)
 simp only [List.getElem_toArray,List.getElem_cons_zero,List.getElem_cons_succ,Act.put,List.setIfInBounds_toArray,List.set_cons_zero,List.set_cons_succ]
 refine wpAnyH_take (i:=17) (v:= ?_) rfl (by kernel_rfl) (by kernel_rfl) (by kernel_rfl) (fun _ _ _ h=>hP _ _ _ _ (by rfl) h) (Or.inl ⟨by rfl,?_⟩) hHeld ?_
 rotate_left
 ·(intro w hSw;(try dsimp only at hSw);go_simp;try with_reducible rfl)
 simp only [List.getElem_toArray,List.getElem_cons_zero,List.getElem_cons_succ,Act.put,List.setIfInBounds_toArray,List.set_cons_zero,List.set_cons_succ]
 refine wpAnyH_take (i:=18) (v:= ?_) rfl (by kernel_rfl) (by kernel_rfl) (by kernel_rfl) (fun _ _ _ h=>hP _ _ _ _ (by rfl) h) (Or.inl ⟨by rfl,?_⟩) hHeld ?_
 rotate_left
 ·(intro w hSw;(try dsimp only at hSw);go_simp;try with_reducible rfl)
 simp only [List.getElem_toArray,List.getElem_cons_zero,List.getElem_cons_succ,Act.put,List.setIfInBounds_toArray,List.set_cons_zero,List.set_cons_succ]
 have L0:=Lib.hid (H5.out.drew)
 have T0:=Lib.hid ((Step.refl (fun x=>x<wr.heap.size∧x≠rb) wr).drew)
 have hzw:wr.heap.size≤wr.drew.heap.size:=Nat.le_refl _
 generalize wr.drew=v0 at L0 T0 hzw hHeld ⊢
 clear c
 refine wpAnyH_ready (rs:=[4,21]) (by kernel_rfl) (by simp) ?_
 refine AllReadyH.cons rfl (fun K hK=> ?_) (AllReadyH.cons rfl (fun K hK=> ?_) AllReadyH.nil)
 ·go_simp
  refine(ldtext _ lb rb gb _ L0.out).mono ?_
  rintro e v1 ⟨a1,s1,rfl,g0,k0,hl,hs,-⟩
  have L1:=Lib.hid hl
  have T1:=Lib.hid (T0.out.trans (hs.imp (fun x hx=>hx.2)))
  refine hK.out _ _ ((hs.cell (p:=⟨lb,0,none⟩) hne).trans hHeld) (fun hHeld=> ?_)
  replace g0:=Lib.hid g0
  clear hK K hl hs
  try simp only [List.getElem_toArray,List.getElem_cons_zero,List.getElem_cons_succ,Act.put,List.setIfInBounds_toArray,List.set_cons_zero,List.set_cons_succ]
  refine wpAnyH_ready (rs:=[9,21]) (by kernel_rfl) (by simp) ?_
  refine AllReadyH.cons rfl (fun K hK=> ?_) (AllReadyH.cons rfl (fun K hK=> ?_) AllReadyH.nil)
  ·go_simp
   refine(ldtext _ lb rb gb _ L1.out).mono ?_
   rintro e v2 ⟨a2,s2,rfl,g1,k1,hl,hs,-⟩
   have L2:=Lib.hid hl
   have T2:=Lib.hid (T1.out.trans (hs.imp (fun x hx=>hx.2)))
   refine hK.out _ _ ((hs.cell (p:=⟨lb,0,none⟩) hne).trans hHeld) (fun hHeld=> ?_)
   replace g1:=Lib.hid g1
   clear hK K hl hs
   try simp only [List.getElem_toArray,List.getElem_cons_zero,List.getElem_cons_succ,Act.put,List.setIfInBounds_toArray,List.set_cons_zero,List.set_cons_succ]
   refine wpAnyH_ready (rs:=[14,21]) (by kernel_rfl) (by simp) ?_
   refine AllReadyH.cons rfl (fun K hK=> ?_) (AllReadyH.cons rfl (fun K hK=> ?_) AllReadyH.nil)
   ·go_simp
    refine(ldnum _ lb rb gb _ 1 L2.out (by decide)).mono ?_
    rintro e v3 ⟨a3,s3,rfl,g2,k2,hl,hs,-⟩
    have L3:=Lib.hid hl
    have T3:=Lib.hid (T2.out.trans (hs.imp (fun x hx=>hx.2)))
    refine hK.out _ _ ((hs.cell (p:=⟨lb,0,none⟩) hne).trans hHeld) (fun hHeld=> ?_)
    replace g2:=Lib.hid g2
    clear hK K hl hs
    try simp only [List.getElem_toArray,List.getElem_cons_zero,List.getElem_cons_succ,Act.put,List.setIfInBounds_toArray,List.set_cons_zero,List.set_cons_succ]
    refine wpAnyH_ready (rs:=[19,21]) (by kernel_rfl) (by simp) ?_
    refine AllReadyH.cons rfl (fun K hK=> ?_) (AllReadyH.cons rfl (fun K hK=> ?_) AllReadyH.nil)
    ·go_simp
     refine(ldnum _ lb rb gb _ 1 L3.out (by decide)).mono ?_
     rintro e v4 ⟨a4,s4,rfl,g3,k3,hl,hs,-⟩
     have L4:=Lib.hid hl
     have T4:=Lib.hid (T3.out.trans (hs.imp (fun x hx=>hx.2)))
     refine hK.out _ _ ((hs.cell (p:=⟨lb,0,none⟩) hne).trans hHeld) (fun hHeld=> ?_)
     replace g3:=Lib.hid g3
     clear hK K hl hs
     try simp only [List.getElem_toArray,List.getElem_cons_zero,List.getElem_cons_succ,Act.put,List.setIfInBounds_toArray,List.set_cons_zero,List.set_cons_succ]
     refine wpAnyH_take (i:=20) (v:= ?_) rfl (by kernel_rfl) (by kernel_rfl) (by kernel_rfl) (fun _ _ _ h=>hP _ _ _ _ (by rfl) h) (Or.inl ⟨by rfl,?_⟩) hHeld ?_
     rotate_left
     ·(intro w hSw;(try dsimp only at hSw);go_simp;try with_reducible rfl)
     simp only [List.getElem_toArray,List.getElem_cons_zero,List.getElem_cons_succ,Act.put,List.setIfInBounds_toArray,List.set_cons_zero,List.set_cons_succ]
     refine wpAnyH_ready (rs:=[21]) (by kernel_rfl) (by simp) ?_
     refine AllReadyH.cons rfl (fun K hK=> ?_) AllReadyH.nil
     go_simp
     have L5:=Lib.hid (L4.out.alloc (.cells #[.string ⟨#[]⟩,.string ⟨#[]⟩,.bool false,.int .i64 0,.bool false,.int .i64 0,.bool false,.int .i64 0,.int .i64 0] 72 (0,0)))
     have T5:=Lib.hid (T4.out.alloc (fun b hb=>by have:=hb.1;have:=T4.out.size;omega) (.cells #[.string ⟨#[]⟩,.string ⟨#[]⟩,.bool false,.int .i64 0,.bool false,.int .i64 0,.bool false,.int .i64 0,.int .i64 0] 72 (0,0)))
     have FA5:=Lib.hid (heap_alloc_new v4 (.cells #[.string ⟨#[]⟩,.string ⟨#[]⟩,.bool false,.int .i64 0,.bool false,.int .i64 0,.bool false,.int .i64 0,.int .i64 0] 72 (0,0)))
     have hjb:wr.heap.size≤v4.heap.size:=T4.out.size
     refine hK.out _ _ ((World.cell?_alloc_lt _ _ _ (World.block_lt_of_cell? _ _ hHeld)).trans hHeld) (fun hHeld=> ?_)
     clear hK K
     try simp only [List.getElem_toArray,List.getElem_cons_zero,List.getElem_cons_succ,Act.put,List.setIfInBounds_toArray,List.set_cons_zero,List.set_cons_succ]
     generalize v4.alloc (.cells #[.string ⟨#[]⟩,.string ⟨#[]⟩,.bool false,.int .i64 0,.bool false,.int .i64 0,.bool false,.int .i64 0,.int .i64 0] 72 (0,0))=v5 at *
     generalize v4.heap.size=jb at *
     refine wpAnyH_ready (rs:=[22]) (by kernel_rfl) (by simp) ?_
     refine AllReadyH.cons rfl (fun K hK=> ?_) AllReadyH.nil
     rw [if_pos (by rfl)]
     simp only [List.getElem_toArray,List.getElem_cons_succ,List.getElem_cons_zero]
     refine wp_store_row 72 (.tmp 8) (.tmp 135) rfl jb (#[.string ⟨a1.toArray⟩,.string ⟨a2.toArray⟩,.bool false,.int .i64 a3,.bool false,.int .i64 a4,.bool false,.int .i64 0,.int .i64 0]) rfl rfl _ _ FA5.out (by kernel_rfl) rfl (by simp [Value.oneCell']) ?_
     have FA6:=Lib.hid (setRow_heap _ jb _ (#[.string ⟨a1.toArray⟩,.string ⟨a2.toArray⟩,.bool false,.int .i64 a3,.bool false,.int .i64 a4,.bool false,.int .i64 0,.int .i64 0]) _ _ FA5.out)
     have L6:=Lib.hid (L5.out.step (step_setRow _ jb (#[.string ⟨a1.toArray⟩,.string ⟨a2.toArray⟩,.bool false,.int .i64 a3,.bool false,.int .i64 a4,.bool false,.int .i64 0,.int .i64 0])) (by show lb≠jb;omega) (by show rb≠jb;omega) (by show gb≠jb;omega))
     have T6:=Lib.hid (T5.out.trans ((step_setRow _ jb (#[.string ⟨a1.toArray⟩,.string ⟨a2.toArray⟩,.bool false,.int .i64 a3,.bool false,.int .i64 a4,.bool false,.int .i64 0,.int .i64 0])).imp (fun x hx=>by have:=hx.1;show x≠jb;omega)))
     refine hK.out _ _ ((cell_setRow_other _ _ _ _ (by show lb≠jb;omega)).trans hHeld) (fun hHeld=> ?_)
     clear hK K
     try simp only [List.getElem_toArray,List.getElem_cons_zero,List.getElem_cons_succ,Act.put,List.setIfInBounds_toArray,List.set_cons_zero,List.set_cons_succ]
     refine wpAnyH_done (by kernel_rfl) ?_ _
     exact HR.out _ _ jb a1 a2 a3 a4 s1 s2 s3 s4 ⟨by kernel_rfl,rfl,(by kernel_rfl),(by kernel_rfl),(by kernel_rfl),(by kernel_rfl),(by kernel_rfl),(by kernel_rfl),trivial⟩ g0.out k0 g1.out k1 g2.out k2 g3.out k3 L6.out FA6.out T6.out hjb
    ·go_simp
     have L4:=Lib.hid (L3.out.alloc (.cells #[.string ⟨#[]⟩,.string ⟨#[]⟩,.bool false,.int .i64 0,.bool false,.int .i64 0,.bool false,.int .i64 0,.int .i64 0] 72 (0,0)))
     have T4:=Lib.hid (T3.out.alloc (fun b hb=>by have:=hb.1;have:=T3.out.size;omega) (.cells #[.string ⟨#[]⟩,.string ⟨#[]⟩,.bool false,.int .i64 0,.bool false,.int .i64 0,.bool false,.int .i64 0,.int .i64 0] 72 (0,0)))
     have FA4:=Lib.hid (heap_alloc_new v3 (.cells #[.string ⟨#[]⟩,.string ⟨#[]⟩,.bool false,.int .i64 0,.bool false,.int .i64 0,.bool false,.int .i64 0,.int .i64 0] 72 (0,0)))
     have hjb:wr.heap.size≤v3.heap.size:=T3.out.size
     refine hK.out _ _ ((World.cell?_alloc_lt _ _ _ (World.block_lt_of_cell? _ _ hHeld)).trans hHeld) (fun hHeld=> ?_)
     clear hK K
     try simp only [List.getElem_toArray,List.getElem_cons_zero,List.getElem_cons_succ,Act.put,List.setIfInBounds_toArray,List.set_cons_zero,List.set_cons_succ]
     generalize v3.alloc (.cells #[.string ⟨#[]⟩,.string ⟨#[]⟩,.bool false,.int .i64 0,.bool false,.int .i64 0,.bool false,.int .i64 0,.int .i64 0] 72 (0,0))=v4 at *
     generalize v3.heap.size=jb at *
     refine wpAnyH_ready (rs:=[19]) (by kernel_rfl) (by simp) ?_
     refine AllReadyH.cons rfl (fun K hK=> ?_) AllReadyH.nil
     go_simp
     refine(ldnum _ lb rb gb _ 1 L4.out (by decide)).mono ?_
     rintro e v5 ⟨a4,s4,rfl,g3,k3,hl,hs,-⟩
     have L5:=Lib.hid hl
     have T5:=Lib.hid (T4.out.trans (hs.imp (fun x hx=>hx.2)))
     have FA5:=Lib.hid ((hs.block jb (by omega)).trans FA4.out)
     refine hK.out _ _ ((hs.cell (p:=⟨lb,0,none⟩) hne).trans hHeld) (fun hHeld=> ?_)
     replace g3:=Lib.hid g3
     clear hK K hl hs
     try simp only [List.getElem_toArray,List.getElem_cons_zero,List.getElem_cons_succ,Act.put,List.setIfInBounds_toArray,List.set_cons_zero,List.set_cons_succ]
     refine wpAnyH_take (i:=20) (v:= ?_) rfl (by kernel_rfl) (by kernel_rfl) (by kernel_rfl) (fun _ _ _ h=>hP _ _ _ _ (by rfl) h) (Or.inl ⟨by rfl,?_⟩) hHeld ?_
     rotate_left
     ·(intro w hSw;(try dsimp only at hSw);go_simp;try with_reducible rfl)
     simp only [List.getElem_toArray,List.getElem_cons_zero,List.getElem_cons_succ,Act.put,List.setIfInBounds_toArray,List.set_cons_zero,List.set_cons_succ]
     refine wpAnyH_ready (rs:=[22]) (by kernel_rfl) (by simp) ?_
     refine AllReadyH.cons rfl (fun K hK=> ?_) AllReadyH.nil
     rw [if_pos (by rfl)]
     simp only [List.getElem_toArray,List.getElem_cons_succ,List.getElem_cons_zero]
     refine wp_store_row 72 (.tmp 8) (.tmp 135) rfl jb (#[.string ⟨a1.toArray⟩,.string ⟨a2.toArray⟩,.bool false,.int .i64 a3,.bool false,.int .i64 a4,.bool false,.int .i64 0,.int .i64 0]) rfl rfl _ _ FA5.out (by kernel_rfl) rfl (by simp [Value.oneCell']) ?_
     have FA6:=Lib.hid (setRow_heap _ jb _ (#[.string ⟨a1.toArray⟩,.string ⟨a2.toArray⟩,.bool false,.int .i64 a3,.bool false,.int .i64 a4,.bool false,.int .i64 0,.int .i64 0]) _ _ FA5.out)
     have L6:=Lib.hid (L5.out.step (step_setRow _ jb (#[.string ⟨a1.toArray⟩,.string ⟨a2.toArray⟩,.bool false,.int .i64 a3,.bool false,.int .i64 a4,.bool false,.int .i64 0,.int .i64 0])) (by show lb≠jb;omega) (by show rb≠jb;omega) (by show gb≠jb;omega))
     have T6:=Lib.hid (T5.out.trans ((step_setRow _ jb (#[.string ⟨a1.toArray⟩,.string ⟨a2.toArray⟩,.bool false,.int .i64 a3,.bool false,.int .i64 a4,.bool false,.int .i64 0,.int .i64 0])).imp (fun x hx=>by have:=hx.1;show x≠jb;omega)))
     refine hK.out _ _ ((cell_setRow_other _ _ _ _ (by show lb≠jb;omega)).trans hHeld) (fun hHeld=> ?_)
     clear hK K
     try simp only [List.getElem_toArray,List.getElem_cons_zero,List.getElem_cons_succ,Act.put,List.setIfInBounds_toArray,List.set_cons_zero,List.set_cons_succ]
     refine wpAnyH_done (by kernel_rfl) ?_ _
     exact HR.out _ _ jb a1 a2 a3 a4 s1 s2 s3 s4 ⟨by kernel_rfl,rfl,(by kernel_rfl),(by kernel_rfl),(by kernel_rfl),(by kernel_rfl),(by kernel_rfl),(by kernel_rfl),trivial⟩ g0.out k0 g1.out k1 g2.out k2 g3.out k3 L6.out FA6.out T6.out hjb
   ·go_simp
    have L3:=Lib.hid (L2.out.alloc (.cells #[.string ⟨#[]⟩,.string ⟨#[]⟩,.bool false,.int .i64 0,.bool false,.int .i64 0,.bool false,.int .i64 0,.int .i64 0] 72 (0,0)))
    have T3:=Lib.hid (T2.out.alloc (fun b hb=>by have:=hb.1;have:=T2.out.size;omega) (.cells #[.string ⟨#[]⟩,.string ⟨#[]⟩,.bool false,.int .i64 0,.bool false,.int .i64 0,.bool false,.int .i64 0,.int .i64 0] 72 (0,0)))
    have FA3:=Lib.hid (heap_alloc_new v2 (.cells #[.string ⟨#[]⟩,.string ⟨#[]⟩,.bool false,.int .i64 0,.bool false,.int .i64 0,.bool false,.int .i64 0,.int .i64 0] 72 (0,0)))
    have hjb:wr.heap.size≤v2.heap.size:=T2.out.size
    refine hK.out _ _ ((World.cell?_alloc_lt _ _ _ (World.block_lt_of_cell? _ _ hHeld)).trans hHeld) (fun hHeld=> ?_)
    clear hK K
    try simp only [List.getElem_toArray,List.getElem_cons_zero,List.getElem_cons_succ,Act.put,List.setIfInBounds_toArray,List.set_cons_zero,List.set_cons_succ]
    generalize v2.alloc (.cells #[.string ⟨#[]⟩,.string ⟨#[]⟩,.bool false,.int .i64 0,.bool false,.int .i64 0,.bool false,.int .i64 0,.int .i64 0] 72 (0,0))=v3 at *
    generalize v2.heap.size=jb at *
    refine wpAnyH_ready (rs:=[14]) (by kernel_rfl) (by simp) ?_
    refine AllReadyH.cons rfl (fun K hK=> ?_) AllReadyH.nil
    go_simp
    refine(ldnum _ lb rb gb _ 1 L3.out (by decide)).mono ?_
    rintro e v4 ⟨a3,s3,rfl,g2,k2,hl,hs,-⟩
    have L4:=Lib.hid hl
    have T4:=Lib.hid (T3.out.trans (hs.imp (fun x hx=>hx.2)))
    have FA4:=Lib.hid ((hs.block jb (by omega)).trans FA3.out)
    refine hK.out _ _ ((hs.cell (p:=⟨lb,0,none⟩) hne).trans hHeld) (fun hHeld=> ?_)
    replace g2:=Lib.hid g2
    clear hK K hl hs
    try simp only [List.getElem_toArray,List.getElem_cons_zero,List.getElem_cons_succ,Act.put,List.setIfInBounds_toArray,List.set_cons_zero,List.set_cons_succ]
    refine wpAnyH_ready (rs:=[19]) (by kernel_rfl) (by simp) ?_
    refine AllReadyH.cons rfl (fun K hK=> ?_) AllReadyH.nil
    go_simp
    refine(ldnum _ lb rb gb _ 1 L4.out (by decide)).mono ?_
    rintro e v5 ⟨a4,s4,rfl,g3,k3,hl,hs,-⟩
    have L5:=Lib.hid hl
    have T5:=Lib.hid (T4.out.trans (hs.imp (fun x hx=>hx.2)))
    have FA5:=Lib.hid ((hs.block jb (by omega)).trans FA4.out)
    refine hK.out _ _ ((hs.cell (p:=⟨lb,0,none⟩) hne).trans hHeld) (fun hHeld=> ?_)
    replace g3:=Lib.hid g3
    clear hK K hl hs
    try simp only [List.getElem_toArray,List.getElem_cons_zero,List.getElem_cons_succ,Act.put,List.setIfInBounds_toArray,List.set_cons_zero,List.set_cons_succ]
    refine wpAnyH_take (i:=20) (v:= ?_) rfl (by kernel_rfl) (by kernel_rfl) (by kernel_rfl) (fun _ _ _ h=>hP _ _ _ _ (by rfl) h) (Or.inl ⟨by rfl,?_⟩) hHeld ?_
    rotate_left
    ·(intro w hSw;(try dsimp only at hSw);go_simp;try with_reducible rfl)
    simp only [List.getElem_toArray,List.getElem_cons_zero,List.getElem_cons_succ,Act.put,List.setIfInBounds_toArray,List.set_cons_zero,List.set_cons_succ]
    refine wpAnyH_ready (rs:=[22]) (by kernel_rfl) (by simp) ?_
    refine AllReadyH.cons rfl (fun K hK=> ?_) AllReadyH.nil
    rw [if_pos (by rfl)]
    simp only [List.getElem_toArray,List.getElem_cons_succ,List.getElem_cons_zero]
    refine wp_store_row 72 (.tmp 8) (.tmp 135) rfl jb (#[.string ⟨a1.toArray⟩,.string ⟨a2.toArray⟩,.bool false,.int .i64 a3,.bool false,.int .i64 a4,.bool false,.int .i64 0,.int .i64 0]) rfl rfl _ _ FA5.out (by kernel_rfl) rfl (by simp [Value.oneCell']) ?_
    have FA6:=Lib.hid (setRow_heap _ jb _ (#[.string ⟨a1.toArray⟩,.string ⟨a2.toArray⟩,.bool false,.int .i64 a3,.bool false,.int .i64 a4,.bool false,.int .i64 0,.int .i64 0]) _ _ FA5.out)
    have L6:=Lib.hid (L5.out.step (step_setRow _ jb (#[.string ⟨a1.toArray⟩,.string ⟨a2.toArray⟩,.bool false,.int .i64 a3,.bool false,.int .i64 a4,.bool false,.int .i64 0,.int .i64 0])) (by show lb≠jb;omega) (by show rb≠jb;omega) (by show gb≠jb;omega))
    have T6:=Lib.hid (T5.out.trans ((step_setRow _ jb (#[.string ⟨a1.toArray⟩,.string ⟨a2.toArray⟩,.bool false,.int .i64 a3,.bool false,.int .i64 a4,.bool false,.int .i64 0,.int .i64 0])).imp (fun x hx=>by have:=hx.1;show x≠jb;omega)))
    refine hK.out _ _ ((cell_setRow_other _ _ _ _ (by show lb≠jb;omega)).trans hHeld) (fun hHeld=> ?_)
    clear hK K
    try simp only [List.getElem_toArray,List.getElem_cons_zero,List.getElem_cons_succ,Act.put,List.setIfInBounds_toArray,List.set_cons_zero,List.set_cons_succ]
    refine wpAnyH_done (by kernel_rfl) ?_ _
    exact HR.out _ _ jb a1 a2 a3 a4 s1 s2 s3 s4 ⟨by kernel_rfl,rfl,(by kernel_rfl),(by kernel_rfl),(by kernel_rfl),(by kernel_rfl),(by kernel_rfl),(by kernel_rfl),trivial⟩ g0.out k0 g1.out k1 g2.out k2 g3.out k3 L6.out FA6.out T6.out hjb
  ·go_simp
   have L2:=Lib.hid (L1.out.alloc (.cells #[.string ⟨#[]⟩,.string ⟨#[]⟩,.bool false,.int .i64 0,.bool false,.int .i64 0,.bool false,.int .i64 0,.int .i64 0] 72 (0,0)))
   have T2:=Lib.hid (T1.out.alloc (fun b hb=>by have:=hb.1;have:=T1.out.size;omega) (.cells #[.string ⟨#[]⟩,.string ⟨#[]⟩,.bool false,.int .i64 0,.bool false,.int .i64 0,.bool false,.int .i64 0,.int .i64 0] 72 (0,0)))
   have FA2:=Lib.hid (heap_alloc_new v1 (.cells #[.string ⟨#[]⟩,.string ⟨#[]⟩,.bool false,.int .i64 0,.bool false,.int .i64 0,.bool false,.int .i64 0,.int .i64 0] 72 (0,0)))
   have hjb:wr.heap.size≤v1.heap.size:=T1.out.size
   refine hK.out _ _ ((World.cell?_alloc_lt _ _ _ (World.block_lt_of_cell? _ _ hHeld)).trans hHeld) (fun hHeld=> ?_)
   clear hK K
   try simp only [List.getElem_toArray,List.getElem_cons_zero,List.getElem_cons_succ,Act.put,List.setIfInBounds_toArray,List.set_cons_zero,List.set_cons_succ]
   generalize v1.alloc (.cells #[.string ⟨#[]⟩,.string ⟨#[]⟩,.bool false,.int .i64 0,.bool false,.int .i64 0,.bool false,.int .i64 0,.int .i64 0] 72 (0,0))=v2 at *
   generalize v1.heap.size=jb at *
   refine wpAnyH_ready (rs:=[9]) (by kernel_rfl) (by simp) ?_
   refine AllReadyH.cons rfl (fun K hK=> ?_) AllReadyH.nil
   go_simp
   refine(ldtext _ lb rb gb _ L2.out).mono ?_
   rintro e v3 ⟨a2,s2,rfl,g1,k1,hl,hs,-⟩
   have L3:=Lib.hid hl
   have T3:=Lib.hid (T2.out.trans (hs.imp (fun x hx=>hx.2)))
   have FA3:=Lib.hid ((hs.block jb (by omega)).trans FA2.out)
   refine hK.out _ _ ((hs.cell (p:=⟨lb,0,none⟩) hne).trans hHeld) (fun hHeld=> ?_)
   replace g1:=Lib.hid g1
   clear hK K hl hs
   try simp only [List.getElem_toArray,List.getElem_cons_zero,List.getElem_cons_succ,Act.put,List.setIfInBounds_toArray,List.set_cons_zero,List.set_cons_succ]
   refine wpAnyH_ready (rs:=[14]) (by kernel_rfl) (by simp) ?_
   refine AllReadyH.cons rfl (fun K hK=> ?_) AllReadyH.nil
   go_simp
   refine(ldnum _ lb rb gb _ 1 L3.out (by decide)).mono ?_
   rintro e v4 ⟨a3,s3,rfl,g2,k2,hl,hs,-⟩
   have L4:=Lib.hid hl
   have T4:=Lib.hid (T3.out.trans (hs.imp (fun x hx=>hx.2)))
   have FA4:=Lib.hid ((hs.block jb (by omega)).trans FA3.out)
   refine hK.out _ _ ((hs.cell (p:=⟨lb,0,none⟩) hne).trans hHeld) (fun hHeld=> ?_)
   replace g2:=Lib.hid g2
   clear hK K hl hs
   try simp only [List.getElem_toArray,List.getElem_cons_zero,List.getElem_cons_succ,Act.put,List.setIfInBounds_toArray,List.set_cons_zero,List.set_cons_succ]
   refine wpAnyH_ready (rs:=[19]) (by kernel_rfl) (by simp) ?_
   refine AllReadyH.cons rfl (fun K hK=> ?_) AllReadyH.nil
   go_simp
   refine(ldnum _ lb rb gb _ 1 L4.out (by decide)).mono ?_
   rintro e v5 ⟨a4,s4,rfl,g3,k3,hl,hs,-⟩
   have L5:=Lib.hid hl
   have T5:=Lib.hid (T4.out.trans (hs.imp (fun x hx=>hx.2)))
   have FA5:=Lib.hid ((hs.block jb (by omega)).trans FA4.out)
   refine hK.out _ _ ((hs.cell (p:=⟨lb,0,none⟩) hne).trans hHeld) (fun hHeld=> ?_)
   replace g3:=Lib.hid g3
   clear hK K hl hs
   try simp only [List.getElem_toArray,List.getElem_cons_zero,List.getElem_cons_succ,Act.put,List.setIfInBounds_toArray,List.set_cons_zero,List.set_cons_succ]
   refine wpAnyH_take (i:=20) (v:= ?_) rfl (by kernel_rfl) (by kernel_rfl) (by kernel_rfl) (fun _ _ _ h=>hP _ _ _ _ (by rfl) h) (Or.inl ⟨by rfl,?_⟩) hHeld ?_
   rotate_left
   ·(intro w hSw;(try dsimp only at hSw);go_simp;try with_reducible rfl)
   simp only [List.getElem_toArray,List.getElem_cons_zero,List.getElem_cons_succ,Act.put,List.setIfInBounds_toArray,List.set_cons_zero,List.set_cons_succ]
   refine wpAnyH_ready (rs:=[22]) (by kernel_rfl) (by simp) ?_
   refine AllReadyH.cons rfl (fun K hK=> ?_) AllReadyH.nil
   rw [if_pos (by rfl)]
   simp only [List.getElem_toArray,List.getElem_cons_succ,List.getElem_cons_zero]
   refine wp_store_row 72 (.tmp 8) (.tmp 135) rfl jb (#[.string ⟨a1.toArray⟩,.string ⟨a2.toArray⟩,.bool false,.int .i64 a3,.bool false,.int .i64 a4,.bool false,.int .i64 0,.int .i64 0]) rfl rfl _ _ FA5.out (by kernel_rfl) rfl (by simp [Value.oneCell']) ?_
   have FA6:=Lib.hid (setRow_heap _ jb _ (#[.string ⟨a1.toArray⟩,.string ⟨a2.toArray⟩,.bool false,.int .i64 a3,.bool false,.int .i64 a4,.bool false,.int .i64 0,.int .i64 0]) _ _ FA5.out)
   have L6:=Lib.hid (L5.out.step (step_setRow _ jb (#[.string ⟨a1.toArray⟩,.string ⟨a2.toArray⟩,.bool false,.int .i64 a3,.bool false,.int .i64 a4,.bool false,.int .i64 0,.int .i64 0])) (by show lb≠jb;omega) (by show rb≠jb;omega) (by show gb≠jb;omega))
   have T6:=Lib.hid (T5.out.trans ((step_setRow _ jb (#[.string ⟨a1.toArray⟩,.string ⟨a2.toArray⟩,.bool false,.int .i64 a3,.bool false,.int .i64 a4,.bool false,.int .i64 0,.int .i64 0])).imp (fun x hx=>by have:=hx.1;show x≠jb;omega)))
   refine hK.out _ _ ((cell_setRow_other _ _ _ _ (by show lb≠jb;omega)).trans hHeld) (fun hHeld=> ?_)
   clear hK K
   try simp only [List.getElem_toArray,List.getElem_cons_zero,List.getElem_cons_succ,Act.put,List.setIfInBounds_toArray,List.set_cons_zero,List.set_cons_succ]
   refine wpAnyH_done (by kernel_rfl) ?_ _
   exact HR.out _ _ jb a1 a2 a3 a4 s1 s2 s3 s4 ⟨by kernel_rfl,rfl,(by kernel_rfl),(by kernel_rfl),(by kernel_rfl),(by kernel_rfl),(by kernel_rfl),(by kernel_rfl),trivial⟩ g0.out k0 g1.out k1 g2.out k2 g3.out k3 L6.out FA6.out T6.out hjb
 ·go_simp
  have L1:=Lib.hid (L0.out.alloc (.cells #[.string ⟨#[]⟩,.string ⟨#[]⟩,.bool false,.int .i64 0,.bool false,.int .i64 0,.bool false,.int .i64 0,.int .i64 0] 72 (0,0)))
  have T1:=Lib.hid (T0.out.alloc (fun b hb=>by have:=hb.1;have:=T0.out.size;omega) (.cells #[.string ⟨#[]⟩,.string ⟨#[]⟩,.bool false,.int .i64 0,.bool false,.int .i64 0,.bool false,.int .i64 0,.int .i64 0] 72 (0,0)))
  have FA1:=Lib.hid (heap_alloc_new v0 (.cells #[.string ⟨#[]⟩,.string ⟨#[]⟩,.bool false,.int .i64 0,.bool false,.int .i64 0,.bool false,.int .i64 0,.int .i64 0] 72 (0,0)))
  have hjb:wr.heap.size≤v0.heap.size:=T0.out.size
  refine hK.out _ _ ((World.cell?_alloc_lt _ _ _ (World.block_lt_of_cell? _ _ hHeld)).trans hHeld) (fun hHeld=> ?_)
  clear hK K
  try simp only [List.getElem_toArray,List.getElem_cons_zero,List.getElem_cons_succ,Act.put,List.setIfInBounds_toArray,List.set_cons_zero,List.set_cons_succ]
  generalize v0.alloc (.cells #[.string ⟨#[]⟩,.string ⟨#[]⟩,.bool false,.int .i64 0,.bool false,.int .i64 0,.bool false,.int .i64 0,.int .i64 0] 72 (0,0))=v1 at *
  generalize v0.heap.size=jb at *
  refine wpAnyH_ready (rs:=[4]) (by kernel_rfl) (by simp) ?_
  refine AllReadyH.cons rfl (fun K hK=> ?_) AllReadyH.nil
  go_simp
  refine(ldtext _ lb rb gb _ L1.out).mono ?_
  rintro e v2 ⟨a1,s1,rfl,g0,k0,hl,hs,-⟩
  have L2:=Lib.hid hl
  have T2:=Lib.hid (T1.out.trans (hs.imp (fun x hx=>hx.2)))
  have FA2:=Lib.hid ((hs.block jb (by omega)).trans FA1.out)
  refine hK.out _ _ ((hs.cell (p:=⟨lb,0,none⟩) hne).trans hHeld) (fun hHeld=> ?_)
  replace g0:=Lib.hid g0
  clear hK K hl hs
  try simp only [List.getElem_toArray,List.getElem_cons_zero,List.getElem_cons_succ,Act.put,List.setIfInBounds_toArray,List.set_cons_zero,List.set_cons_succ]
  refine wpAnyH_ready (rs:=[9]) (by kernel_rfl) (by simp) ?_
  refine AllReadyH.cons rfl (fun K hK=> ?_) AllReadyH.nil
  go_simp
  refine(ldtext _ lb rb gb _ L2.out).mono ?_
  rintro e v3 ⟨a2,s2,rfl,g1,k1,hl,hs,-⟩
  have L3:=Lib.hid hl
  have T3:=Lib.hid (T2.out.trans (hs.imp (fun x hx=>hx.2)))
  have FA3:=Lib.hid ((hs.block jb (by omega)).trans FA2.out)
  refine hK.out _ _ ((hs.cell (p:=⟨lb,0,none⟩) hne).trans hHeld) (fun hHeld=> ?_)
  replace g1:=Lib.hid g1
  clear hK K hl hs
  try simp only [List.getElem_toArray,List.getElem_cons_zero,List.getElem_cons_succ,Act.put,List.setIfInBounds_toArray,List.set_cons_zero,List.set_cons_succ]
  refine wpAnyH_ready (rs:=[14]) (by kernel_rfl) (by simp) ?_
  refine AllReadyH.cons rfl (fun K hK=> ?_) AllReadyH.nil
  go_simp
  refine(ldnum _ lb rb gb _ 1 L3.out (by decide)).mono ?_
  rintro e v4 ⟨a3,s3,rfl,g2,k2,hl,hs,-⟩
  have L4:=Lib.hid hl
  have T4:=Lib.hid (T3.out.trans (hs.imp (fun x hx=>hx.2)))
  have FA4:=Lib.hid ((hs.block jb (by omega)).trans FA3.out)
  refine hK.out _ _ ((hs.cell (p:=⟨lb,0,none⟩) hne).trans hHeld) (fun hHeld=> ?_)
  replace g2:=Lib.hid g2
  clear hK K hl hs
  try simp only [List.getElem_toArray,List.getElem_cons_zero,List.getElem_cons_succ,Act.put,List.setIfInBounds_toArray,List.set_cons_zero,List.set_cons_succ]
  refine wpAnyH_ready (rs:=[19]) (by kernel_rfl) (by simp) ?_
  refine AllReadyH.cons rfl (fun K hK=> ?_) AllReadyH.nil
  go_simp
  refine(ldnum _ lb rb gb _ 1 L4.out (by decide)).mono ?_
  rintro e v5 ⟨a4,s4,rfl,g3,k3,hl,hs,-⟩
  have L5:=Lib.hid hl
  have T5:=Lib.hid (T4.out.trans (hs.imp (fun x hx=>hx.2)))
  have FA5:=Lib.hid ((hs.block jb (by omega)).trans FA4.out)
  refine hK.out _ _ ((hs.cell (p:=⟨lb,0,none⟩) hne).trans hHeld) (fun hHeld=> ?_)
  replace g3:=Lib.hid g3
  clear hK K hl hs
  try simp only [List.getElem_toArray,List.getElem_cons_zero,List.getElem_cons_succ,Act.put,List.setIfInBounds_toArray,List.set_cons_zero,List.set_cons_succ]
  refine wpAnyH_take (i:=20) (v:= ?_) rfl (by kernel_rfl) (by kernel_rfl) (by kernel_rfl) (fun _ _ _ h=>hP _ _ _ _ (by rfl) h) (Or.inl ⟨by rfl,?_⟩) hHeld ?_
  rotate_left
  ·(intro w hSw;(try dsimp only at hSw);go_simp;try with_reducible rfl)
  simp only [List.getElem_toArray,List.getElem_cons_zero,List.getElem_cons_succ,Act.put,List.setIfInBounds_toArray,List.set_cons_zero,List.set_cons_succ]
  refine wpAnyH_ready (rs:=[22]) (by kernel_rfl) (by simp) ?_
  refine AllReadyH.cons rfl (fun K hK=> ?_) AllReadyH.nil
  rw [if_pos (by rfl)]
  simp only [List.getElem_toArray,List.getElem_cons_succ,List.getElem_cons_zero]
  refine wp_store_row 72 (.tmp 8) (.tmp 135) rfl jb (#[.string ⟨a1.toArray⟩,.string ⟨a2.toArray⟩,.bool false,.int .i64 a3,.bool false,.int .i64 a4,.bool false,.int .i64 0,.int .i64 0]) rfl rfl _ _ FA5.out (by kernel_rfl) rfl (by simp [Value.oneCell']) ?_
  have FA6:=Lib.hid (setRow_heap _ jb _ (#[.string ⟨a1.toArray⟩,.string ⟨a2.toArray⟩,.bool false,.int .i64 a3,.bool false,.int .i64 a4,.bool false,.int .i64 0,.int .i64 0]) _ _ FA5.out)
  have L6:=Lib.hid (L5.out.step (step_setRow _ jb (#[.string ⟨a1.toArray⟩,.string ⟨a2.toArray⟩,.bool false,.int .i64 a3,.bool false,.int .i64 a4,.bool false,.int .i64 0,.int .i64 0])) (by show lb≠jb;omega) (by show rb≠jb;omega) (by show gb≠jb;omega))
  have T6:=Lib.hid (T5.out.trans ((step_setRow _ jb (#[.string ⟨a1.toArray⟩,.string ⟨a2.toArray⟩,.bool false,.int .i64 a3,.bool false,.int .i64 a4,.bool false,.int .i64 0,.int .i64 0])).imp (fun x hx=>by have:=hx.1;show x≠jb;omega)))
  refine hK.out _ _ ((cell_setRow_other _ _ _ _ (by show lb≠jb;omega)).trans hHeld) (fun hHeld=> ?_)
  clear hK K
  try simp only [List.getElem_toArray,List.getElem_cons_zero,List.getElem_cons_succ,Act.put,List.setIfInBounds_toArray,List.set_cons_zero,List.set_cons_succ]
  refine wpAnyH_done (by kernel_rfl) ?_ _
  exact HR.out _ _ jb a1 a2 a3 a4 s1 s2 s3 s4 ⟨by kernel_rfl,rfl,(by kernel_rfl),(by kernel_rfl),(by kernel_rfl),(by kernel_rfl),(by kernel_rfl),(by kernel_rfl),trivial⟩ g0.out k0 g1.out k1 g2.out k2 g3.out k3 L6.out FA6.out T6.out hjb
end Go.Proofs.YtfchpchabdhcgaaGreat
namespace Go.Proofs.YtfchpchabdhcgaaGreat
open Go.RowKit
theorem dloop3 {Q:Exit→Act→World→Prop} (hP:∀ x a a' w,a'.defers=a.defers→Q (.panic x) a w→Q (.panic x) a' w) {a:Act} {w5:World} {z lb rb gb ib:Nat} {s:Option (List UInt8)} {name:List UInt8} {flags sh tl:Int} {y0 y1 y2 y4 y5 y6 y7 y8 y9 y10:Value} (hF:Fr [(2,.pointer (some ⟨z,0,none⟩)),(4,.pointer (some ⟨lb,0,none⟩)),(5,.pointer (some ⟨ib,0,none⟩))] a) (hL:LD lb rb gb w5 s) (hX:w5.heap[ib]? =some (imgBlock name flags ⟨y0,y1,y2,.slice none 0 0,y4,y5,y6,y7,y8,y9,y10⟩ sh tl)) (hir:ib≠rb) (hil:ib≠lb) (hig:ib≠gb) (hne:lb≠rb) (hng:lb≠gb) (hib5:ib<w5.heap.size)
  (hQ:∀ (a':Act) (w':World) (m:Nat) (xs:List SymL) (s1 s2:Option (List UInt8)) (v:Value),Fr [(2,.pointer (some ⟨z,0,none⟩)),(4,.pointer (some ⟨lb,0,none⟩)),(5,.pointer (some ⟨ib,0,none⟩))] a'→Got (numP 2) s m s1→okLen 2 m→xs.length=m→Got (manyP symP m) s1 xs s2→(∀ x∈xs,okSym x)→LD lb rb gb w' s2→w'.heap[ib]? =some (imgBlock name flags ⟨y0,y1,y2,v,y4,y5,y6,y7,y8,y9,y10⟩ sh tl)→Step (fun x=>x<w5.heap.size∧x≠rb∧x≠lb∧x≠ib) w5 w'→LB kSym (fun b=>w5.heap.size≤b∧b<w'.heap.size) w' v xs→Q .normal a' w'):(dCode Tryz.f6 7).wp Tryz.prog Q a w5:=by
 have L5:=Lib.hid hL
 have X5:=Lib.hid hX
 have HQ:=Lib.hid hQ
 have hz5:w5.heap.size≤w5.heap.size:=Nat.le_refl _
 have hlb5:=hL.lt
 have hrb5:=hL.rblt
 have hgb5:=hL.gblt
 clear hL hX hQ
 apply Fr.elim hF
 clear hF
 intro _ _
 intro V2
 intro _
 intro V4
 intro V5
 iterate 326 (intro _)
 intro hF
 obtain⟨-,-,e2,e4,e5,-⟩:=hF
 replace e2:V2=.pointer (some ⟨z,0,none⟩):=e2
 subst e2
 replace e4:V4=.pointer (some ⟨lb,0,none⟩):=e4
 subst e4
 replace e5:V5=.pointer (some ⟨ib,0,none⟩):=e5
 subst e5
 conv in dCode Tryz.f6 7=>whnf
 have c5:=L5.out.cell
 have HN:=Lib.hid (ldnum w5 lb rb gb s 2 L5.out (by decide))
 go_wp2_with fail
 refine HN.out.mono ?_
 rintro e w6 ⟨n1,t5,rfl,hg,hk,hl,hs,-⟩
 have Gn1:=Lib.hid hg
 have Kn1:=Lib.hid hk
 have L6:=Lib.hid hl
 have X6:=Lib.hid ((hs.block ib hir).trans X5.out)
 have hz6:w5.heap.size≤w6.heap.size:=Nat.le_trans hz5 hs.size
 have Q6:=Lib.hid (hs.imp (S':=fun x=>x<w5.heap.size∧x≠rb∧x≠lb∧x≠ib) (fun x hx=>hx.2.1))
 clear hg hk hl hs HN c5 X5 L5
 obtain⟨m1,rfl,hmm1⟩:=okN_idx (by decide) Kn1.out
 have hm1:m1<65536:=hmm1
 go_wp2_with fail
 refine wp_loop_n (k:=113) (m:=m1) (fun q a wr=>q≤m1∧Fr [(2,.pointer (some ⟨z,0,none⟩)),(4,.pointer (some ⟨lb,0,none⟩)),(5,.pointer (some ⟨ib,0,none⟩)),(112,.int .i64 m1),(113,.int .i64 q)] a∧∃ v,wr.heap[ib]? =some (imgBlock name flags ⟨y0,y1,y2,v,y4,y5,y6,y7,y8,y9,y10⟩ sh tl)∧LQ 72 kSym symP okSym lb rb gb (fun x=>x≠rb∧x≠lb∧x≠ib) w6 t5 wr v q) ?_ ?_ ?_
 ·exact fun q a w h=>⟨h.1,FrL.get h.2.1.2.2 (113,.int .i64 q) (by simp)⟩
 ·exact⟨Nat.zero_le _,⟨by kernel_rfl,rfl,(by kernel_rfl),(by kernel_rfl),(by kernel_rfl),(by kernel_rfl),(by kernel_rfl),trivial⟩,_,X6.out,.start L6.out⟩
 clear X6 L6
 intro q a wr K hq hI HK
 obtain⟨-,hF,v,hX,hlq⟩:=hI
 replace HK:=Lib.hid HK
 apply Fr.elim hF
 clear hF
 intro _ _
 intro V2
 intro _
 intro V4
 intro V5
 iterate 106 (intro _)
 intro V112
 intro V113
 iterate 218 (intro _)
 intro hF
 obtain⟨-,-,e2,e4,e5,e112,e113,-⟩:=hF
 replace e2:V2=.pointer (some ⟨z,0,none⟩):=e2
 subst e2
 replace e4:V4=.pointer (some ⟨lb,0,none⟩):=e4
 subst e4
 replace e5:V5=.pointer (some ⟨ib,0,none⟩):=e5
 subst e5
 replace e112:V112=.int .i64 m1:=e112
 subst e112
 replace e113:V113=.int .i64 q:=e113
 subst e113
 by_cases hlt:q<m1
 ·clear HQ Gn1 Kn1 Q6
  obtain⟨xs,s0,h1,h2,h3,h4,h5,h6⟩:=hlq
  obtain⟨oa,oc,rfl⟩:=h1.form
  rw [h2]at h1 hX
  have H1:=Lib.hid h1
  have H2:=Lib.hid h2
  have H3:=Lib.hid h3
  have H4:=Lib.hid h4
  have H5:=Lib.hid h5
  have H6:=Lib.hid h6
  have HX:=Lib.hid hX
  have hwr:=h6.size
  have c:=h5.cell
  clear h1 h2 h3 h4 h5 h6 hX
  have hrl:rb<wr.heap.size:=by omega
  have hll:lb<wr.heap.size:=by omega
  have hgl2:gb<wr.heap.size:=by omega
  go_upto_region 19 with fail
  refine dreg3 ?_ (z:=z) (ib:=ib) (v1:=.int .i64 m1) (v2:=.int .i64 q) ?_ H5.out hne hng ?_
  ·exact fun x a a' w e h=>hP x a a' w e h
  ·exact⟨by kernel_rfl,rfl,(by kernel_rfl),(by kernel_rfl),(by kernel_rfl),(by kernel_rfl),(by kernel_rfl),trivial⟩
  rintro a wc sb a1 a2 a3 a4 s1 s2 s3 s4 hF hg1 hk1 hg2 hk2 hg3 hk3 hg4 hk4 hl hS hT hsb
  apply Fr.elim hF
  clear hF
  intro _ _
  intro V2
  intro _
  intro V4
  intro V5
  intro _ _
  intro V8
  iterate 103 (intro _)
  intro V112
  intro V113
  iterate 218 (intro _)
  intro hF
  obtain⟨-,-,e2,e4,e5,e112,e113,e8,-⟩:=hF
  replace e2:V2=.pointer (some ⟨z,0,none⟩):=e2
  subst e2
  replace e4:V4=.pointer (some ⟨lb,0,none⟩):=e4
  subst e4
  replace e5:V5=.pointer (some ⟨ib,0,none⟩):=e5
  subst e5
  replace e112:V112=.int .i64 m1:=e112
  subst e112
  replace e113:V113=.int .i64 q:=e113
  subst e113
  replace e8:V8=.pointer (some ⟨sb,0,none⟩):=e8
  subst e8
  have g1:=Lib.hid hg1
  have g2:=Lib.hid hg2
  have g3:=Lib.hid hg3
  have g4:=Lib.hid hg4
  have k1:=Lib.hid hk1
  have k2:=Lib.hid hk2
  have k3:=Lib.hid hk3
  have k4:=Lib.hid hk4
  have L0:=Lib.hid hl
  have FS0:=Lib.hid hS
  have T0:=Lib.hid (hT.imp (S':=fun x=>x<wr.heap.size∧x≠rb∧x≠lb) (fun x hx=>⟨hx.1,hx.2.1⟩))
  have hsbl:sb<wc.heap.size:=by
   rcases Nat.lt_or_ge sb wc.heap.size with h | h
   ·exact h
   ·rw [Array.getElem?_eq_none h]at hS;cases hS
  have hzc:=hT.size
  clear hg1 hg2 hk1 hk2 hg3 hk3 hg4 hk4 hl hS hT
  have HN:=Lib.hid (ldbit wc lb rb gb _ L0.out)
  go_wp2_with fail
  refine HN.out.mono ?_
  clear HN
  rintro e v1 ⟨b1,s5,rfl,gb1,hl,hs⟩
  have hzv1:=hs.size
  have L1:=Lib.hid hl
  replace gb1:=Lib.hid gb1
  have T1:=Lib.hid (T0.out.trans (hs.imp (fun x hx=>⟨hx.2.1,hx.2.2⟩)))
  have FS1:=Lib.hid ((hs.block sb ⟨by show sb≠rb;omega,by show sb≠lb;omega⟩).trans FS0.out)
  clear hl hs L0 T0
  have HN:=Lib.hid (ldbit v1 lb rb gb _ L1.out)
  go_wp2_with fail
  refine HN.out.mono ?_
  clear HN
  rintro e v2 ⟨b2,s6,rfl,gb2,hl,hs⟩
  have hzv2:=hs.size
  have L2:=Lib.hid hl
  replace gb2:=Lib.hid gb2
  have T2:=Lib.hid (T1.out.trans (hs.imp (fun x hx=>⟨hx.2.1,hx.2.2⟩)))
  have FS2:=Lib.hid ((hs.block sb ⟨by show sb≠rb;omega,by show sb≠lb;omega⟩).trans FS1.out)
  clear hl hs L1 T1
  have HN:=Lib.hid (ldbit v2 lb rb gb _ L2.out)
  go_wp2_with fail
  refine HN.out.mono ?_
  clear HN
  rintro e v3 ⟨b3,s7,rfl,gb3,hl,hs⟩
  have hzv3:=hs.size
  have L3:=Lib.hid hl
  replace gb3:=Lib.hid gb3
  have T3:=Lib.hid (T2.out.trans (hs.imp (fun x hx=>⟨hx.2.1,hx.2.2⟩)))
  have FS3:=Lib.hid ((hs.block sb ⟨by show sb≠rb;omega,by show sb≠lb;omega⟩).trans FS2.out)
  clear hl hs L2 T2
  have c2:v3.cell? ⟨sb,2,none⟩=some (.bool false):=by rw [Lib.cell_of_heap FS3.out];rfl
  have c4:v3.cell? ⟨sb,4,none⟩=some (.bool false):=by rw [Lib.cell_of_heap FS3.out];rfl
  have c6:v3.cell? ⟨sb,6,none⟩=some (.bool false):=by rw [Lib.cell_of_heap FS3.out];rfl
  have f2:v3.frozen? ⟨sb,2,none⟩=false:=Lib.frozen_of_heap FS3.out 2
  have f4:v3.frozen? ⟨sb,4,none⟩=false:=Lib.frozen_of_heap FS3.out 4
  have f6:v3.frozen? ⟨sb,6,none⟩=false:=Lib.frozen_of_heap FS3.out 6
  go_upto_region 21 with fail
  have FS4:=Lib.hid (setCell_row (k:=6) (.bool b3) (setCell_row (k:=4) (.bool b2) (setCell_row (k:=2) (.bool b1) FS3.out)))
  have hnl:lb≠sb∧rb≠sb∧gb≠sb:=by omega
  have L4:=Lib.hid (((L3.out.step (setCell_step _ sb 2 (.bool b1)) hnl.1 hnl.2.1 hnl.2.2).step (setCell_step _ sb 4 (.bool b2)) hnl.1 hnl.2.1 hnl.2.2).step (setCell_step _ sb 6 (.bool b3)) hnl.1 hnl.2.1 hnl.2.2)
  have T4:=Lib.hid (((T3.out.trans ((setCell_step _ sb 2 (.bool b1)).imp (fun x hx=>by have:=hx.1;show x≠sb;omega))).trans ((setCell_step _ sb 4 (.bool b2)).imp (fun x hx=>by have:=hx.1;show x≠sb;omega))).trans ((setCell_step _ sb 6 (.bool b3)).imp (fun x hx=>by have:=hx.1;show x≠sb;omega)))
  have hz4:v3.heap.size≤(((v3.setCell ⟨sb,2,none⟩ (.bool b1)).setCell ⟨sb,4,none⟩ (.bool b2)).setCell ⟨sb,6,none⟩ (.bool b3)).heap.size:=by simp
  generalize ((v3.setCell ⟨sb,2,none⟩ (.bool b1)).setCell ⟨sb,4,none⟩ (.bool b2)).setCell ⟨sb,6,none⟩ (.bool b3)=v4 at *
  clear c2 c4 c6 f2 f4 f6 FS3 L3 T3 hnl
  have c':=L4.out.cell
  refine wp_region_held_drew (S:=fun w'=>w'.cell? ⟨lb,0,none⟩=some (.pointer (some ⟨rb,0,none⟩))) (by kernel_rfl) c' (fun hHeld=> ?_)
  refine wpAnyH_take (i:=0) (v:= ?_) rfl (by kernel_rfl) (by kernel_rfl) (by kernel_rfl) (fun _ _ _ h=>hP _ _ _ _ (by rfl) h) (Or.inl ⟨by rfl,?_⟩) hHeld ?_
  rotate_left
  ·(intro w hSw;(try dsimp only at hSw);go_simp;try with_reducible rfl)
  simp only [List.getElem_toArray,List.getElem_cons_zero,List.getElem_cons_succ,Act.put,List.setIfInBounds_toArray,List.set_cons_zero,List.set_cons_succ]
  refine wpAnyH_take (i:=1) (v:= ?_) rfl (by kernel_rfl) (by kernel_rfl) (by kernel_rfl) (fun _ _ _ h=>hP _ _ _ _ (by rfl) h) (Or.inl ⟨by rfl,?_⟩) hHeld ?_
  rotate_left
  ·(intro w hSw;(try dsimp only at hSw);go_simp;try with_reducible rfl)
  simp only [List.getElem_toArray,List.getElem_cons_zero,List.getElem_cons_succ,Act.put,List.setIfInBounds_toArray,List.set_cons_zero,List.set_cons_succ]
  refine wpAnyH_take (i:=2) (v:= ?_) rfl (by kernel_rfl) (by kernel_rfl) (by kernel_rfl) (fun _ _ _ h=>hP _ _ _ _ (by rfl) h) (Or.inl ⟨by rfl,?_⟩) hHeld ?_
  rotate_left
  ·(intro w hSw;(try dsimp only at hSw);go_simp;try with_reducible rfl)
  simp only [List.getElem_toArray,List.getElem_cons_zero,List.getElem_cons_succ,Act.put,List.setIfInBounds_toArray,List.set_cons_zero,List.set_cons_succ]
  refine wpAnyH_take (i:=3) (v:= ?_) rfl (by kernel_rfl) (by kernel_rfl) (by kernel_rfl) (fun _ _ _ h=>hP _ _ _ _ (by rfl) h) (Or.inl ⟨by rfl,?_⟩) hHeld ?_
  rotate_left
  ·(intro w hSw;(try dsimp only at hSw);go_simp;try with_reducible rfl)
  simp only [List.getElem_toArray,List.getElem_cons_zero,List.getElem_cons_succ,Act.put,List.setIfInBounds_toArray,List.set_cons_zero,List.set_cons_succ]
  refine wpAnyH_take (i:=5) (v:= ?_) rfl (by kernel_rfl) (by kernel_rfl) (by kernel_rfl) (fun _ _ _ h=>hP _ _ _ _ (by rfl) h) (Or.inl ⟨by rfl,?_⟩) hHeld ?_
  rotate_left
  ·(intro w hSw;(try dsimp only at hSw);go_simp;try with_reducible rfl)
  simp only [List.getElem_toArray,List.getElem_cons_zero,List.getElem_cons_succ,Act.put,List.setIfInBounds_toArray,List.set_cons_zero,List.set_cons_succ]
  refine wpAnyH_take (i:=6) (v:= ?_) rfl (by kernel_rfl) (by kernel_rfl) (by kernel_rfl) (fun _ _ _ h=>hP _ _ _ _ (by rfl) h) (Or.inl ⟨by rfl,?_⟩) hHeld ?_
  rotate_left
  ·(intro w hSw;(try dsimp only at hSw);go_simp;try with_reducible rfl)
  simp only [List.getElem_toArray,List.getElem_cons_zero,List.getElem_cons_succ,Act.put,List.setIfInBounds_toArray,List.set_cons_zero,List.set_cons_succ]
  refine wpAnyH_take (i:=7) (v:= ?_) rfl (by kernel_rfl) (by kernel_rfl) (by kernel_rfl) (fun _ _ _ h=>hP _ _ _ _ (by rfl) h) (Or.inl ⟨by rfl,?_⟩) hHeld ?_
  rotate_left
  ·(intro w hSw;(try dsimp only at hSw);go_simp;try with_reducible rfl)
  simp only [List.getElem_toArray,List.getElem_cons_zero,List.getElem_cons_succ,Act.put,List.setIfInBounds_toArray,List.set_cons_zero,List.set_cons_succ]
  refine wpAnyH_take (i:=8) (v:= ?_) rfl (by kernel_rfl) (by kernel_rfl) (by kernel_rfl) (fun _ _ _ h=>hP _ _ _ _ (by rfl) h) (Or.inl ⟨by rfl,?_⟩) hHeld ?_
  rotate_left
  ·(intro w hSw;(try dsimp only at hSw);go_simp;try with_reducible rfl)
  simp only [List.getElem_toArray,List.getElem_cons_zero,List.getElem_cons_succ,Act.put,List.setIfInBounds_toArray,List.set_cons_zero,List.set_cons_succ]
  have L5:=Lib.hid (L4.out.drew)
  have T5:=Lib.hid (T4.out.drew)
  have FS5:Hid (v4.drew.heap[sb]? =_):=Lib.hid FS4.out
  have hz5':v4.heap.size≤v4.drew.heap.size:=Nat.le_refl _
  generalize v4.drew=v5 at *
  clear L4 T4 FS4 c'
  refine wpAnyH_ready (rs:=[4]) (by kernel_rfl) (by simp) ?_
  refine AllReadyH.cons rfl (fun K hK=> ?_) AllReadyH.nil
  go_simp
  refine(ldnum _ lb rb gb _ 8 L5.out (by decide)).mono ?_
  rintro e v6 ⟨a5,s8,rfl,g5,k5,hl,hs,-⟩
  have hz6:=hs.size
  have L6:=Lib.hid hl
  have T6:=Lib.hid (T5.out.trans (hs.imp (fun x hx=>hx.2.1)))
  have FS6:=Lib.hid ((hs.block sb (by show sb≠rb;omega)).trans FS5.out)
  have g5:=Lib.hid g5
  refine hK.out _ _ ((hs.cell (p:=⟨lb,0,none⟩) hne).trans hHeld) (fun hHeld=> ?_)
  clear hK K hl hs
  try simp only [List.getElem_toArray,List.getElem_cons_zero,List.getElem_cons_succ,Act.put,List.setIfInBounds_toArray,List.set_cons_zero,List.set_cons_succ]
  refine wpAnyH_take (i:=10) (v:= ?_) rfl (by kernel_rfl) (by kernel_rfl) (by kernel_rfl) (fun _ _ _ h=>hP _ _ _ _ (by rfl) h) (Or.inl ⟨by rfl,?_⟩) hHeld ?_
  rotate_left
  ·(intro w hSw;(try dsimp only at hSw);go_simp;try with_reducible rfl)
  simp only [List.getElem_toArray,List.getElem_cons_zero,List.getElem_cons_succ,Act.put,List.setIfInBounds_toArray,List.set_cons_zero,List.set_cons_succ]
  refine wpAnyH_ready (rs:=[9]) (by kernel_rfl) (by simp) ?_
  refine AllReadyH.cons rfl (fun K hK=> ?_) AllReadyH.nil
  go_simp
  refine(ldnum _ lb rb gb _ 8 L6.out (by decide)).mono ?_
  rintro e v7 ⟨a6,s9,rfl,g6,k6,hl,hs,-⟩
  have hz7:=hs.size
  have L7:=Lib.hid hl
  have T7:=Lib.hid (T6.out.trans (hs.imp (fun x hx=>hx.2.1)))
  have FS7:=Lib.hid ((hs.block sb (by show sb≠rb;omega)).trans FS6.out)
  have g6:=Lib.hid g6
  refine hK.out _ _ ((hs.cell (p:=⟨lb,0,none⟩) hne).trans hHeld) (fun hHeld=> ?_)
  clear hK K hl hs
  try simp only [List.getElem_toArray,List.getElem_cons_zero,List.getElem_cons_succ,Act.put,List.setIfInBounds_toArray,List.set_cons_zero,List.set_cons_succ]
  have cS:v7.cell? ⟨sb,7,none⟩=some (.int .i64 0):=by rw [Lib.cell_of_heap FS7.out];rfl
  have fS:v7.frozen? ⟨sb,7,none⟩=false:=Lib.frozen_of_heap FS7.out 7
  refine wpAnyH_ready (rs:=[11]) (by kernel_rfl) (by simp) ?_
  refine AllReadyH.cons rfl (fun K hK=> ?_) AllReadyH.nil
  go_simp
  have FS8:=Lib.hid (setCell_row (k:=7) (.int .i64 a5) FS7.out)
  have L8:=Lib.hid (L7.out.step (setCell_step _ sb 7 (.int .i64 a5)) (by show lb≠sb;omega) (by show rb≠sb;omega) (by show gb≠sb;omega))
  have T8:=Lib.hid (T7.out.trans ((setCell_step _ sb 7 (.int .i64 a5)).imp (fun x hx=>by have:=hx.1;show x≠sb;omega)))
  refine hK.out _ _ ((World.cell?_of_block (a:=⟨lb,0,none⟩) (Below.heap_setCell _ _ _ _ (by show lb≠sb;omega))).trans hHeld) (fun hHeld=> ?_)
  clear hK K cS fS
  try simp only [List.getElem_toArray,List.getElem_cons_zero,List.getElem_cons_succ,Act.put,List.setIfInBounds_toArray,List.set_cons_zero,List.set_cons_succ]
  have hz8:v7.heap.size≤(v7.setCell ⟨sb,7,none⟩ (.int .i64 a5)).heap.size:=by simp
  generalize v7.setCell ⟨sb,7,none⟩ (.int .i64 a5)=v8 at FS8 L8 T8 hz8 hHeld ⊢
  refine wpAnyH_take (i:=12) (v:= ?_) rfl (by kernel_rfl) (by kernel_rfl) (by kernel_rfl) (fun _ _ _ h=>hP _ _ _ _ (by rfl) h) (Or.inl ⟨by rfl,?_⟩) hHeld ?_
  rotate_left
  ·(intro w hSw;(try dsimp only at hSw);go_simp;try with_reducible rfl)
  simp only [List.getElem_toArray,List.getElem_cons_zero,List.getElem_cons_succ,Act.put,List.setIfInBounds_toArray,List.set_cons_zero,List.set_cons_succ]
  have cS:v8.cell? ⟨sb,8,none⟩=some (.int .i64 0):=by rw [Lib.cell_of_heap FS8.out];rfl
  have fS:v8.frozen? ⟨sb,8,none⟩=false:=Lib.frozen_of_heap FS8.out 8
  refine wpAnyH_ready (rs:=[13]) (by kernel_rfl) (by simp) ?_
  refine AllReadyH.cons rfl (fun K hK=> ?_) AllReadyH.nil
  go_simp
  have FS9:=Lib.hid (setCell_row (k:=8) (.int .i64 a6) FS8.out)
  have L9:=Lib.hid (L8.out.step (setCell_step _ sb 8 (.int .i64 a6)) (by show lb≠sb;omega) (by show rb≠sb;omega) (by show gb≠sb;omega))
  have T9:=Lib.hid (T8.out.trans ((setCell_step _ sb 8 (.int .i64 a6)).imp (fun x hx=>by have:=hx.1;show x≠sb;omega)))
  refine hK.out _ _ ((World.cell?_of_block (a:=⟨lb,0,none⟩) (Below.heap_setCell _ _ _ _ (by show lb≠sb;omega))).trans hHeld) (fun hHeld=> ?_)
  clear hK K cS fS
  try simp only [List.getElem_toArray,List.getElem_cons_zero,List.getElem_cons_succ,Act.put,List.setIfInBounds_toArray,List.set_cons_zero,List.set_cons_succ]
  have hz9:v8.heap.size≤(v8.setCell ⟨sb,8,none⟩ (.int .i64 a6)).heap.size:=by simp
  generalize v8.setCell ⟨sb,8,none⟩ (.int .i64 a6)=v9 at FS9 L9 T9 hz9 hHeld ⊢
  refine wpAnyH_done (by kernel_rfl) ?_ _
  clear hHeld
  have XI:=Lib.hid ((T9.out.block ib ⟨by omega,hir,hil⟩).trans HX.out)
  have cI:v9.cell? ⟨ib,5,none⟩=some (.slice oa q oc):=by rw [Lib.cell_of_heap XI.out];rfl
  have e0:v9.cell? ⟨sb,0,none⟩=some (.string ⟨a1.toArray⟩):=by rw [Lib.cell_of_heap FS9.out];rfl
  have e1:v9.cell? ⟨sb,1,none⟩=some (.string ⟨a2.toArray⟩):=by rw [Lib.cell_of_heap FS9.out];rfl
  have e2:v9.cell? ⟨sb,2,none⟩=some (.bool b1):=by rw [Lib.cell_of_heap FS9.out];rfl
  have e3:v9.cell? ⟨sb,3,none⟩=some (.int .i64 a3):=by rw [Lib.cell_of_heap FS9.out];rfl
  have e4:v9.cell? ⟨sb,4,none⟩=some (.bool b2):=by rw [Lib.cell_of_heap FS9.out];rfl
  have e5:v9.cell? ⟨sb,5,none⟩=some (.int .i64 a4):=by rw [Lib.cell_of_heap FS9.out];rfl
  have e6:v9.cell? ⟨sb,6,none⟩=some (.bool b3):=by rw [Lib.cell_of_heap FS9.out];rfl
  have e7:v9.cell? ⟨sb,7,none⟩=some (.int .i64 a5):=by rw [Lib.cell_of_heap FS9.out];rfl
  have e8:v9.cell? ⟨sb,8,none⟩=some (.int .i64 a6):=by rw [Lib.cell_of_heap FS9.out];rfl
  have hnz:v9.heap.size<(v9.alloc (.cells #[.string ⟨a1.toArray⟩,.string ⟨a2.toArray⟩,.bool b1,.int .i64 a3,.bool b2,.int .i64 a4,.bool b3,.int .i64 a5,.int .i64 a6] 72 (0,0))).heap.size:=by simp
  have O0:=Lib.hid (H1.out.step T9.out (fun y hy1 hy=>⟨hy1,fun e=>hy (by rw [e];show rb<w6.heap.size;omega),fun e=>hy (by rw [e];show lb<w6.heap.size;omega)⟩))
  have OA:=Lib.hid (O0.out.alloc (.cells #[.string ⟨a1.toArray⟩,.string ⟨a2.toArray⟩,.bool b1,.int .i64 a3,.bool b2,.int .i64 a4,.bool b3,.int .i64 a5,.int .i64 a6] 72 (0,0)))
  have hown:=H1.out.lt
  have TA:=Lib.hid (T9.out.alloc (fun b hb=>by have:=hb.1;omega) (.cells #[.string ⟨a1.toArray⟩,.string ⟨a2.toArray⟩,.bool b1,.int .i64 a3,.bool b2,.int .i64 a4,.bool b3,.int .i64 a5,.int .i64 a6] 72 (0,0)))
  have LA:=Lib.hid (L9.out.alloc (.cells #[.string ⟨a1.toArray⟩,.string ⟨a2.toArray⟩,.bool b1,.int .i64 a3,.bool b2,.int .i64 a4,.bool b3,.int .i64 a5,.int .i64 a6] 72 (0,0)))
  have XA:=Lib.hid (heap_alloc_old v9 (.cells #[.string ⟨a1.toArray⟩,.string ⟨a2.toArray⟩,.bool b1,.int .i64 a3,.bool b2,.int .i64 a4,.bool b3,.int .i64 a5,.int .i64 a6] 72 (0,0)) (r:=ib) (by omega) |>.trans XI.out)
  have NA:=Lib.hid (heap_alloc_new v9 (.cells #[.string ⟨a1.toArray⟩,.string ⟨a2.toArray⟩,.bool b1,.int .i64 a3,.bool b2,.int .i64 a4,.bool b3,.int .i64 a5,.int .i64 a6] 72 (0,0)))
  have HRow:Hid (kSym.R (fun b=>b<(v9.alloc (.cells #[.string ⟨a1.toArray⟩,.string ⟨a2.toArray⟩,.bool b1,.int .i64 a3,.bool b2,.int .i64 a4,.bool b3,.int .i64 a5,.int .i64 a6] 72 (0,0))).heap.size∧¬ b<w6.heap.size∧(Value.slice oa q oc).ownBlock≠some b) (v9.alloc (.cells #[.string ⟨a1.toArray⟩,.string ⟨a2.toArray⟩,.bool b1,.int .i64 a3,.bool b2,.int .i64 a4,.bool b3,.int .i64 a5,.int .i64 a6] 72 (0,0))) (⟨a1,a2,b1,a3,b2,a4,b3,a5,a6⟩:SymL) [.string ⟨a1.toArray⟩,.string ⟨a2.toArray⟩,.bool b1,.int .i64 a3,.bool b2,.int .i64 a4,.bool b3,.int .i64 a5,.int .i64 a6]):=Lib.hid ⟨rfl,⟨Nat.le_trans k1.out (by decide),Nat.le_trans k2.out (by decide),okN_int64 k3.out,okN_int64 k4.out,okN_int64 k5,okN_int64 k6⟩⟩
  have hk:okSym (⟨a1,a2,b1,a3,b2,a4,b3,a5,a6⟩:SymL):=⟨k1.out,k2.out,k3.out,k4.out,k5,k6⟩
  have HOne:∀ u∈([.string ⟨a1.toArray⟩,.string ⟨a2.toArray⟩,.bool b1,.int .i64 a3,.bool b2,.int .i64 a4,.bool b3,.int .i64 a5,.int .i64 a6]:List Value),u.oneCell'=true:=by
   intro u hu
   simp only [List.mem_cons,List.not_mem_nil,or_false]at hu
   rcases hu with rfl | rfl | rfl | rfl | rfl | rfl | rfl | rfl | rfl<;>rfl
  replace HOne:=Lib.hid HOne
  go_wp2_with (at_builtin;refine wpList_appendK (K:=kSym) (v:=.slice oa q oc) (e:=72) (B:=w6.heap.size) (E:=(·<w6.heap.size)) 29 (.agg #[.string ⟨#[]⟩,.string ⟨#[]⟩,.bool false,.int .i64 0,.bool false,.int .i64 0,.bool false,.int .i64 0,.int .i64 0]) 88 Tryz.underlying29 info_sym rfl (by decide) rfl (.tmp 158) (.tmp 160) rfl q H2.out rfl OA.out (fun b hb=>by have hb:b<w6.heap.size:=hb;omega) v9.heap.size ((⟨a1,a2,b1,a3,b2,a4,b3,a5,a6⟩:SymL)) [.string ⟨a1.toArray⟩,.string ⟨a2.toArray⟩,.bool b1,.int .i64 a3,.bool b2,.int .i64 a4,.bool b3,.int .i64 a5,.int .i64 a6] rfl (row_of NA.out) HOne.out HRow.out ?c3 ?c4 ?c5 ?_)
  case c3=>rw [H2.out];omega
  case c4=>rw [H2.out];omega
  case c5=>omega
  intro g c2 w9 ho9 hs9 hg9
  have hno:=OA.out.notE
  have S9:Step (fun x=>x<v9.heap.size∧(x<w6.heap.size∨x=ib∨x=lb∨x=rb∨x=gb)) (v9.alloc (.cells #[.string ⟨a1.toArray⟩,.string ⟨a2.toArray⟩,.bool b1,.int .i64 a3,.bool b2,.int .i64 a4,.bool b3,.int .i64 a5,.int .i64 a6] 72 (0,0))) w9:=hs9.imp (fun x hx=>⟨by omega,fun e=>hno x e (by show x<w6.heap.size;omega)⟩)
  have X9:=Lib.hid ((S9.block ib ⟨by omega,by omega⟩).trans XA.out)
  have cI:w9.cell? ⟨ib,5,none⟩=some (.slice oa q oc):=by rw [Lib.cell_of_heap X9.out];rfl
  have fI:w9.frozen? ⟨ib,5,none⟩=false:=Lib.frozen_of_heap X9.out 5
  have L9:=Lib.hid ((LA.out.step S9 ⟨by omega,by omega⟩ ⟨by omega,by omega⟩ ⟨by omega,by omega⟩).step (setCell_step w9 ib 5 (.slice (some ⟨g,0,none⟩) (q+1) c2)) (by show lb≠ib;omega) (by show rb≠ib;omega) (by show gb≠ib;omega))
  have Hfin:Hid (LQ 72 kSym symP okSym lb rb gb (fun x=>x≠rb∧x≠lb∧x≠ib) w6 t5 (w9.setCell ⟨ib,5,none⟩ (.slice (some ⟨g,0,none⟩) (q+1) c2)) (.slice (some ⟨g,0,none⟩) (q+1) c2) (q+1)):=Lib.hid (LQ.next H2.out H3.out H4.out H6.out (g1.out.bind (g2.out.bind (g3.out.bind (g4.out.bind (gb1.out.bind (gb2.out.bind (gb3.out.bind (g5.out.bind (g6.out.bind (Got.pure _ _)))))))))) hk ((TA.out.imp (fun x hx=>⟨by have:=hx.1;omega,hx.2.1,hx.2.2.1⟩)).trans ((S9.imp (fun x hx=>⟨by have:=hx.1;omega,Or.inl hx.1⟩)).trans ((setCell_step w9 ib 5 _).imp (fun x hx=>hx.2.2.2)))) L9.out (ho9.step (setCell_step w9 ib 5 _) (fun b _ hb e=>hb (by rw [e];show ib<w6.heap.size;omega))))
  have X10:=Lib.hid (setCell_row (k:=5) (.slice (some ⟨g,0,none⟩) (q+1) c2) X9.out)
  clear cI ho9 hs9 hg9 S9 hno
  have cI:w9.cell? ⟨ib,5,none⟩=some (.slice oa q oc):=by rw [Lib.cell_of_heap X9.out];rfl
  go_wp2_with fail
  exact HK.out _ _ hlt ⟨by omega,⟨by kernel_rfl,rfl,(by kernel_rfl),(by kernel_rfl),(by kernel_rfl),(by kernel_rfl),(by show Value.int .i64 _=_;go_num),trivial⟩,_,X10.out,Hfin.out⟩
 ·obtain⟨xs,s2,c1,c2,c3,c4,c5,c6⟩:=LQ.done w5.heap.size hz6 hlq
  obtain rfl:m1=q:=by omega
  clear HK hlq
  have HE:=Lib.hid (HQ.out (m:=m1) (xs:=xs) (s1:=t5) (s2:=s2) (v:=v))
  replace c3:=Lib.hid c3
  replace c4:=Lib.hid c4
  replace hX:=Lib.hid hX
  replace c5:=Lib.hid c5
  replace c6:=Lib.hid c6
  replace c2:=Lib.hid c2
  replace hmm1:=Lib.hid hmm1
  clear HQ
  go_wp2_with fail
  exact HE.out _ _ ⟨by kernel_rfl,rfl,(by kernel_rfl),(by kernel_rfl),(by kernel_rfl),trivial⟩ Gn1.out hmm1.out c1 c3.out c2.out c4.out hX.out (Q6.out.trans (c5.out.imp (S':=fun x=>x<w5.heap.size∧x≠rb∧x≠lb∧x≠ib) (fun x hx=>⟨Nat.lt_of_lt_of_le hx.1 Q6.out.size,hx.2⟩))) c6.out
end Go.Proofs.YtfchpchabdhcgaaGreat
