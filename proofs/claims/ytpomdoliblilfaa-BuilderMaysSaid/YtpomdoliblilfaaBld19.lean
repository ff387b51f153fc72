/- Lemmas. -/
import Derived.Test.YtpomdoliblilfaaBld16
namespace Go.Proofs.Ytpomdoliblilfaa
set_option linter.unusedVariables false
set_option linter.unusedSimpArgs false
open Go.RowKit
def LowPost (B pb:Nat) (sv:SpecV) (s:SpecL) (own:Int) (v:PlanV) (w:World) (p:PlanL) (x:InstL) (e:Ending) (w':World):Prop:=
 ∃ v',e=.returned (.agg #[.int .i64 x.op,.int .i64 x.a,.int .i64 x.b,.int .i64 x.c,.int .i64 x.imm])∧PlanM B pb w' sv s own v' p∧PStep pb v v' w w'
structure LayBox (pb lb:Nat) (fv vv:Value) (y:LayN) (v:PlanV) (w:World):Prop where
 ex:w.heap[lb]? =some (.cells (layCells pb fv vv y).toArray 83 (0,0))
 kept:Kept pb v w lb
theorem LayBox.step {pb lb:Nat} {fv vv:Value} {y:LayN} {v v':PlanV} {w w':World} (h:LayBox pb lb fv vv y v w) (hs:PStep pb v v' w w'):LayBox pb lb fv vv y v' w':=⟨(hs.block h.kept).trans h.ex,hs.kept h.kept⟩
theorem LayBox.below {pb lb C:Nat} {fv vv:Value} {y:LayN} {v:PlanV} {w w':World} (h:LayBox pb lb fv vv y v w) (hb:Below C w w') (hC:lb<C):LayBox pb lb fv vv y v w':=⟨(hb.block lb hC).trans h.ex,h.kept.below hb⟩
theorem LayBox.cell {pb lb:Nat} {fv vv:Value} {y:LayN} {v:PlanV} {w:World} (h:LayBox pb lb fv vv y v w) (i:Nat) (u:Value) (hu:(layCells pb fv vv y)[i]? =some u):w.cell? ⟨lb,i,none⟩=some u:=by
 rw [Lib.cell_of_heap h.ex];simpa using hu
set_option maxHeartbeats 16000000 in
set_option maxRecDepth 100000 in
theorem lower1_any {B pb lb:Nat} {w:World} {sv:SpecV} {s:SpecL} {own:Int} {v:PlanV} {p:PlanL} {fv vv:Value} {y:LayN} (reg u x at_:Int) (k:Nat) (hM:PlanM B pb w sv s own v p) (hB:B≤w.heap.size) (hL:LayBox pb lb fv vv y v w) (hk:p.cells.findIdx? (fun y=>decide (y=(u,x)))=some k) (hsz:p.sz≤999990) (hy:0≤y.got∧y.got≤25000000) (ha:0≤at_∧at_≤1000000000):
  Calls Try.prog 84 #[.int .i64 reg,.int .i64 u,.int .i64 x,.int .i64 at_,.pointer (some ⟨lb,0,none⟩)] w (LowPost B pb sv s own v w p ⟨11,reg,0,0,y.got+8*k-at_-8⟩):=by
 have HM1:=Lib.hid (hM.alloc (.cells #[.int .i64 0,.int .i64 0,.int .i64 0,.int .i64 0,.int .i64 0] 65))
 have HS1:=Lib.hid (PStep.alloc (pb:=pb) v w (.cells #[.int .i64 0,.int .i64 0,.int .i64 0,.int .i64 0,.int .i64 0] 65))
 have HX1:=Lib.hid (heap_alloc_new w (.cells #[.int .i64 0,.int .i64 0,.int .i64 0,.int .i64 0,.int .i64 0] 65))
 have HK1:=Lib.hid (hM.kept_new (.cells #[.int .i64 0,.int .i64 0,.int .i64 0,.int .i64 0,.int .i64 0] 65))
 have HL1:=Lib.hid (hL.step (PStep.alloc (pb:=pb) v w (.cells #[.int .i64 0,.int .i64 0,.int .i64 0,.int .i64 0,.int .i64 0] 65)))
 have hz1:w.heap.size<(w.alloc (.cells #[.int .i64 0,.int .i64 0,.int .i64 0,.int .i64 0,.int .i64 0] 65)).heap.size:=by simp
 have HC:=Lib.hid (cell_found hk)
 have hkl:k≤999990:=by
  obtain⟨h,_⟩:=List.findIdx?_eq_some_iff_getElem.1 hk
  unfold PlanL.sz at hsz;omega
 have Hsz:=Lib.hid hsz
 clear hM hL hk hsz
 go_enter Try.func84,Try.ntmps84
 go_upto_region 1 with fail
 generalize w.alloc (.cells #[.int .i64 0,.int .i64 0,.int .i64 0,.int .i64 0,.int .i64 0] 65)=w1 at *
 refine wp_region_phase 14 (by kernel_rfl) (by kernel_rfl) ?_
 simp only [List.take_succ_cons,List.take_zero,List.drop_succ_cons,List.drop_zero,List.take_nil,List.drop_nil]
 refine wpAny_of_held (S:=fun w':World=>w'.cell? ⟨lb,0,none⟩=some (.pointer (some ⟨pb,0,none⟩))∧w'.cell? ⟨lb,4,none⟩=some (.int .i64 y.got)) _ _ _ _ ?_
 have hHeld:(fun w':World=>w'.cell? ⟨lb,0,none⟩=some (.pointer (some ⟨pb,0,none⟩))∧w'.cell? ⟨lb,4,none⟩=some (.int .i64 y.got)) (World.drew w1):=⟨HL1.out.cell 0 _ rfl,HL1.out.cell 4 _ rfl⟩
 show wpAnyH _ _ _ _ _ _ _ _ (World.drew _)
 have HMd:=Lib.hid (HM1.out.below (Below.refl _ w1).drew)
 have HSd:=Lib.hid (HS1.out.trans (PStep.below (pb:=pb) (v:=v) (Below.refl _ w1).drew))
 have HXd:Hid ((World.drew w1).heap[w.heap.size]? =some (.cells #[.int .i64 0,.int .i64 0,.int .i64 0,.int .i64 0,.int .i64 0] 65 (0,0))):=Lib.hid HX1.out
 have HKd:=Lib.hid (HK1.out.below (Below.refl w1.heap.size w1).drew)
 have HLd:=Lib.hid (HL1.out.step (PStep.below (pb:=pb) (v:=v) (Below.refl _ w1).drew))
 have hzd:w.heap.size<(World.drew w1).heap.size:=hz1
 generalize (World.drew w1)=wd at HMd HSd HXd HKd HLd hHeld hzd ⊢
 refine wpAnyH_take (i:=0) (v:= ?_) rfl (by kernel_rfl) (by kernel_rfl) (by kernel_rfl) (fun _ _ _ h=>h) (Or.inl ⟨by rfl,?_⟩) hHeld ?_
 rotate_left
 ·(intro w hSw;(try dsimp only at hSw);go_simp;try with_reducible rfl)
 simp only [List.getElem_toArray,List.getElem_cons_zero,List.getElem_cons_succ,Act.put,List.setIfInBounds_toArray,List.set_cons_zero,List.set_cons_succ]
 refine wpAnyH_take (i:=1) (v:= ?_) rfl (by kernel_rfl) (by kernel_rfl) (by kernel_rfl) (fun _ _ _ h=>h) (Or.inl ⟨by rfl,?_⟩) hHeld ?_
 rotate_left
 ·(intro w hSw;(try dsimp only at hSw);go_simp;try with_reducible rfl)
 simp only [List.getElem_toArray,List.getElem_cons_zero,List.getElem_cons_succ,Act.put,List.setIfInBounds_toArray,List.set_cons_zero,List.set_cons_succ]
 refine wpAnyH_take (i:=2) (v:= ?_) rfl (by kernel_rfl) (by kernel_rfl) (by kernel_rfl) (fun _ _ _ h=>h) (Or.inl ⟨by rfl,?_⟩) hHeld ?_
 rotate_left
 ·(intro w hSw;(try dsimp only at hSw);go_simp;try with_reducible rfl)
 simp only [List.getElem_toArray,List.getElem_cons_zero,List.getElem_cons_succ,Act.put,List.setIfInBounds_toArray,List.set_cons_zero,List.set_cons_succ]
 refine wpAnyH_take (i:=3) (v:= ?_) rfl (by kernel_rfl) (by kernel_rfl) (by kernel_rfl) (fun _ _ _ h=>h) (Or.inl ⟨by rfl,?_⟩) hHeld ?_
 rotate_left
 ·(intro w hSw;(try dsimp only at hSw);go_simp;try with_reducible rfl)
 simp only [List.getElem_toArray,List.getElem_cons_zero,List.getElem_cons_succ,Act.put,List.setIfInBounds_toArray,List.set_cons_zero,List.set_cons_succ]
 refine wpAnyH_take (i:=4) (v:= ?_) rfl (by kernel_rfl) (by kernel_rfl) (by kernel_rfl) (fun _ _ _ h=>h) (Or.inl ⟨by rfl,?_⟩) hHeld ?_
 rotate_left
 ·(intro w hSw;(try dsimp only at hSw);go_simp;try with_reducible rfl)
 simp only [List.getElem_toArray,List.getElem_cons_zero,List.getElem_cons_succ,Act.put,List.setIfInBounds_toArray,List.set_cons_zero,List.set_cons_succ]
 refine wpAnyH_take (i:=5) (v:= ?_) rfl (by kernel_rfl) (by kernel_rfl) (by kernel_rfl) (fun _ _ _ h=>h) (Or.inl ⟨by rfl,?_⟩) hHeld ?_
 rotate_left
 ·(intro w hSw;(try dsimp only at hSw);go_simp;try with_reducible rfl)
 simp only [List.getElem_toArray,List.getElem_cons_zero,List.getElem_cons_succ,Act.put,List.setIfInBounds_toArray,List.set_cons_zero,List.set_cons_succ]
 refine wpAnyH_take (i:=6) (v:= ?_) rfl (by kernel_rfl) (by kernel_rfl) (by kernel_rfl) (fun _ _ _ h=>h) (Or.inl ⟨by rfl,?_⟩) hHeld ?_
 rotate_left
 ·(intro w hSw;(try dsimp only at hSw);go_simp;try with_reducible rfl)
 simp only [List.getElem_toArray,List.getElem_cons_zero,List.getElem_cons_succ,Act.put,List.setIfInBounds_toArray,List.set_cons_zero,List.set_cons_succ]
 refine wpAnyH_take (i:=10) (v:= ?_) rfl (by kernel_rfl) (by kernel_rfl) (by kernel_rfl) (fun _ _ _ h=>h) (Or.inl ⟨by rfl,?_⟩) hHeld ?_
 rotate_left
 ·(intro w hSw;(try dsimp only at hSw);go_simp;try with_reducible rfl)
 simp only [List.getElem_toArray,List.getElem_cons_zero,List.getElem_cons_succ,Act.put,List.setIfInBounds_toArray,List.set_cons_zero,List.set_cons_succ]
 refine wpAnyH_ready (rs:=[7]) (by kernel_rfl) (by simp) ?_
 refine AllReadyH.cons rfl (fun K hK=> ?_) AllReadyH.nil
 go_simp
 refine(cell_any u x HMd.out (by have:=Hsz.out;unfold PlanL.sz at this;omega) (by omega)).mono ?_
 rintro e w5 ⟨v5,rfl,hM5,hs5⟩
 rw [HC.out]at hM5 ⊢
 have HM5:=Lib.hid hM5
 have HS5:=Lib.hid (HSd.out.trans hs5)
 have HX5:=Lib.hid ((hs5.block HKd.out).trans HXd.out)
 have HK5:=Lib.hid (hs5.kept HKd.out)
 have HL5:=Lib.hid (HLd.out.step hs5)
 refine hK.out _ _ ⟨HL5.out.cell 0 _ rfl,HL5.out.cell 4 _ rfl⟩ (fun hHeld=> ?_)
 clear hK K
 try simp only [List.getElem_toArray,List.getElem_cons_zero,List.getElem_cons_succ,Act.put,List.setIfInBounds_toArray,List.set_cons_zero,List.set_cons_succ]
 clear hM5 hs5
 have o1:IntKind.i64.wrap (8*(k:Int))=8*(k:Int):=IntWalk.i64_in _ (by omega)
 have o2:IntKind.i64.wrap (y.got+8*(k:Int))=y.got+8*(k:Int):=IntWalk.i64_in _ (by omega)
 have o3:IntKind.i64.wrap (y.got+8*(k:Int)-at_)=y.got+8*(k:Int)-at_:=IntWalk.i64_in _ (by omega)
 have o4:IntKind.i64.wrap (y.got+8*(k:Int)-at_-8)=y.got+8*(k:Int)-at_-8:=IntWalk.i64_in _ (by omega)
 refine wpAnyH_take (i:=8) (v:= ?_) rfl (by kernel_rfl) (by kernel_rfl) (by kernel_rfl) (fun _ _ _ h=>h) (Or.inl ⟨by rfl,?_⟩) hHeld ?_
 rotate_left
 ·(intro w hSw;(try dsimp only at hSw);go_simp;try with_reducible rfl)
 simp only [List.getElem_toArray,List.getElem_cons_zero,List.getElem_cons_succ,Act.put,List.setIfInBounds_toArray,List.set_cons_zero,List.set_cons_succ]
 refine wpAnyH_take (i:=9) (v:= ?_) rfl (by kernel_rfl) (by kernel_rfl) (by kernel_rfl) (fun _ _ _ h=>h) (Or.inl ⟨by rfl,?_⟩) hHeld ?_
 rotate_left
 ·(intro w hSw;(try dsimp only at hSw);go_simp;try with_reducible rfl)
 simp only [List.getElem_toArray,List.getElem_cons_zero,List.getElem_cons_succ,Act.put,List.setIfInBounds_toArray,List.set_cons_zero,List.set_cons_succ]
 refine wpAnyH_take (i:=11) (v:= ?_) rfl (by kernel_rfl) (by kernel_rfl) (by kernel_rfl) (fun _ _ _ h=>h) (Or.inl ⟨by rfl,?_⟩) hHeld ?_
 rotate_left
 ·(intro w hSw;(try dsimp only at hSw);go_simp;try with_reducible rfl)
 simp only [List.getElem_toArray,List.getElem_cons_zero,List.getElem_cons_succ,Act.put,List.setIfInBounds_toArray,List.set_cons_zero,List.set_cons_succ]
 refine wpAnyH_take (i:=12) (v:= ?_) rfl (by kernel_rfl) (by kernel_rfl) (by kernel_rfl) (fun _ _ _ h=>h) (Or.inl ⟨by rfl,?_⟩) hHeld ?_
 rotate_left
 ·(intro w hSw;(try dsimp only at hSw);go_simp;try with_reducible rfl)
 simp only [List.getElem_toArray,List.getElem_cons_zero,List.getElem_cons_succ,Act.put,List.setIfInBounds_toArray,List.set_cons_zero,List.set_cons_succ]
 refine wpAnyH_take (i:=13) (v:= ?_) rfl (by kernel_rfl) (by kernel_rfl) (by kernel_rfl) (fun _ _ _ h=>h) (Or.inl ⟨by rfl,?_⟩) hHeld ?_
 rotate_left
 ·(intro w hSw;(try dsimp only at hSw);go_simp;try with_reducible rfl)
 simp only [List.getElem_toArray,List.getElem_cons_zero,List.getElem_cons_succ,Act.put,List.setIfInBounds_toArray,List.set_cons_zero,List.set_cons_succ]
 refine wpAnyH_done (by kernel_rfl) ?_ _
 simp only [phaseQ]
 clear hHeld
 clear o1 o2 o3 o4
 go_wp2_with (refine wpList_store_row rfl 65 (.tmp 9) (.tmp 23) rfl w.heap.size (#[.int .i64 11,.int .i64 reg,.int .i64 0,.int .i64 0,.int .i64 (y.got+8*(k:Int)-at_-8)]) rfl rfl _ _ HX5.out (by kernel_rfl) rfl (by simp [Value.oneCell']) ?_)
 go_wp2_with fail
 have FR:=Lib.hid (setRow_heap _ w.heap.size _ (#[.int .i64 11,.int .i64 reg,.int .i64 0,.int .i64 0,.int .i64 (y.got+8*(k:Int)-at_-8)]) _ _ HX5.out)
 refine bodyPost_ret (results_cell_row rfl _ _ w.heap.size _ _ _ _ rfl FR.out Try.underlying65 rfl (by kernel_rfl)) rfl ?_
 have hr:=HM5.out.setRowKept HK5.out #[.int .i64 11,.int .i64 reg,.int .i64 0,.int .i64 0,.int .i64 (y.got+8*(k:Int)-at_-8)]
 exact⟨v5,rfl,hr,HS5.out.setRowNew (by omega) _⟩
end Go.Proofs.Ytpomdoliblilfaa
