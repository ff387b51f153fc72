/- Lemmas. -/
import Derived.Test.YtpomdoliblilfaaBld27
namespace Go.Proofs.Ytpomdoliblilfaa
set_option linter.unusedVariables false
set_option linter.unusedSimpArgs false
open Go.RowKit
theorem info_ints:(Try.prog.info? 41).map (fun i=>(i.zero,i.size,i.bytes))=some (some (.slice none 0 0),1,24):=by kernel_rfl
theorem rows_made {w:World} {B g n:Nat} (h:w.ownsRow B 41 1 (.slice (some ⟨g,0,none⟩) n n) n (madeCells (Value.slice none 0 0).cells (n*1)).toList):w.heap[g]? =some (.cells (List.replicate n (Value.slice none 0 0)).toArray 41 (0,0)):=by
 rcases h.2 with ⟨h0,_⟩ | ⟨g',cap,cur,hv,_,hh,_,_,hs,ht⟩
 ·cases h0
 ·cases hv
  rw [hh]
  have e:(Value.slice none 0 0).cells=#[.slice none 0 0]:=rfl
  have h1:cur.toList=List.replicate n (Value.slice none 0 0):=by
   rw [List.take_of_length_le (by simp [hs])]at ht
   rw [ht,Nat.mul_one]
   apply List.ext_getElem?
   intro i
   simp only [madeCells,e]
   by_cases h:i<n
   ·simp [h,Nat.mod_one]
   ·simp [h]
  have:cur=(List.replicate n (Value.slice none 0 0)).toArray:=by rw [← h1]
  rw [this]
def MakeTPost (w:World) (syms:List SymL) (e:Ending) (w':World):Prop:=
 ∃ bv wv,e=.returned (.tuple #[.agg #[bv,wv,.int .i64 6],.int .i64 0])∧LB kInts (fun b=>w.heap.size≤b∧b<w'.heap.size) w' bv (bucketsT syms (countT (seenIx syms).length))∧LB kWord (fun b=>w.heap.size≤b∧b<w'.heap.size) w' wv (filterT syms)∧Below w.heap.size w w'
set_option maxHeartbeats 16000000 in
set_option maxRecDepth 100000 in
theorem tmake_any (w:World) (sv:Value) (syms:List SymL) (hs:LB kSym (·<w.heap.size) w sv syms) (hl:syms.length≤512):
  Calls Try.prog 24 #[sv] w (MakeTPost w syms):=by
 obtain⟨sa,sb,so,sc,rfl,hsm,hsc,hsat⟩:=hs.at
 have hsaa:=hsat.addr
 have Hsat:=Lib.hid hsat
 have Hs:=Lib.hid hs
 have Hl:=Lib.hid hl
 obtain⟨n,hn⟩:∃ n,n=syms.length:=⟨_,rfl⟩
 have Hn:=Lib.hid hn
 rw [← hn]at hsm hsc hsaa hl ⊢
 have HX0:=Lib.hid (heap_alloc_new w (.cells #[.slice none 0 0,.slice none 0 0,.int .i64 0] 38 (0,0)))
 have HB0:=Lib.hid ((Below.refl w.heap.size w).alloc (Nat.le_refl _) (.cells #[.slice none 0 0,.slice none 0 0,.int .i64 0] 38 (0,0)))
 have hz0:w.heap.size<(w.alloc (.cells #[.slice none 0 0,.slice none 0 0,.int .i64 0] 38 (0,0))).heap.size:=by simp
 have hn2:(n:Int)≤512:=by omega
 clear hs hsat hn
 go_enter Try.func24,Try.ntmps24
 go_wp2_with fail
 generalize w.alloc (.cells #[.slice none 0 0,.slice none 0 0,.int .i64 0] 38 (0,0))=w1 at *
 generalize hws:w.heap.size=rb at *
 have Hrb:=Lib.hid hws
 clear hws
 have HSy1:=Lib.hid ((Hs.out.below HB0.out).mono (Nat.le_of_lt hz0))
 rw [← Hn.out]at HSy1
 refine(thashes_any w1 _ syms HSy1.out Hl.out).mono ?_
 rintro e w2 ⟨ra,rl,rfl,ho1,ho2,hb2⟩
 obtain⟨aa,ac,haf⟩:=ho1.form
 obtain⟨la,lc,hlf⟩:=ho2.form
 obtain⟨m,hm⟩:∃ m,m=(seenIx syms).length:=⟨_,rfl⟩
 have e1:(toInts (seenIx syms)).length=m:=by rw [hm];simp [toInts]
 have e2:(hashesK syms syms.length).length=m:=by rw [hm];simp [hashesK,seenIx]
 rw [e1]at haf
 rw [e2]at hlf
 subst haf hlf
 have Hm:=Lib.hid hm
 have hm2:m≤512:=by have:=seenK_le syms syms.length;rw [hm];unfold seenIx;have:=Hl.out;omega
 have HA2:=Lib.hid ho1
 have HL2:=Lib.hid ho2
 have HB2:=Lib.hid (HB0.out.trans (hb2.mono (Nat.le_of_lt hz0)))
 have HX2:=Lib.hid ((hb2.block rb hz0).trans HX0.out)
 have hz2:=hb2.size
 have HLK:Hid (LB kHash (·<w2.heap.size) w2 (.slice la m lc) (hashesK syms syms.length)):=Lib.hid (ho2.lb.imp fun b hb=>hb.1)
 have HHr:Hid (∀ x∈hashesK syms syms.length,0≤x∧x<4294967296):=Lib.hid (fun x hx=>by
  unfold hashesK at hx
  obtain⟨k,_,rfl⟩:=List.mem_map.1 hx
  exact hashB_range _)
 have HMk:=Lib.hid (smake_any w2 (wideT m) (.slice la m lc) _ (wideT_pow m) HLK.out HHr.out (by rw [e2];omega))
 have HFT:Hid (marksT (List.replicate (wideT m) 0) (hashesK syms syms.length)=filterT syms):=Lib.hid (by rw [filterT_eq,hm])
 rw [HFT.out]at HMk
 have HWl:Hid ((filterT syms).length=wideT m):=Lib.hid (by rw [← HFT.out,marksT_len,List.length_replicate])
 clear ho1 ho2 hb2 e1 e2 hm
 go_wp2_with fail
 refine(twide_any _ m (by omega)).mono ?_
 rintro e _ ⟨rfl,rfl⟩
 rename World=>w2
 go_wp2_with fail
 refine HMk.out.mono ?_
 rintro e w3 ⟨wv,rfl,ho3,hb3⟩
 obtain⟨wa_,wc_,hwf⟩:=ho3.form
 rw [HWl.out]at hwf
 obtain⟨wn,hwn⟩:∃ wn,wn=wideT m:=⟨_,rfl⟩
 rw [← hwn]at hwf
 subst hwf
 have HW3:=Lib.hid ho3
 have HA3:=Lib.hid (HA2.out.below hb3)
 have HB3:=Lib.hid (HB2.out.trans (hb3.mono (by omega)))
 have HX3:=Lib.hid ((hb3.block rb (by omega)).trans HX2.out)
 have hz3:=hb3.size
 clear ho3 hb3 hwn HMk HLK HHr HL2
 go_upto_region 5 with fail
 have HW4:=Lib.hid (HW3.out.alloc (.cells #[.slice wa_ wn wc_,.int .i64 6] 36 (0,0)))
 have HA4:=Lib.hid (HA3.out.alloc (.cells #[.slice wa_ wn wc_,.int .i64 6] 36 (0,0)))
 have HB4:=Lib.hid (HB3.out.alloc (by omega) (.cells #[.slice wa_ wn wc_,.int .i64 6] 36 (0,0)))
 have HX4:=Lib.hid ((heap_alloc_old w3 (.cells #[.slice wa_ wn wc_,.int .i64 6] 36 (0,0)) (r:=rb) (by omega)).trans HX3.out)
 have HF4:=Lib.hid (heap_alloc_new w3 (.cells #[.slice wa_ wn wc_,.int .i64 6] 36 (0,0)))
 have hz4:w3.heap.size<(w3.alloc (.cells #[.slice wa_ wn wc_,.int .i64 6] 36 (0,0))).heap.size:=by simp
 generalize w3.alloc (.cells #[.slice wa_ wn wc_,.int .i64 6] 36 (0,0))=w4 at *
 generalize w3.heap.size=fb at *
 obtain⟨many,hmany⟩:∃ many,many=countT m:=⟨_,rfl⟩
 have Hmany:=Lib.hid hmany
 have hmany1:1≤many∧many≤512:=by rw [hmany];unfold countT;omega
 obtain⟨Bf,hBf⟩:∃ Bf,Bf=w4.heap.size:=⟨_,rfl⟩
 have HBf:=Lib.hid hBf
 have HCt:Hid (∀ w:World,Calls Try.prog 53 #[.int .i64 (m:Int)] w fun e w'=>e=.returned (.int .i64 (countT m:Nat))∧w=w'):=Lib.hid (fun w=>(tcount_any w m (by omega)).mono (fun e w' h=>⟨h.1,h.2.symm⟩))
 rw [← hmany]at HCt
 clear hmany hBf
 go_cut [8] (fun tp wx=>∃ gb tb,tp=.pointer (some ⟨tb,0,none⟩)∧BktM Bf gb tb (.slice wa_ wn wc_) wx (List.replicate many (Value.slice none 0 0)) (List.replicate many [])∧Below Bf w4 wx)
 case first=>
  obtain⟨i0,hi,hi0,hi1,hi2⟩:=info_parts info_ints
  have y0:w4.cell? ⟨fb,0,none⟩=some (.slice wa_ wn wc_):=by rw [Lib.cell_of_heap HF4.out];rfl
  have y1:w4.cell? ⟨fb,1,none⟩=some (.int .i64 6):=by rw [Lib.cell_of_heap HF4.out];rfl
  refine wp_region_phase 7 (by kernel_rfl) (by kernel_rfl) ?_
  simp only [List.take_succ_cons,List.take_zero,List.drop_succ_cons,List.drop_zero,List.take_nil,List.drop_nil]
  refine wpAny_of_held (S:=fun w':World=>w'.cell? ⟨fb,0,none⟩=some (.slice wa_ wn wc_)∧w'.cell? ⟨fb,1,none⟩=some (.int .i64 6)) _ _ _ _ ?_
  have hHeld:(fun w':World=>w'.cell? ⟨fb,0,none⟩=some (.slice wa_ wn wc_)∧w'.cell? ⟨fb,1,none⟩=some (.int .i64 6)) (World.drew w4):=⟨y0,y1⟩
  show wpAnyH _ _ _ _ _ _ _ _ (World.drew _)
  have hdr:Below Bf w4 (World.drew w4):=(Below.refl _ _).drew
  have hzd:(World.drew w4).heap.size≤Bf:=Nat.le_of_eq HBf.out.symm
  have hze:Bf≤(World.drew w4).heap.size:=Nat.le_of_eq HBf.out
  clear y0 y1
  generalize (World.drew w4)=wd at hdr hzd hze hHeld ⊢
  have hfl:fb<wd.heap.size:=World.block_lt_of_cell? _ _ hHeld.1
  refine wpAnyH_take (i:=0) (v:= ?_) rfl (by kernel_rfl) (by kernel_rfl) (by kernel_rfl) (fun _ _ _ h=>h) (Or.inl ⟨by rfl,?_⟩) hHeld ?_
  rotate_left
  ·(intro w hSw;(try dsimp only at hSw);go_simp;try with_reducible rfl)
  simp only [List.getElem_toArray,List.getElem_cons_zero,List.getElem_cons_succ,Act.put,List.setIfInBounds_toArray,List.set_cons_zero,List.set_cons_succ]
  refine wpAnyH_take (i:=1) (v:= ?_) rfl (by kernel_rfl) (by kernel_rfl) (by kernel_rfl) (fun _ _ _ h=>h) (Or.inl ⟨by rfl,?_⟩) hHeld ?_
  rotate_left
  ·(intro w hSw;(try dsimp only at hSw);go_simp;try with_reducible rfl)
  simp only [List.getElem_toArray,List.getElem_cons_zero,List.getElem_cons_succ,Act.put,List.setIfInBounds_toArray,List.set_cons_zero,List.set_cons_succ]
  refine wpAnyH_take (i:=4) (v:= ?_) rfl (by kernel_rfl) (by kernel_rfl) (by kernel_rfl) (fun _ _ _ h=>h) (Or.inl ⟨by rfl,?_⟩) hHeld ?_
  rotate_left
  ·(intro w hSw;(try dsimp only at hSw);go_simp;try with_reducible rfl)
  simp only [List.getElem_toArray,List.getElem_cons_zero,List.getElem_cons_succ,Act.put,List.setIfInBounds_toArray,List.set_cons_zero,List.set_cons_succ]
  refine wpAnyH_ready (rs:=[2,6]) (by kernel_rfl) (by simp) ?_
  refine AllReadyH.cons rfl (fun K hK=> ?ra) (AllReadyH.cons rfl (fun K hK=> ?rb) AllReadyH.nil)
  case ra=>
   go_simp
   refine(HCt.out wd).mono ?_
   rintro e _ ⟨rfl,rfl⟩
   refine hK.out _ _ hHeld (fun hHeld=> ?_)
   clear hK K
   try simp only [List.getElem_toArray,List.getElem_cons_zero,List.getElem_cons_succ,Act.put,List.setIfInBounds_toArray,List.set_cons_zero,List.set_cons_succ]
   refine wpAnyH_ready (rs:=[3,6]) (by kernel_rfl) (by simp) ?_
   refine AllReadyH.cons rfl (fun K hK=> ?rc) (AllReadyH.cons rfl (fun K hK=> ?rd) AllReadyH.nil)
   case rc=>
    obtain⟨wm,hrun,hrow,hg⟩:=run_make_full (P:=Try.prog) (w:=wd) wd.heap.size 33 41 i0 (.slice none 0 0) 1 Try.underlying33 hi hi0 hi1 .i64 .i64 many (by rw [hi2];omega) (by unfold maxLen;omega) (Nat.le_refl _)
    have hg1:=rows_made hrow
    have hlg:wd.heap.size<wm.heap.size:=(World.ownsRow.lt hrow _ rfl).2
    clear hrow
    go_simp
    refine hK.out _ _ ⟨(World.cell?_of_block (hg.block fb hfl (by simp))).trans hHeld.1,(World.cell?_of_block (hg.block fb hfl (by simp))).trans hHeld.2⟩ (fun hHeld=> ?_)
    clear hK K hrun
    try simp only [List.getElem_toArray,List.getElem_cons_zero,List.getElem_cons_succ,Act.put,List.setIfInBounds_toArray,List.set_cons_zero,List.set_cons_succ]
    refine wpAnyH_take (i:=5) (v:= ?_) rfl (by kernel_rfl) (by kernel_rfl) (by kernel_rfl) (fun _ _ _ h=>h) (Or.inl ⟨by rfl,?_⟩) hHeld ?_
    rotate_left
    ·(intro w hSw;(try dsimp only at hSw);go_simp;try with_reducible rfl)
    simp only [List.getElem_toArray,List.getElem_cons_zero,List.getElem_cons_succ,Act.put,List.setIfInBounds_toArray,List.set_cons_zero,List.set_cons_succ]
    refine wpAnyH_ready (rs:=[6]) (by kernel_rfl) (by simp) ?_
    refine AllReadyH.cons rfl (fun K hK=> ?_) AllReadyH.nil
    go_simp
    refine hK.out _ _ ⟨(World.cell?_alloc_lt _ _ _ (World.block_lt_of_cell? _ _ hHeld.1)).trans hHeld.1,(World.cell?_alloc_lt _ _ _ (World.block_lt_of_cell? _ _ hHeld.2)).trans hHeld.2⟩ (fun hHeld=> ?_)
    clear hK K
    try simp only [List.getElem_toArray,List.getElem_cons_zero,List.getElem_cons_succ,Act.put,List.setIfInBounds_toArray,List.set_cons_zero,List.set_cons_succ]
    have HT:=Lib.hid (heap_alloc_new wm (.cells #[.slice none 0 0,.slice none 0 0,.int .i64 0] 38 (0,0)))
    have HG:=Lib.hid ((heap_alloc_old wm (.cells #[.slice none 0 0,.slice none 0 0,.int .i64 0] 38 (0,0)) (r:=wd.heap.size) hlg).trans hg1)
    have HBn:=Lib.hid ((hdr.grown hg (by omega) (fun j hj=>by cases hj)).alloc (by omega) (.cells #[.slice none 0 0,.slice none 0 0,.int .i64 0] 38 (0,0)))
    clear hg hg1 hdr
    refine wpAnyH_done (by kernel_rfl) ?_ _
    simp only [phaseQ]
    clear hHeld
    have hneT:wd.heap.size≠wm.heap.size:=by omega
    go_wp2_with (refine wpList_store_row rfl 38 (.tmp 8) (.tmp 34) rfl (wm.heap.size) (#[.slice (some ⟨wd.heap.size,0,none⟩) many many,.slice wa_ wn wc_,.int .i64 6]) rfl rfl _ _ HT.out (by kernel_rfl) rfl (by simp [Value.oneCell']) ?_)
    go_wp2_with fail
    go_meet
    exact⟨wd.heap.size,wm.heap.size,rfl,BktM.start ((setRow_other _ _ _ _ hneT).trans HG.out) (setRow_heap _ _ _ _ _ _ HT.out) (by omega) (by omega) hneT,below_setRow HBn.out _ _ (by omega)⟩
   case rd=>
    go_simp
    refine hK.out _ _ ⟨(World.cell?_alloc_lt _ _ _ (World.block_lt_of_cell? _ _ hHeld.1)).trans hHeld.1,(World.cell?_alloc_lt _ _ _ (World.block_lt_of_cell? _ _ hHeld.2)).trans hHeld.2⟩ (fun hHeld=> ?_)
    clear hK K
    try simp only [List.getElem_toArray,List.getElem_cons_zero,List.getElem_cons_succ,Act.put,List.setIfInBounds_toArray,List.set_cons_zero,List.set_cons_succ]
    have hdn:Below Bf w4 (wd.alloc (.cells #[.slice none 0 0,.slice none 0 0,.int .i64 0] 38 (0,0))):=hdr.alloc (by omega) (.cells #[.slice none 0 0,.slice none 0 0,.int .i64 0] 38 (0,0))
    have HT0:=Lib.hid (heap_alloc_new wd (.cells #[.slice none 0 0,.slice none 0 0,.int .i64 0] 38 (0,0)))
    have hzn:wd.heap.size<(wd.alloc (.cells #[.slice none 0 0,.slice none 0 0,.int .i64 0] 38 (0,0))).heap.size:=by simp
    generalize wd.alloc (.cells #[.slice none 0 0,.slice none 0 0,.int .i64 0] 38 (0,0))=we at *
    have hfl2:fb<we.heap.size:=by omega
    refine wpAnyH_ready (rs:=[3]) (by kernel_rfl) (by simp) ?_
    refine AllReadyH.cons rfl (fun K hK=> ?_) AllReadyH.nil
    obtain⟨wm,hrun,hrow,hg⟩:=run_make_full (P:=Try.prog) (w:=we) we.heap.size 33 41 i0 (.slice none 0 0) 1 Try.underlying33 hi hi0 hi1 .i64 .i64 many (by rw [hi2];omega) (by unfold maxLen;omega) (Nat.le_refl _)
    have hg1:=rows_made hrow
    have hlg:we.heap.size<wm.heap.size:=(World.ownsRow.lt hrow _ rfl).2
    clear hrow
    go_simp
    refine hK.out _ _ ⟨(World.cell?_of_block (hg.block fb hfl2 (by simp))).trans hHeld.1,(World.cell?_of_block (hg.block fb hfl2 (by simp))).trans hHeld.2⟩ (fun hHeld=> ?_)
    clear hK K hrun
    try simp only [List.getElem_toArray,List.getElem_cons_zero,List.getElem_cons_succ,Act.put,List.setIfInBounds_toArray,List.set_cons_zero,List.set_cons_succ]
    refine wpAnyH_take (i:=5) (v:= ?_) rfl (by kernel_rfl) (by kernel_rfl) (by kernel_rfl) (fun _ _ _ h=>h) (Or.inl ⟨by rfl,?_⟩) hHeld ?_
    rotate_left
    ·(intro w hSw;(try dsimp only at hSw);go_simp;try with_reducible rfl)
    simp only [List.getElem_toArray,List.getElem_cons_zero,List.getElem_cons_succ,Act.put,List.setIfInBounds_toArray,List.set_cons_zero,List.set_cons_succ]
    have HT:=Lib.hid ((hg.block wd.heap.size hzn (by simp)).trans HT0.out)
    have HG:=Lib.hid hg1
    have HBn:=Lib.hid (hdn.grown hg (by omega) (fun j hj=>by cases hj))
    clear hg hg1 hdr hdn HT0
    refine wpAnyH_done (by kernel_rfl) ?_ _
    simp only [phaseQ]
    clear hHeld
    have hneT:we.heap.size≠wd.heap.size:=by omega
    go_wp2_with (refine wpList_store_row rfl 38 (.tmp 8) (.tmp 34) rfl (wd.heap.size) (#[.slice (some ⟨we.heap.size,0,none⟩) many many,.slice wa_ wn wc_,.int .i64 6]) rfl rfl _ _ HT.out (by kernel_rfl) rfl (by simp [Value.oneCell']) ?_)
    go_wp2_with fail
    go_meet
    exact⟨we.heap.size,wd.heap.size,rfl,BktM.start ((setRow_other _ _ _ _ hneT).trans HG.out) (setRow_heap _ _ _ _ _ _ HT.out) (by omega) (by omega) hneT,below_setRow HBn.out _ _ (by omega)⟩
  case rb=>
   go_simp
   refine hK.out _ _ ⟨(World.cell?_alloc_lt _ _ _ (World.block_lt_of_cell? _ _ hHeld.1)).trans hHeld.1,(World.cell?_alloc_lt _ _ _ (World.block_lt_of_cell? _ _ hHeld.2)).trans hHeld.2⟩ (fun hHeld=> ?_)
   clear hK K
   try simp only [List.getElem_toArray,List.getElem_cons_zero,List.getElem_cons_succ,Act.put,List.setIfInBounds_toArray,List.set_cons_zero,List.set_cons_succ]
   have hdn:Below Bf w4 (wd.alloc (.cells #[.slice none 0 0,.slice none 0 0,.int .i64 0] 38 (0,0))):=hdr.alloc (by omega) (.cells #[.slice none 0 0,.slice none 0 0,.int .i64 0] 38 (0,0))
   have HT0:=Lib.hid (heap_alloc_new wd (.cells #[.slice none 0 0,.slice none 0 0,.int .i64 0] 38 (0,0)))
   have hzn:wd.heap.size<(wd.alloc (.cells #[.slice none 0 0,.slice none 0 0,.int .i64 0] 38 (0,0))).heap.size:=by simp
   generalize wd.alloc (.cells #[.slice none 0 0,.slice none 0 0,.int .i64 0] 38 (0,0))=we at *
   have hfl2:fb<we.heap.size:=by omega
   refine wpAnyH_ready (rs:=[2]) (by kernel_rfl) (by simp) ?_
   refine AllReadyH.cons rfl (fun K hK=> ?_) AllReadyH.nil
   go_simp
   refine(HCt.out we).mono ?_
   rintro e _ ⟨rfl,rfl⟩
   refine hK.out _ _ hHeld (fun hHeld=> ?_)
   clear hK K
   try simp only [List.getElem_toArray,List.getElem_cons_zero,List.getElem_cons_succ,Act.put,List.setIfInBounds_toArray,List.set_cons_zero,List.set_cons_succ]
   refine wpAnyH_ready (rs:=[3]) (by kernel_rfl) (by simp) ?_
   refine AllReadyH.cons rfl (fun K hK=> ?_) AllReadyH.nil
   obtain⟨wm,hrun,hrow,hg⟩:=run_make_full (P:=Try.prog) (w:=we) we.heap.size 33 41 i0 (.slice none 0 0) 1 Try.underlying33 hi hi0 hi1 .i64 .i64 many (by rw [hi2];omega) (by unfold maxLen;omega) (Nat.le_refl _)
   have hg1:=rows_made hrow
   have hlg:we.heap.size<wm.heap.size:=(World.ownsRow.lt hrow _ rfl).2
   clear hrow
   go_simp
   refine hK.out _ _ ⟨(World.cell?_of_block (hg.block fb hfl2 (by simp))).trans hHeld.1,(World.cell?_of_block (hg.block fb hfl2 (by simp))).trans hHeld.2⟩ (fun hHeld=> ?_)
   clear hK K hrun
   try simp only [List.getElem_toArray,List.getElem_cons_zero,List.getElem_cons_succ,Act.put,List.setIfInBounds_toArray,List.set_cons_zero,List.set_cons_succ]
   refine wpAnyH_take (i:=5) (v:= ?_) rfl (by kernel_rfl) (by kernel_rfl) (by kernel_rfl) (fun _ _ _ h=>h) (Or.inl ⟨by rfl,?_⟩) hHeld ?_
   rotate_left
   ·(intro w hSw;(try dsimp only at hSw);go_simp;try with_reducible rfl)
   simp only [List.getElem_toArray,List.getElem_cons_zero,List.getElem_cons_succ,Act.put,List.setIfInBounds_toArray,List.set_cons_zero,List.set_cons_succ]
   have HT:=Lib.hid ((hg.block wd.heap.size hzn (by simp)).trans HT0.out)
   have HG:=Lib.hid hg1
   have HBn:=Lib.hid (hdn.grown hg (by omega) (fun j hj=>by cases hj))
   clear hg hg1 hdr hdn HT0
   refine wpAnyH_done (by kernel_rfl) ?_ _
   simp only [phaseQ]
   clear hHeld
   have hneT:we.heap.size≠wd.heap.size:=by omega
   go_wp2_with (refine wpList_store_row rfl 38 (.tmp 8) (.tmp 34) rfl (wd.heap.size) (#[.slice (some ⟨we.heap.size,0,none⟩) many many,.slice wa_ wn wc_,.int .i64 6]) rfl rfl _ _ HT.out (by kernel_rfl) rfl (by simp [Value.oneCell']) ?_)
   go_wp2_with fail
   go_meet
   exact⟨we.heap.size,wd.heap.size,rfl,BktM.start ((setRow_other _ _ _ _ hneT).trans HG.out) (setRow_heap _ _ _ _ _ _ HT.out) (by omega) (by omega) hneT,below_setRow HBn.out _ _ (by omega)⟩
 case rest=>
 obtain⟨gb,tb,rfl,hbk,hbw⟩:=hcut
 rename World=>w5
 have HBk:=Lib.hid hbk
 have HBw:=Lib.hid hbw
 clear hbk hbw
 have HA4l:=Lib.hid ((HA4.out.lb.imp (S':=(·<Bf)) (fun b hb=>by have:=HBf.out;have h:=hb.1;omega)))
 obtain⟨aa',ab,ao,ac',haf,-,-,haat⟩:=HA4l.out.at
 have e1:(toInts (seenIx syms)).length=m:=by rw [Hm.out];simp [toInts]
 have haaa:=haat.addr
 rw [e1]at haf haaa
 obtain⟨rfl,rfl⟩:aa=aa'∧ac=ac':=by cases haf;exact⟨rfl,rfl⟩
 have Haat:=Lib.hid haat
 clear haf haat e1
 go_wp2_with fail
 go_loopw [37] (fun i wr=>∃ k:Nat,i=.int .i64 k∧k≤m∧∃ us,us.length=many∧BktM Bf gb tb (.slice wa_ wn wc_) wr us (bktsT syms many ((seenIx syms).take k))∧Below Bf w4 wr) (fun i _=>m-(intOf i).toNat)
 case atStart=>exact⟨0,rfl,Nat.zero_le _,_,List.length_replicate,by rw [List.take_zero,bktsT_nil];exact HBk.out,HBw.out⟩
 case round=>
  obtain⟨k,rfl,hk,us,hul,hbk,hbw⟩:=hrel
  have Hul:=Lib.hid hul
  have HK:=Lib.hid hbk
  have HW:=Lib.hid hbw
  have hgl:=hbk.glt
  have htl:=hbk.tlt
  have hgB:=hbk.gbase
  have htB:=hbk.tbase
  clear hul hbk hbw
  by_cases hlt:k<m
  ·obtain⟨i,hi⟩:∃ i,(seenIx syms)[k]? =some i:=⟨_,List.getElem?_eq_getElem (by rw [← Hm.out];exact hlt)⟩
   obtain⟨hin,-⟩:=(seenK_mem _ _ _).1 (List.mem_of_getElem? hi)
   obtain rfl:=haaa (by omega)
   have g0:=(Haat.out.below HW.out).int1 k (i:Int) (by unfold toInts;rw [List.getElem?_map,hi];rfl)
   obtain⟨x,hx⟩:∃ x,syms[i]? =some x:=⟨_,List.getElem?_eq_getElem hin⟩
   have hsx:symN syms i=x:=by unfold symN;rw [hx];rfl
   obtain rfl:=hsaa (by have:=Hn.out;omega)
   obtain⟨hxo,s0,-⟩:=((Hsat.out.below HB4.out).keeps (w':=wr) (fun b hb=>HW.out.block b (by have hb:b<rb:=hb;have:=HBf.out;omega))).sym9 i x hx
   have hxn:=hxo.name
   have hh:=homeL_lt x.name many hmany1.1
   have HSn:Hid (bktsT syms many ((seenIx syms).take (k+1))=(bktsT syms many ((seenIx syms).take k)).set (homeL x.name many) ((((seenIx syms).take k).filter fun j=>decide (homeL (symN syms j).name many=homeL x.name many)).map (fun (k:Nat)=>(k:Int))++[(i:Int)])):=Lib.hid (by rw [take_snocB hi,bktsT_snoc,hsx])
   have hbg:=bktsT_get syms many ((seenIx syms).take k) hh
   have hll:((((seenIx syms).take k).filter fun j=>decide (homeL (symN syms j).name many=homeL x.name many)).map (fun (k:Nat)=>(k:Int))).length≤k:=by
    rw [List.length_map]
    exact Nat.le_trans (List.length_filter_le _ _) (List.length_take_le _ _)
   obtain⟨l,hl2⟩:∃ l,l=(((seenIx syms).take k).filter fun j=>decide (homeL (symN syms j).name many=homeL x.name many)).map (fun (k:Nat)=>(k:Int)):=⟨_,rfl⟩
   rw [← hl2]at HSn hbg hll
   obtain⟨ls,hls⟩:∃ ls,ls=bktsT syms many ((seenIx syms).take k):=⟨_,rfl⟩
   rw [← hls]at HK HSn hbg
   have HJ:=Lib.hid (fun (w:World)=>tbucket_any w (some ⟨gb,0,none⟩) many many (.slice wa_ wn wc_) 6 x.name hxn hmany1.1 hmany1.2)
   obtain⟨h,hhh⟩:∃ h,h=homeL x.name many:=⟨_,rfl⟩
   rw [← hhh]at HSn hbg HJ hh
   obtain⟨u,hu⟩:∃ u,us[h]? =some u:=⟨_,List.getElem?_eq_getElem (by have:=Hul.out;omega)⟩
   have Hu:=Lib.hid hu
   have Hbg:=Lib.hid hbg
   have HKt:Hid (wr.heap[tb]? =some (.cells #[.slice (some ⟨gb,0,none⟩) many many,.slice wa_ wn wc_,.int .i64 6] 38 (0,0))):=Lib.hid (by have h:=HK.out.tab;rwa [Hul.out]at h)
   have t0:wr.cell? ⟨tb,0,none⟩=some (.slice (some ⟨gb,0,none⟩) many many):=by rw [Lib.cell_of_heap HKt.out];rfl
   have t1:wr.cell? ⟨tb,1,none⟩=some (.slice wa_ wn wc_):=by rw [Lib.cell_of_heap HKt.out];rfl
   have t2:wr.cell? ⟨tb,2,none⟩=some (.int .i64 6):=by rw [Lib.cell_of_heap HKt.out];rfl
   have hk2:(k:Int)<(m:Int):=by omega
   have hin2:(i:Int)<(n:Int):=by have:=Hn.out;omega
   have hsbl:=World.block_lt_of_cell? _ _ s0
   clear hi hx hsx hxo hbg hl2 hls hhh hu hxn
   go_upto_region 9 with fail
   clear g0
   refine wp_region_phase 7 (by kernel_rfl) (by kernel_rfl) ?_
   simp only [List.take_succ_cons,List.take_zero,List.drop_succ_cons,List.drop_zero,List.take_nil,List.drop_nil]
   refine wpAny_of_held (S:=fun w':World=>w'.cell? ⟨tb,0,none⟩=some (.slice (some ⟨gb,0,none⟩) many many)∧w'.cell? ⟨tb,1,none⟩=some (.slice wa_ wn wc_)∧w'.cell? ⟨tb,2,none⟩=some (.int .i64 6)∧w'.cell? ⟨sb,so+i*9,none⟩=some (.string ⟨x.name.toArray⟩)) _ _ _ _ ?_
   have hHeld:(fun w':World=>w'.cell? ⟨tb,0,none⟩=some (.slice (some ⟨gb,0,none⟩) many many)∧w'.cell? ⟨tb,1,none⟩=some (.slice wa_ wn wc_)∧w'.cell? ⟨tb,2,none⟩=some (.int .i64 6)∧w'.cell? ⟨sb,so+i*9,none⟩=some (.string ⟨x.name.toArray⟩)) (World.drew wr):=⟨t0,t1,t2,s0⟩
   show wpAnyH _ _ _ _ _ _ _ _ (World.drew _)
   have HKd:=Lib.hid (HK.out.belowW (Below.refl _ wr).drew)
   have HWd:=Lib.hid (HW.out.drew)
   clear t0 t1 t2 s0 HK HW HKt
   have htld:tb<wr.drew.heap.size:=htl
   have hsbd:sb<wr.drew.heap.size:=hsbl
   have hsz:Bf≤wr.drew.heap.size:=by show Bf≤wr.heap.size;omega
   generalize (World.drew wr)=wd at *
   refine wpAnyH_take (i:=0) (v:= ?_) rfl (by kernel_rfl) (by kernel_rfl) (by kernel_rfl) (fun _ _ _ h=>h) (Or.inl ⟨by rfl,?_⟩) hHeld ?_
   rotate_left
   ·(intro w hSw;(try dsimp only at hSw);go_simp;try with_reducible rfl)
   simp only [List.getElem_toArray,List.getElem_cons_zero,List.getElem_cons_succ,Act.put,List.setIfInBounds_toArray,List.set_cons_zero,List.set_cons_succ]
   refine wpAnyH_take (i:=1) (v:= ?_) rfl (by kernel_rfl) (by kernel_rfl) (by kernel_rfl) (fun _ _ _ h=>h) (Or.inl ⟨by rfl,?_⟩) hHeld ?_
   rotate_left
   ·(intro w hSw;(try dsimp only at hSw);go_simp;try with_reducible rfl)
   simp only [List.getElem_toArray,List.getElem_cons_zero,List.getElem_cons_succ,Act.put,List.setIfInBounds_toArray,List.set_cons_zero,List.set_cons_succ]
   refine wpAnyH_take (i:=2) (v:= ?_) rfl (by kernel_rfl) (by kernel_rfl) (by kernel_rfl) (fun _ _ _ h=>h) (Or.inl ⟨by rfl,?_⟩) hHeld ?_
   rotate_left
   ·(intro w hSw;(try dsimp only at hSw);go_simp;try with_reducible rfl)
   simp only [List.getElem_toArray,List.getElem_cons_zero,List.getElem_cons_succ,Act.put,List.setIfInBounds_toArray,List.set_cons_zero,List.set_cons_succ]
   refine wpAnyH_take (i:=3) (v:= ?_) rfl (by kernel_rfl) (by kernel_rfl) (by kernel_rfl) (fun _ _ _ h=>h) (Or.inl ⟨by rfl,?_⟩) hHeld ?_
   rotate_left
   ·(intro w hSw;(try dsimp only at hSw);go_simp;try with_reducible rfl)
   simp only [List.getElem_toArray,List.getElem_cons_zero,List.getElem_cons_succ,Act.put,List.setIfInBounds_toArray,List.set_cons_zero,List.set_cons_succ]
   refine wpAnyH_take (i:=4) (v:= ?_) rfl (by kernel_rfl) (by kernel_rfl) (by kernel_rfl) (fun _ _ _ h=>h) (Or.inl ⟨by rfl,?_⟩) hHeld ?_
   rotate_left
   ·(intro w hSw;(try dsimp only at hSw);go_simp;try with_reducible rfl)
   simp only [List.getElem_toArray,List.getElem_cons_zero,List.getElem_cons_succ,Act.put,List.setIfInBounds_toArray,List.set_cons_zero,List.set_cons_succ]
   refine wpAnyH_take (i:=5) (v:= ?_) rfl (by kernel_rfl) (by kernel_rfl) (by kernel_rfl) (fun _ _ _ h=>h) (Or.inl ⟨by rfl,?_⟩) hHeld ?_
   rotate_left
   ·(intro w hSw;(try dsimp only at hSw);go_simp;try with_reducible rfl)
   simp only [List.getElem_toArray,List.getElem_cons_zero,List.getElem_cons_succ,Act.put,List.setIfInBounds_toArray,List.set_cons_zero,List.set_cons_succ]
   refine wpAnyH_ready (rs:=[6]) (by kernel_rfl) (by simp) ?_
   refine AllReadyH.cons rfl (fun K hK=> ?_) AllReadyH.nil
   go_simp
   refine(HJ.out wd).mono ?_
   rintro e w6 ⟨rfl,hb6⟩
   have HK6:=Lib.hid (HKd.out.belowW hb6)
   have HW6:=Lib.hid (HWd.out.trans (hb6.mono hsz))
   refine hK.out _ _ ⟨(hb6.cell (p:=⟨tb,0,none⟩) htld).trans hHeld.1,(hb6.cell (p:=⟨tb,1,none⟩) htld).trans hHeld.2.1,(hb6.cell (p:=⟨tb,2,none⟩) htld).trans hHeld.2.2.1,(hb6.cell (p:=⟨sb,so+i*9,none⟩) hsbd).trans hHeld.2.2.2⟩ (fun hHeld=> ?_)
   clear hK K hb6 HKd HWd
   try simp only [List.getElem_toArray,List.getElem_cons_zero,List.getElem_cons_succ,Act.put,List.setIfInBounds_toArray,List.set_cons_zero,List.set_cons_succ]
   refine wpAnyH_done (by kernel_rfl) ?_ _
   simp only [phaseQ]
   clear hHeld
   have HKt6:Hid (w6.heap[tb]? =some (.cells #[.slice (some ⟨gb,0,none⟩) many many,.slice wa_ wn wc_,.int .i64 6] 38 (0,0))):=Lib.hid (by have h:=HK6.out.tab;rwa [Hul.out]at h)
   have t0:w6.cell? ⟨tb,0,none⟩=some (.slice (some ⟨gb,0,none⟩) many many):=by rw [Lib.cell_of_heap HKt6.out];rfl
   have u0:w6.cell? ⟨gb,h,none⟩=some u:=by rw [Lib.cell_of_heap HK6.out.ex];simpa using Hu.out
   have hou:=HK6.out.own h u l Hu.out Hbg.out
   obtain⟨ua,uc,huf⟩:=hou.form
   obtain⟨q,hq⟩:∃ q,q=l.length:=⟨_,rfl⟩
   have Hq:=Lib.hid hq
   rw [← hq]at huf hll
   subst huf
   have Hou:=Lib.hid hou
   have hgl6:=HK6.out.glt
   have htl6:=HK6.out.tlt
   have hsz6:Bf≤w6.heap.size:=by omega
   clear hou hq
   have hh2:(h:Int)<(many:Int):=by omega
   go_upto_region 10 with fail
   refine wp_region_phase 11 (by kernel_rfl) (by kernel_rfl) ?_
   simp only [List.take_succ_cons,List.take_zero,List.drop_succ_cons,List.drop_zero,List.take_nil,List.drop_nil]
   refine wpAny_of_held (S:=fun w':World=>w'.cell? ⟨tb,0,none⟩=some (.slice (some ⟨gb,0,none⟩) many many)∧w'.cell? ⟨gb,h,none⟩=some (.slice ua q uc)) _ _ _ _ ?_
   have hHeld:(fun w':World=>w'.cell? ⟨tb,0,none⟩=some (.slice (some ⟨gb,0,none⟩) many many)∧w'.cell? ⟨gb,h,none⟩=some (.slice ua q uc)) (World.drew w6):=⟨t0,u0⟩
   show wpAnyH _ _ _ _ _ _ _ _ (World.drew _)
   have HKd:=Lib.hid (HK6.out.belowW (Below.refl _ w6).drew)
   have HWd:=Lib.hid (HW6.out.drew)
   have Houd:=Lib.hid (Hou.out.drew)
   have hszd:Bf≤(World.drew w6).heap.size:=hsz6
   clear t0 u0 HK6 HW6 HKt6 Hou hgl6 htl6 hsz6
   generalize (World.drew w6)=wd2 at *
   refine wpAnyH_take (i:=0) (v:= ?_) rfl (by kernel_rfl) (by kernel_rfl) (by kernel_rfl) (fun _ _ _ h=>h) (Or.inl ⟨by rfl,?_⟩) hHeld ?_
   rotate_left
   ·(intro w hSw;(try dsimp only at hSw);go_simp;try with_reducible rfl)
   simp only [List.getElem_toArray,List.getElem_cons_zero,List.getElem_cons_succ,Act.put,List.setIfInBounds_toArray,List.set_cons_zero,List.set_cons_succ]
   refine wpAnyH_take (i:=1) (v:= ?_) rfl (by kernel_rfl) (by kernel_rfl) (by kernel_rfl) (fun _ _ _ h=>h) (Or.inl ⟨by rfl,?_⟩) hHeld ?_
   rotate_left
   ·(intro w hSw;(try dsimp only at hSw);go_simp;try with_reducible rfl)
   simp only [List.getElem_toArray,List.getElem_cons_zero,List.getElem_cons_succ,Act.put,List.setIfInBounds_toArray,List.set_cons_zero,List.set_cons_succ]
   refine wpAnyH_take (i:=2) (v:= ?_) rfl (by kernel_rfl) (by kernel_rfl) (by kernel_rfl) (fun _ _ _ h=>h) (Or.inl ⟨by rfl,?_⟩) hHeld ?_
   rotate_left
   ·(intro w hSw;(try dsimp only at hSw);go_simp;try with_reducible rfl)
   simp only [List.getElem_toArray,List.getElem_cons_zero,List.getElem_cons_succ,Act.put,List.setIfInBounds_toArray,List.set_cons_zero,List.set_cons_succ]
   refine wpAnyH_take (i:=3) (v:= ?_) rfl (by kernel_rfl) (by kernel_rfl) (by kernel_rfl) (fun _ _ _ h=>h) (Or.inl ⟨by rfl,?_⟩) hHeld ?_
   rotate_left
   ·(intro w hSw;(try dsimp only at hSw);go_simp;try with_reducible rfl)
   simp only [List.getElem_toArray,List.getElem_cons_zero,List.getElem_cons_succ,Act.put,List.setIfInBounds_toArray,List.set_cons_zero,List.set_cons_succ]
   refine wpAnyH_take (i:=4) (v:= ?_) rfl (by kernel_rfl) (by kernel_rfl) (by kernel_rfl) (fun _ _ _ h=>h) (Or.inl ⟨by rfl,?_⟩) hHeld ?_
   rotate_left
   ·(intro w hSw;(try dsimp only at hSw);go_simp;try with_reducible rfl)
   simp only [List.getElem_toArray,List.getElem_cons_zero,List.getElem_cons_succ,Act.put,List.setIfInBounds_toArray,List.set_cons_zero,List.set_cons_succ]
   refine wpAnyH_take (i:=5) (v:= ?_) rfl (by kernel_rfl) (by kernel_rfl) (by kernel_rfl) (fun _ _ _ h=>h) (Or.inl ⟨by rfl,?_⟩) hHeld ?_
   rotate_left
   ·(intro w hSw;(try dsimp only at hSw);go_simp;try with_reducible rfl)
   simp only [List.getElem_toArray,List.getElem_cons_zero,List.getElem_cons_succ,Act.put,List.setIfInBounds_toArray,List.set_cons_zero,List.set_cons_succ]
   refine wpAnyH_take (i:=6) (v:= ?_) rfl (by kernel_rfl) (by kernel_rfl) (by kernel_rfl) (fun _ _ _ h=>h) (Or.inl ⟨by rfl,?_⟩) hHeld ?_
   rotate_left
   ·(intro w hSw;(try dsimp only at hSw);go_simp;try with_reducible rfl)
   simp only [List.getElem_toArray,List.getElem_cons_zero,List.getElem_cons_succ,Act.put,List.setIfInBounds_toArray,List.set_cons_zero,List.set_cons_succ]
   refine wpAnyH_take (i:=7) (v:= ?_) rfl (by kernel_rfl) (by kernel_rfl) (by kernel_rfl) (fun _ _ _ h=>h) (Or.inl ⟨by rfl,?_⟩) hHeld ?_
   rotate_left
   ·(intro w hSw;(try dsimp only at hSw);go_simp;try with_reducible rfl)
   simp only [List.getElem_toArray,List.getElem_cons_zero,List.getElem_cons_succ,Act.put,List.setIfInBounds_toArray,List.set_cons_zero,List.set_cons_succ]
   refine wpAnyH_take (i:=8) (v:= ?_) rfl (by kernel_rfl) (by kernel_rfl) (by kernel_rfl) (fun _ _ _ h=>h) (Or.inl ⟨by rfl,?_⟩) hHeld ?_
   rotate_left
   ·(intro w hSw;(try dsimp only at hSw);go_simp;try with_reducible rfl)
   simp only [List.getElem_toArray,List.getElem_cons_zero,List.getElem_cons_succ,Act.put,List.setIfInBounds_toArray,List.set_cons_zero,List.set_cons_succ]
   have Houn:=Lib.hid (Houd.out.alloc (.cells #[.int .i64 (i:Int)] 3 (0,0)))
   have HKn:=Lib.hid (HKd.out.belowW ((Below.refl _ wd2).alloc (Nat.le_refl _) (.cells #[.int .i64 (i:Int)] 3 (0,0))))
   have HWn:=Lib.hid (HWd.out.alloc hszd (.cells #[.int .i64 (i:Int)] 3 (0,0)))
   have HXn:=Lib.hid (heap_alloc_new wd2 (.cells #[.int .i64 (i:Int)] 3 (0,0)))
   refine wpAnyH_ready (rs:=[9]) (by kernel_rfl) (by simp) ?_
   refine AllReadyH.cons rfl (fun K hK=> ?_) AllReadyH.nil
   go_simp
   refine hK.out _ _ ⟨(World.cell?_alloc_lt _ _ _ (World.block_lt_of_cell? _ _ hHeld.1)).trans hHeld.1,(World.cell?_alloc_lt _ _ _ (World.block_lt_of_cell? _ _ hHeld.2)).trans hHeld.2⟩ (fun hHeld=> ?_)
   clear hK K
   try simp only [List.getElem_toArray,List.getElem_cons_zero,List.getElem_cons_succ,Act.put,List.setIfInBounds_toArray,List.set_cons_zero,List.set_cons_succ]
   have hzn:wd2.heap.size<(wd2.alloc (.cells #[.int .i64 (i:Int)] 3 (0,0))).heap.size:=by simp
   clear HKd HWd Houd
   generalize wd2.alloc (.cells #[.int .i64 (i:Int)] 3 (0,0))=wn1 at *
   have HA:Hid (OwnK 3 kInt Bf (fun b=>b<wn1.heap.size∧¬ (Value.slice ua q uc).ownBlock=some b) wn1 (.slice ua q uc) l):=Lib.hid (Houn.out.reE flat_int (fun g hg h=>h.2 hg))
   refine wpAnyH_ready (rs:=[10]) (by kernel_rfl) (by simp) ?_
   refine AllReadyH.cons rfl (fun K hK=> ?_) AllReadyH.nil
   rw [if_pos (by rfl)]
   simp only [List.getElem_toArray,List.getElem_cons_succ,List.getElem_cons_zero]
   refine wp_appendK (K:=kInt) (v:=.slice ua q uc) (e:=3) (B:=Bf) 41 _ 8 Try.underlying41 info_intB rfl (by decide) (.tmp 55) (.tmp 57) rfl q Hq.out.symm rfl HA.out (fun b hb=>hb.1) wd2.heap.size (i:Int) [.int .i64 (i:Int)] rfl (cells_row HXn.out) (fun u hu=>by rcases List.mem_singleton.1 hu with rfl;rfl) rfl (by rw [← Hq.out];omega) (by rw [← Hq.out];omega) (by omega) ?_
   rintro g7 c7 w7 ho7 hs7 hg7-
   have hgu:gb<wn1.heap.size∧(Value.slice ua q uc).ownBlock≠some gb:=⟨HKn.out.glt,fun e=>Houn.out.notE gb e (Or.inl rfl)⟩
   have htu:tb<wn1.heap.size∧(Value.slice ua q uc).ownBlock≠some tb:=⟨HKn.out.tlt,fun e=>Houn.out.notE tb e (Or.inr rfl)⟩
   have HG7:=Lib.hid ((hs7.block gb hgu).trans HKn.out.ex)
   have HKf:=Lib.hid (HKn.out.append Hu.out Hbg.out ho7 hs7 (fun b hb=>ho7.where_ b hb))
   rw [← HSn.out]at HKf
   have HWf:=Lib.hid ((HWn.out.trans ((hs7.imp (S':=(·<Bf)) (fun b hb=>⟨by have hb:b<Bf:=hb;omega,fun e=>by have:=(Houn.out.lt b e).1;have hb:b<Bf:=hb;omega⟩)).below)).setCell (p:=⟨gb,h,none⟩) hgB (.slice (some ⟨g7,0,none⟩) (q+1) c7))
   refine hK.out _ _ ⟨(hs7.cell (p:=⟨tb,0,none⟩) htu).trans hHeld.1,(hs7.cell (p:=⟨gb,h,none⟩) hgu).trans hHeld.2⟩ (fun hHeld=> ?_)
   clear hK K ho7 hs7 hgu htu
   try simp only [List.getElem_toArray,List.getElem_cons_zero,List.getElem_cons_succ,Act.put,List.setIfInBounds_toArray,List.set_cons_zero,List.set_cons_succ]
   refine wpAnyH_done (by kernel_rfl) ?_ _
   simp only [phaseQ]
   have u7:=hHeld.2
   have f7:w7.frozen? ⟨gb,h,none⟩=false:=Lib.frozen_of_heap HG7.out h
   clear hHeld
   go_wp2
   go_roundw
   case rel=>exact⟨k+1,by go_num,by omega,_,by rw [List.length_set];exact Hul.out,HKf.out,HWf.out⟩
   case measure=>simp [intOf];omega
  ·have HKe:=Lib.hid HK.out
   have HKt:Hid (wr.heap[tb]? =some (.cells #[.slice (some ⟨gb,0,none⟩) many many,.slice wa_ wn wc_,.int .i64 6] 38 (0,0))):=Lib.hid (by have h:=HK.out.tab;rwa [Hul.out]at h)
   have HXr:=Lib.hid ((HW.out.block rb (by have:=HBf.out;omega)).trans HX4.out)
   have hne:rb≠tb:=by have:=HBf.out;omega
   have t0:wr.cell? ⟨tb,0,none⟩=some (.slice (some ⟨gb,0,none⟩) many many):=by rw [Lib.cell_of_heap HKt.out];rfl
   have t1:wr.cell? ⟨tb,1,none⟩=some (.slice wa_ wn wc_):=by rw [Lib.cell_of_heap HKt.out];rfl
   have t2:wr.cell? ⟨tb,2,none⟩=some (.int .i64 6):=by rw [Lib.cell_of_heap HKt.out];rfl
   have HR:Hid (LB kInts (fun b=>Bf≤b∧b<wr.heap.size) wr (.slice (some ⟨gb,0,none⟩) many many) (bucketsT syms (countT (seenIx syms).length))):=Lib.hid (by
    have h:=HK.out.lb (by have:=Hul.out;omega)
    rw [Hul.out,List.take_of_length_le (by have:=Hm.out;omega)]at h
    rw [bucketsT_eq,← Hm.out,← Hmany.out]
    exact h)
   have HWR:Hid (LB kWord (fun b=>rb≤b∧rb≠b∧b<w4.heap.size) w4 (.slice wa_ wn wc_) (filterT syms)):=Lib.hid (by
    obtain⟨a',b',o',c',hv,hmx,haa,hcap,hS,hc⟩:=HW4.out.lb
    refine⟨a',b',o',c',hv,hmx,haa,hcap,fun hne=> ?_,hc⟩
    have h1:=hS hne
    have h2:=HW4.out.lt b' (by rw [hv,haa hne];rfl)
    exact⟨by omega,by omega,h1.1⟩)
   go_wp2_with (refine wpList_store_row rfl 38 (.tmp 2) (.tmp 61) rfl rb #[.slice (some ⟨gb,0,none⟩) many many,.slice wa_ wn wc_,.int .i64 6] rfl rfl _ _ HXr.out (by kernel_rfl) rfl (by simp [Value.oneCell']) ?_)
   go_wp2_with fail
   have FR:=Lib.hid (setRow_heap _ rb _ #[.slice (some ⟨gb,0,none⟩) many many,.slice wa_ wn wc_,.int .i64 6] _ _ HXr.out)
   refine bodyPost_ret (results_row_tmp rfl _ _ rb _ _ _ _ rfl FR.out Try.underlying38 rfl (by kernel_rfl)) rfl ?_
   have hkp:∀ b,rb≠b→(wr.setRow rb #[.slice (some ⟨gb,0,none⟩) many many,.slice wa_ wn wc_,.int .i64 6]).heap[b]? =wr.heap[b]? :=fun b hb=>setRow_other _ _ b _ (fun e=>hb e.symm)
   have hsr:(wr.setRow rb #[.slice (some ⟨gb,0,none⟩) many many,.slice wa_ wn wc_,.int .i64 6]).heap.size=wr.heap.size:=by simp
   refine⟨_,_,rfl,?_,?_,?_⟩
   ·rw [Hrb.out,hsr]
    exact(HR.out.keeps (fun b hb=>hkp b (by have:=HBf.out;have:=hb.1;omega))).imp (fun b hb=>⟨by have:=HBf.out;have:=hb.1;omega,hb.2⟩)
   ·rw [Hrb.out,hsr]
    exact(HWR.out.keeps (fun b hb=>(hkp b hb.2.1).trans (HW.out.block b (by have:=HBf.out;have:=hb.2.2;omega)))).imp (fun b hb=>⟨hb.1,by have:=HW.out.size;have:=hb.2.2;omega⟩)
   ·rw [Hrb.out]
    exact below_setRow (HB4.out.trans (HW.out.mono (by have:=HBf.out;omega))) _ _ (Nat.le_refl _)
end Go.Proofs.Ytpomdoliblilfaa
