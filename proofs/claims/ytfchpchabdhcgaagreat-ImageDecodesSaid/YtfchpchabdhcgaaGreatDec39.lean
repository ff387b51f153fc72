/- Lemmas. -/
import Derived.Test.YtfchpchabdhcgaaGreatDec11
import Derived.Test.YtfchpchabdhcgaaGreatDec33
set_option linter.unusedVariables false
set_option linter.unusedSimpArgs false
set_option maxHeartbeats 64000000
set_option maxRecDepth 100000
namespace Go.Proofs.YtfchpchabdhcgaaGreat
open Go.RowKit
theorem xnum_built (b:Nat) (S:Nat→Prop) (w:World) (l:List UInt8) (size:Nat) (ns:List Int) (h:WJ b S w l) (hs:size=1∨size=2∨size=4∨size=8) (hf:∀ n∈ns,okN size n) (hlen:l.length+size*ns.length≤1000000000) (hn:ns.length≤1000000):
  Calls Tryz.prog 60 #[.pointer (some ⟨b,0,none⟩),.int .i64 (size:Int),.slice (some ⟨w.heap.size,0,none⟩) ns.length ns.length] (w.alloc (.cells (ns.map (Value.int .i64)).toArray 3 (0,0))) fun e w'=>e=.returned (.tuple #[])∧WJ b S w' (l++numsL size ns)∧Step S w w':=by
 refine(xnum_any b (fun x=>S x∨x=w.heap.size) _ l size ns _ (h.alloc _) ((built_ints w ns (by omega)).imp (fun x hx=>Or.inr hx)) hs hf (fun n hn=>okN_i64 hs (hf n hn)) hlen).mono ?_
 rintro e w' ⟨he,hw,hs'⟩
 exact⟨he,hw.less (fun x hx=>Or.inl hx),(Step.later ((Below.refl _ w).alloc (Nat.le_refl _) _) (fun x hx=>h.inS hx)).trans (hs'.imp (fun x hx=>Or.inl hx))⟩
theorem jone_any (w:World) (x:Bool):Calls Tryz.prog 63 #[.bool x] w fun e w'=>e=.returned (.int .i64 (oneL x))∧w'=w:=by
 cases x
 all_goals
  go_enter Tryz.func63,Tryz.ntmps63
  go_wp2
  go_ret
  exact⟨rfl,rfl⟩
theorem xbytes_any (b:Nat) (S:Nat→Prop) (w:World) (l:List UInt8) (h:WJ b S w l):
  Calls Tryz.prog 64 #[.pointer (some ⟨b,0,none⟩)] w fun e w'=>∃ v,e=.returned (.tuple #[v,.int .i64 0])∧OwnK 5 kByte (b+1) (·=b) w v l∧w'=w:=by
 have hc1:=h.sound
 have hbl:=h.lt
 obtain⟨v,hv1,hv2,hv3⟩:=h.ex
 have hc0:w.cell? ⟨b,0,none⟩=some v:=by rw [Lib.cell_of_heap hv1];rfl
 obtain⟨va,vc,rfl⟩:=hv2.form
 have Hv2:=Lib.hid hv2
 clear h hv1 hv2 hv3
 go_enter Tryz.func64,Tryz.ntmps64
 go_wp2
 go_ret2
 exact⟨_,rfl,Hv2.out,rfl⟩
theorem xtext_any (b:Nat) (S:Nat→Prop) (w:World) (l:List UInt8) (ss:List (List UInt8)) (u:Value) (h:WJ b S w l) (hu:LB kStr S w u ss) (hf:∀ s∈ss,s.length≤4096) (hlen:l.length+4098*ss.length≤1000000000):
  Calls Tryz.prog 59 #[.pointer (some ⟨b,0,none⟩),u] w fun e w'=>e=.returned (.tuple #[])∧WJ b S w' (l++textsL ss)∧Step S w w':=by
 obtain⟨ua,ub,uoff,ucap,rfl,hum,huc,hat⟩:=hu.at
 have Hat:=Lib.hid hat
 have Hf:=Lib.hid hf
 have H:=Lib.hid h
 have HDg:=Lib.hid (fun w n=>xdigits_any w 2 n (by decide))
 have hbl:=h.lt
 clear hu hat hf h
 go_enter Tryz.func59,Tryz.ntmps59
 go_wp2_with fail
 go_loopw [4] (fun i wr=>∃ k:Nat,i=.int .i64 k∧k≤ss.length∧WJ b S wr (l++textsL (ss.take k))∧Step S w wr) (fun i _=>ss.length-(intOf i).toNat)
 case atStart=>exact⟨0,rfl,Nat.zero_le _,by simpa [textsL] using H.out,Step.refl _ _⟩
 case round=>
  obtain⟨k,rfl,hk,hw,hst⟩:=hrel
  have Hst:=Lib.hid hst
  have hc1:=hw.sound
  have hbr:=hw.lt
  by_cases hlt:k<ss.length
  ·obtain rfl:=Hat.out.addr (by omega)
   obtain⟨p,hp⟩:∃ p,ss[k]? =some p:=⟨_,List.getElem?_eq_getElem hlt⟩
   have huS:=Hat.out.inS (by omega)
   obtain⟨g0,hpz⟩:=Hat.out.str1 k p hp
   have g:=(Hst.out.cell (p:=⟨ub,uoff+k,none⟩) huS).trans g0
   have hsb:=World.block_lt_of_cell? _ _ g
   have hpl:=Hf.out p (List.mem_of_getElem? hp)
   have hsz:=size_mk p
   have Htt:=Lib.hid (textsL_take ss k p hp)
   have htl:=textsL_len (ss.take k) (fun s hs=>Hf.out s (List.mem_of_mem_take hs))
   rw [List.length_take,Nat.min_eq_left hk]at htl
   have hng:¬ 4096<p.length:=by omega
   have hdl:=digitsL_len 2 (p.length:Int)
   obtain⟨v,hv1,hv2,hv3⟩:=hw.ex
   have Hv1:=Lib.hid hv1
   have Hv2:=Lib.hid hv2
   have Hv3:=Lib.hid hv3
   have hc0:wr.cell? ⟨b,0,none⟩=some v:=by rw [Lib.cell_of_heap hv1];rfl
   obtain⟨va,vc,hvf⟩:=hv2.form
   obtain⟨L,hL⟩:∃ L,(l++textsL (ss.take k)).length=L:=⟨_,rfl⟩
   have HL:=Lib.hid hL
   rw [hL]at hvf
   subst hvf
   have hLb:L≤1000000000-4098:=by rw [← hL];simp only [List.length_append];omega
   have hL4:(l++textsL (ss.take k)++digitsL 2 (p.length:Int)).length≤1000000000-4096:=by rw [List.length_append,hL,hdl];omega
   have Hp:=Lib.hid hp
   clear hp hw hst hv1 hv2 hv3 hL htl g0
   go_wp2_with fail
   clear hc1
   have fx:wr.frozen? ⟨b,0,none⟩=false:=Lib.frozen_of_heap Hv1.out 0
   refine wp_region_phase 12 (by kernel_rfl) (by kernel_rfl) ?_
   simp only [List.take_succ_cons,List.take_zero,List.drop_succ_cons,List.drop_zero,List.take_nil,List.drop_nil]
   refine wpAny_of_held (S:=fun w'=>w'.cell? ⟨b,0,none⟩=some (.slice va L vc)∧w'.cell? ⟨ub,uoff+k,none⟩=some (.string ⟨p.toArray⟩)) _ _ _ _ ?_
   have hHeld:(fun w':World=>w'.cell? ⟨b,0,none⟩=some (.slice va L vc)∧w'.cell? ⟨ub,uoff+k,none⟩=some (.string ⟨p.toArray⟩)) wr.drew:=⟨hc0,g⟩
   show wpAnyH _ _ _ _ _ _ _ _ (World.drew _)
   have Hd2:=Lib.hid Hv2.out.drew
   have Hd1:Hid (wr.drew.heap[b]? =_):=Lib.hid Hv1.out
   have Hd3:Hid (∀ x,S x→x<wr.drew.heap.size∧x≠b∧Value.ownBlock (.slice va L vc)≠some x):=Lib.hid Hv3.out
   have hst3:=Lib.hid Hst.out.drew
   have hbd:b<wr.drew.heap.size:=hbr
   have hsbd:ub<wr.drew.heap.size:=hsb
   generalize wr.drew=wd at *
   refine wpAnyH_reads [0,1,2,3,4,5,6,7,8,9] hHeld (fun _ _ _ _ _ h=>h) (by kernel_rfl) rfl rfl ?_
   simp only [Takes,List.toList_toArray,opN_zero,opN_succ]
   iterate 10 (refine ⟨?_,Or.inl ⟨by rfl,?_⟩,?_⟩;rotate_left;(· (intro w hSw;(try dsimp only at hSw);go_simp;try with_reducible rfl));try simp only [Act.put,List.setIfInBounds_toArray,List.set_cons_zero,List.set_cons_succ])
   refine wpAnyH_ready (rs:=[10]) (by kernel_rfl) (by simp) ?_
   refine AllReadyH.cons rfl (fun K hK=> ?_) AllReadyH.nil
   go_simp
   refine(HDg.out _ (p.length:Int)).mono ?_
   rintro e w4 ⟨r,rfl,hro,hb4⟩
   obtain⟨ra,rc,rfl⟩:=hro.form
   have Hro:=Lib.hid hro
   have Hd4:=Lib.hid ((hb4.block b hbd).trans Hd1.out)
   have Hd5:=Lib.hid (Hd2.out.below hb4)
   have hst4:=Lib.hid (hst3.out.trans (Step.later hb4 (fun x hx=>(Hd3.out x hx).1)))
   have hz4:=hb4.size
   refine hK.out _ _ (⟨(Lib.cell_of_heap Hd4.out 0).trans rfl,(hb4.cell (p:=⟨ub,uoff+k,none⟩) (by show ub<wd.heap.size;exact hsbd)).trans hHeld.2⟩) (fun hHeld=> ?_)
   clear hK K hro hb4
   try simp only [Act.put,List.setIfInBounds_toArray,List.set_cons_zero,List.set_cons_succ]
   refine wpAnyH_ready (rs:=[11]) (by kernel_rfl) (by simp) ?_
   refine AllReadyH.cons rfl (fun K hK=> ?_) AllReadyH.nil
   rw [if_pos (by rfl)]
   simp only [List.getElem_toArray,List.getElem_cons_succ,List.getElem_cons_zero]
   refine wp_appendsK (B:=b+1) (E:=(·=b)) plain_byte 22 (.int .u8 0) 1 Tryz.underlying22 info_byte rfl (.tmp 31) (.tmp 37) (by rfl) (by rfl) Hd5.out (fun x hx=>by have hx:x=b:=hx;omega) _ (digitsL 2 (p.length:Int)) (by rfl) Hro.out.lb (by rw [HL.out,hdl];omega) (by rw [HL.out,hdl];omega) (by omega) (fun v' w5 hown hst5 hne=> ?_)
   obtain⟨va',vc',hvf⟩:=hown.form
   obtain⟨L',hL'⟩:∃ L',(l++textsL (ss.take k)++digitsL 2 (p.length:Int)).length=L':=⟨_,rfl⟩
   rw [hL']at hvf
   clear hL'
   subst hvf
   have hvb:Value.ownBlock (.slice va L vc)≠some b:=fun e=>Hd5.out.notE _ e rfl
   have Hb5:=Lib.hid ((hst5.block b ⟨by omega,hvb⟩).trans Hd4.out)
   have hst6:=Lib.hid (hst4.out.trans (hst5.imp (S':=S) (fun x hx=>⟨by have:=(Hd3.out x hx).1;omega,(Hd3.out x hx).2.2⟩)))
   have Hd8:Hid (∀ x,S x→x<w5.heap.size∧x≠b∧Value.ownBlock (.slice va' L' vc')≠some x):=Lib.hid (fun x hx=>by
    obtain⟨a1,a2,a3⟩:=Hd3.out x hx
    exact⟨by have:=hst5.size;omega,a2,hne x (by omega) a3⟩)
   have Hown:=Lib.hid hown
   refine hK.out _ _ (⟨(Lib.cell_of_heap Hb5.out 0).trans rfl,(hst5.cell (p:=⟨ub,uoff+k,none⟩) (by have:=Hd3.out ub huS;exact⟨by show ub<_;omega,this.2.2⟩)).trans hHeld.2⟩) (fun hHeld=> ?_)
   clear hK K
   try simp only [Act.put,List.setIfInBounds_toArray,List.set_cons_zero,List.set_cons_succ]
   refine wpAnyH_done (by kernel_rfl) ?_ _
   simp only [phaseQ]
   have hc5:w5.cell? ⟨b,0,none⟩=some (.slice va L vc):=by rw [Lib.cell_of_heap Hb5.out];rfl
   have fx5:w5.frozen? ⟨b,0,none⟩=false:=Lib.frozen_of_heap Hb5.out 0
   have hz5:b<w5.heap.size:=by have:=hst5.size;omega
   have Hfin:=Lib.hid (WJ.put Hb5.out Hown.out Hd8.out)
   have Hstf:Hid (Step S w (w5.setCell ⟨b,0,none⟩ (.slice va' L' vc'))):=Lib.hid (hst6.out.setCell (p:=⟨b,0,none⟩) (fun hS=>(Hd8.out b hS).2.1 rfl) _)
   clear hHeld hown hst5 hne hc0 fx Hd1 Hd2 Hd3 Hd4 Hd5 hst3 hst4 hvb Hv1 Hv2 Hv3
   clear Hro
   go_wp2_with fail
   clear hc5 fx5
   obtain⟨w6,hw6⟩:∃ x,x=w5.setCell ⟨b,0,none⟩ (.slice va' L' vc'):=⟨_,rfl⟩
   rw [← hw6]at Hfin Hstf ⊢
   clear hw6
   have hw:=Hfin.out
   have Hst:=Lib.hid Hstf.out
   have hbr:=hw.lt
   have g:=(Hst.out.cell (p:=⟨ub,uoff+k,none⟩) huS).trans (Hat.out.str1 k p Hp.out).1
   have hsb:=World.block_lt_of_cell? _ _ g
   clear HL Hfin Hstf Hown Hb5 Hd8 hst6
   generalize hLd:l++textsL (ss.take k)++digitsL 2 (p.length:Int)=Ld at *
   obtain⟨v,hv1,hv2,hv3⟩:=hw.ex
   have Hv1:=Lib.hid hv1
   have Hv2:=Lib.hid hv2
   have Hv3:=Lib.hid hv3
   have hc0:w6.cell? ⟨b,0,none⟩=some v:=by rw [Lib.cell_of_heap hv1];rfl
   obtain⟨va,vc,hvf⟩:=hv2.form
   obtain⟨L,hL⟩:∃ L,(Ld).length=L:=⟨_,rfl⟩
   have HL:=Lib.hid hL
   rw [hL]at hL4
   rw [hL]at hvf
   subst hvf
   clear hw hv1 hv2 hv3
   have fx:w6.frozen? ⟨b,0,none⟩=false:=Lib.frozen_of_heap Hv1.out 0
   refine wp_region_phase 10 (by kernel_rfl) (by kernel_rfl) ?_
   simp only [List.take_succ_cons,List.take_zero,List.drop_succ_cons,List.drop_zero,List.take_nil,List.drop_nil]
   refine wpAny_of_held (S:=fun w'=>w'.cell? ⟨b,0,none⟩=some (.slice va L vc)∧w'.cell? ⟨ub,uoff+k,none⟩=some (.string ⟨p.toArray⟩)) _ _ _ _ ?_
   have hHeld:(fun w':World=>w'.cell? ⟨b,0,none⟩=some (.slice va L vc)∧w'.cell? ⟨ub,uoff+k,none⟩=some (.string ⟨p.toArray⟩)) w6.drew:=⟨hc0,g⟩
   show wpAnyH _ _ _ _ _ _ _ _ (World.drew _)
   have Hd2:=Lib.hid Hv2.out.drew
   have Hd1:Hid (w6.drew.heap[b]? =_):=Lib.hid Hv1.out
   have Hd3:Hid (∀ x,S x→x<w6.drew.heap.size∧x≠b∧Value.ownBlock (.slice va L vc)≠some x):=Lib.hid Hv3.out
   have hst3:=Lib.hid Hst.out.drew
   have hbd:b<w6.drew.heap.size:=hbr
   have hsbd:ub<w6.drew.heap.size:=hsb
   generalize w6.drew=wd at *
   refine wpAnyH_reads [0,1,2,3,4,5,6,7,8] hHeld (fun _ _ _ _ _ h=>h) (by kernel_rfl) rfl rfl ?_
   simp only [Takes,List.toList_toArray,opN_zero,opN_succ]
   iterate 9 (refine ⟨?_,Or.inl ⟨by rfl,?_⟩,?_⟩;rotate_left;(· (intro w hSw;(try dsimp only at hSw);go_simp;try with_reducible rfl));try simp only [Act.put,List.setIfInBounds_toArray,List.set_cons_zero,List.set_cons_succ])
   have Hd4:=Hd1
   have Hd5:=Hd2
   have hst4:=hst3
   have hz4:wd.heap.size≤wd.heap.size:=Nat.le_refl _
   refine wpAnyH_ready (rs:=[9]) (by kernel_rfl) (by simp) ?_
   refine AllReadyH.cons rfl (fun K hK=> ?_) AllReadyH.nil
   rw [if_pos (by rfl)]
   simp only [List.getElem_toArray,List.getElem_cons_succ,List.getElem_cons_zero]
   refine wp_appendStrK (B:=b+1) (E:=(·=b)) (.tmp 45) (.tmp 49) (by rfl) (by rfl) Hd5.out (fun x hx=>by have hx:x=b:=hx;omega) (p) (by rfl) (by rw [HL.out];omega) (by omega) (fun v' w5 hown hst5 hne=> ?_)
   obtain⟨va',vc',hvf⟩:=hown.form
   obtain⟨L',hL'⟩:∃ L',(Ld++p).length=L':=⟨_,rfl⟩
   rw [hL']at hvf
   clear hL'
   subst hvf
   have hvb:Value.ownBlock (.slice va L vc)≠some b:=fun e=>Hd5.out.notE _ e rfl
   have Hb5:=Lib.hid ((hst5.block b ⟨by omega,hvb⟩).trans Hd4.out)
   have hst6:=Lib.hid (hst4.out.trans (hst5.imp (S':=S) (fun x hx=>⟨by have:=(Hd3.out x hx).1;omega,(Hd3.out x hx).2.2⟩)))
   have Hd8:Hid (∀ x,S x→x<w5.heap.size∧x≠b∧Value.ownBlock (.slice va' L' vc')≠some x):=Lib.hid (fun x hx=>by
    obtain⟨a1,a2,a3⟩:=Hd3.out x hx
    exact⟨by have:=hst5.size;omega,a2,hne x (by omega) a3⟩)
   have Hown:=Lib.hid hown
   refine hK.out _ _ (⟨(Lib.cell_of_heap Hb5.out 0).trans rfl,(hst5.cell (p:=⟨ub,uoff+k,none⟩) (by have:=Hd3.out ub huS;exact⟨by show ub<_;omega,this.2.2⟩)).trans hHeld.2⟩) (fun hHeld=> ?_)
   clear hK K
   try simp only [Act.put,List.setIfInBounds_toArray,List.set_cons_zero,List.set_cons_succ]
   refine wpAnyH_done (by kernel_rfl) ?_ _
   simp only [phaseQ]
   have hc5:w5.cell? ⟨b,0,none⟩=some (.slice va L vc):=by rw [Lib.cell_of_heap Hb5.out];rfl
   have fx5:w5.frozen? ⟨b,0,none⟩=false:=Lib.frozen_of_heap Hb5.out 0
   have hz5:b<w5.heap.size:=by have:=hst5.size;omega
   have Hfin:=Lib.hid (WJ.put Hb5.out Hown.out Hd8.out)
   have Hstf:Hid (Step S w (w5.setCell ⟨b,0,none⟩ (.slice va' L' vc'))):=Lib.hid (hst6.out.setCell (p:=⟨b,0,none⟩) (fun hS=>(Hd8.out b hS).2.1 rfl) _)
   clear hHeld hown hst5 hne hc0 fx Hd1 Hd2 Hd3 Hd4 Hd5 hst3 hst4 hvb Hv1 Hv2 Hv3
   go_wp2
   go_roundw
   case rel=>
    refine⟨k+1,by go_num,by omega,?_,Hstf.out⟩
    have h:=Hfin.out
    rw [← hLd,List.append_assoc,List.append_assoc,← Htt.out]at h
    exact h
   case measure=>simp [intOf];omega
  ·have Hall:Hid (ss.take k=ss):=Lib.hid (List.take_of_length_le (by omega))
   rw [Hall.out]at hw
   have Hw2:=Lib.hid hw
   clear hw hst
   go_wp2
   go_end0
   exact⟨rfl,Hw2.out,Hst.out⟩
theorem xtext_built (b:Nat) (S:Nat→Prop) (w:World) (l:List UInt8) (ss:List (List UInt8)) (h:WJ b S w l) (hf:∀ s∈ss,s.length≤4096) (hlen:l.length+4098*ss.length≤1000000000):
  Calls Tryz.prog 59 #[.pointer (some ⟨b,0,none⟩),.slice (some ⟨w.heap.size,0,none⟩) ss.length ss.length] (w.alloc (.cells (ss.map (fun s=>Value.string ⟨s.toArray⟩)).toArray 9 (0,0))) fun e w'=>e=.returned (.tuple #[])∧WJ b S w' (l++textsL ss)∧Step S w w':=by
 refine(xtext_any b (fun x=>S x∨x=w.heap.size) _ l ss _ (h.alloc _) ((built_strs w ss (by omega) (fun s hs=>by have:=hf s hs;omega)).imp (fun x hx=>Or.inr hx)) hf hlen).mono ?_
 rintro e w' ⟨he,hw,hs'⟩
 exact⟨he,hw.less (fun x hx=>Or.inl hx),(Step.later ((Below.refl _ w).alloc (Nat.le_refl _) _) (fun x hx=>h.inS hx)).trans (hs'.imp (fun x hx=>Or.inl hx))⟩
theorem xblock_any (b:Nat) (S:Nat→Prop) (w:World) (l m:List UInt8) (u:Value) (h:WJ b S w l) (hu:LB kByte S w u m) (hm:m.length≤1048576) (hlen:l.length+4+m.length≤1000000000):
  Calls Tryz.prog 61 #[.pointer (some ⟨b,0,none⟩),u] w fun e w'=>e=.returned (.tuple #[])∧WJ b S w' (l++blockL m)∧Step S w w':=by
 obtain⟨ua,uc,rfl⟩:=hu.form
 have hng:¬ 1048576<m.length:=by omega
 have HU:=Lib.hid hu
 have HDg:=Lib.hid (fun w n=>xdigits_any w 4 n (by decide))
 have hdl:=digitsL_len 4 (m.length:Int)
 have hc1:=h.sound
 have hbr:=h.lt
 have Hst:Hid (Step S w w):=Lib.hid (Step.refl _ _)
 obtain⟨v,hv1,hv2,hv3⟩:=h.ex
 have Hv1:=Lib.hid hv1
 have Hv2:=Lib.hid hv2
 have Hv3:=Lib.hid hv3
 have hc0:w.cell? ⟨b,0,none⟩=some v:=by rw [Lib.cell_of_heap hv1];rfl
 obtain⟨va,vc,hvf⟩:=hv2.form
 obtain⟨L,hL⟩:∃ L,(l).length=L:=⟨_,rfl⟩
 have HL:=Lib.hid hL
 rw [hL]at hvf
 subst hvf
 have hLb:L≤1000000000-4-m.length:=by rw [← hL];omega
 have hL4:(l++digitsL 4 (m.length:Int)).length+m.length≤1000000000:=by rw [List.length_append,hL,hdl];omega
 clear h hu hv1 hv2 hv3 hL
 go_enter Tryz.func61,Tryz.ntmps61
 go_wp2_with fail
 clear hc1
 have fx:w.frozen? ⟨b,0,none⟩=false:=Lib.frozen_of_heap Hv1.out 0
 refine wp_region_phase 9 (by kernel_rfl) (by kernel_rfl) ?_
 simp only [List.take_succ_cons,List.take_zero,List.drop_succ_cons,List.drop_zero,List.take_nil,List.drop_nil]
 refine wpAny_of_held (S:=fun w'=>w'.cell? ⟨b,0,none⟩=some (.slice va L vc)) _ _ _ _ ?_
 have hHeld:(fun w':World=>w'.cell? ⟨b,0,none⟩=some (.slice va L vc)) w.drew:=hc0
 show wpAnyH _ _ _ _ _ _ _ _ (World.drew _)
 have Hd2:=Lib.hid Hv2.out.drew
 have Hd1:Hid (w.drew.heap[b]? =_):=Lib.hid Hv1.out
 have Hd3:Hid (∀ x,S x→x<w.drew.heap.size∧x≠b∧Value.ownBlock (.slice va L vc)≠some x):=Lib.hid Hv3.out
 have hst3:=Lib.hid Hst.out.drew
 have hbd:b<w.drew.heap.size:=hbr
 generalize w.drew=wd at *
 refine wpAnyH_reads [0,1,2,3,4,5,6] hHeld (fun _ _ _ _ _ h=>h) (by kernel_rfl) rfl rfl ?_
 simp only [Takes,List.toList_toArray,opN_zero,opN_succ]
 iterate 7 (refine ⟨?_,Or.inl ⟨by rfl,?_⟩,?_⟩;rotate_left;(· (intro w hSw;(try dsimp only at hSw);go_simp;try with_reducible rfl));try simp only [Act.put,List.setIfInBounds_toArray,List.set_cons_zero,List.set_cons_succ])
 refine wpAnyH_ready (rs:=[7]) (by kernel_rfl) (by simp) ?_
 refine AllReadyH.cons rfl (fun K hK=> ?_) AllReadyH.nil
 go_simp
 refine(HDg.out _ (m.length:Int)).mono ?_
 rintro e w4 ⟨r,rfl,hro,hb4⟩
 obtain⟨ra,rc,rfl⟩:=hro.form
 have Hro:=Lib.hid hro
 have Hd4:=Lib.hid ((hb4.block b hbd).trans Hd1.out)
 have Hd5:=Lib.hid (Hd2.out.below hb4)
 have hst4:=Lib.hid (hst3.out.trans (Step.later hb4 (fun x hx=>(Hd3.out x hx).1)))
 have hz4:=hb4.size
 refine hK.out _ _ ((Lib.cell_of_heap Hd4.out 0).trans rfl) (fun hHeld=> ?_)
 clear hK K hro hb4
 try simp only [Act.put,List.setIfInBounds_toArray,List.set_cons_zero,List.set_cons_succ]
 refine wpAnyH_ready (rs:=[8]) (by kernel_rfl) (by simp) ?_
 refine AllReadyH.cons rfl (fun K hK=> ?_) AllReadyH.nil
 rw [if_pos (by rfl)]
 simp only [List.getElem_toArray,List.getElem_cons_succ,List.getElem_cons_zero]
 refine wp_appendsK (B:=b+1) (E:=(·=b)) plain_byte 22 (.int .u8 0) 1 Tryz.underlying22 info_byte rfl (.tmp 19) (.tmp 22) (by rfl) (by rfl) Hd5.out (fun x hx=>by have hx:x=b:=hx;omega) _ (digitsL 4 (m.length:Int)) (by rfl) Hro.out.lb (by rw [HL.out,hdl];omega) (by rw [HL.out,hdl];omega) (by omega) (fun v' w5 hown hst5 hne=> ?_)
 obtain⟨va',vc',hvf⟩:=hown.form
 obtain⟨L',hL'⟩:∃ L',(l++digitsL 4 (m.length:Int)).length=L':=⟨_,rfl⟩
 rw [hL']at hvf
 clear hL'
 subst hvf
 have hvb:Value.ownBlock (.slice va L vc)≠some b:=fun e=>Hd5.out.notE _ e rfl
 have Hb5:=Lib.hid ((hst5.block b ⟨by omega,hvb⟩).trans Hd4.out)
 have hst6:=Lib.hid (hst4.out.trans (hst5.imp (S':=S) (fun x hx=>⟨by have:=(Hd3.out x hx).1;omega,(Hd3.out x hx).2.2⟩)))
 have Hd8:Hid (∀ x,S x→x<w5.heap.size∧x≠b∧Value.ownBlock (.slice va' L' vc')≠some x):=Lib.hid (fun x hx=>by
  obtain⟨a1,a2,a3⟩:=Hd3.out x hx
  exact⟨by have:=hst5.size;omega,a2,hne x (by omega) a3⟩)
 have Hown:=Lib.hid hown
 refine hK.out _ _ ((Lib.cell_of_heap Hb5.out 0).trans rfl) (fun hHeld=> ?_)
 clear hK K
 try simp only [Act.put,List.setIfInBounds_toArray,List.set_cons_zero,List.set_cons_succ]
 refine wpAnyH_done (by kernel_rfl) ?_ _
 simp only [phaseQ]
 have hc5:w5.cell? ⟨b,0,none⟩=some (.slice va L vc):=by rw [Lib.cell_of_heap Hb5.out];rfl
 have fx5:w5.frozen? ⟨b,0,none⟩=false:=Lib.frozen_of_heap Hb5.out 0
 have hz5:b<w5.heap.size:=by have:=hst5.size;omega
 have Hfin:=Lib.hid (WJ.put Hb5.out Hown.out Hd8.out)
 have Hstf:Hid (Step S w (w5.setCell ⟨b,0,none⟩ (.slice va' L' vc'))):=Lib.hid (hst6.out.setCell (p:=⟨b,0,none⟩) (fun hS=>(Hd8.out b hS).2.1 rfl) _)
 clear hHeld hown hst5 hne hc0 fx Hd1 Hd2 Hd3 Hd4 Hd5 hst3 hst4 hvb Hv1 Hv2 Hv3
 clear Hro
 go_upto_region 4 with fail
 clear hc5 fx5
 obtain⟨w6,hw6⟩:∃ x,x=w5.setCell ⟨b,0,none⟩ (.slice va' L' vc'):=⟨_,rfl⟩
 rw [← hw6]at Hfin Hstf ⊢
 clear hw6
 have hw:=Hfin.out
 have Hst:=Lib.hid Hstf.out
 have hbr:=hw.lt
 clear HL Hfin Hstf Hown Hb5 Hd8 hst6
 generalize hLd:l++digitsL 4 (m.length:Int)=Ld at *
 obtain⟨v,hv1,hv2,hv3⟩:=hw.ex
 have Hv1:=Lib.hid hv1
 have Hv2:=Lib.hid hv2
 have Hv3:=Lib.hid hv3
 have hc0:w6.cell? ⟨b,0,none⟩=some v:=by rw [Lib.cell_of_heap hv1];rfl
 obtain⟨va,vc,hvf⟩:=hv2.form
 obtain⟨L,hL⟩:∃ L,(Ld).length=L:=⟨_,rfl⟩
 have HL:=Lib.hid hL
 rw [hL]at hL4
 rw [hL]at hvf
 subst hvf
 have HU6:=Lib.hid (HU.out.step Hst.out)
 clear hw hv1 hv2 hv3
 go_wp2_with (at_builtin;refine wpList_appendsK (B:=b+1) (E:=(·=b)) plain_byte 22 (.int .u8 0) 1 Tryz.underlying22 info_byte rfl rfl (.tmp 30) (.tmp 31) rfl rfl Hv2.out (fun x hx=>by have hx:x=b:=hx;omega) _ m rfl HU6.out ?c1 ?c2 (by omega) ?_)
 case c1=>omega
 case c2=>omega
 intro v' w4 hown hst hne
 obtain⟨va',vc',hvf⟩:=hown.form
 obtain⟨L',hL'⟩:∃ L',(Ld++m).length=L':=⟨_,rfl⟩
 rw [hL']at hvf
 clear hL'
 subst hvf
 have hvb:Value.ownBlock (.slice va L vc)≠some b:=fun e=>Hv2.out.notE _ e rfl
 have Hb4:=Lib.hid ((hst.block b ⟨hbr,hvb⟩).trans Hv1.out)
 have Hst7:=Lib.hid (Hst.out.trans (hst.imp (S':=S) (fun x hx=>⟨(Hv3.out x hx).1,(Hv3.out x hx).2.2⟩)))
 have Hd8:Hid (∀ x,S x→x<w4.heap.size∧x≠b∧Value.ownBlock (.slice va' L' vc')≠some x):=Lib.hid (fun x hx=>by
  obtain⟨a1,a2,a3⟩:=Hv3.out x hx
  exact⟨by have:=hst.size;omega,a2,hne x a1 a3⟩)
 have Hown:=Lib.hid hown
 have hc4:w4.cell? ⟨b,0,none⟩=some (.slice va L vc):=by rw [Lib.cell_of_heap Hb4.out];rfl
 have fx4:w4.frozen? ⟨b,0,none⟩=false:=Lib.frozen_of_heap Hb4.out 0
 have hz4:b<w4.heap.size:=by have:=hst.size;omega
 clear hown hst hne hc0 hvb Hv2 Hv3 HU6
 go_wp2
 go_end0
 refine⟨rfl,?_,Hst7.out.setCell (p:=⟨b,0,none⟩) (fun hS=>(Hd8.out b hS).2.1 rfl) _⟩
 have h:=WJ.put Hb4.out Hown.out Hd8.out
 rw [← hLd,List.append_assoc]at h
 exact h
theorem jcounted_any (b:Nat) (S:Nat→Prop) (w:World) (l:List UInt8) (ss:List (List UInt8)) (u:Value) (h:WJ b S w l) (hu:LB kStr S w u ss) (hf:∀ s∈ss,s.length≤4096) (hc:okLen 1 ss.length) (hlen:l.length+1+4098*ss.length≤1000000000):
  Calls Tryz.prog 62 #[.pointer (some ⟨b,0,none⟩),u] w fun e w'=>e=.returned (.tuple #[])∧WJ b S w' (l++numsL 1 [(ss.length:Int)]++textsL ss)∧Step S w w':=by
 obtain⟨ua,uc,rfl⟩:=hu.form
 have hum:=hu.max
 have HU:=Lib.hid hu
 have HN:=Lib.hid (xnum_built b S w l 1 [(ss.length:Int)] h (by decide) (all1 (okLen_N (by decide) hc)) (by simp only [List.length_cons,List.length_nil];omega) (by simp))
 have Hf:=Lib.hid hf
 have hbl:=h.lt
 clear h hu hf
 go_enter Tryz.func62,Tryz.ntmps62
 go_wp2_with fail
 refine HN.out.mono ?_
 rintro e w2 ⟨rfl,hw2,hs2⟩
 have Hs2:=Lib.hid hs2
 have hl4:=numsL_len 1 [(ss.length:Int)]
 simp only [List.length_cons,List.length_nil]at hl4
 have HT:=Lib.hid (xtext_any b S w2 _ ss _ hw2 (HU.out.step hs2) Hf.out (by rw [List.length_append];omega))
 clear hw2 hs2 HN
 go_wp2_with fail
 refine HT.out.mono ?_
 rintro e w3 ⟨rfl,hw3,hs3⟩
 have Hw3:=Lib.hid hw3
 have Hs3:=Lib.hid (Hs2.out.trans hs3)
 clear hw3 hs3 HT
 go_wp2
 go_end0
 exact⟨rfl,Hw3.out,Hs3.out⟩
end Go.Proofs.YtfchpchabdhcgaaGreat
