/- Lemmas. -/
import Derived.Test.YtpomdoliblilfaaBld14
import Derived.IntWalk
import Derived.OwnWalk
namespace Go.Proofs.Ytpomdoliblilfaa
set_option linter.unusedVariables false
set_option linter.unusedSimpArgs false
open Go.RowKit
theorem LAt.func10b {B:Nat} {w w1:World} {a:Option Addr} {b off:Nat} {l:List FuncL} (h:LAt kFunc (·<B) w l a b off) (hb:Below B w w1) (i:Nat) (x:FuncL) (hx:l[i]? =some x):∃ c,LB kLine (·<B) w c x.lines∧SymOk x.sym∧w1.cell? ⟨b,off+i*10,none⟩=some (.string ⟨x.sym.name.toArray⟩)∧w1.cell? ⟨b,off+i*10+1,none⟩=some (.string ⟨x.sym.version.toArray⟩)∧
  w1.cell? ⟨b,off+i*10+2,none⟩=some (.bool x.sym.old)∧w1.cell? ⟨b,off+i*10+3,none⟩=some (.int .i64 x.sym.kind)∧w1.cell? ⟨b,off+i*10+4,none⟩=some (.bool x.sym.weak)∧w1.cell? ⟨b,off+i*10+5,none⟩=some (.int .i64 x.sym.vis)∧
  w1.cell? ⟨b,off+i*10+6,none⟩=some (.bool x.sym.defined)∧w1.cell? ⟨b,off+i*10+7,none⟩=some (.int .i64 x.sym.value)∧w1.cell? ⟨b,off+i*10+8,none⟩=some (.int .i64 x.sym.size)∧w1.cell? ⟨b,off+i*10+9,none⟩=some c:=by
 have hbB:b<B:=h.inS (by have:=(List.getElem?_eq_some_iff.1 hx).1;omega)
 obtain⟨row,⟨c,h1,h1',h3⟩,h2⟩:=h.row i x hx
 subst h1
 have h5:∀ j u,(symCells x.sym++[c])[j]? =some u→w1.cell? ⟨b,off+i*10+j,none⟩=some u:=fun j u hu=>(hb.cell (p:=⟨b,off+i*10+j,none⟩) hbB).trans (h2 j u hu)
 exact⟨c,h1',h3,h5 0 _ rfl,h5 1 _ rfl,h5 2 _ rfl,h5 3 _ rfl,h5 4 _ rfl,h5 5 _ rfl,h5 6 _ rfl,h5 7 _ rfl,h5 8 _ rfl,h5 9 _ rfl⟩
def LayPost (pb:Nat) (s:SpecL) (p:PlanL) (w:World) (e:Ending) (w':World):Prop:=
 ∃ fv vv,e=.returned (.agg (layCells pb fv vv ⟨(layL s p).stubs,(layL s p).got,(layL s p).plt,(layL s p).stubs+24*p.jumps.length,(layL s p).data,(layL s p).tls⟩).toArray)∧Below w.heap.size w w'∧
  OwnK 3 kInt w.heap.size (fun b=>vv.ownBlock=some b) w' fv (layL s p).funcs∧OwnK 3 kInt w.heap.size (fun b=>fv.ownBlock=some b) w' vv (layL s p).vars
set_option maxHeartbeats 16000000 in
set_option maxRecDepth 100000 in
theorem lay_any {B pb:Nat} {w:World} {sv:SpecV} {s:SpecL} {own:Int} {v:PlanV} {p:PlanL} (hM:PlanM B pb w sv s own v p) (hS:SpecM (·<B) w sv s) (hB:B≤w.heap.size) (hf:s.funcs.length≤2000) (hv:s.vars.length≤2000) (hl:s.lines.length≤2000) (hr:(s.vars.flatMap (·.words)).length≤2000) (hp:p.sz≤999990):
  Calls Try.prog 16 #[.pointer (some ⟨pb,0,none⟩)] w (LayPost pb s p w):=by
 have HS:=Lib.hid hS
 have HM:=Lib.hid hM
 have hpl:=hM.lt
 have c4:=hM.c4
 obtain⟨fa,fb,foff,fcap,hff,hfm,hfcap,hfat⟩:=hS.funcs.at
 rw [hff]at c4
 have Hff:=Lib.hid hff
 have hfa:=hfat.addr
 have Hfat:=Lib.hid hfat
 obtain⟨fn,hfn⟩:∃ fn,fn=s.funcs.length:=⟨_,rfl⟩
 have Hfn:=Lib.hid hfn
 rw [← hfn]at c4 hfm hfcap hfa hf Hff
 clear hM hS hff hfat hfn
 go_enter Try.func16,Try.ntmps16
 go_upto_region 2 with fail
 generalize hwA:w.alloc (.cells #[.pointer none,.slice none 0 0,.slice none 0 0,.int .i64 0,.int .i64 0,.int .i64 0,.int .i64 0,.int .i64 0,.int .i64 0,.int .i64 0] 83)=wA at *
 have HA0:Hid (Below w.heap.size w wA∧wA.heap.size=w.heap.size+1∧wA.heap[w.heap.size]? =some (.cells #[.pointer none,.slice none 0 0,.slice none 0 0,.int .i64 0,.int .i64 0,.int .i64 0,.int .i64 0,.int .i64 0,.int .i64 0,.int .i64 0] 83 (0,0))):=Lib.hid (by rw [← hwA];exact⟨(Below.refl _ w).alloc (Nat.le_refl _) _,by simp,heap_alloc_new _ _⟩)
 have HL0:Hid (LayM pb (w.heap.size+1) wA (wA.alloc (.cells #[.pointer (some ⟨pb,0,none⟩),.slice none 0 0,.slice none 0 0,.int .i64 0,.int .i64 0,.int .i64 0,.int .i64 0,.int .i64 0,.int .i64 0,.int .i64 0] 83)) (.slice none 0 0) (.slice none 0 0) (startsL 0 (s.funcs.take 0)) [] ⟨0,0,0,endL 0 (s.funcs.take 0),0,0⟩):=Lib.hid (by
  have h0:=HA0.out.2.1
  refine⟨?_,OwnK.nil _ _ _ _ _,OwnK.nil _ _ _ _ _,(Below.refl _ wA).alloc (by omega) _⟩
  rw [← h0];exact heap_alloc_new wA _)
 clear hwA
 have hwz:wA.heap.size=w.heap.size+1:=HA0.out.2.1
 generalize wA.alloc (.cells #[.pointer (some ⟨pb,0,none⟩),.slice none 0 0,.slice none 0 0,.int .i64 0,.int .i64 0,.int .i64 0,.int .i64 0,.int .i64 0,.int .i64 0,.int .i64 0] 83)=w1 at *
 have Hlow:Hid (∀ {wr:World} {fv vv:Value} {fs vs:List Int} {y:LayN},LayM pb (w.heap.size+1) wA wr fv vv fs vs y→Below w.heap.size w wr):=Lib.hid (fun h=>HA0.out.1.trans (h.below.mono (by omega)))
 have c4:=(HM.out.below (Hlow.out HL0.out)).c4
 have Hwz:=Lib.hid hwz
 rw [Hff.out]at c4
 clear hwz
 go_upto_block 0 with fail
 go_cut [] (fun wx=>∃ fv,LayM pb (w.heap.size+1) wA wx fv (.slice none 0 0) (startsL 0 s.funcs) [] ⟨0,0,0,endL 0 s.funcs,0,0⟩)
 case first=>
  go_wp2_with fail
  go_loopw [18] (fun i wr=>∃ (k:Nat) (fv:Value),i=.int .i64 k∧k≤fn∧LayM pb (w.heap.size+1) wA wr fv (.slice none 0 0) (startsL 0 (s.funcs.take k)) [] ⟨0,0,0,endL 0 (s.funcs.take k),0,0⟩) (fun i _=>fn-(intOf i).toNat)
  case atStart=>exact⟨0,_,rfl,Nat.zero_le _,HL0.out⟩
  case round=>
   obtain⟨k,fv,rfl,hk,hL⟩:=hrel
   have HL:=Lib.hid hL
   have hlt1:=hL.lt
   have hbB:=(Hlow.out hL).mono hB
   clear c4
   by_cases hlt:k<fn
   ·obtain⟨f,hfx⟩:∃ f,s.funcs[k]? =some f:=⟨_,List.getElem?_eq_getElem (by rw [← Hfn.out];exact hlt)⟩
    obtain rfl:=hfa (by omega)
    obtain⟨lv,hlv,hso,g0,g1,g2,g3,g4,g5,g6,g7,g8,g9⟩:=Hfat.out.func10b hbB k f hfx
    obtain⟨la,lbk,loff,lcap,hlf,hlm,hlcap,hlat⟩:=hlv.at
    subst hlf
    have hla:=hlat.addr
    have Hlat:=Lib.hid hlat
    have HN1:Hid (startsL 0 (s.funcs.take (k+1))=startsL 0 (s.funcs.take k)++[endL 0 (s.funcs.take k)]):=Lib.hid (by rw [take_snocB hfx,startsL_snoc])
    have HN2:Hid (endL 0 (s.funcs.take (k+1))=endL 0 (s.funcs.take k)+linesLen f.lines):=Lib.hid (by rw [take_snocB hfx,endL_snoc])
    have hE:=endL_take_bd s.funcs k
    have hE2:=endL_take_bd s.funcs (k+1)
    have Hlen:Hid ((startsL 0 (s.funcs.take k)).length=k):=Lib.hid (by rw [startsL_len,List.length_take];have:=Hfn.out;omega)
    have hll:(s.funcs.flatMap (·.lines)).length≤2000:=hl
    rw [HN2.out]at hE2
    obtain⟨E,hEE⟩:∃ E,E=endL 0 (s.funcs.take k):=⟨_,rfl⟩
    rw [← hEE]at HL HN1 HN2 hE hE2
    obtain⟨fs,hfs⟩:∃ fs,fs=startsL 0 (s.funcs.take k):=⟨_,rfl⟩
    rw [← hfs]at HL HN1 Hlen
    obtain⟨ga,gc,hgf⟩:=HL.out.funcs.form
    rw [Hlen.out]at hgf
    subst hgf
    obtain⟨c,hc⟩:∃ c,c=f.lines.length:=⟨_,rfl⟩
    have Hc:=Lib.hid hc
    rw [← hc]at g9 hlm hlcap hla
    have hc2:c≤2000:=by
     have h2:=take_lines_len s.funcs (k+1)
     rw [take_lines hfx,List.length_append]at h2
     omega
    have hE3:0≤E∧E≤48000:=by omega
    clear hL hEE hfs hc hfx hlv hlat hso hbB hll
    have hk2:(k:Int)<(fn:Int):=by omega
    have HLa:=Lib.hid (HL.out.step ((Below.refl _ wr).alloc (Nat.le_refl _) (.cells #[.string ⟨f.sym.name.toArray⟩,.string ⟨f.sym.version.toArray⟩,.bool f.sym.old,.int .i64 f.sym.kind,.bool f.sym.weak,.int .i64 f.sym.vis,.bool f.sym.defined,.int .i64 f.sym.value,.int .i64 f.sym.size,.slice la c lcap] 68)))
    have Hba:=Lib.hid (heap_alloc_new wr (.cells #[.string ⟨f.sym.name.toArray⟩,.string ⟨f.sym.version.toArray⟩,.bool f.sym.old,.int .i64 f.sym.kind,.bool f.sym.weak,.int .i64 f.sym.vis,.bool f.sym.defined,.int .i64 f.sym.value,.int .i64 f.sym.size,.slice la c lcap] 68))
    have hza:(wr.alloc (.cells #[.string ⟨f.sym.name.toArray⟩,.string ⟨f.sym.version.toArray⟩,.bool f.sym.old,.int .i64 f.sym.kind,.bool f.sym.weak,.int .i64 f.sym.vis,.bool f.sym.defined,.int .i64 f.sym.value,.int .i64 f.sym.size,.slice la c lcap] 68)).heap.size=wr.heap.size+1:=by simp
    go_upto_region 5 with fail
    clear g0 g1 g2 g3 g4 g5 g6 g7 g8 g9
    generalize hwr:wr.heap.size=rb at *
    have Hwr:=Lib.hid hwr
    clear hwr
    generalize wr.alloc (.cells #[.string ⟨f.sym.name.toArray⟩,.string ⟨f.sym.version.toArray⟩,.bool f.sym.old,.int .i64 f.sym.kind,.bool f.sym.weak,.int .i64 f.sym.vis,.bool f.sym.defined,.int .i64 f.sym.value,.int .i64 f.sym.size,.slice la c lcap] 68)=wa at *
    have k1:=HLa.out.cell 1 _ rfl
    have k7:=HLa.out.cell 7 _ rfl
    have kf:=HLa.out.frozen 1
    have hrb:rb<wa.heap.size:=by omega
    clear hza
    have HOw:=Lib.hid ((HLa.out.funcs.reE (E':=fun b=>b<wa.heap.size+1∧¬ (Value.slice ga k gc).ownBlock=some b) flat_int (fun g hg h=>h.2 hg)).alloc (.cells #[.int .i64 E] 3))
    have HLb:=Lib.hid (HLa.out.step ((Below.refl _ wa).alloc (Nat.le_refl _) (.cells #[.int .i64 E] 3)))
    have HBb:=Lib.hid ((heap_alloc_old wa (.cells #[.int .i64 E] 3) hrb).trans Hba.out)
    have hlba:=HLa.out.lt
    have Hzb:Hid ((wa.alloc (.cells #[.int .i64 E] 3)).heap.size=wa.heap.size+1):=Lib.hid (by simp)
    go_wp2_with (at_builtin;go_loud (refine wpList_appendK 41 (.int .i64 0) 8 Try.underlying41 info_intB rfl (by decide) rfl (.tmp 23) (.tmp 26) rfl k Hlen.out rfl HOw.out (fun b hb=>by have h1:=hb.1;have h2:=Hzb.out;omega) wa.heap.size E [.int .i64 E] rfl (cells_row (xs:=[.int .i64 E]) (heap_alloc_new wa (.cells #[.int .i64 E] 3))) (by simp [Value.oneCell']) rfl (by rw [Hlen.out];omega) (by rw [Hlen.out];omega) (by have h2:=Hzb.out;omega) ?_))
    intro g c2 w2 hown2 hst hglt
    have hzb:=Hzb.out
    have HL2:=Lib.hid (HLb.out.putF (hst.imp (fun b hb=>⟨by have h1:=hb.1;have h2:=Hzb.out;omega,hb.2⟩)) (hown2.reE flat_int (fun g hg h=>hown2.notE g hg ⟨by omega,h.2⟩)))
    have HB2:=Lib.hid ((hst.block rb ⟨by omega,fun e=>by have h1:=HLb.out.funcs.lt rb e;have h2:=HL.out.funcs.lt rb e;have h3:=Hwr.out;omega⟩).trans HBb.out)
    have hpb2:(w.heap.size+1)<wa.heap.size+1∧¬ (Value.slice ga k gc).ownBlock=some (w.heap.size+1):=⟨by have h1:=HLb.out.lt;have h2:=Hzb.out;omega,fun e=>by have:=(HLb.out.funcs.lt _ e).1;omega⟩
    have hex2:=(hst.block (w.heap.size+1) hpb2).trans HLb.out.ex
    have m1:=cells_row hex2 1 _ rfl
    have mf:w2.frozen? ⟨w.heap.size+1,1,none⟩=false:=Lib.frozen_of_heap hex2 1
    have hne:rb≠w.heap.size+1:=by have:=HL.out.lt;have:=Hwr.out;omega
    have HB3:=Lib.hid ((Below.heap_setCell w2 ⟨w.heap.size+1,1,none⟩ (.slice (some ⟨g,0,none⟩) (k+1) c2) rb hne).trans HB2.out)
    clear hown2 hst hpb2 hex2 k1 k7 kf hlba hzb
    go_upto_region 6 with fail
    generalize w2.setCell ⟨w.heap.size+1,1,none⟩ (.slice (some ⟨g,0,none⟩) (k+1) c2)=w3 at *
    clear m1 mf
    have b9:w3.cell? ⟨rb,9,none⟩=some (.slice la c lcap):=cells_row HB3.out 9 _ rfl
    rw [← HN1.out]at HL2
    go_wp2_with fail
    clear b9
    go_loopw [32] (fun i wq=>∃ j:Nat,i=.int .i64 j∧j≤c∧LayM pb (w.heap.size+1) wA wq (.slice (some ⟨g,0,none⟩) (k+1) c2) (.slice none 0 0) (startsL 0 (s.funcs.take (k+1))) [] ⟨0,0,0,E+linesLen (f.lines.take j),0,0⟩) (fun i _=>c-(intOf i).toNat)
    case atStart=>exact⟨0,rfl,Nat.zero_le _,by simpa [linesLen] using HL2.out⟩
    case round=>
     obtain⟨j,rfl,hj,hLq⟩:=hrel
     have HLq:=Lib.hid hLq
     have hbq:=(Hlow.out hLq).mono hB
     clear hLq
     by_cases hjt:j<c
     ·obtain⟨x,hx⟩:∃ x,f.lines[j]? =some x:=⟨_,List.getElem?_eq_getElem (by rw [← Hc.out];exact hjt)⟩
      obtain rfl:=hla (by omega)
      obtain⟨hxo,l0,l1,l2,l3,l4,l5,l6,l7,l8⟩:=(Hlat.out.below hbq).line9 j x hx
      have HLn:=Lib.hid (linesLen_next hx)
      have hxk:=Lib.hid hxo.kind
      have hlp:=longL_pos x
      have hln:=linesLen_bd (f.lines.take j)
      have hjl:(f.lines.take j).length≤j:=List.length_take_le _ _
      obtain⟨N,hN⟩:∃ N,N=linesLen (f.lines.take j):=⟨_,rfl⟩
      rw [← hN]at HLq HLn hln
      have hj2:(j:Int)<(c:Int):=by omega
      have HLr:=Lib.hid (HLq.out.step ((Below.refl _ wr).alloc (Nat.le_refl _) (.cells #[.int .i64 x.kind,.int .i64 x.inst.op,.int .i64 x.inst.a,.int .i64 x.inst.b,.int .i64 x.inst.c,.int .i64 x.inst.imm,.int .i64 x.a,.string ⟨x.name.toArray⟩,.string ⟨x.ver.toArray⟩] 77)))
      have HXr:=Lib.hid (heap_alloc_new wr (.cells #[.int .i64 x.kind,.int .i64 x.inst.op,.int .i64 x.inst.a,.int .i64 x.inst.b,.int .i64 x.inst.c,.int .i64 x.inst.imm,.int .i64 x.a,.string ⟨x.name.toArray⟩,.string ⟨x.ver.toArray⟩] 77))
      have hzr:wr.heap.size<(wr.alloc (.cells #[.int .i64 x.kind,.int .i64 x.inst.op,.int .i64 x.inst.a,.int .i64 x.inst.b,.int .i64 x.inst.c,.int .i64 x.inst.imm,.int .i64 x.a,.string ⟨x.name.toArray⟩,.string ⟨x.ver.toArray⟩] 77)).heap.size:=by simp
      have HLg:=Lib.hid (fun w=>long_any w x hxk.out)
      go_upto_region 9 with fail
      clear l0 l1 l2 l3 l4 l5 l6 l7 l8 hx hxo hN hbq
      generalize wr.heap.size=xb at *
      generalize wr.alloc (.cells #[.int .i64 x.kind,.int .i64 x.inst.op,.int .i64 x.inst.a,.int .i64 x.inst.b,.int .i64 x.inst.c,.int .i64 x.inst.imm,.int .i64 x.a,.string ⟨x.name.toArray⟩,.string ⟨x.ver.toArray⟩] 77)=wy at *
      have n7:=HLr.out.cell 7 _ rfl
      refine wp_region_phase 7 (by kernel_rfl) (by kernel_rfl) ?_
      simp only [List.take_succ_cons,List.take_zero,List.drop_succ_cons,List.drop_zero,List.take_nil,List.drop_nil]
      refine wpAny_of_held (S:=fun w':World=>w'.cell? ⟨w.heap.size+1,7,none⟩=some (.int .i64 (E+N))∧w'.cell? ⟨xb,0,none⟩=some (.int .i64 x.kind)∧w'.cell? ⟨xb,1,none⟩=some (.int .i64 x.inst.op)∧w'.cell? ⟨xb,2,none⟩=some (.int .i64 x.inst.a)∧w'.cell? ⟨xb,3,none⟩=some (.int .i64 x.inst.b)∧w'.cell? ⟨xb,4,none⟩=some (.int .i64 x.inst.c)∧w'.cell? ⟨xb,5,none⟩=some (.int .i64 x.inst.imm)∧w'.cell? ⟨xb,6,none⟩=some (.int .i64 x.a)∧w'.cell? ⟨xb,7,none⟩=some (.string ⟨x.name.toArray⟩)∧w'.cell? ⟨xb,8,none⟩=some (.string ⟨x.ver.toArray⟩)) _ _ _ _ ?_
      have hHeld:(fun w':World=>w'.cell? ⟨w.heap.size+1,7,none⟩=some (.int .i64 (E+N))∧w'.cell? ⟨xb,0,none⟩=some (.int .i64 x.kind)∧w'.cell? ⟨xb,1,none⟩=some (.int .i64 x.inst.op)∧w'.cell? ⟨xb,2,none⟩=some (.int .i64 x.inst.a)∧w'.cell? ⟨xb,3,none⟩=some (.int .i64 x.inst.b)∧w'.cell? ⟨xb,4,none⟩=some (.int .i64 x.inst.c)∧w'.cell? ⟨xb,5,none⟩=some (.int .i64 x.inst.imm)∧w'.cell? ⟨xb,6,none⟩=some (.int .i64 x.a)∧w'.cell? ⟨xb,7,none⟩=some (.string ⟨x.name.toArray⟩)∧w'.cell? ⟨xb,8,none⟩=some (.string ⟨x.ver.toArray⟩)) (World.drew wy):=⟨n7,cells_row HXr.out 0 _ rfl,cells_row HXr.out 1 _ rfl,cells_row HXr.out 2 _ rfl,cells_row HXr.out 3 _ rfl,cells_row HXr.out 4 _ rfl,cells_row HXr.out 5 _ rfl,cells_row HXr.out 6 _ rfl,cells_row HXr.out 7 _ rfl,cells_row HXr.out 8 _ rfl⟩
      show wpAnyH _ _ _ _ _ _ _ _ (World.drew _)
      have HLd:=Lib.hid (HLr.out.step (Below.refl _ wy).drew)
      have hzx:xb<(World.drew wy).heap.size:=hzr
      have hlx:=HLd.out.lt
      generalize (World.drew wy)=wd at HLd hHeld hzx hlx ⊢
      clear n7
      refine wpAnyH_take (i:=0) (v:= ?_) rfl (by kernel_rfl) (by kernel_rfl) (by kernel_rfl) (fun _ _ _ h=>h) (Or.inl ⟨by rfl,?_⟩) hHeld ?_
      rotate_left
      ·(intro w hSw;(try dsimp only at hSw);go_simp;try with_reducible rfl)
      simp only [List.getElem_toArray,List.getElem_cons_zero,List.getElem_cons_succ,Act.put,List.setIfInBounds_toArray,List.set_cons_zero,List.set_cons_succ]
      refine wpAnyH_take (i:=1) (v:= ?_) rfl (by kernel_rfl) (by kernel_rfl) (by kernel_rfl) (fun _ _ _ h=>h) (Or.inl ⟨by rfl,?_⟩) hHeld ?_
      rotate_left
      ·(intro w hSw;(try dsimp only at hSw);go_simp;try with_reducible rfl)
      simp only [List.getElem_toArray,List.getElem_cons_zero,List.getElem_cons_succ,Act.put,List.setIfInBounds_toArray,List.set_cons_zero,List.set_cons_succ]
      refine wpAnyH_take (i:=2) (v:= ?_) rfl (by kernel_rfl) (by kernel_rfl) (by kernel_rfl) (fun _ _ _ h=>h) (Or.inl ⟨by rfl,?_⟩) hHeld ?_
      rotate_left
      ·(intro w hSw;(try dsimp only at hSw);go_simp;try with_reducible rfl)
      simp only [List.getElem_toArray,List.getElem_cons_zero,List.getElem_cons_succ,Act.put,List.setIfInBounds_toArray,List.set_cons_zero,List.set_cons_succ]
      refine wpAnyH_ready (rs:=[3]) (by kernel_rfl) (by simp) ?_
      refine AllReadyH.cons rfl (fun K hK=> ?_) AllReadyH.nil
      go_simp
      refine(HLg.out wd).mono ?_
      rintro e w5 ⟨rfl,HB⟩
      have HL5:=Lib.hid (HLd.out.step HB)
      refine hK.out _ _ ⟨(HB.cell (p:=⟨w.heap.size+1,7,none⟩) hlx).trans hHeld.1,(HB.cell (p:=⟨xb,0,none⟩) hzx).trans hHeld.2.1,(HB.cell (p:=⟨xb,1,none⟩) hzx).trans hHeld.2.2.1,(HB.cell (p:=⟨xb,2,none⟩) hzx).trans hHeld.2.2.2.1,(HB.cell (p:=⟨xb,3,none⟩) hzx).trans hHeld.2.2.2.2.1,(HB.cell (p:=⟨xb,4,none⟩) hzx).trans hHeld.2.2.2.2.2.1,(HB.cell (p:=⟨xb,5,none⟩) hzx).trans hHeld.2.2.2.2.2.2.1,(HB.cell (p:=⟨xb,6,none⟩) hzx).trans hHeld.2.2.2.2.2.2.2.1,(HB.cell (p:=⟨xb,7,none⟩) hzx).trans hHeld.2.2.2.2.2.2.2.2.1,(HB.cell (p:=⟨xb,8,none⟩) hzx).trans hHeld.2.2.2.2.2.2.2.2.2⟩ (fun hHeld=> ?_)
      clear hK K HB
      try simp only [List.getElem_toArray,List.getElem_cons_zero,List.getElem_cons_succ,Act.put,List.setIfInBounds_toArray,List.set_cons_zero,List.set_cons_succ]
      have ho1:IntKind.i64.wrap (longL x*8)=longL x*8:=IntWalk.i64_in _ (by omega)
      have ho2:IntKind.i64.wrap (E+N+longL x*8)=E+N+longL x*8:=IntWalk.i64_in _ (by omega)
      refine wpAnyH_take (i:=4) (v:= ?_) rfl (by kernel_rfl) (by kernel_rfl) (by kernel_rfl) (fun _ _ _ h=>h) (Or.inl ⟨by rfl,?_⟩) hHeld ?_
      rotate_left
      ·(intro w hSw;(try dsimp only at hSw);go_simp;try with_reducible rfl)
      simp only [List.getElem_toArray,List.getElem_cons_zero,List.getElem_cons_succ,Act.put,List.setIfInBounds_toArray,List.set_cons_zero,List.set_cons_succ]
      refine wpAnyH_take (i:=5) (v:= ?_) rfl (by kernel_rfl) (by kernel_rfl) (by kernel_rfl) (fun _ _ _ h=>h) (Or.inl ⟨by rfl,?_⟩) hHeld ?_
      rotate_left
      ·(intro w hSw;(try dsimp only at hSw);go_simp;try with_reducible rfl)
      simp only [List.getElem_toArray,List.getElem_cons_zero,List.getElem_cons_succ,Act.put,List.setIfInBounds_toArray,List.set_cons_zero,List.set_cons_succ]
      refine wpAnyH_take (i:=6) (v:= ?_) rfl (by kernel_rfl) (by kernel_rfl) (by kernel_rfl) (fun _ _ _ h=>h) (Or.inl ⟨by rfl,?_⟩) hHeld ?_
      rotate_left
      ·(intro w hSw;(try dsimp only at hSw);go_simp;try with_reducible rfl)
      simp only [List.getElem_toArray,List.getElem_cons_zero,List.getElem_cons_succ,Act.put,List.setIfInBounds_toArray,List.set_cons_zero,List.set_cons_succ]
      refine wpAnyH_done (by kernel_rfl) ?_ _
      simp only [phaseQ]
      clear hHeld ho1 ho2
      have n7:=HL5.out.cell 7 _ rfl
      have f7:=HL5.out.frozen 7
      have HL6:Hid (LayM pb (w.heap.size+1) wA (w5.setCell ⟨w.heap.size+1,7,none⟩ (.int .i64 (E+N+longL x*8))) (.slice (some ⟨g,0,none⟩) (k+1) c2) (.slice none 0 0) (startsL 0 (s.funcs.take (k+1))) [] ⟨0,0,0,E+linesLen (f.lines.take (j+1)),0,0⟩):=Lib.hid (HL5.out.num 7 (E+N+longL x*8) _ (by rw [HLn.out,← Int.add_assoc];rfl))
      go_wp2
      go_roundw
      case rel=>exact⟨j+1,by go_num,by omega,HL6.out⟩
      case measure=>simp [intOf];omega
     ·have HE:Hid (LayM pb (w.heap.size+1) wA wr (.slice (some ⟨g,0,none⟩) (k+1) c2) (.slice none 0 0) (startsL 0 (s.funcs.take (k+1))) [] ⟨0,0,0,endL 0 (s.funcs.take (k+1)),0,0⟩):=Lib.hid (by
       have h:=HLq.out
       rw [show f.lines.take j=f.lines from List.take_of_length_le (by have:=Hc.out;omega)]at h
       rw [HN2.out];exact h)
      go_wp2
      go_roundw
      case rel=>exact⟨k+1,_,by go_num,by omega,HE.out⟩
      case measure=>simp [intOf];omega
   ·have HE:Hid (∃ fv,LayM pb (w.heap.size+1) wA wr fv (.slice none 0 0) (startsL 0 s.funcs) [] ⟨0,0,0,endL 0 s.funcs,0,0⟩):=Lib.hid (by
     rw [List.take_of_length_le (by have:=Hfn.out;omega)]at hL
     exact⟨fv,hL⟩)
    go_wp2_with fail
    go_meet
    exact HE.out
 case rest=>
 obtain⟨fv,hL4⟩:=hcut
 rename World=>w4
 clear c4
 have HL4:=Lib.hid hL4
 have HM4:=Lib.hid (HM.out.below (Hlow.out hL4))
 clear hL4
 have hT:=endL_take_bd s.funcs s.funcs.length
 rw [List.take_length]at hT
 have hll:(s.funcs.flatMap (·.lines)).length≤2000:=hl
 obtain⟨T,hTT⟩:∃ T,T=endL 0 s.funcs:=⟨_,rfl⟩
 have HT:=Lib.hid hTT
 rw [← hTT]at HL4 hT
 have hT2:0≤T∧T≤48000:=by omega
 clear hTT hT hll
 obtain⟨ja,jc,hjf⟩:=HM4.out.jumps.form
 obtain⟨ca,cc,hcf⟩:=HM4.out.cells.form
 have Hjf:=Lib.hid hjf
 have Hcf:=Lib.hid hcf
 obtain⟨nj,hnj⟩:∃ nj,nj=p.jumps.length:=⟨_,rfl⟩
 obtain⟨nc,hnc⟩:∃ nc,nc=p.cells.length:=⟨_,rfl⟩
 have Hnj:=Lib.hid hnj
 have Hnc:=Lib.hid hnc
 rw [← hnj]at Hjf
 rw [← hnc]at Hcf
 have hnj2:nj≤999990:=by unfold PlanL.sz at hp;omega
 have hnc2:nc≤999990:=by unfold PlanL.sz at hp;omega
 clear hjf hcf hnj hnc
 have c7:=HL4.out.cell 7 _ rfl
 have c3:=HL4.out.cell 3 _ rfl
 have f3:=HL4.out.frozen 3
 go_upto_region 13 with fail
 have HL5:=Lib.hid (HL4.out.num 3 T ⟨T,0,0,T,0,0⟩ rfl)
 have HM5:=Lib.hid (HM.out.below (Hlow.out HL5.out))
 clear c7 c3 f3
 generalize w4.setCell ⟨w.heap.size+1,3,none⟩ (.int .i64 T)=w5 at *
 refine wp_region_phase 10 (by kernel_rfl) (by kernel_rfl) ?_
 simp only [List.take_succ_cons,List.take_zero,List.drop_succ_cons,List.drop_zero,List.take_nil,List.drop_nil]
 refine wpAny_of_held (S:=fun w':World=>w'.cell? ⟨w.heap.size+1,7,none⟩=some (.int .i64 T)∧w'.cell? ⟨pb,12,none⟩=some (.slice ja nj jc)) _ _ _ _ ?_
 have hHeld:(fun w':World=>w'.cell? ⟨w.heap.size+1,7,none⟩=some (.int .i64 T)∧w'.cell? ⟨pb,12,none⟩=some (.slice ja nj jc)) (World.drew w5):=⟨HL5.out.cell 7 _ rfl,HM5.out.c12.trans (by rw [Hjf.out])⟩
 show wpAnyH _ _ _ _ _ _ _ _ (World.drew _)
 have HL5d:=Lib.hid (HL5.out.step (Below.refl _ w5).drew)
 generalize (World.drew w5)=wd at HL5d hHeld ⊢
 have o1:IntKind.i64.wrap (24*nj)=24*nj:=IntWalk.i64_in _ (by omega)
 have o2:IntKind.i64.wrap (T+24*nj)=T+24*nj:=IntWalk.i64_in _ (by omega)
 refine wpAnyH_take (i:=0) (v:= ?_) rfl (by kernel_rfl) (by kernel_rfl) (by kernel_rfl) (fun _ _ _ h=>h) (Or.inl ⟨by rfl,?_⟩) hHeld ?_
 rotate_left
 ·(intro w hSw;(try dsimp only at hSw);go_simp;try with_reducible rfl)
 simp only [List.getElem_toArray,List.getElem_cons_zero,List.getElem_cons_succ,Act.put,List.setIfInBounds_toArray,List.set_cons_zero,List.set_cons_succ]
 refine wpAnyH_take (i:=1) (v:= ?_) rfl (by kernel_rfl) (by kernel_rfl) (by kernel_rfl) (fun _ _ _ h=>h) (Or.inl ⟨by rfl,?_⟩) hHeld ?_
 rotate_left
 ·(intro w hSw;(try dsimp only at hSw);go_simp;try with_reducible rfl)
 simp only [List.getElem_toArray,List.getElem_cons_zero,List.getElem_cons_succ,Act.put,List.setIfInBounds_toArray,List.set_cons_zero,List.set_cons_succ]
 refine wpAnyH_take (i:=2) (v:= ?_) rfl (by kernel_rfl) (by kernel_rfl) (by kernel_rfl) (fun _ _ _ h=>h) (Or.inl ⟨by rfl,?_⟩) hHeld ?_
 rotate_left
 ·(intro w hSw;(try dsimp only at hSw);go_simp;try with_reducible rfl)
 simp only [List.getElem_toArray,List.getElem_cons_zero,List.getElem_cons_succ,Act.put,List.setIfInBounds_toArray,List.set_cons_zero,List.set_cons_succ]
 refine wpAnyH_take (i:=3) (v:= ?_) rfl (by kernel_rfl) (by kernel_rfl) (by kernel_rfl) (fun _ _ _ h=>h) (Or.inl ⟨by rfl,?_⟩) hHeld ?_
 rotate_left
 ·(intro w hSw;(try dsimp only at hSw);go_simp;try with_reducible rfl)
 simp only [List.getElem_toArray,List.getElem_cons_zero,List.getElem_cons_succ,Act.put,List.setIfInBounds_toArray,List.set_cons_zero,List.set_cons_succ]
 refine wpAnyH_take (i:=4) (v:= ?_) rfl (by kernel_rfl) (by kernel_rfl) (by kernel_rfl) (fun _ _ _ h=>h) (Or.inl ⟨by rfl,?_⟩) hHeld ?_
 rotate_left
 ·(intro w hSw;(try dsimp only at hSw);go_simp;try with_reducible rfl)
 simp only [List.getElem_toArray,List.getElem_cons_zero,List.getElem_cons_succ,Act.put,List.setIfInBounds_toArray,List.set_cons_zero,List.set_cons_succ]
 refine wpAnyH_take (i:=5) (v:= ?_) rfl (by kernel_rfl) (by kernel_rfl) (by kernel_rfl) (fun _ _ _ h=>h) (Or.inl ⟨by rfl,?_⟩) hHeld ?_
 rotate_left
 ·(intro w hSw;(try dsimp only at hSw);go_simp;try with_reducible rfl)
 simp only [List.getElem_toArray,List.getElem_cons_zero,List.getElem_cons_succ,Act.put,List.setIfInBounds_toArray,List.set_cons_zero,List.set_cons_succ]
 refine wpAnyH_take (i:=6) (v:= ?_) rfl (by kernel_rfl) (by kernel_rfl) (by kernel_rfl) (fun _ _ _ h=>h) (Or.inl ⟨by rfl,?_⟩) hHeld ?_
 rotate_left
 ·(intro w hSw;(try dsimp only at hSw);go_simp;try with_reducible rfl)
 simp only [List.getElem_toArray,List.getElem_cons_zero,List.getElem_cons_succ,Act.put,List.setIfInBounds_toArray,List.set_cons_zero,List.set_cons_succ]
 refine wpAnyH_take (i:=7) (v:= ?_) rfl (by kernel_rfl) (by kernel_rfl) (by kernel_rfl) (fun _ _ _ h=>h) (Or.inl ⟨by rfl,?_⟩) hHeld ?_
 rotate_left
 ·(intro w hSw;(try dsimp only at hSw);go_simp;try with_reducible rfl)
 simp only [List.getElem_toArray,List.getElem_cons_zero,List.getElem_cons_succ,Act.put,List.setIfInBounds_toArray,List.set_cons_zero,List.set_cons_succ]
 refine wpAnyH_take (i:=8) (v:= ?_) rfl (by kernel_rfl) (by kernel_rfl) (by kernel_rfl) (fun _ _ _ h=>h) (Or.inl ⟨by rfl,?_⟩) hHeld ?_
 rotate_left
 ·(intro w hSw;(try dsimp only at hSw);go_simp;try with_reducible rfl)
 simp only [List.getElem_toArray,List.getElem_cons_zero,List.getElem_cons_succ,Act.put,List.setIfInBounds_toArray,List.set_cons_zero,List.set_cons_succ]
 refine wpAnyH_take (i:=9) (v:= ?_) rfl (by kernel_rfl) (by kernel_rfl) (by kernel_rfl) (fun _ _ _ h=>h) (Or.inl ⟨by rfl,?_⟩) hHeld ?_
 rotate_left
 ·(intro w hSw;(try dsimp only at hSw);go_simp;try with_reducible rfl)
 simp only [List.getElem_toArray,List.getElem_cons_zero,List.getElem_cons_succ,Act.put,List.setIfInBounds_toArray,List.set_cons_zero,List.set_cons_succ]
 refine wpAnyH_done (by kernel_rfl) ?_ _
 simp only [phaseQ]
 have HL6:=Lib.hid (HL5d.out.num 7 (T+24*nj) ⟨T,0,0,T+24*nj,0,0⟩ rfl)
 have n7:=HL5d.out.cell 7 _ rfl
 have f7:=HL5d.out.frozen 7
 clear hHeld o1 o2
 go_upto_region 14 with fail
 clear n7 f7
 generalize wd.setCell ⟨w.heap.size+1,7,none⟩ (.int .i64 (T+24*nj))=w6 at *
 have n7:=HL6.out.cell 7 _ rfl
 have n4:=HL6.out.cell 4 _ rfl
 have f4:=HL6.out.frozen 4
 obtain⟨M,hMx⟩:∃ M,M=max 1 (T+24*(nj:Int)):=⟨_,rfl⟩
 have HMx:=Lib.hid hMx
 have hMb:1≤M∧M≤24048000:=by omega
 have hite:(if 1<T+24*(nj:Int) then T+24*(nj:Int) else 1)=M:=by rw [hMx];split<;>omega
 clear hMx
 have HUp:=Lib.hid (fun w=>up_anyB w M (by omega) (by omega))
 go_wp2_with fail
 refine(HUp.out _).mono ?_
 rintro e w7 ⟨rfl,rfl⟩
 clear hite
 obtain⟨G,hG⟩:∃ G,G=upL M:=⟨_,rfl⟩
 rw [← hG]
 have HG:=Lib.hid hG
 have hGb:=upL_bd (n:=M) (by omega)
 rw [← hG]at hGb
 have hG2:0≤G∧G≤25000000:=by omega
 clear hG hGb HUp
 go_upto_region 15 with fail
 clear n7 n4 f4
 have HL7:=Lib.hid (HL6.out.num 4 G ⟨T,G,0,T+24*nj,0,0⟩ rfl)
 have HM7:=Lib.hid (HM.out.below (Hlow.out HL7.out))
 generalize w7.setCell ⟨w.heap.size+1,4,none⟩ (.int .i64 G)=w8 at *
 refine wp_region_phase 10 (by kernel_rfl) (by kernel_rfl) ?_
 simp only [List.take_succ_cons,List.take_zero,List.drop_succ_cons,List.drop_zero,List.take_nil,List.drop_nil]
 refine wpAny_of_held (S:=fun w':World=>w'.cell? ⟨w.heap.size+1,4,none⟩=some (.int .i64 G)∧w'.cell? ⟨pb,11,none⟩=some (.slice ca nc cc)) _ _ _ _ ?_
 have hHeld:(fun w':World=>w'.cell? ⟨w.heap.size+1,4,none⟩=some (.int .i64 G)∧w'.cell? ⟨pb,11,none⟩=some (.slice ca nc cc)) (World.drew w8):=⟨HL7.out.cell 4 _ rfl,HM7.out.c11.trans (by rw [Hcf.out])⟩
 show wpAnyH _ _ _ _ _ _ _ _ (World.drew _)
 have HL8d:=Lib.hid (HL7.out.step (Below.refl _ w8).drew)
 clear HL7 HM7
 generalize (World.drew w8)=wd at HL8d hHeld ⊢
 have o1:IntKind.i64.wrap (8*nc)=8*nc:=IntWalk.i64_in _ (by omega)
 have o2:IntKind.i64.wrap (G+8*nc)=G+8*nc:=IntWalk.i64_in _ (by omega)
 refine wpAnyH_take (i:=0) (v:= ?_) rfl (by kernel_rfl) (by kernel_rfl) (by kernel_rfl) (fun _ _ _ h=>h) (Or.inl ⟨by rfl,?_⟩) hHeld ?_
 rotate_left
 ·(intro w hSw;(try dsimp only at hSw);go_simp;try with_reducible rfl)
 simp only [List.getElem_toArray,List.getElem_cons_zero,List.getElem_cons_succ,Act.put,List.setIfInBounds_toArray,List.set_cons_zero,List.set_cons_succ]
 refine wpAnyH_take (i:=1) (v:= ?_) rfl (by kernel_rfl) (by kernel_rfl) (by kernel_rfl) (fun _ _ _ h=>h) (Or.inl ⟨by rfl,?_⟩) hHeld ?_
 rotate_left
 ·(intro w hSw;(try dsimp only at hSw);go_simp;try with_reducible rfl)
 simp only [List.getElem_toArray,List.getElem_cons_zero,List.getElem_cons_succ,Act.put,List.setIfInBounds_toArray,List.set_cons_zero,List.set_cons_succ]
 refine wpAnyH_take (i:=2) (v:= ?_) rfl (by kernel_rfl) (by kernel_rfl) (by kernel_rfl) (fun _ _ _ h=>h) (Or.inl ⟨by rfl,?_⟩) hHeld ?_
 rotate_left
 ·(intro w hSw;(try dsimp only at hSw);go_simp;try with_reducible rfl)
 simp only [List.getElem_toArray,List.getElem_cons_zero,List.getElem_cons_succ,Act.put,List.setIfInBounds_toArray,List.set_cons_zero,List.set_cons_succ]
 refine wpAnyH_take (i:=3) (v:= ?_) rfl (by kernel_rfl) (by kernel_rfl) (by kernel_rfl) (fun _ _ _ h=>h) (Or.inl ⟨by rfl,?_⟩) hHeld ?_
 rotate_left
 ·(intro w hSw;(try dsimp only at hSw);go_simp;try with_reducible rfl)
 simp only [List.getElem_toArray,List.getElem_cons_zero,List.getElem_cons_succ,Act.put,List.setIfInBounds_toArray,List.set_cons_zero,List.set_cons_succ]
 refine wpAnyH_take (i:=4) (v:= ?_) rfl (by kernel_rfl) (by kernel_rfl) (by kernel_rfl) (fun _ _ _ h=>h) (Or.inl ⟨by rfl,?_⟩) hHeld ?_
 rotate_left
 ·(intro w hSw;(try dsimp only at hSw);go_simp;try with_reducible rfl)
 simp only [List.getElem_toArray,List.getElem_cons_zero,List.getElem_cons_succ,Act.put,List.setIfInBounds_toArray,List.set_cons_zero,List.set_cons_succ]
 refine wpAnyH_take (i:=5) (v:= ?_) rfl (by kernel_rfl) (by kernel_rfl) (by kernel_rfl) (fun _ _ _ h=>h) (Or.inl ⟨by rfl,?_⟩) hHeld ?_
 rotate_left
 ·(intro w hSw;(try dsimp only at hSw);go_simp;try with_reducible rfl)
 simp only [List.getElem_toArray,List.getElem_cons_zero,List.getElem_cons_succ,Act.put,List.setIfInBounds_toArray,List.set_cons_zero,List.set_cons_succ]
 refine wpAnyH_take (i:=6) (v:= ?_) rfl (by kernel_rfl) (by kernel_rfl) (by kernel_rfl) (fun _ _ _ h=>h) (Or.inl ⟨by rfl,?_⟩) hHeld ?_
 rotate_left
 ·(intro w hSw;(try dsimp only at hSw);go_simp;try with_reducible rfl)
 simp only [List.getElem_toArray,List.getElem_cons_zero,List.getElem_cons_succ,Act.put,List.setIfInBounds_toArray,List.set_cons_zero,List.set_cons_succ]
 refine wpAnyH_take (i:=7) (v:= ?_) rfl (by kernel_rfl) (by kernel_rfl) (by kernel_rfl) (fun _ _ _ h=>h) (Or.inl ⟨by rfl,?_⟩) hHeld ?_
 rotate_left
 ·(intro w hSw;(try dsimp only at hSw);go_simp;try with_reducible rfl)
 simp only [List.getElem_toArray,List.getElem_cons_zero,List.getElem_cons_succ,Act.put,List.setIfInBounds_toArray,List.set_cons_zero,List.set_cons_succ]
 refine wpAnyH_take (i:=8) (v:= ?_) rfl (by kernel_rfl) (by kernel_rfl) (by kernel_rfl) (fun _ _ _ h=>h) (Or.inl ⟨by rfl,?_⟩) hHeld ?_
 rotate_left
 ·(intro w hSw;(try dsimp only at hSw);go_simp;try with_reducible rfl)
 simp only [List.getElem_toArray,List.getElem_cons_zero,List.getElem_cons_succ,Act.put,List.setIfInBounds_toArray,List.set_cons_zero,List.set_cons_succ]
 refine wpAnyH_take (i:=9) (v:= ?_) rfl (by kernel_rfl) (by kernel_rfl) (by kernel_rfl) (fun _ _ _ h=>h) (Or.inl ⟨by rfl,?_⟩) hHeld ?_
 rotate_left
 ·(intro w hSw;(try dsimp only at hSw);go_simp;try with_reducible rfl)
 simp only [List.getElem_toArray,List.getElem_cons_zero,List.getElem_cons_succ,Act.put,List.setIfInBounds_toArray,List.set_cons_zero,List.set_cons_succ]
 refine wpAnyH_done (by kernel_rfl) ?_ _
 simp only [phaseQ]
 have HL9:=Lib.hid (HL8d.out.num 5 (G+8*nc) ⟨T,G,G+8*nc,T+24*nj,0,0⟩ rfl)
 have n5:=HL8d.out.cell 5 _ rfl
 have f5:=HL8d.out.frozen 5
 clear hHeld o1 o2
 go_upto_region 16 with fail
 clear n5 f5
 generalize wd.setCell ⟨w.heap.size+1,5,none⟩ (.int .i64 (G+8*nc))=w9 at *
 have HM9:=Lib.hid (HM.out.below (Hlow.out HL9.out))
 refine wp_region_phase 10 (by kernel_rfl) (by kernel_rfl) ?_
 simp only [List.take_succ_cons,List.take_zero,List.drop_succ_cons,List.drop_zero,List.take_nil,List.drop_nil]
 refine wpAny_of_held (S:=fun w':World=>w'.cell? ⟨w.heap.size+1,5,none⟩=some (.int .i64 (G+8*nc))∧w'.cell? ⟨pb,12,none⟩=some (.slice ja nj jc)) _ _ _ _ ?_
 have hHeld:(fun w':World=>w'.cell? ⟨w.heap.size+1,5,none⟩=some (.int .i64 (G+8*nc))∧w'.cell? ⟨pb,12,none⟩=some (.slice ja nj jc)) (World.drew w9):=⟨HL9.out.cell 5 _ rfl,HM9.out.c12.trans (by rw [Hjf.out])⟩
 show wpAnyH _ _ _ _ _ _ _ _ (World.drew _)
 have HL9d:=Lib.hid (HL9.out.step (Below.refl _ w9).drew)
 clear HL9 HM9 HL8d
 generalize (World.drew w9)=wd at HL9d hHeld ⊢
 have o1:IntKind.i64.wrap (8*nj)=8*nj:=IntWalk.i64_in _ (by omega)
 have o2:IntKind.i64.wrap (G+8*nc+8*nj)=G+8*nc+8*nj:=IntWalk.i64_in _ (by omega)
 refine wpAnyH_take (i:=0) (v:= ?_) rfl (by kernel_rfl) (by kernel_rfl) (by kernel_rfl) (fun _ _ _ h=>h) (Or.inl ⟨by rfl,?_⟩) hHeld ?_
 rotate_left
 ·(intro w hSw;(try dsimp only at hSw);go_simp;try with_reducible rfl)
 simp only [List.getElem_toArray,List.getElem_cons_zero,List.getElem_cons_succ,Act.put,List.setIfInBounds_toArray,List.set_cons_zero,List.set_cons_succ]
 refine wpAnyH_take (i:=1) (v:= ?_) rfl (by kernel_rfl) (by kernel_rfl) (by kernel_rfl) (fun _ _ _ h=>h) (Or.inl ⟨by rfl,?_⟩) hHeld ?_
 rotate_left
 ·(intro w hSw;(try dsimp only at hSw);go_simp;try with_reducible rfl)
 simp only [List.getElem_toArray,List.getElem_cons_zero,List.getElem_cons_succ,Act.put,List.setIfInBounds_toArray,List.set_cons_zero,List.set_cons_succ]
 refine wpAnyH_take (i:=2) (v:= ?_) rfl (by kernel_rfl) (by kernel_rfl) (by kernel_rfl) (fun _ _ _ h=>h) (Or.inl ⟨by rfl,?_⟩) hHeld ?_
 rotate_left
 ·(intro w hSw;(try dsimp only at hSw);go_simp;try with_reducible rfl)
 simp only [List.getElem_toArray,List.getElem_cons_zero,List.getElem_cons_succ,Act.put,List.setIfInBounds_toArray,List.set_cons_zero,List.set_cons_succ]
 refine wpAnyH_take (i:=3) (v:= ?_) rfl (by kernel_rfl) (by kernel_rfl) (by kernel_rfl) (fun _ _ _ h=>h) (Or.inl ⟨by rfl,?_⟩) hHeld ?_
 rotate_left
 ·(intro w hSw;(try dsimp only at hSw);go_simp;try with_reducible rfl)
 simp only [List.getElem_toArray,List.getElem_cons_zero,List.getElem_cons_succ,Act.put,List.setIfInBounds_toArray,List.set_cons_zero,List.set_cons_succ]
 refine wpAnyH_take (i:=4) (v:= ?_) rfl (by kernel_rfl) (by kernel_rfl) (by kernel_rfl) (fun _ _ _ h=>h) (Or.inl ⟨by rfl,?_⟩) hHeld ?_
 rotate_left
 ·(intro w hSw;(try dsimp only at hSw);go_simp;try with_reducible rfl)
 simp only [List.getElem_toArray,List.getElem_cons_zero,List.getElem_cons_succ,Act.put,List.setIfInBounds_toArray,List.set_cons_zero,List.set_cons_succ]
 refine wpAnyH_take (i:=5) (v:= ?_) rfl (by kernel_rfl) (by kernel_rfl) (by kernel_rfl) (fun _ _ _ h=>h) (Or.inl ⟨by rfl,?_⟩) hHeld ?_
 rotate_left
 ·(intro w hSw;(try dsimp only at hSw);go_simp;try with_reducible rfl)
 simp only [List.getElem_toArray,List.getElem_cons_zero,List.getElem_cons_succ,Act.put,List.setIfInBounds_toArray,List.set_cons_zero,List.set_cons_succ]
 refine wpAnyH_take (i:=6) (v:= ?_) rfl (by kernel_rfl) (by kernel_rfl) (by kernel_rfl) (fun _ _ _ h=>h) (Or.inl ⟨by rfl,?_⟩) hHeld ?_
 rotate_left
 ·(intro w hSw;(try dsimp only at hSw);go_simp;try with_reducible rfl)
 simp only [List.getElem_toArray,List.getElem_cons_zero,List.getElem_cons_succ,Act.put,List.setIfInBounds_toArray,List.set_cons_zero,List.set_cons_succ]
 refine wpAnyH_take (i:=7) (v:= ?_) rfl (by kernel_rfl) (by kernel_rfl) (by kernel_rfl) (fun _ _ _ h=>h) (Or.inl ⟨by rfl,?_⟩) hHeld ?_
 rotate_left
 ·(intro w hSw;(try dsimp only at hSw);go_simp;try with_reducible rfl)
 simp only [List.getElem_toArray,List.getElem_cons_zero,List.getElem_cons_succ,Act.put,List.setIfInBounds_toArray,List.set_cons_zero,List.set_cons_succ]
 refine wpAnyH_take (i:=8) (v:= ?_) rfl (by kernel_rfl) (by kernel_rfl) (by kernel_rfl) (fun _ _ _ h=>h) (Or.inl ⟨by rfl,?_⟩) hHeld ?_
 rotate_left
 ·(intro w hSw;(try dsimp only at hSw);go_simp;try with_reducible rfl)
 simp only [List.getElem_toArray,List.getElem_cons_zero,List.getElem_cons_succ,Act.put,List.setIfInBounds_toArray,List.set_cons_zero,List.set_cons_succ]
 refine wpAnyH_take (i:=9) (v:= ?_) rfl (by kernel_rfl) (by kernel_rfl) (by kernel_rfl) (fun _ _ _ h=>h) (Or.inl ⟨by rfl,?_⟩) hHeld ?_
 rotate_left
 ·(intro w hSw;(try dsimp only at hSw);go_simp;try with_reducible rfl)
 simp only [List.getElem_toArray,List.getElem_cons_zero,List.getElem_cons_succ,Act.put,List.setIfInBounds_toArray,List.set_cons_zero,List.set_cons_succ]
 refine wpAnyH_done (by kernel_rfl) ?_ _
 simp only [phaseQ]
 have HL10:=Lib.hid (HL9d.out.num 8 (G+8*nc+8*nj) ⟨T,G,G+8*nc,T+24*nj,G+8*nc+8*nj,0⟩ rfl)
 have n8:=HL9d.out.cell 8 _ rfl
 have f8:=HL9d.out.frozen 8
 clear hHeld o1 o2
 go_upto_region 17 with fail
 clear n8 f8
 generalize wd.setCell ⟨w.heap.size+1,8,none⟩ (.int .i64 (G+8*nc+8*nj))=w10 at *
 have HM10:=Lib.hid (HM.out.below (Hlow.out HL10.out))
 obtain⟨fga,fgc,hfgf⟩:=HL10.out.funcs.form
 rw [startsL_len]at hfgf
 subst hfgf
 obtain⟨va,vb,voff,vcap,hvf,hvm,hvcap,hvat⟩:=HS.out.vars.at
 have hva:=hvat.addr
 have Hvat:=Lib.hid hvat
 have c5:=HM10.out.c5
 rw [hvf]at c5
 obtain⟨vn,hvn⟩:∃ vn,vn=s.vars.length:=⟨_,rfl⟩
 have Hvn:=Lib.hid hvn
 rw [← hvn]at c5 hvm hvcap hva hv
 obtain⟨D,hD⟩:∃ D,D=G+8*(nc:Int)+8*(nj:Int):=⟨_,rfl⟩
 have HD:=Lib.hid hD
 have hDb:0≤D∧D≤42000000:=by omega
 rw [← hD]at HL10
 clear hvf hvat hvn hD HL9d HL6 HL5d HM10
 obtain⟨P,hP⟩:∃ P,P=G+8*(nc:Int):=⟨_,rfl⟩
 have HP:=Lib.hid hP
 rw [← hP]at HL10
 obtain⟨X,hX⟩:∃ X,X=T+24*(nj:Int):=⟨_,rfl⟩
 have HX:=Lib.hid hX
 rw [← hX]at HL10
 clear hP hX
 go_wp2_with fail
 go_loopw [89] (fun i wr=>∃ (k:Nat) (vv:Value) (q:List Int × Int × Int),i=.int .i64 k∧k≤vn∧q=(s.vars.take k).foldl varsStep ([],D,0)∧LayM pb (w.heap.size+1) wA wr (.slice fga s.funcs.length fgc) vv (startsL 0 s.funcs) q.1 ⟨T,G,P,X,q.2.1,q.2.2⟩) (fun i _=>vn-(intOf i).toNat)
 case atStart=>exact⟨0,_,_,rfl,Nat.zero_le _,rfl,HL10.out⟩
 case round=>
  obtain⟨k,vv,q,rfl,hk,hq,hL⟩:=hrel
  have HL:=Lib.hid hL
  have hlt1:=hL.lt
  have hbB:=(Hlow.out hL).mono hB
  have Hq:=Lib.hid hq
  clear c5 hq hL
  by_cases hlt:k<vn
  ·obtain⟨x,hx⟩:∃ x,s.vars[k]? =some x:=⟨_,List.getElem?_eq_getElem (by rw [← Hvn.out];exact hlt)⟩
   obtain rfl:=hva (by omega)
   obtain⟨wv,rv,hwv,hrv,hso,g0,g1,g2,g3,g4,g5,g6,g7,g8,g9,g10,g11⟩:=Hvat.out.var12b hbB k x hx
   obtain⟨wa_,wc,rfl⟩:=hwv.form
   obtain⟨ra,rc,rfl⟩:=hrv.form
   have hqb:=varsStep_bd s.vars k D
   rw [← Hq.out]at hqb
   have hwl:=words_le hx
   have HNx:Hid ((s.vars.take (k+1)).foldl varsStep ([],D,0)=varsStep q x):=Lib.hid (by rw [foldl_take_next hx,Hq.out])
   have Hlen:Hid (q.1.length=k):=Lib.hid (by rw [Hq.out,varsStep_len,List.length_take];have:=Hvn.out;simp;omega)
   obtain⟨ql,qd,qt⟩:=q
   simp only at HL hqb Hlen HNx
   obtain⟨ga,gc,hgf⟩:=HL.out.vars.form
   rw [Hlen.out]at hgf
   subst hgf
   obtain⟨rn,hrn⟩:∃ rn,rn=x.refs.length:=⟨_,rfl⟩
   rw [← hrn]at g10
   obtain⟨wn,hwn⟩:∃ wn,wn=x.words.length:=⟨_,rfl⟩
   have Hwn:=Lib.hid hwn
   rw [← hwn]at g9 hwl
   have hqd:0≤qd∧qd≤43000000:=by omega
   have hqt:0≤qt∧qt≤43000000:=by omega
   have hwn2:wn≤2000:=by omega
   have hki:=hso.kind
   clear hrn hwn hx hwv hrv hso hbB hqb hwl
   have hk2:(k:Int)<(vn:Int):=by omega
   have HLa:=Lib.hid (HL.out.step ((Below.refl _ wr).alloc (Nat.le_refl _) (.cells #[.string ⟨x.sym.name.toArray⟩,.string ⟨x.sym.version.toArray⟩,.bool x.sym.old,.int .i64 x.sym.kind,.bool x.sym.weak,.int .i64 x.sym.vis,.bool x.sym.defined,.int .i64 x.sym.value,.int .i64 x.sym.size,.slice wa_ wn wc,.slice ra rn rc,.bool x.copied] 71)))
   have Hba:=Lib.hid (heap_alloc_new wr (.cells #[.string ⟨x.sym.name.toArray⟩,.string ⟨x.sym.version.toArray⟩,.bool x.sym.old,.int .i64 x.sym.kind,.bool x.sym.weak,.int .i64 x.sym.vis,.bool x.sym.defined,.int .i64 x.sym.value,.int .i64 x.sym.size,.slice wa_ wn wc,.slice ra rn rc,.bool x.copied] 71))
   have hza:(wr.alloc (.cells #[.string ⟨x.sym.name.toArray⟩,.string ⟨x.sym.version.toArray⟩,.bool x.sym.old,.int .i64 x.sym.kind,.bool x.sym.weak,.int .i64 x.sym.vis,.bool x.sym.defined,.int .i64 x.sym.value,.int .i64 x.sym.size,.slice wa_ wn wc,.slice ra rn rc,.bool x.copied] 71)).heap.size=wr.heap.size+1:=by simp
   go_upto_region 20 with fail
   clear g0 g1 g2 g3 g4 g5 g6 g7 g8 g9 g10 g11
   generalize hwr:wr.heap.size=rb at *
   have Hwr:=Lib.hid hwr
   clear hwr
   generalize wr.alloc (.cells #[.string ⟨x.sym.name.toArray⟩,.string ⟨x.sym.version.toArray⟩,.bool x.sym.old,.int .i64 x.sym.kind,.bool x.sym.weak,.int .i64 x.sym.vis,.bool x.sym.defined,.int .i64 x.sym.value,.int .i64 x.sym.size,.slice wa_ wn wc,.slice ra rn rc,.bool x.copied] 71)=wa at *
   have hrb:rb<wa.heap.size:=by omega
   have b3:wa.cell? ⟨rb,3,none⟩=some (.int .i64 x.sym.kind):=cells_row Hba.out 3 _ rfl
   clear hza
   by_cases hkd:x.sym.kind=3
   ·have hkb:(x.sym.kind==3)=true:=by simp [hkd]
    have HSt:Hid (varsStep (ql,qd,qt) x=(ql++[qt],qd,qt+8*wn)):=Lib.hid (by unfold varsStep;rw [if_pos hkd,Hwn.out])
    clear hkd
    go_upto_region 21 with fail
    have k2:=HLa.out.cell 2 _ rfl
    have kn:=HLa.out.cell 9 _ rfl
    have kf:=HLa.out.frozen 2
    clear b3
    have HOw:=Lib.hid ((HLa.out.vars.reE (E':=fun b=>b<wa.heap.size+1∧¬ (Value.slice ga k gc).ownBlock=some b) flat_int (fun g hg h=>h.2 hg)).alloc (.cells #[.int .i64 qt] 3))
    have HLb:=Lib.hid (HLa.out.step ((Below.refl _ wa).alloc (Nat.le_refl _) (.cells #[.int .i64 qt] 3)))
    have HBb:=Lib.hid ((heap_alloc_old wa (.cells #[.int .i64 qt] 3) hrb).trans Hba.out)
    have hlba:=HLa.out.lt
    have Hzb:Hid ((wa.alloc (.cells #[.int .i64 qt] 3)).heap.size=wa.heap.size+1):=Lib.hid (by simp)
    go_wp2_with (at_builtin;go_loud (refine wpList_appendK 41 (.int .i64 0) 8 Try.underlying41 info_intB rfl (by decide) rfl (.tmp 98) (.tmp 101) rfl k Hlen.out rfl HOw.out (fun b hb=>by have h1:=hb.1;have h2:=Hzb.out;omega) wa.heap.size qt [.int .i64 qt] rfl (cells_row (xs:=[.int .i64 qt]) (heap_alloc_new wa (.cells #[.int .i64 qt] 3))) (by simp [Value.oneCell']) rfl (by rw [Hlen.out];omega) (by rw [Hlen.out];omega) (by have h2:=Hzb.out;omega) ?_))
    intro g c2 w2 hown2 hst hglt
    have hzb:=Hzb.out
    have HL2:=Lib.hid (HLb.out.putV (hst.imp (fun b hb=>⟨by have h1:=hb.1;have h2:=Hzb.out;omega,hb.2⟩)) (hown2.reE flat_int (fun g hg h=>hown2.notE g hg ⟨by omega,h.2⟩)))
    have HB2:=Lib.hid ((hst.block rb ⟨by omega,fun e=>by have h1:=HLb.out.vars.lt rb e;have h2:=HL.out.vars.lt rb e;have h3:=Hwr.out;omega⟩).trans HBb.out)
    have hpb2:(w.heap.size+1)<wa.heap.size+1∧¬ (Value.slice ga k gc).ownBlock=some (w.heap.size+1):=⟨by have h1:=HLb.out.lt;have h2:=Hzb.out;omega,fun e=>by have:=(HLb.out.vars.lt _ e).1;omega⟩
    have hex2:=(hst.block (w.heap.size+1) hpb2).trans HLb.out.ex
    have m1:=cells_row hex2 2 _ rfl
    have mf:w2.frozen? ⟨w.heap.size+1,2,none⟩=false:=Lib.frozen_of_heap hex2 2
    have hne:rb≠w.heap.size+1:=by have:=HL.out.lt;have:=Hwr.out;omega
    have HB3:=Lib.hid ((Below.heap_setCell w2 ⟨w.heap.size+1,2,none⟩ (.slice (some ⟨g,0,none⟩) (k+1) c2) rb hne).trans HB2.out)
    clear hown2 hst hpb2 hex2 k2 kn kf hlba hzb
    go_upto_region 22 with fail
    generalize w2.setCell ⟨w.heap.size+1,2,none⟩ (.slice (some ⟨g,0,none⟩) (k+1) c2)=w3 at *
    clear m1 mf
    have b9:w3.cell? ⟨rb,9,none⟩=some (.slice wa_ wn wc):=cells_row HB3.out 9 _ rfl
    have kn:=HL2.out.cell 9 _ rfl
    have kf:=HL2.out.frozen 9
    have HL3:=Lib.hid (HL2.out.num 9 (qt+8*(wn:Int)) ⟨T,G,P,X,qd,qt+8*(wn:Int)⟩ rfl)
    go_wp2
    go_roundw
    case rel=>exact⟨k+1,_,_,by go_num,by omega,rfl,by rw [HNx.out,HSt.out];exact HL3.out⟩
    case measure=>simp [intOf];omega
   ·have hkb:(x.sym.kind==3)=false:=by simp [hkd]
    have HSt:Hid (varsStep (ql,qd,qt) x=(ql++[qd],qd+8*wn,qt)):=Lib.hid (by unfold varsStep;rw [if_neg hkd,Hwn.out])
    clear hkd
    go_upto_region 23 with fail
    have k2:=HLa.out.cell 2 _ rfl
    have kn:=HLa.out.cell 8 _ rfl
    have kf:=HLa.out.frozen 2
    clear b3
    have HOw:=Lib.hid ((HLa.out.vars.reE (E':=fun b=>b<wa.heap.size+1∧¬ (Value.slice ga k gc).ownBlock=some b) flat_int (fun g hg h=>h.2 hg)).alloc (.cells #[.int .i64 qd] 3))
    have HLb:=Lib.hid (HLa.out.step ((Below.refl _ wa).alloc (Nat.le_refl _) (.cells #[.int .i64 qd] 3)))
    have HBb:=Lib.hid ((heap_alloc_old wa (.cells #[.int .i64 qd] 3) hrb).trans Hba.out)
    have hlba:=HLa.out.lt
    have Hzb:Hid ((wa.alloc (.cells #[.int .i64 qd] 3)).heap.size=wa.heap.size+1):=Lib.hid (by simp)
    go_wp2_with (at_builtin;go_loud (refine wpList_appendK 41 (.int .i64 0) 8 Try.underlying41 info_intB rfl (by decide) rfl (.tmp 113) (.tmp 116) rfl k Hlen.out rfl HOw.out (fun b hb=>by have h1:=hb.1;have h2:=Hzb.out;omega) wa.heap.size qd [.int .i64 qd] rfl (cells_row (xs:=[.int .i64 qd]) (heap_alloc_new wa (.cells #[.int .i64 qd] 3))) (by simp [Value.oneCell']) rfl (by rw [Hlen.out];omega) (by rw [Hlen.out];omega) (by have h2:=Hzb.out;omega) ?_))
    intro g c2 w2 hown2 hst hglt
    have hzb:=Hzb.out
    have HL2:=Lib.hid (HLb.out.putV (hst.imp (fun b hb=>⟨by have h1:=hb.1;have h2:=Hzb.out;omega,hb.2⟩)) (hown2.reE flat_int (fun g hg h=>hown2.notE g hg ⟨by omega,h.2⟩)))
    have HB2:=Lib.hid ((hst.block rb ⟨by omega,fun e=>by have h1:=HLb.out.vars.lt rb e;have h2:=HL.out.vars.lt rb e;have h3:=Hwr.out;omega⟩).trans HBb.out)
    have hpb2:(w.heap.size+1)<wa.heap.size+1∧¬ (Value.slice ga k gc).ownBlock=some (w.heap.size+1):=⟨by have h1:=HLb.out.lt;have h2:=Hzb.out;omega,fun e=>by have:=(HLb.out.vars.lt _ e).1;omega⟩
    have hex2:=(hst.block (w.heap.size+1) hpb2).trans HLb.out.ex
    have m1:=cells_row hex2 2 _ rfl
    have mf:w2.frozen? ⟨w.heap.size+1,2,none⟩=false:=Lib.frozen_of_heap hex2 2
    have hne:rb≠w.heap.size+1:=by have:=HL.out.lt;have:=Hwr.out;omega
    have HB3:=Lib.hid ((Below.heap_setCell w2 ⟨w.heap.size+1,2,none⟩ (.slice (some ⟨g,0,none⟩) (k+1) c2) rb hne).trans HB2.out)
    clear hown2 hst hpb2 hex2 k2 kn kf hlba hzb
    go_upto_region 24 with fail
    generalize w2.setCell ⟨w.heap.size+1,2,none⟩ (.slice (some ⟨g,0,none⟩) (k+1) c2)=w3 at *
    clear m1 mf
    have b9:w3.cell? ⟨rb,9,none⟩=some (.slice wa_ wn wc):=cells_row HB3.out 9 _ rfl
    have kn:=HL2.out.cell 8 _ rfl
    have kf:=HL2.out.frozen 8
    have HL3:=Lib.hid (HL2.out.num 8 (qd+8*(wn:Int)) ⟨T,G,P,X,qd+8*(wn:Int),qt⟩ rfl)
    go_wp2
    go_roundw
    case rel=>exact⟨k+1,_,_,by go_num,by omega,rfl,by rw [HNx.out,HSt.out];exact HL3.out⟩
    case measure=>simp [intOf];omega
  ·have hall:s.vars.take k=s.vars:=List.take_of_length_le (by have:=Hvn.out;omega)
   rw [hall]at Hq
   have HQ:Hid (q=varsL D 0 s.vars):=Lib.hid (by rw [Hq.out,varsL_eq])
   have hwz:=Hwz.out
   obtain⟨ga,gc,hgf⟩:=HL.out.vars.form
   have hlq:q.1.length=s.vars.length:=by rw [HQ.out,varsL_len]
   rw [hlq]at hgf
   subst hgf
   have k0:=HL.out.cell 0 _ rfl
   have k1:=HL.out.cell 1 _ rfl
   have k2:=HL.out.cell 2 _ rfl
   have k3:=HL.out.cell 3 _ rfl
   have k4:=HL.out.cell 4 _ rfl
   have k5:=HL.out.cell 5 _ rfl
   have k6:=HL.out.cell 6 _ rfl
   have k7:=HL.out.cell 7 _ rfl
   have k8:=HL.out.cell 8 _ rfl
   have k9:=HL.out.cell 9 _ rfl
   have HR:=Lib.hid ((HL.out.below.block w.heap.size (by omega)).trans HA0.out.2.2)
   have HE:Hid ((layL s p).stubs=T∧(layL s p).got=G∧(layL s p).plt=P∧(layL s p).data=q.2.1∧(layL s p).tls=q.2.2∧(layL s p).funcs=startsL 0 s.funcs∧(layL s p).vars=q.1):=Lib.hid (by
    have e1:T=endL 0 s.funcs:=HT.out
    have e2:G=upL (max 1 (endL 0 s.funcs+24*p.jumps.length)):=by rw [HG.out,HMx.out,e1,Hnj.out]
    have e3:P=upL (max 1 (endL 0 s.funcs+24*p.jumps.length))+8*p.cells.length:=by rw [HP.out,e2,Hnc.out]
    have e4:varsL (upL (max 1 (endL 0 s.funcs+24*p.jumps.length))+8*p.cells.length+8*p.jumps.length) 0 s.vars=q:=by rw [HQ.out,HD.out,e2,Hnc.out,Hnj.out]
    unfold layL
    simp only [e4]
    exact⟨e1.symm,e2.symm,e3.symm,trivial,trivial,trivial,trivial⟩)
   obtain⟨ql,qd,qt⟩:=q
   simp only at HE k8 k9 HL
   have HXn:Hid (X=T+24*(p.jumps.length:Int)):=Lib.hid (by rw [HX.out,Hnj.out])
   simp only at k3 k4 k5 k7
   clear hall hlq hwz hbB
   go_wp2_with (refine wpList_store_row rfl 83 (.tmp 2) (.tmp 128) rfl w.heap.size (#[.pointer (some ⟨pb,0,none⟩),.slice fga s.funcs.length fgc,.slice ga s.vars.length gc,.int .i64 T,.int .i64 G,.int .i64 P,.int .i64 0,.int .i64 X,.int .i64 qd,.int .i64 qt]) rfl rfl _ _ HR.out (by kernel_rfl) rfl (by simp [Value.oneCell']) ?_)
   go_wp2_with fail
   have FR:=Lib.hid (setRow_heap _ w.heap.size _ (#[.pointer (some ⟨pb,0,none⟩),.slice fga s.funcs.length fgc,.slice ga s.vars.length gc,.int .i64 T,.int .i64 G,.int .i64 P,.int .i64 0,.int .i64 X,.int .i64 qd,.int .i64 qt]) _ _ HR.out)
   have Hbl:=Lib.hid (Hlow.out HL.out)
   have hne:∀ b,b≠w.heap.size→(wr.setRow w.heap.size (#[.pointer (some ⟨pb,0,none⟩),.slice fga s.funcs.length fgc,.slice ga s.vars.length gc,.int .i64 T,.int .i64 G,.int .i64 P,.int .i64 0,.int .i64 X,.int .i64 qd,.int .i64 qt])).heap[b]? =wr.heap[b]? :=fun b hb=>by simp [World.setRow,Array.getElem?_modify,Ne.symm hb]
   refine bodyPost_ret (results_cell_row rfl _ _ w.heap.size _ _ _ _ rfl FR.out Try.underlying83 rfl (by kernel_rfl)) rfl ?_
   obtain⟨e1,e2,e3,e4,e5,e6,e7⟩:=HE.out
   refine⟨.slice fga s.funcs.length fgc,.slice ga s.vars.length gc,?_,?_,?_,?_⟩
   ·rw [e1,e2,e3,e4,e5,← HXn.out];rfl
   ·exact⟨Hbl.out.os,Hbl.out.tape,Hbl.out.output,by simpa [World.setRow] using Hbl.out.size,fun b hb=>(hne b (by omega)).trans (Hbl.out.block b hb)⟩
   ·rw [e6];exact((HL.out.funcs.mono (by omega)).plain_keep plain_int (fun g hg=>hne g (by have:=(HL.out.funcs.lt g hg).1;omega)))
   ·rw [e7];exact((HL.out.vars.mono (by omega)).plain_keep plain_int (fun g hg=>hne g (by have:=(HL.out.vars.lt g hg).1;omega)))
end Go.Proofs.Ytpomdoliblilfaa
