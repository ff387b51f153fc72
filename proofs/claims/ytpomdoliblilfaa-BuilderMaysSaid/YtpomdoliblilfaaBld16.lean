/- Lemmas. -/
import Derived.Test.YtpomdoliblilfaaBld15
namespace Go.Proofs.Ytpomdoliblilfaa
set_option linter.unusedVariables false
set_option linter.unusedSimpArgs false
open Go.RowKit
section
variable {α : Type} {e : TypeId} {K : Kind α} {B : Nat} {E : Nat → Prop} {w w' : World} {v : Value} {l : List α}
theorem OwnK.flat_keep (hK:FlatK K) (h:OwnK e K B E w v l) (hk:∀ g,v.ownBlock=some g→w'.heap[g]? =w.heap[g]?):OwnK e K B E w' v l:=by
 obtain⟨xs,h1,h2,h3⟩:=h
 refine⟨xs,⟨h1.1,?_⟩,h2.flat hK,h3⟩
 rcases h1.2 with h0 | ⟨g,cap,cur,hv,hg,hh,r⟩
 ·exact Or.inl h0
 ·exact Or.inr ⟨g,cap,cur,hv,hg,by rw [hk g (by rw [hv];rfl)];exact hh,r⟩
end
theorem PlanM.keepC {B pb C:Nat} {w w1 w2:World} {sv:SpecV} {s s0:SpecL} {own own0:Int} {v:PlanV} {p p0:PlanL} (h0:PlanM B pb w sv s0 own0 v p0) (h:PlanM B pb w1 sv s own v p) (hC:w.heap.size≤C) (hb:∀ b,b<C→w2.heap[b]? =w1.heap[b]?):PlanM B pb w2 sv s own v p:=by
 have hl:=h0.lt
 refine⟨(hb pb (by omega)).trans h.ex,h.base,?_,?_,?_⟩
 ·exact h.syms.flat_keep flat_sym (fun g hg=>hb g (by have:=(h0.syms.lt g hg).2;omega))
 ·exact h.cells.flat_keep flat_cell (fun g hg=>hb g (by have:=(h0.cells.lt g hg).2;omega))
 ·exact h.jumps.flat_keep flat_int (fun g hg=>hb g (by have:=(h0.jumps.lt g hg).2;omega))
theorem PStep.keepC {pb C:Nat} {w w1 w2:World} {v:PlanV} (h:PStep pb v v w w1) (hC:w.heap.size≤C) (hb:Below C w1 w2):PStep pb v v w w2:=by
 have h1:=h.step
 refine⟨⟨hb.os.trans h1.os,hb.tape.trans h1.tape,hb.output.trans h1.output,Nat.le_trans h1.size hb.size,fun b hb'=>(hb.block b (by have:=hb'.1;omega)).trans (h1.block b hb')⟩,h.new⟩
def NamedPost (B pb:Nat) (sv:SpecV) (s:SpecL) (own:Int) (v:PlanV) (w:World) (q:PlanL × List Int) (e:Ending) (w':World):Prop:=
 ∃ ov,e=.returned ov∧PlanM B pb w' sv s own v q.1∧PStep pb v v w w'∧OwnK 3 kInt w.heap.size (fun _=>False) w' ov q.2
theorem PlanM.setRowKept {B pb b:Nat} {w:World} {sv:SpecV} {s:SpecL} {own:Int} {v:PlanV} {p:PlanL} (h:PlanM B pb w sv s own v p) (k:Kept pb v w b) (cs:Array Value):PlanM B pb (w.setRow b cs) sv s own v p:=
 ⟨(setRow_other w b pb cs (fun e=>k.ne e.symm)).trans h.ex,h.base,h.syms.flat_keep flat_sym (fun g hg=>setRow_other w b g cs (fun e=>k.no (Or.inl (e ▸ hg)))),h.cells.flat_keep flat_cell (fun g hg=>setRow_other w b g cs (fun e=>k.no (Or.inr (Or.inl (e ▸ hg))))),h.jumps.flat_keep flat_int (fun g hg=>setRow_other w b g cs (fun e=>k.no (Or.inr (Or.inr (e ▸ hg)))))⟩
theorem PStep.setRowNew {pb b:Nat} {w w':World} {v v':PlanV} (h:PStep pb v v' w w') (hb:w.heap.size≤b) (cs:Array Value):PStep pb v v' w (w'.setRow b cs):=
 ⟨⟨h.step.os,h.step.tape,h.step.output,by simpa [World.setRow] using h.step.size,fun c hc=>(setRow_other w' b c cs (by have:=hc.1;omega)).trans (h.step.block c hc)⟩,h.new⟩
def namedB (n:List UInt8) (f:FuncL):Bool:=decide (f.sym.name=n)&& !f.sym.old
def namedStep (s:SpecL) (funcs:List Int) (q:PlanL × List Int) (n:List UInt8):PlanL × List Int:=
 match s.funcs.findIdx? (namedB n)with
 | some k=>(q.1,q.2++[funcs.getD k 0])
 | none=>(q.1.fail 103,q.2)
theorem namedL_fold (s:SpecL) (funcs:List Int):∀ (l:List (List UInt8)) (q:PlanL × List Int),namedL s funcs l q=l.foldl (namedStep s funcs) q
 | [],_=>rfl
 | n :: l,q=>by
  rw [List.foldl_cons,← namedL_fold s funcs l]
  rw [namedL]
  unfold namedStep
  have:(fun f:FuncL=>decide (f.sym.name=n)&& !f.sym.old)=namedB n:=rfl
  rw [this]
  cases s.funcs.findIdx? (namedB n)<;>rfl
theorem namedStep_len (s:SpecL) (funcs:List Int):∀ (l:List (List UInt8)) (q:PlanL × List Int),(l.foldl (namedStep s funcs) q).2.length≤q.2.length+l.length
 | [],_=>by simp
 | n :: l,q=>by
  rw [List.foldl_cons,List.length_cons]
  have h1:=namedStep_len s funcs l (namedStep s funcs q n)
  have h2:(namedStep s funcs q n).2.length≤q.2.length+1:=by unfold namedStep;split<;>simp
  omega
set_option maxHeartbeats 4000000 in
set_option maxRecDepth 100000 in
theorem named1_any (w:World) (nb:Nat) (n:List UInt8) (f:FuncL) (la:Option Addr) (ln lc:Nat) (hn:w.cell? ⟨nb,0,none⟩=some (.string ⟨n.toArray⟩)) (hb:nb<w.heap.size):
  Calls Try.prog 46 #[.agg #[.string ⟨f.sym.name.toArray⟩,.string ⟨f.sym.version.toArray⟩,.bool f.sym.old,.int .i64 f.sym.kind,.bool f.sym.weak,.int .i64 f.sym.vis,.bool f.sym.defined,.int .i64 f.sym.value,.int .i64 f.sym.size,.slice la ln lc],.pointer (some ⟨nb,0,none⟩)] w fun e w'=>e=.returned (.bool (namedB n f))∧Below w.heap.size w w':=by
 have HB:=Lib.hid ((Below.refl w.heap.size w).alloc (Nat.le_refl _) (.cells #[.string ⟨f.sym.name.toArray⟩,.string ⟨f.sym.version.toArray⟩,.bool f.sym.old,.int .i64 f.sym.kind,.bool f.sym.weak,.int .i64 f.sym.vis,.bool f.sym.defined,.int .i64 f.sym.value,.int .i64 f.sym.size,.slice la ln lc] 68))
 by_cases h:f.sym.name=n
 ·have hbn:(f.sym.name==n)=true:=by simp [h]
  have HQ:Hid (namedB n f= !f.sym.old):=Lib.hid (by simp [namedB,h])
  rw [HQ.out]
  clear h
  generalize f.sym.old=old at *
  cases old with
  | true=>
   go_enter Try.func46,Try.ntmps46
   go_wp2
   go_ret
   exact⟨rfl,HB.out⟩
  | false=>
   go_enter Try.func46,Try.ntmps46
   go_wp2
   go_ret
   exact⟨rfl,HB.out⟩
 ·have hbn:(f.sym.name==n)=false:=by simp [h]
  have HQ:Hid (namedB n f=false):=Lib.hid (by simp [namedB,h])
  rw [HQ.out]
  clear h
  go_enter Try.func46,Try.ntmps46
  go_wp2
  go_ret
  exact⟨rfl,HB.out⟩
set_option maxHeartbeats 8000000 in
set_option maxRecDepth 100000 in
theorem indexF_any {B:Nat} {w0:World} {fv:Value} {l:List FuncL} (hl:LB kFunc (·<B) w0 fv l) (w:World) (hw:Below B w0 w) (hB:B≤w.heap.size) (nb:Nat) (n:List UInt8) (hn:w.cell? ⟨nb,0,none⟩=some (.string ⟨n.toArray⟩)) (hb:nb<w.heap.size):
  Calls Try.prog 45 #[fv,.func (.func 46) #[] #[.pointer (some ⟨nb,0,none⟩)]] w fun e w'=>e=.returned (.int .i64 (idxV (l.findIdx? (namedB n))))∧Below w.heap.size w w':=by
 obtain⟨fa,fb,foff,fcap,hff,hfm,hfcap,hfat⟩:=hl.at
 subst hff
 have hfa:=hfat.addr
 have Hfat:=Lib.hid hfat
 obtain⟨fn,hfn⟩:∃ fn,fn=l.length:=⟨_,rfl⟩
 have Hfn:=Lib.hid hfn
 rw [← hfn]at hfm hfcap hfa ⊢
 have Hn:=Lib.hid hn
 have HN1:=Lib.hid (fun (w:World) (f:FuncL) (la:Option Addr) (ln lc:Nat)=>named1_any w nb n f la ln lc)
 clear hl hfat hfn hn
 go_enter Try.func45,Try.ntmps45
 go_wp2_with fail
 go_loopw [8] (fun i wr=>∃ k:Nat,i=.int .i64 k∧k≤fn∧(l.take k).findIdx? (namedB n)=none∧Below w.heap.size w wr) (fun i _=>fn-(intOf i).toNat)
 case atStart=>exact⟨0,rfl,Nat.zero_le _,find_start _ _,Below.refl _ _⟩
 case round=>
  obtain⟨k,rfl,hk,hf,hbel⟩:=hrel
  have Hf:=Lib.hid hf
  have Hbel:=Lib.hid hbel
  have hbB:=hw.trans (hbel.mono hB)
  have hzr:=hbel.size
  clear hf hbel
  by_cases hlt:k<fn
  ·obtain rfl:=hfa (by omega)
   obtain⟨x,hx⟩:∃ x,l[k]? =some x:=⟨_,List.getElem?_eq_getElem (by rw [← Hfn.out];exact hlt)⟩
   obtain⟨lv,hlv,hso,g0,g1,g2,g3,g4,g5,g6,g7,g8,g9⟩:=Hfat.out.func10b hbB k x hx
   obtain⟨la,lc,rfl⟩:=hlv.form
   obtain⟨ln,hln⟩:∃ ln,ln=x.lines.length:=⟨_,rfl⟩
   rw [← hln]at g9
   have HCl:=Lib.hid (HN1.out wr x la ln lc ((Hbel.out.cell (p:=⟨nb,0,none⟩) hb).trans Hn.out) (by omega))
   have Hx:=Lib.hid hx
   have hk2:(k:Int)<(fn:Int):=by omega
   clear hx hlv hso hln hbB
   cases ht:namedB n x with
   | true=>
    rw [ht]at HCl
    have HH:=Lib.hid (find_hit Hf.out Hx.out ht)
    clear ht
    go_wp2_with fail
    refine HCl.out.mono ?_
    rintro e w5 ⟨rfl,hb5⟩
    have HB5:=Lib.hid (Hbel.out.trans (hb5.mono hzr))
    clear hb5 HCl g0 g1 g2 g3 g4 g5 g6 g7 g8 g9
    go_wp2
    go_ret
    exact⟨by rw [HH.out];rfl,HB5.out⟩
   | false=>
    rw [ht]at HCl
    have HH:=Lib.hid (find_next Hf.out Hx.out ht)
    clear ht
    go_wp2_with fail
    refine HCl.out.mono ?_
    rintro e w5 ⟨rfl,hb5⟩
    have HB5:=Lib.hid (Hbel.out.trans (hb5.mono hzr))
    clear hb5 HCl g0 g1 g2 g3 g4 g5 g6 g7 g8 g9
    go_wp2
    go_roundw
    case rel=>exact⟨k+1,by go_num,by omega,HH.out,HB5.out⟩
    case measure=>simp [intOf];omega
  ·have HH:=Lib.hid (find_end (by have h:=Hf.out;rwa [show k=l.length by have:=Hfn.out;omega]at h))
   go_wp2
   go_ret
   exact⟨by rw [HH.out];rfl,Hbel.out⟩
set_option maxHeartbeats 8000000 in
set_option maxRecDepth 100000 in
theorem named_any {B pb:Nat} {w:World} {sv:SpecV} {s:SpecL} {own:Int} {v:PlanV} {p:PlanL} {fv vv nv:Value} {funcs:List Int} {names:List (List UInt8)} (vl:Nat) (va:Option Addr) (vc:Nat) (y:LayN) (hvv:vv=.slice va vl vc)
  (hM:PlanM B pb w sv s own v p) (hS:SpecM (·<B) w sv s) (hB:B≤w.heap.size) (hF:LB kInt (Kept pb v w) w fv funcs) (hlf:funcs.length=s.funcs.length) (hN:LB kStr (·<B) w nv names) (hn:names.length≤2000):
  Calls Try.prog 18 #[.agg (layCells pb fv vv y).toArray,nv] w (NamedPost B pb sv s own v w (namedL s funcs names (p,[]))):=by
 rw [namedL_fold]
 have HM:=Lib.hid hM
 have HS:=Lib.hid hS
 obtain⟨fa,fc,hff⟩:=hF.form
 have HF:=Lib.hid hF
 have Hlf:=Lib.hid hlf
 subst hvv
 obtain⟨na,nb,noff,ncap,hnf,hnm,hncap,hnat⟩:=hN.at
 have hna:=hnat.addr
 have Hnat:=Lib.hid hnat
 subst hff hnf
 obtain⟨m,hm⟩:∃ m,m=names.length:=⟨_,rfl⟩
 have Hm:=Lib.hid hm
 rw [← hm]at hnm hncap hna hn ⊢
 obtain⟨ft,hft⟩:∃ ft,ft=funcs.length:=⟨_,rfl⟩
 have Hft:=Lib.hid hft
 rw [← hft]at HF ⊢
 have hpl:=hM.lt
 have c4:=hM.c4
 obtain⟨sfa,sfc,hsf⟩:=hS.funcs.form
 rw [hsf]at c4
 have Hsf:=Lib.hid hsf
 have HIx:=Lib.hid (fun (w':World) (hw:Below B w w') (hB:B≤w'.heap.size) (nb:Nat) (n:List UInt8) hn hb=>indexF_any hS.funcs w' hw hB nb n hn hb)
 rw [hsf]at HIx
 unfold layCells
 clear hm hft hM hS hF hlf hN hnat hsf
 go_enter Try.func18,Try.ntmps18
 go_wp2_with fail
 have HM1:=Lib.hid (HM.out.alloc (.cells #[.pointer (some ⟨pb,0,none⟩),.slice fa ft fc,.slice va vl vc,.int .i64 y.stubs,.int .i64 y.got,.int .i64 y.plt,.int .i64 0,.int .i64 y.text,.int .i64 y.data,.int .i64 y.tls] 83))
 have HS1:=Lib.hid (PStep.alloc (pb:=pb) v w (.cells #[.pointer (some ⟨pb,0,none⟩),.slice fa ft fc,.slice va vl vc,.int .i64 y.stubs,.int .i64 y.got,.int .i64 y.plt,.int .i64 0,.int .i64 y.text,.int .i64 y.data,.int .i64 y.tls] 83))
 have HK1:=Lib.hid (HM.out.kept_new (.cells #[.pointer (some ⟨pb,0,none⟩),.slice fa ft fc,.slice va vl vc,.int .i64 y.stubs,.int .i64 y.got,.int .i64 y.plt,.int .i64 0,.int .i64 y.text,.int .i64 y.data,.int .i64 y.tls] 83))
 have HX1:=Lib.hid (heap_alloc_new w (.cells #[.pointer (some ⟨pb,0,none⟩),.slice fa ft fc,.slice va vl vc,.int .i64 y.stubs,.int .i64 y.got,.int .i64 y.plt,.int .i64 0,.int .i64 y.text,.int .i64 y.data,.int .i64 y.tls] 83))
 have HF1:=Lib.hid ((HF.out.keeps (fun b hb=>HS1.out.block hb)).imp (fun b hb=>HS1.out.kept hb))
 have hz1:w.heap.size<(w.alloc (.cells #[.pointer (some ⟨pb,0,none⟩),.slice fa ft fc,.slice va vl vc,.int .i64 y.stubs,.int .i64 y.got,.int .i64 y.plt,.int .i64 0,.int .i64 y.text,.int .i64 y.data,.int .i64 y.tls] 83)).heap.size:=by simp
 have HL1:=Lib.hid (((Below.refl w.heap.size w).alloc (Nat.le_refl _) (.cells #[.pointer (some ⟨pb,0,none⟩),.slice fa ft fc,.slice va vl vc,.int .i64 y.stubs,.int .i64 y.got,.int .i64 y.plt,.int .i64 0,.int .i64 y.text,.int .i64 y.data,.int .i64 y.tls] 83)).mono hB)
 clear c4
 generalize hws:w.heap.size=bx at *
 have Hws:=Lib.hid hws
 clear hws
 generalize w.alloc (.cells #[.pointer (some ⟨pb,0,none⟩),.slice fa ft fc,.slice va vl vc,.int .i64 y.stubs,.int .i64 y.got,.int .i64 y.plt,.int .i64 0,.int .i64 y.text,.int .i64 y.data,.int .i64 y.tls] 83)=w1 at *
 obtain⟨fa',fb,foff,fcap',hfe,-,-,hfat⟩:=HF1.out.at
 have hfat2:=hfat.addr
 rw [← Hft.out]at hfe
 have Hfat:=Lib.hid hfat
 have Hfe:=Lib.hid hfe
 clear hfe hfat
 go_loopw [5,11] (fun ov i wr=>∃ (k:Nat) (q:PlanL × List Int),i=.int .i64 k∧k≤m∧q=(names.take k).foldl (namedStep s funcs) (p,[])∧PlanM B pb wr sv s own v q.1∧PStep pb v v w1 wr∧OwnK 3 kInt w1.heap.size (fun b=>b<w1.heap.size) wr ov q.2) (fun _ i _=>m-(intOf i).toNat)
 case atStart=>exact⟨0,_,rfl,Nat.zero_le _,rfl,HM1.out,PStep.refl _ _ _,OwnK.nil _ _ _ _ _⟩
 case round=>
  obtain⟨k,q,rfl,hk,hq,hM2,hs2,ho2⟩:=hrel
  have HM2:=Lib.hid hM2
  have HS2:=Lib.hid hs2
  have HO2:=Lib.hid ho2
  have hz2:=hs2.step.size
  have HL2:=Lib.hid (HL1.out.trans (hs2.low HM1.out (by omega)))
  have Hq:=Lib.hid hq
  clear hM2 hs2 ho2 hq
  by_cases hlt:k<m
  ·obtain rfl:=hna (by omega)
   obtain⟨x,hx⟩:∃ x,names[k]? =some x:=⟨_,List.getElem?_eq_getElem (by rw [← Hm.out];exact hlt)⟩
   have g0:=((Hnat.out.below HL2.out).str1 k x hx).1
   have HNx:=Lib.hid (foldl_take_next (F:=namedStep s funcs) hx (p,[]))
   rw [← Hq.out]at HNx
   have hql:q.2.length≤k:=by
    have h1:=namedStep_len s funcs (names.take k) (p,[])
    rw [← Hq.out,List.length_take]at h1
    have h2:min k names.length≤k:=Nat.min_le_left _ _
    simp at h1;omega
   have hk2:(k:Int)<(m:Int):=by omega
   have HMa:=Lib.hid (HM2.out.alloc (.cells #[.string ⟨x.toArray⟩] 9 (0,0)))
   have HSa:=Lib.hid (HS2.out.trans (PStep.alloc v wr (.cells #[.string ⟨x.toArray⟩] 9 (0,0))))
   have HOa:=Lib.hid (HO2.out.alloc (.cells #[.string ⟨x.toArray⟩] 9 (0,0)))
   have HXa:=Lib.hid (heap_alloc_new wr (.cells #[.string ⟨x.toArray⟩] 9 (0,0)))
   have HLa:=Lib.hid (HL2.out.trans ((Below.refl B wr).alloc (by omega) (.cells #[.string ⟨x.toArray⟩] 9 (0,0))))
   have hza:wr.heap.size<(wr.alloc (.cells #[.string ⟨x.toArray⟩] 9 (0,0))).heap.size:=by simp
   go_upto_region 5 with fail
   clear g0 hx
   generalize wr.heap.size=nbk at *
   generalize wr.alloc (.cells #[.string ⟨x.toArray⟩] 9 (0,0))=wa at *
   have HCall:=Lib.hid (HIx.out wa HLa.out (by omega) nbk x (by rw [Lib.cell_of_heap HXa.out];rfl) hza)
   have hbx:wa.heap[bx]? =some (.cells #[.pointer (some ⟨pb,0,none⟩),.slice fa ft fc,.slice va vl vc,.int .i64 y.stubs,.int .i64 y.got,.int .i64 y.plt,.int .i64 0,.int .i64 y.text,.int .i64 y.data,.int .i64 y.tls] 83 (0,0)):=(HSa.out.block HK1.out).trans HX1.out
   have k0:wa.cell? ⟨bx,0,none⟩=some (.pointer (some ⟨pb,0,none⟩)):=by rw [Lib.cell_of_heap hbx];rfl
   have k4:wa.cell? ⟨pb,4,none⟩=some (.slice sfa s.funcs.length sfc):=HMa.out.c4.trans (by rw [Hsf.out])
   clear hbx
   go_wp2_with fail
   refine HCall.out.mono ?_
   rintro e w5 ⟨rfl,hb5⟩
   have HM5:=Lib.hid (HMa.out.below hb5)
   have HS5:=Lib.hid (HSa.out.trans (PStep.below hb5))
   have HO5:=Lib.hid (HOa.out.below hb5)
   have hz5:=HS5.out.step.size
   clear hb5 k0 k4 HCall
   have hbx:w5.heap[bx]? =some (.cells #[.pointer (some ⟨pb,0,none⟩),.slice fa ft fc,.slice va vl vc,.int .i64 y.stubs,.int .i64 y.got,.int .i64 y.plt,.int .i64 0,.int .i64 y.text,.int .i64 y.data,.int .i64 y.tls] 83 (0,0)):=(HS5.out.block HK1.out).trans HX1.out
   have k0:w5.cell? ⟨bx,0,none⟩=some (.pointer (some ⟨pb,0,none⟩)):=by rw [Lib.cell_of_heap hbx];rfl
   have k1:w5.cell? ⟨bx,1,none⟩=some (.slice fa ft fc):=by rw [Lib.cell_of_heap hbx];rfl
   clear hbx
   cases ho:s.funcs.findIdx? (namedB x)with
   | none=>
    have HSt:Hid (namedStep s funcs q x=(q.1.fail 103,q.2)):=Lib.hid (by unfold namedStep;rw [ho])
    have hneg:idxV (none:Option Nat)= -1:=rfl
    rw [hneg]
    clear ho hneg
    go_wp2_with fail
    refine(fail_any 103 HM5.out).mono ?_
    rintro e w6 ⟨rfl,hM6,hs6⟩
    have HM6:=Lib.hid hM6
    have HO6:=Lib.hid (HO5.out.flat_keep flat_int (fun g hg=>by
     have h1:=(HO5.out.lt g hg)
     have h2:=HM1.out.lt
     exact hs6.step.block g ⟨h1.2,by omega,fun e=>by have:=(HM1.out.has_lt e).2.1;omega⟩))
    have HS6:=Lib.hid (HS5.out.trans hs6)
    clear hM6 hs6
    go_wp2
    go_roundw
    case rel=>exact⟨k+1,_,by go_num,by omega,rfl,by rw [HNx.out,HSt.out];exact HM6.out,HS6.out,by rw [HNx.out,HSt.out];exact HO6.out⟩
    case measure=>simp [intOf];omega
   | some i=>
    have hil:i<ft:=by
     obtain⟨h,_⟩:=List.findIdx?_eq_some_iff_getElem.1 ho
     rw [Hft.out,Hlf.out];exact h
    obtain⟨z,hz⟩:∃ z,funcs[i]? =some z:=⟨_,List.getElem?_eq_getElem (by rw [← Hft.out];exact hil)⟩
    have HSt:Hid (namedStep s funcs q x=(q.1,q.2++[z])):=Lib.hid (by unfold namedStep;rw [ho];show(q.1,q.2++[funcs.getD i 0])=_;rw [List.getD_eq_getElem?_getD,hz];rfl)
    have hpos:idxV (some i)=(i:Int):=rfl
    rw [hpos]
    have hae:=hfat2 (by rw [← Hft.out];omega)
    have he:=Hfe.out
    rw [hae]at he
    simp only [Value.slice.injEq]at he
    obtain⟨rfl,-,-⟩:=he
    have hkb:Kept pb v w1 fb:=Hfat.out.inS (by rw [← Hft.out];omega)
    have gz:w5.cell? ⟨fb,foff+i,none⟩=some (.int .i64 z):=(World.cell?_of_block (a:=⟨fb,foff+i,none⟩) (HS5.out.block hkb)).trans (Hfat.out.int1 i z hz)
    have hi0:(0:Int)≤(i:Int):=Int.natCast_nonneg _
    have hi2:(i:Int)<(ft:Int):=by omega
    clear ho hpos hz hae hkb
    obtain⟨oa,oc,hof⟩:=HO5.out.form
    have Hof:=Lib.hid hof
    obtain⟨ol,hol⟩:∃ ol,ol=q.2.length:=⟨_,rfl⟩
    have Hol:=Lib.hid hol
    rw [← hol]at hof hql
    clear hol
    subst hof
    have HOw:=Lib.hid ((HO5.out.reE (E':=fun b=>b<w5.heap.size+1∧¬ (Value.slice oa ol oc).ownBlock=some b) flat_int (fun g hg h=>h.2 hg)).alloc (.cells #[.int .i64 z] 3))
    have Hzb:Hid ((w5.alloc (.cells #[.int .i64 z] 3)).heap.size=w5.heap.size+1):=Lib.hid (by simp)
    go_wp2_with (at_builtin;go_loud (refine wpList_appendK 41 (.int .i64 0) 8 Try.underlying41 info_intB rfl (by decide) rfl (.tmp 28) (.tmp 34) rfl ol Hol.out.symm rfl HOw.out (fun b hb=>by have h1:=hb.1;have h2:=Hzb.out;omega) w5.heap.size z [.int .i64 z] rfl (cells_row (xs:=[.int .i64 z]) (heap_alloc_new w5 (.cells #[.int .i64 z] 3))) (by simp [Value.oneCell']) rfl (by rw [← Hol.out];omega) (by rw [← Hol.out];omega) (by have h2:=Hzb.out;omega) ?_))
    intro g c2 w7 hown7 hst7 hglt
    have Hbel:Hid (Below w1.heap.size w5 w7):=Lib.hid (by
     have h2:=Hzb.out
     refine((Below.refl w1.heap.size w5).alloc (by omega) (.cells #[.int .i64 z] 3)).trans ((hst7.imp (S':=(·<w1.heap.size)) (fun b hb=>⟨by have hb:b<w1.heap.size:=hb;omega,fun e=>by have h3:=(HO5.out.lt b e).1;have hb:b<w1.heap.size:=hb;omega⟩)).below))
    have HM7:=Lib.hid (HM1.out.keepC HM5.out (Nat.le_refl _) (fun b hb=>Hbel.out.block b hb))
    have HS7:=Lib.hid (HS5.out.keepC (Nat.le_refl _) Hbel.out)
    have HO7:=Lib.hid (hown7.reE (E':=fun b=>b<w1.heap.size) flat_int (fun g hg h=>by have:=(hown7.lt g hg).1;omega))
    clear hown7 hst7 k0 k1 gz
    go_wp2
    go_roundw
    case rel=>exact⟨k+1,_,by go_num,by omega,rfl,by rw [HNx.out,HSt.out];exact HM7.out,HS7.out,by rw [HNx.out,HSt.out];exact HO7.out⟩
    case measure=>simp [intOf];omega
  ·have hall:names.take k=names:=List.take_of_length_le (by have:=Hm.out;omega)
   have HQ:Hid (q=names.foldl (namedStep s funcs) (p,[])):=Lib.hid (by rw [Hq.out,hall])
   have HE:Hid (PlanM B pb wr sv s own v q.1∧PStep pb v v w wr∧OwnK 3 kInt bx (fun _=>False) wr u5 q.2):=Lib.hid ⟨HM2.out,HS1.out.trans HS2.out,(HO2.out.mono (by omega)).reE flat_int (fun _ _ h=>h)⟩
   rw [HQ.out]at HE
   clear hall
   go_wp2
   go_ret
   exact⟨_,rfl,HE.out.1,HE.out.2.1,by rw [Hws.out];exact HE.out.2.2⟩
end Go.Proofs.Ytpomdoliblilfaa
