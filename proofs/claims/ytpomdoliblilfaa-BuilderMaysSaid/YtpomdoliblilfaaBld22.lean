/- Lemmas. -/
import Derived.Test.YtpomdoliblilfaaBld21
namespace Go.Proofs.Ytpomdoliblilfaa
set_option linter.unusedVariables false
set_option linter.unusedSimpArgs false
open Go.RowKit
theorem PStep.keepC' {pb C:Nat} {w w1 w2:World} {v v':PlanV} (h:PStep pb v v' w w1) (hC:w.heap.size≤C) (hb:Below C w1 w2):PStep pb v v' w w2:=by
 have h1:=h.step
 exact⟨⟨hb.os.trans h1.os,hb.tape.trans h1.tape,hb.output.trans h1.output,Nat.le_trans h1.size hb.size,fun b hb'=>(hb.block b (by have:=hb'.1;omega)).trans (h1.block b hb')⟩,h.new⟩
structure OutP {α:Type} (e:TypeId) (K:Kind α) (B pb:Nat) (sv:SpecV) (s:SpecL) (own:Int) (v:PlanV) (w1:World) (p:PlanL) (w:World) (o:Value) (l:List α):Prop where
 ex:∃ v',PlanM B pb w sv s own v' p∧PStep pb v v' w1 w∧∀ g,o.ownBlock=some g→Kept pb v' w g
 own:OwnK e K w1.heap.size (fun _=>False) w o l
section
variable {α : Type} {e : TypeId} {K : Kind α} {B pb : Nat} {sv : SpecV} {s : SpecL} {own : Int} {v : PlanV} {w1 w w' : World} {p p2 : PlanL} {o : Value} {l : List α}
theorem OutP.start (e:TypeId) (K:Kind α) (hM:PlanM B pb w1 sv s own v p):OutP e K B pb sv s own v w1 p w1 (.slice none 0 0) []:=⟨⟨v,hM,PStep.refl _ _ _,fun g h=>by simp [Value.ownBlock]at h⟩,OwnK.nil _ _ _ _ _⟩
theorem OutP.size (h:OutP e K B pb sv s own v w1 p w o l):w1.heap.size≤w.heap.size:=by obtain⟨v',_,h2,_⟩:=h.ex;exact h2.step.size
theorem OutP.low {p0:PlanL} {own0:Int} (h:OutP e K B pb sv s own v w1 p w o l) (hM:PlanM B pb w1 sv s own0 v p0) (hB:B≤w1.heap.size):Below B w1 w:=by obtain⟨v',_,h2,_⟩:=h.ex;exact h2.low hM hB
theorem OutP.box (h:OutP e K B pb sv s own v w1 p w o l) {b:Nat} (hk:Kept pb v w1 b):w.heap[b]? =w1.heap[b]? :=by obtain⟨v',_,h2,_⟩:=h.ex;exact h2.block hk
theorem OutP.next (hK:FlatK K) {v1 v2:PlanV} (hs1:PStep pb v v1 w1 w) (hk:∀ g,o.ownBlock=some g→Kept pb v1 w g) (ho:OwnK e K w1.heap.size (fun _=>False) w o l) (hM:PlanM B pb w' sv s own v2 p2) (hs:PStep pb v1 v2 w w'):OutP e K B pb sv s own v w1 p2 w' o l:=
 ⟨⟨v2,hM,hs1.trans hs,fun g hg=>hs.kept (hk g hg)⟩,ho.flat_keep hK (fun g hg=>hs.block (hk g hg))⟩
theorem OutP.alloc (hK:FlatK K) (h:OutP e K B pb sv s own v w1 p w o l) (x:Obj):OutP e K B pb sv s own v w1 p (w.alloc x) o l:=by
 obtain⟨v',h1,h2,h3⟩:=h.ex
 exact .next hK h2 h3 h.own (h1.alloc x) (PStep.alloc v' w x)
theorem OutP.append (hK:FlatK K) (h:OutP e K B pb sv s own v w1 p w o l) {o':Value} {l':List α} {E:Nat→Prop} (hown:OwnK e K w1.heap.size E w' o' l') (hst:Step (fun b=>b<w.heap.size∧o.ownBlock≠some b) w w') (hnew:∀ b,o'.ownBlock=some b→o.ownBlock=some b∨w.heap.size≤b):OutP e K B pb sv s own v w1 p w' o' l':=by
 obtain⟨v',h1,h2,h3⟩:=h.ex
 have hpl:=h1.lt
 have hpo:o.ownBlock≠some pb:=fun e=>(h3 pb e).ne rfl
 have hno:∀ b,v'.has b→b<w.heap.size∧o.ownBlock≠some b:=fun b hb=>⟨(h1.has_lt hb).2.1,fun e=>(h3 b e).no hb⟩
 refine⟨⟨v',⟨(hst.block pb ⟨hpl,hpo⟩).trans h1.ex,h1.base,h1.syms.flat_keep flat_sym (fun g hg=>hst.block g (hno g (Or.inl hg))),h1.cells.flat_keep flat_cell (fun g hg=>hst.block g (hno g (Or.inr (Or.inl hg)))),h1.jumps.flat_keep flat_int (fun g hg=>hst.block g (hno g (Or.inr (Or.inr hg))))⟩,?_,?_⟩,hown.reE hK (fun _ _ h=>h)⟩
 ·refine h2.keepC' (Nat.le_refl _) ((hst.imp (S':=(·<w1.heap.size)) (fun b hb=>⟨?_,fun e=> ?_⟩)).below)
  ·have hb:b<w1.heap.size:=hb
   have:=h2.step.size;omega
  ·have h4:=(h.own.lt b e).1
   have hb:b<w1.heap.size:=hb
   omega
 ·intro g hg
  rcases hnew g hg with h' | h'
  ·have k3:=h3 g h'
   have k4:=hst.size
   have k5:=k3.lt
   exact⟨by omega,k3.ne,k3.no⟩
  ·have h5:=(hown.lt g hg).2
   exact⟨h5,by omega,fun e=>by have:=(hno g e).1;omega⟩
end
theorem lowersL_snoc (weak:List (List UInt8)) (y:LayL) (x:LineL):∀ (ls:List LineL) (q:PlanL × List InstL),lowersL weak y (ls++[x]) q=((lowerL weak y x (8*(lowersL weak y ls q).2.length) (lowersL weak y ls q).1).1,(lowersL weak y ls q).2++(lowerL weak y x (8*(lowersL weak y ls q).2.length) (lowersL weak y ls q).1).2)
 | [],q=>rfl
 | z :: ls,q=>by
  show lowersL weak y (ls++[x]) _=_
  rw [lowersL_snoc weak y x ls];rfl
theorem stubsL_snoc (plt:Int):∀ (n c:Nat) (out:List InstL),stubsL plt c (n+1) out=stubsL plt c n out++[⟨11,14,0,0,plt+8*((c+n:Nat):Int)-8*((stubsL plt c n out).length:Int)-8⟩,⟨17,14,0,0,0⟩,⟨22,0,0,0,((c+n:Nat):Int)⟩]
 | 0,c,out=>by simp [stubsL]
 | n+1,c,out=>by
  have h:=stubsL_snoc plt n (c+1) (out++[⟨11,14,0,0,plt+8*c-8*out.length-8⟩,⟨17,14,0,0,0⟩,⟨22,0,0,0,c⟩])
  show stubsL plt (c+1) (n+1) _=stubsL plt (c+1) n _++_
  rw [h,show c+1+n=c+(n+1) by omega];rfl
def InsPost (B pb:Nat) (sv:SpecV) (s:SpecL) (own:Int) (v:PlanV) (w:World) (p:PlanL) (l:List InstL) (e:Ending) (w':World):Prop:=
 ∃ v' r,e=.returned r∧PlanM B pb w' sv s own v' p∧PStep pb v v' w w'∧OwnK 65 kInst w.heap.size (fun _=>False) w' r l∧∀ g,r.ownBlock=some g→Kept pb v' w' g
set_option maxHeartbeats 16000000 in
set_option maxRecDepth 100000 in
theorem insts_any {B pb:Nat} {w:World} {sv:SpecV} {s:SpecL} {own:Int} {v:PlanV} {p:PlanL} {fv vv:Value} {y:LayN} (fa:Option Addr) (fl fc:Nat) (va:Option Addr) (vl vc:Nat) (hfv:fv=.slice fa fl fc) (hvv:vv=.slice va vl vc) (yl:LayL) (hyl:yl.stubs=y.stubs∧yl.got=y.got∧yl.plt=y.plt)
  (hM:PlanM B pb w sv s own v p) (hS:SpecM (·<B) w sv s) (hB:B≤w.heap.size) (hin:∀ l∈s.lines,LineIn p l) (hf:s.funcs.length≤2000) (hl:s.lines.length≤2000) (hsz:p.sz≤999990) (hy:0≤y.got∧y.got≤25000000) (hy2:0≤y.stubs∧y.stubs≤25000000) (hy3:0≤y.plt∧y.plt≤50000000):
  Calls Try.prog 21 #[.agg (layCells pb fv vv y).toArray] w (InsPost B pb sv s own v w p (instsL s yl p).2):=by
 subst hfv hvv
 have HQ:Hid ((instsL s yl p).2=stubsL y.plt 0 p.jumps.length (lowersL s.weak yl s.lines (p,[])).2):=Lib.hid (by
  have h:=(lowers_same (weak:=s.weak) (y:=yl) (p:=p) s.lines [] hin).1
  unfold instsL
  simp only [h,hyl.2.2])
 have HM0:=Lib.hid hM
 have HM1:=Lib.hid (hM.alloc (.cells #[.pointer (some ⟨pb,0,none⟩),.slice fa fl fc,.slice va vl vc,.int .i64 y.stubs,.int .i64 y.got,.int .i64 y.plt,.int .i64 0,.int .i64 y.text,.int .i64 y.data,.int .i64 y.tls] 83 (0,0)))
 have HS1:=Lib.hid (PStep.alloc (pb:=pb) v w (.cells #[.pointer (some ⟨pb,0,none⟩),.slice fa fl fc,.slice va vl vc,.int .i64 y.stubs,.int .i64 y.got,.int .i64 y.plt,.int .i64 0,.int .i64 y.text,.int .i64 y.data,.int .i64 y.tls] 83 (0,0)))
 have HK1:=Lib.hid (hM.kept_new (.cells #[.pointer (some ⟨pb,0,none⟩),.slice fa fl fc,.slice va vl vc,.int .i64 y.stubs,.int .i64 y.got,.int .i64 y.plt,.int .i64 0,.int .i64 y.text,.int .i64 y.data,.int .i64 y.tls] 83 (0,0)))
 have HX1:=Lib.hid (heap_alloc_new w (.cells #[.pointer (some ⟨pb,0,none⟩),.slice fa fl fc,.slice va vl vc,.int .i64 y.stubs,.int .i64 y.got,.int .i64 y.plt,.int .i64 0,.int .i64 y.text,.int .i64 y.data,.int .i64 y.tls] 83 (0,0)))
 have HSp1:=Lib.hid (hS.keeps (.of_below ((Below.refl B w).alloc hB (.cells #[.pointer (some ⟨pb,0,none⟩),.slice fa fl fc,.slice va vl vc,.int .i64 y.stubs,.int .i64 y.got,.int .i64 y.plt,.int .i64 0,.int .i64 y.text,.int .i64 y.data,.int .i64 y.tls] 83 (0,0)))))
 have hz1:w.heap.size<(w.alloc (.cells #[.pointer (some ⟨pb,0,none⟩),.slice fa fl fc,.slice va vl vc,.int .i64 y.stubs,.int .i64 y.got,.int .i64 y.plt,.int .i64 0,.int .i64 y.text,.int .i64 y.data,.int .i64 y.tls] 83 (0,0))).heap.size:=by simp
 obtain⟨sfa,sfb,sfo,sfc,hsf,hfm,hfcap,hfat⟩:=HSp1.out.funcs.at
 have c4:=HM1.out.c4
 rw [hsf]at c4
 have hfa:=hfat.addr
 have Hfat:=Lib.hid hfat
 obtain⟨fn,hfn⟩:∃ fn,fn=s.funcs.length:=⟨_,rfl⟩
 have Hfn:=Lib.hid hfn
 rw [← hfn]at c4 hfm hfcap hfa hf
 have Hin:=Lib.hid hin
 have Hyl:=Lib.hid hyl
 have Hsz:=Lib.hid hsz
 have hpl:=hM.lt
 obtain⟨nj,hnj⟩:∃ nj,nj=p.jumps.length:=⟨_,rfl⟩
 have hnj2:nj≤999990:=by unfold PlanL.sz at hsz;omega
 have Hnj:=Lib.hid hnj
 rw [← hnj]at HQ
 clear hM hS hsf hfat hfn hin hyl hsz hnj
 show Calls Try.prog 21 #[.agg #[.pointer (some ⟨pb,0,none⟩),.slice fa fl fc,.slice va vl vc,.int .i64 y.stubs,.int .i64 y.got,.int .i64 y.plt,.int .i64 0,.int .i64 y.text,.int .i64 y.data,.int .i64 y.tls]] w _
 go_enter Try.func21,Try.ntmps21
 have k0:(w.alloc (.cells #[.pointer (some ⟨pb,0,none⟩),.slice fa fl fc,.slice va vl vc,.int .i64 y.stubs,.int .i64 y.got,.int .i64 y.plt,.int .i64 0,.int .i64 y.text,.int .i64 y.data,.int .i64 y.tls] 83 (0,0))).cell? ⟨w.heap.size,0,none⟩=some (.pointer (some ⟨pb,0,none⟩)):=by rw [Lib.cell_of_heap HX1.out];rfl
 go_upto_block 0 with fail
 clear k0
 generalize hws:w.heap.size=lb at *
 have Hws:=Lib.hid hws
 clear hws
 generalize w.alloc (.cells #[.pointer (some ⟨pb,0,none⟩),.slice fa fl fc,.slice va vl vc,.int .i64 y.stubs,.int .i64 y.got,.int .i64 y.plt,.int .i64 0,.int .i64 y.text,.int .i64 y.data,.int .i64 y.tls] 83 (0,0))=w1 at *
 go_cut [3] (fun o wx=>OutP 65 kInst B pb sv s own v w1 p wx o (lowersL s.weak yl s.lines (p,[])).2)
 case first=>
  go_wp2_with fail
  go_loopw [3,17] (fun o i wr=>∃ k:Nat,i=.int .i64 k∧k≤fn∧OutP 65 kInst B pb sv s own v w1 p wr o (lowersL s.weak yl ((s.funcs.take k).flatMap (·.lines)) (p,[])).2) (fun _ i _=>fn-(intOf i).toNat)
  case atStart=>exact⟨0,rfl,Nat.zero_le _,OutP.start _ _ HM1.out⟩
  case round=>
   obtain⟨k,rfl,hk,hO⟩:=hrel
   have HO:=Lib.hid hO
   clear c4 hO
   by_cases hlt:k<fn
   ·have HLo:=Lib.hid (HO.out.low HM1.out (by omega))
    obtain⟨f,hfx⟩:∃ f,s.funcs[k]? =some f:=⟨_,List.getElem?_eq_getElem (by rw [← Hfn.out];exact hlt)⟩
    obtain rfl:=hfa (by omega)
    obtain⟨lv,hlv,hso,g0,g1,g2,g3,g4,g5,g6,g7,g8,g9⟩:=Hfat.out.func10b HLo.out k f hfx
    obtain⟨la,lbk,loff,lcap,hlf,hlm,hlcap,hlat⟩:=hlv.at
    subst hlf
    have hla:=hlat.addr
    have Hlat:=Lib.hid hlat
    have HNx:Hid ((s.funcs.take (k+1)).flatMap (·.lines)=(s.funcs.take k).flatMap (·.lines)++f.lines):=Lib.hid (take_lines hfx)
    have Hmem:Hid (∀ x∈f.lines,LineIn p x):=Lib.hid (fun x hx=>Hin.out x (List.mem_flatMap.2 ⟨f,List.mem_of_getElem? hfx,hx⟩))
    have Hmem0:Hid (∀ x∈(s.funcs.take k).flatMap (·.lines),LineIn p x):=Lib.hid (fun x hx=>by
     obtain⟨g,hg,hx⟩:=List.mem_flatMap.1 hx
     exact Hin.out x (List.mem_flatMap.2 ⟨g,List.mem_of_mem_take hg,hx⟩))
    have hlen:((s.funcs.take k).flatMap (·.lines)).length+f.lines.length≤2000:=by
     have h2:=take_lines_len s.funcs (k+1)
     rw [take_lines hfx,List.length_append]at h2
     have h3:(s.funcs.flatMap (·.lines)).length≤2000:=hl
     omega
    obtain⟨ls,hls⟩:∃ ls,ls=(s.funcs.take k).flatMap (·.lines):=⟨_,rfl⟩
    rw [← hls]at HO HNx Hmem0 hlen
    obtain⟨c,hc⟩:∃ c,c=f.lines.length:=⟨_,rfl⟩
    have Hc:=Lib.hid hc
    rw [← hc]at g9 hlm hlcap hla hlen
    have hk2:(k:Int)<(fn:Int):=by omega
    have HOa:=Lib.hid (HO.out.alloc flat_inst (.cells #[.string ⟨f.sym.name.toArray⟩,.string ⟨f.sym.version.toArray⟩,.bool f.sym.old,.int .i64 f.sym.kind,.bool f.sym.weak,.int .i64 f.sym.vis,.bool f.sym.defined,.int .i64 f.sym.value,.int .i64 f.sym.size,.slice la c lcap] 68 (0,0)))
    clear hfx hlv hlat hso hls hc
    go_wp2_with fail
    clear g0 g1 g2 g3 g4 g5 g6 g7 g8 g9 HO HLo
    generalize wr.alloc (.cells #[.string ⟨f.sym.name.toArray⟩,.string ⟨f.sym.version.toArray⟩,.bool f.sym.old,.int .i64 f.sym.kind,.bool f.sym.weak,.int .i64 f.sym.vis,.bool f.sym.defined,.int .i64 f.sym.value,.int .i64 f.sym.size,.slice la c lcap] 68 (0,0))=wa at *
    generalize wr.heap.size=rb at *
    go_loopw [3,24] (fun o i wq=>∃ j:Nat,i=.int .i64 j∧j≤c∧OutP 65 kInst B pb sv s own v w1 p wq o (lowersL s.weak yl (ls++f.lines.take j) (p,[])).2) (fun _ i _=>c-(intOf i).toNat)
    case atStart=>exact⟨0,rfl,Nat.zero_le _,by simpa using HOa.out⟩
    case round=>
     obtain⟨j,rfl,hj,hO⟩:=hrel
     have HO:=Lib.hid hO
     clear hO
     by_cases hjt:j<c
     ·have HLq:=Lib.hid (HO.out.low HM1.out (by omega))
      obtain⟨x,hx⟩:∃ x,f.lines[j]? =some x:=⟨_,List.getElem?_eq_getElem (by rw [← Hc.out];exact hjt)⟩
      obtain rfl:=hla (by omega)
      obtain⟨hxo,l0,l1,l2,l3,l4,l5,l6,l7,l8⟩:=((Hlat.out.below HLq.out)).line9 j x hx
      have HSame:=Lib.hid (lowers_same (weak:=s.weak) (y:=yl) (p:=p) (ls++f.lines.take j) [] (fun z hz=>by
       rcases List.mem_append.1 hz with h | h
       ·exact Hmem0.out z h
       ·exact Hmem.out z (List.mem_of_mem_take h)))
      have HSn:Hid ((lowersL s.weak yl (ls++f.lines.take (j+1)) (p,[])).2=(lowersL s.weak yl (ls++f.lines.take j) (p,[])).2++(lowerL s.weak yl x (8*(lowersL s.weak yl (ls++f.lines.take j) (p,[])).2.length) p).2):=Lib.hid (by
       rw [take_snocB hx,← List.append_assoc,lowersL_snoc,HSame.out.1])
      have hllen:=linesLen_bd (ls++f.lines.take j)
      rw [List.length_append,List.length_take]at hllen
      have h8:=HSame.out.2
      simp only [List.length_nil]at h8
      have HLin:Hid (LineIn p x):=Lib.hid (Hmem.out x (List.mem_of_getElem? hx))
      obtain⟨q,hq⟩:∃ q,q=(lowersL s.weak yl (ls++f.lines.take j) (p,[])).2:=⟨_,rfl⟩
      rw [← hq]at HO HSn h8
      have Hxo:=Lib.hid hxo
      have HOb:=Lib.hid (HO.out.alloc flat_inst (.cells #[.int .i64 x.kind,.int .i64 x.inst.op,.int .i64 x.inst.a,.int .i64 x.inst.b,.int .i64 x.inst.c,.int .i64 x.inst.imm,.int .i64 x.a,.string ⟨x.name.toArray⟩,.string ⟨x.ver.toArray⟩] 77 (0,0)))
      have HXb:=Lib.hid (heap_alloc_new wr (.cells #[.int .i64 x.kind,.int .i64 x.inst.op,.int .i64 x.inst.a,.int .i64 x.inst.b,.int .i64 x.inst.c,.int .i64 x.inst.imm,.int .i64 x.a,.string ⟨x.name.toArray⟩,.string ⟨x.ver.toArray⟩] 77 (0,0)))
      have hzb:wr.heap.size<(wr.alloc (.cells #[.int .i64 x.kind,.int .i64 x.inst.op,.int .i64 x.inst.a,.int .i64 x.inst.b,.int .i64 x.inst.c,.int .i64 x.inst.imm,.int .i64 x.a,.string ⟨x.name.toArray⟩,.string ⟨x.ver.toArray⟩] 77 (0,0))).heap.size:=by simp
      have hj2:(j:Int)<(c:Int):=by omega
      clear hx hxo hq HSame
      go_upto_region 8 with fail
      clear l0 l1 l2 l3 l4 l5 l6 l7 l8 HO HLq
      generalize wr.alloc (.cells #[.int .i64 x.kind,.int .i64 x.inst.op,.int .i64 x.inst.a,.int .i64 x.inst.b,.int .i64 x.inst.c,.int .i64 x.inst.imm,.int .i64 x.a,.string ⟨x.name.toArray⟩,.string ⟨x.ver.toArray⟩] 77 (0,0))=wb at *
      generalize wr.heap.size=xb at *
      obtain⟨oa,oc,hof⟩:=HOb.out.own.form
      obtain⟨n,hn⟩:∃ n,n=q.length:=⟨_,rfl⟩
      have Hn:=Lib.hid hn
      rw [← hn]at hof HSn h8
      subst hof
      have hn2:n≤1000000:=by omega
      clear hn h8 hllen
      have hLX:wb.heap[lb]? =some (.cells #[.pointer (some ⟨pb,0,none⟩),.slice fa fl fc,.slice va vl vc,.int .i64 y.stubs,.int .i64 y.got,.int .i64 y.plt,.int .i64 0,.int .i64 y.text,.int .i64 y.data,.int .i64 y.tls] 83 (0,0)):=(HOb.out.box HK1.out).trans HX1.out
      have y0:wb.cell? ⟨lb,0,none⟩=some (.pointer (some ⟨pb,0,none⟩)):=by rw [Lib.cell_of_heap hLX];rfl
      have y1:wb.cell? ⟨lb,1,none⟩=some (.slice fa fl fc):=by rw [Lib.cell_of_heap hLX];rfl
      have y2:wb.cell? ⟨lb,2,none⟩=some (.slice va vl vc):=by rw [Lib.cell_of_heap hLX];rfl
      have y3:wb.cell? ⟨lb,3,none⟩=some (.int .i64 y.stubs):=by rw [Lib.cell_of_heap hLX];rfl
      have y4:wb.cell? ⟨lb,4,none⟩=some (.int .i64 y.got):=by rw [Lib.cell_of_heap hLX];rfl
      have y5:wb.cell? ⟨lb,5,none⟩=some (.int .i64 y.plt):=by rw [Lib.cell_of_heap hLX];rfl
      have y6:wb.cell? ⟨lb,6,none⟩=some (.int .i64 0):=by rw [Lib.cell_of_heap hLX];rfl
      have y7:wb.cell? ⟨lb,7,none⟩=some (.int .i64 y.text):=by rw [Lib.cell_of_heap hLX];rfl
      have y8:wb.cell? ⟨lb,8,none⟩=some (.int .i64 y.data):=by rw [Lib.cell_of_heap hLX];rfl
      have y9:wb.cell? ⟨lb,9,none⟩=some (.int .i64 y.tls):=by rw [Lib.cell_of_heap hLX];rfl
      have l0:wb.cell? ⟨xb,0,none⟩=some (.int .i64 x.kind):=cells_row HXb.out 0 _ rfl
      have l1:wb.cell? ⟨xb,1,none⟩=some (.int .i64 x.inst.op):=cells_row HXb.out 1 _ rfl
      have l2:wb.cell? ⟨xb,2,none⟩=some (.int .i64 x.inst.a):=cells_row HXb.out 2 _ rfl
      have l3:wb.cell? ⟨xb,3,none⟩=some (.int .i64 x.inst.b):=cells_row HXb.out 3 _ rfl
      have l4:wb.cell? ⟨xb,4,none⟩=some (.int .i64 x.inst.c):=cells_row HXb.out 4 _ rfl
      have l5:wb.cell? ⟨xb,5,none⟩=some (.int .i64 x.inst.imm):=cells_row HXb.out 5 _ rfl
      have l6:wb.cell? ⟨xb,6,none⟩=some (.int .i64 x.a):=cells_row HXb.out 6 _ rfl
      have l7:wb.cell? ⟨xb,7,none⟩=some (.string ⟨x.name.toArray⟩):=cells_row HXb.out 7 _ rfl
      have l8:wb.cell? ⟨xb,8,none⟩=some (.string ⟨x.ver.toArray⟩):=cells_row HXb.out 8 _ rfl
      have hzB:w1.heap.size≤wb.heap.size:=HOb.out.size
      have HSpb:=Lib.hid (HSp1.out.keeps (.of_below (HOb.out.low HM1.out (by omega))))
      obtain⟨v5,hM5,hs5,hk5⟩:=HOb.out.ex
      have Hs5:=Lib.hid hs5
      have Hk5:=Lib.hid hk5
      have HOo:=Lib.hid HOb.out.own
      have HCall:=Lib.hid (lower_any fa fl fc va vl vc rfl rfl yl ⟨Hyl.out.1,Hyl.out.2.1⟩ x ((n:Int)*8) hM5 HSpb.out (by omega) Hxo.out HLin.out Hsz.out hy hy2 ⟨by omega,by omega⟩)
      clear hM5 hs5 hk5 hLX
      go_wp2_with fail
      refine HCall.out.mono ?_
      rintro e w6 ⟨v6,r,rfl,hM6,hs6,hr6⟩
      have HO6:=Lib.hid (OutP.next flat_inst Hs5.out Hk5.out HOo.out hM6 hs6)
      have hr6n:=hr6.max
      obtain⟨rra,rrc,hrf⟩:=hr6.form
      rw [hrf]at hr6 ⊢
      have Hr6:=Lib.hid hr6
      obtain⟨ins,hins⟩:∃ ins,ins=(lowerL s.weak yl x ((n:Int)*8) p).2:=⟨_,rfl⟩
      have Hi3:Hid (ins.length≤3):=Lib.hid (by
       have:=(lower_same (weak:=s.weak) (y:=yl) (at_:=(n:Int)*8) HLin.out).2
       rw [hins];have:=longL_pos x;omega)
      have HSn2:Hid ((lowersL s.weak yl (ls++f.lines.take (j+1)) (p,[])).2=q++ins):=Lib.hid (by rw [HSn.out,hins,Int.mul_comm])
      rw [← hins]at Hr6 ⊢
      have hn3:=Hi3.out
      have hz6:=hs6.step.size
      clear hM6 hs6 hr6 hrf hins hr6n HCall y0 y1 y2 y3 y4 y5 y6 y7 y8 y9 l0 l1 l2 l3 l4 l5 l6 l7 l8
      have HOw:=Lib.hid (HO6.out.own.reE (E':=fun b=>b<w6.heap.size∧¬ (Value.slice oa n oc).ownBlock=some b) flat_inst (fun g hg h=>h.2 hg))
      go_wp2_with (at_builtin;go_loud (refine wpList_appendsR (v:=.slice oa n oc) (l:=q) row_inst 55 _ 40 Try.underlying55 info_inst rfl rfl (.tmp 28) (.tmp 34) rfl rfl HOw.out (fun b hb=>hb.1) (.slice rra ins.length rrc) ins rfl Hr6.out (by rw [← Hn.out];omega) (by rw [← Hn.out];omega) (by omega) ?_))
      intro o7 w7 hown7 hst7 hnew7
      have HO7:=Lib.hid (HO6.out.append flat_inst hown7 hst7 hnew7)
      obtain⟨oa7,oc7,hof7⟩:=hown7.form
      rw [hof7]at HO7 ⊢
      clear hown7 hst7 hnew7 hof7
      go_wp2
      go_roundw
      case rel=>exact⟨j+1,by go_num,by omega,by rw [HSn2.out];exact HO7.out⟩
      case measure=>simp [intOf];omega
     ·have HE:Hid (OutP 65 kInst B pb sv s own v w1 p wr u3 (lowersL s.weak yl ((s.funcs.take (k+1)).flatMap (·.lines)) (p,[])).2):=Lib.hid (by
       have h:=HO.out
       rw [show f.lines.take j=f.lines from List.take_of_length_le (by have:=Hc.out;omega)]at h
       rw [HNx.out];exact h)
      go_wp2
      go_roundw
      case rel=>exact⟨k+1,by go_num,by omega,HE.out⟩
      case measure=>simp [intOf];omega
   ·have HE:Hid (OutP 65 kInst B pb sv s own v w1 p wr u3 (lowersL s.weak yl s.lines (p,[])).2):=Lib.hid (by
     have h:=HO.out
     rwa [show s.funcs.take k=s.funcs from List.take_of_length_le (by have:=Hfn.out;omega)]at h)
    go_wp2_with fail
    go_meet
    exact HE.out
 case rest=>
 have HO:=Lib.hid hcut
 clear hcut c4
 rename World=>w2
 have hB1:B≤w1.heap.size:=by omega
 have HSame:=Lib.hid (lowers_same (weak:=s.weak) (y:=yl) (p:=p) s.lines [] Hin.out)
 have hllen:=linesLen_bd s.lines
 have h8:=HSame.out.2
 simp only [List.length_nil]at h8
 obtain⟨q,hq⟩:∃ q,q=(lowersL s.weak yl s.lines (p,[])).2:=⟨_,rfl⟩
 rw [← hq]at HO HQ h8
 have hq2:q.length≤6000:=by omega
 clear hq h8 hllen HSame
 have hLX:w2.heap[lb]? =some (.cells #[.pointer (some ⟨pb,0,none⟩),.slice fa fl fc,.slice va vl vc,.int .i64 y.stubs,.int .i64 y.got,.int .i64 y.plt,.int .i64 0,.int .i64 y.text,.int .i64 y.data,.int .i64 y.tls] 83 (0,0)):=(HO.out.box HK1.out).trans HX1.out
 have y0:w2.cell? ⟨lb,0,none⟩=some (.pointer (some ⟨pb,0,none⟩)):=by rw [Lib.cell_of_heap hLX];rfl
 obtain⟨v3,hM3,-,-⟩:=HO.out.ex
 obtain⟨ja,jc,hjf⟩:=hM3.jumps.form
 have c12:=hM3.c12
 rw [hjf,← Hnj.out]at c12
 clear hM3 hLX hjf
 go_wp2_with fail
 clear y0 c12
 go_loopw [3,44] (fun o i wr=>∃ k:Nat,i=.int .i64 k∧k≤nj∧OutP 65 kInst B pb sv s own v w1 p wr o (stubsL y.plt 0 k q)) (fun _ i _=>nj-(intOf i).toNat)
 case atStart=>exact⟨0,rfl,Nat.zero_le _,HO.out⟩
 case round=>
  obtain⟨k,rfl,hk,hO⟩:=hrel
  have HO:=Lib.hid hO
  clear hO
  by_cases hlt:k<nj
  ·have hk2:(k:Int)<(nj:Int):=by omega
   have HSn:=Lib.hid (stubsL_snoc y.plt k 0 q)
   have hsl:=(stubs_at y.plt k 0 q).1
   obtain⟨ss,hss⟩:∃ ss,ss=stubsL y.plt 0 k q:=⟨_,rfl⟩
   rw [← hss]at HO HSn hsl
   obtain⟨oa,oc,hof⟩:=HO.out.own.form
   obtain⟨n,hn⟩:∃ n,n=ss.length:=⟨_,rfl⟩
   have Hn:=Lib.hid hn
   rw [← hn]at hof HSn hsl
   subst hof
   have HSn:Hid (stubsL y.plt 0 (k+1) q=ss++[⟨11,14,0,0,y.plt+8*(k:Int)-(n:Int)*8-8⟩,⟨17,14,0,0,0⟩,⟨22,0,0,0,(k:Int)⟩]):=Lib.hid (by rw [HSn.out,Nat.zero_add,Int.mul_comm 8 (n:Int)])
   have hn2:n≤4000000:=by omega
   clear hss hn hsl
   have hLX:wr.heap[lb]? =some (.cells #[.pointer (some ⟨pb,0,none⟩),.slice fa fl fc,.slice va vl vc,.int .i64 y.stubs,.int .i64 y.got,.int .i64 y.plt,.int .i64 0,.int .i64 y.text,.int .i64 y.data,.int .i64 y.tls] 83 (0,0)):=(HO.out.box HK1.out).trans HX1.out
   have y5:wr.cell? ⟨lb,5,none⟩=some (.int .i64 y.plt):=by rw [Lib.cell_of_heap hLX];rfl
   have hzB:w1.heap.size≤wr.heap.size:=HO.out.size
   have HLb:Hid (LB kInst (fun b=>b=wr.heap.size) (wr.alloc (.cells #[.int .i64 11,.int .i64 14,.int .i64 0,.int .i64 0,.int .i64 (y.plt+8*(k:Int)-(n:Int)*8-8),.int .i64 17,.int .i64 14,.int .i64 0,.int .i64 0,.int .i64 0,.int .i64 22,.int .i64 0,.int .i64 0,.int .i64 0,.int .i64 (k:Int)] 65 (0,0))) (.slice (some ⟨wr.heap.size,0,none⟩) 3 3) [⟨11,14,0,0,y.plt+8*(k:Int)-(n:Int)*8-8⟩,⟨17,14,0,0,0⟩,⟨22,0,0,0,(k:Int)⟩]):=Lib.hid (insts_lb wr [⟨11,14,0,0,y.plt+8*(k:Int)-(n:Int)*8-8⟩,⟨17,14,0,0,0⟩,⟨22,0,0,0,(k:Int)⟩] (by simp) (by intro z hz;simp only [List.mem_cons,List.not_mem_nil,or_false]at hz;rcases hz with rfl | rfl | rfl;exact instOk_mk (by decide) (by decide) (by decide) (by decide) ⟨by omega,by omega⟩;exact instOk_mk (by decide) (by decide) (by decide) (by decide) (by decide);exact instOk_mk (by decide) (by decide) (by decide) (by decide) ⟨by omega,by omega⟩))
   have HOc:=Lib.hid (HO.out.alloc flat_inst (.cells #[.int .i64 11,.int .i64 14,.int .i64 0,.int .i64 0,.int .i64 (y.plt+8*(k:Int)-(n:Int)*8-8),.int .i64 17,.int .i64 14,.int .i64 0,.int .i64 0,.int .i64 0,.int .i64 22,.int .i64 0,.int .i64 0,.int .i64 0,.int .i64 (k:Int)] 65 (0,0)))
   have HOw:=Lib.hid (HOc.out.own.reE (E':=fun b=>b<wr.heap.size+1∧¬ (Value.slice oa n oc).ownBlock=some b) flat_inst (fun g hg h=>h.2 hg))
   have Hzb:Hid ((wr.alloc (.cells #[.int .i64 11,.int .i64 14,.int .i64 0,.int .i64 0,.int .i64 (y.plt+8*(k:Int)-(n:Int)*8-8),.int .i64 17,.int .i64 14,.int .i64 0,.int .i64 0,.int .i64 0,.int .i64 22,.int .i64 0,.int .i64 0,.int .i64 0,.int .i64 (k:Int)] 65 (0,0))).heap.size=wr.heap.size+1):=Lib.hid (by simp)
   have Hw1:Hid (w1.heap.size≤(wr.alloc (.cells #[.int .i64 11,.int .i64 14,.int .i64 0,.int .i64 0,.int .i64 (y.plt+8*(k:Int)-(n:Int)*8-8),.int .i64 17,.int .i64 14,.int .i64 0,.int .i64 0,.int .i64 0,.int .i64 22,.int .i64 0,.int .i64 0,.int .i64 0,.int .i64 (k:Int)] 65 (0,0))).heap.size):=Lib.hid (by rw [Hzb.out];omega)
   clear hLX
   go_wp2_with (at_builtin;go_loud (refine wpList_appendsR (v:=.slice oa n oc) (l:=ss) row_inst 55 _ 40 Try.underlying55 info_inst rfl rfl (.tmp 50) (.tmp 63) rfl rfl HOw.out (fun b hb=>Nat.lt_of_lt_of_eq hb.1 Hzb.out.symm) (.slice (some ⟨wr.heap.size,0,none⟩) 3 3) [⟨11,14,0,0,y.plt+8*(k:Int)-(n:Int)*8-8⟩,⟨17,14,0,0,0⟩,⟨22,0,0,0,(k:Int)⟩] rfl HLb.out (by rw [← Hn.out];simp only [List.length_cons,List.length_nil];omega) (by rw [← Hn.out];simp only [List.length_cons,List.length_nil];omega) Hw1.out ?_))
   intro o7 w7 hown7 hst7 hnew7
   have HO7:=Lib.hid (HOc.out.append flat_inst hown7 (hst7.imp fun b hb=>⟨Nat.lt_of_lt_of_eq hb.1 Hzb.out,hb.2⟩) (fun b hb=>(hnew7 b hb).imp id fun h=>Nat.le_trans (Nat.le_of_eq Hzb.out) h))
   obtain⟨oa7,oc7,hof7⟩:=hown7.form
   rw [hof7]at HO7 ⊢
   clear hown7 hst7 hnew7 hof7 y5
   go_wp2
   go_roundw
   case rel=>exact⟨k+1,by go_num,by omega,by rw [HSn.out];exact HO7.out⟩
   case measure=>simp [intOf];omega
  ·have HE:Hid (OutP 65 kInst B pb sv s own v w1 p wr u3 (instsL s yl p).2):=Lib.hid (by
    have h:=HO.out
    rw [HQ.out,show nj=k by omega];exact h)
   go_wp2
   go_ret
   obtain⟨v9,m1,m2,m3⟩:=HE.out.ex
   exact⟨v9,_,rfl,m1,HS1.out.trans m2,by have h:=HE.out.own;exact(h.mono (by have:=Hws.out;omega)),m3⟩
end Go.Proofs.Ytpomdoliblilfaa
