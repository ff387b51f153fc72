/- Lemmas. -/
import Derived.Test.YtfchpchabdhcgaaGreatDec35
import Derived.Test.YtfchpchabdhcgaaGreatDec32
import Derived.Test.YtfchpchabdhcgaaGreatDec36
import Derived.Test.YtfchpchabdhcgaaGreatDec37
import Derived.Deep.DeepCutAuto
set_option linter.unusedVariables false
set_option linter.unusedSimpArgs false
set_option maxHeartbeats 64000000
set_option maxRecDepth 100000
namespace Go.Proofs.YtfchpchabdhcgaaGreat
open Go.RowKit
theorem zread_any (w:World) (bv:Value) (l:List UInt8) (hl:LB kByte (·<w.heap.size) w bv l) (hw:0<w.heap.size):Calls Tryz.prog 22 #[bv] w (ReadPost w l):=by
 obtain⟨va,vc,rfl⟩:=hl.form
 refine calls_of_wp (c:=zRest Tryz.f22 0) Tryz.func22 (by kernel_rfl) ?_
 refine zthead (w:=w) ⟨by kernel_rfl,rfl,by kernel_rfl,trivial⟩ hl hw ?_
 intro a w5 gb f s hF hC
 refine zt4 hF hC ?_
 clear hF hC
 intro a w5 s name hF hC
 refine zt5 hF hC ?_
 clear hF hC
 intro a w5 s flags hF hC
 refine ztl1 hF hC rfl ?_
 clear hF hC
 intro a w5 f s usegs segs hF hC
 refine ztl2 hF hC rfl ?_
 clear hF hC
 intro a w5 f s uneeded needed hF hC
 refine zt8 hF hC rfl ?_
 clear hF hC
 intro a w5 s urunPath runPath hF hC
 refine ztl3 hF hC rfl ?_
 clear hF hC
 intro a w5 f s usyms syms hF hC
 refine ztl4 hF hC rfl ?_
 clear hF hC
 intro a w5 f s ubuckets buckets hF hC
 refine zt11 hF hC ?_
 clear hF hC
 intro a w5 s shift hF hC
 refine ztl5 hF hC rfl ?_
 clear hF hC
 intro a w5 f s uwords words hF hC
 refine ztl6 hF hC rfl ?_
 clear hF hC
 intro a w5 f s urelocs relocs hF hC
 refine ztl7 hF hC rfl ?_
 clear hF hC
 intro a w5 f s uslots slots hF hC
 refine zt15 hF hC rfl ?_
 clear hF hC
 intro a w5 s uinit init hF hC
 refine zt17 hF hC rfl ?_
 clear hF hC
 intro a w5 s ufini fini hF hC
 refine zt19 hF hC ?_
 clear hF hC
 intro a w5 s tlsSize hF hC
 refine zt20 hF hC rfl ?_
 clear hF hC
 intro a w5 s utls tls hF hC
 exact ztend hF hC
end Go.Proofs.YtfchpchabdhcgaaGreat
namespace Go.Proofs.YtfchpchabdhcgaaGreat
open Go.RowKit
theorem ImgM.move {B rb lb ib:Nat} {w w':World} {v:ImgV} {im:ImgL} (h:ImgM (fun b=>B≤b∧b<w.heap.size) w v im) (hs:Step (fun x=>x<w.heap.size∧x≠rb∧x≠lb∧x≠ib) w w') (h1:rb<B) (h2:lb<B) (h3:ib<B):ImgM (fun b=>B≤b∧b<w'.heap.size) w' v im:=
 (h.keeps (fun b hb=>hs.block b ⟨hb.2,by have:=hb.1;omega,by have:=hb.1;omega,by have:=hb.1;omega⟩)).imp (fun b hb=>⟨hb.1,Nat.lt_of_lt_of_le hb.2 hs.size⟩)
theorem idecode_any (w:World) (bv:Value) (l:List UInt8) (hl:LB kByte (·<w.heap.size) w bv l) (hlen:l.length≤140737488355328) (hw:0<w.heap.size):
  Calls Tryz.prog 6 #[bv] w fun e w'=>∃ v,e=.returned (.tuple #[.agg (imgCells v (decL l).1),.int .i64 (decL l).2])∧Below w.heap.size w w'∧ImgM (fun b=>w.heap.size≤b∧b<w'.heap.size) w' v (decL l).1:=by
 obtain⟨va,vc,rfl⟩:=hl.form
 refine calls_of_wp (c:=dRest Tryz.f6 0) Tryz.func6 (by kernel_rfl) ?_
 refine dhead (w:=w) (va:=va) (vc:=vc) (l:=l) ⟨by kernel_rfl,rfl,by kernel_rfl,trivial⟩ hl hlen hw ?_
 intro a w4 lb rb gb x0 st0 st1 o hF hL4 hG0 ho hst hB4 hZ4 hzr hzl
 have hP:∀ (x:List PanicEntry) (a a':Act) (w0:World),a'.defers=a.defers→bodyPost Tryz.prog Tryz.f6 (fun e w'=>∃ v,e=.returned (.tuple #[.agg (imgCells v (decL l).1),.int .i64 (decL l).2])∧Below w.heap.size w w'∧ImgM (fun b=>w.heap.size≤b∧b<w'.heap.size) w' v (decL l).1) (.panic x) a w0→bodyPost Tryz.prog Tryz.f6 (fun e w'=>∃ v,e=.returned (.tuple #[.agg (imgCells v (decL l).1),.int .i64 (decL l).2])∧Below w.heap.size w w'∧ImgM (fun b=>w.heap.size≤b∧b<w'.heap.size) w' v (decL l).1) (.panic x) a' w0:=fun _ _ _ _ e h=>⟨e.trans h.1,h.2⟩
 have hne:=hL4.ne
 have hng:=hL4.ng
 have hlt4:=hL4.lt
 have hrt4:=hL4.rblt
 have hgt4:=hL4.gblt
 have e3:dRest Tryz.f6 3=.seq (dCode Tryz.f6 3) (dRest Tryz.f6 4):=d_seq _ 3 (by kernel_rfl)
 rw [e3]
 refine wp_seq (dreg0 ?_ (z:=w.heap.size) hF hL4 hne hng ?_)
 ·exact fun x a a' w e h=>hP x a a' w e h
 intro a w5 ib name flags s0 st hF hG1 hK1 hG2 hK2 hL hX hT hib
 show Code.wp _ (dRest Tryz.f6 4) _ a w5
 have hib5:ib<w5.heap.size:=by
  rcases Nat.lt_or_ge ib w5.heap.size with h | h
  ·exact h
  ·rw [Array.getElem?_eq_none h]at hX;cases hX
 have hz45:=hT.size
 have hir:ib≠rb:=by omega
 have hil:ib≠lb:=by omega
 have hig:ib≠gb:=by omega
 have hZ:w5.heap[w.heap.size]? =_:=(hT.block w.heap.size ⟨by have:=hB4.size;omega,by omega⟩).trans hZ4
 have hB:Below w.heap.size w w5:=((Step.of_below hB4).trans (hT.imp (fun x hx=>⟨by have:=hB4.size;omega,by omega⟩))).below
 obtain⟨B,hBB⟩:∃ B,B=w5.heap.size:=⟨_,rfl⟩
 have hrB:rb<B:=by omega
 have hlB:lb<B:=by omega
 have hiB:ib<B:=by omega
 have hwB:w.heap.size<B:=by omega
 have hBle:B≤w5.heap.size:=by omega
 have hzi:w.heap.size<ib:=by omega
 have hM:ImgM (fun b=>B≤b∧b<w5.heap.size) w5 ⟨.slice none 0 0,.slice none 0 0,.slice none 0 0,.slice none 0 0,.slice none 0 0,.slice none 0 0,.slice none 0 0,.slice none 0 0,.slice none 0 0,.slice none 0 0,.slice none 0 0⟩ ⟨name,flags,[],[],[],[],[],[],0,[],[],[],[],[],0⟩:=
  {imgM_empty _ _ with name:=Nat.le_trans hK1 (by decide),flags:=okN_int64 hK2 }
 have hX:w5.heap[ib]? =some (imgBlock name flags ⟨.slice none 0 0,.slice none 0 0,.slice none 0 0,.slice none 0 0,.slice none 0 0,.slice none 0 0,.slice none 0 0,.slice none 0 0,.slice none 0 0,.slice none 0 0,.slice none 0 0⟩ 0 0):=hX
 clear hT hZ4 hB4 hL4 hBB hlt4 hrt4 hgt4 hz45 e3
 have e0:dRest Tryz.f6 4=.seq (dCode Tryz.f6 4) (dRest Tryz.f6 5):=d_seq _ 4 (by kernel_rfl)
 rw [e0]
 clear e0
 refine wp_seq (dloop1 ?_ (z:=w.heap.size) hF hL hX hir hil hig hne hng hib5 ?_)
 ·exact fun x a a' w e h=>hP x a a' w e h
 intro a w6 m4 segs u1 u2 vsegs hF hGnsegs hmsegs hc hGsegs hK hL6 hX6 hT hPl
 show Code.wp _ (dRest Tryz.f6 5) _ a w6
 have hZ6:w6.heap[w.heap.size]? =_:=(hT.block w.heap.size ⟨by omega,by omega,by omega,by omega⟩).trans hZ
 have hB6:Below w.heap.size w w6:=((Step.of_below hB).trans (hT.imp (fun x hx=>⟨by omega,by omega,by omega,by omega⟩))).below
 have hz6:=hT.size
 have hM6:=hM.move hT hrB hlB hiB
 have hM7:ImgM (fun b=>B≤b∧b<w6.heap.size) w6 ⟨vsegs,.slice none 0 0,.slice none 0 0,.slice none 0 0,.slice none 0 0,.slice none 0 0,.slice none 0 0,.slice none 0 0,.slice none 0 0,.slice none 0 0,.slice none 0 0⟩ ⟨name,flags,segs,[],[],[],[],[],0,[],[],[],[],[],0⟩:=
  {
   hM6 with
   segs:=hPl.imp (fun b hb=>⟨by have:=hb.1;omega,hb.2⟩)
   segsR:=fun s hs=>⟨okN_int64 (hK s hs).1,okN_int64 (hK s hs).2.1,okN_int64 (hK s hs).2.2.1⟩}
 clear hPl hK hc hmsegs
 clear hM hM6 hT hZ hB hX hL
 replace hib5:ib<w6.heap.size:=by omega
 replace hBle:B≤w6.heap.size:=by omega
 clear hz6
 have hM:=hM7
 have hZ:=hZ6
 have hB:=hB6
 have hX:=hX6
 have hL:=hL6
 clear hM7 hZ6 hB6 hX6 hL6
 obtain⟨w5,hw5⟩:∃ x:World,x=w6:=⟨_,rfl⟩
 subst hw5
 have e0:dRest Tryz.f6 5=.seq (dCode Tryz.f6 5) (dRest Tryz.f6 6):=d_seq _ 5 (by kernel_rfl)
 rw [e0]
 clear e0
 refine wp_seq (dloop2 ?_ (z:=w.heap.size) hF hL hX hir hil hig hne hng hib5 ?_)
 ·exact fun x a a' w e h=>hP x a a' w e h
 intro a w6 m5 needs u1 u2 vneeds hF hGnneeds hmneeds hc hGneeds hK hL6 hX6 hT hPl
 show Code.wp _ (dRest Tryz.f6 6) _ a w6
 have hZ6:w6.heap[w.heap.size]? =_:=(hT.block w.heap.size ⟨by omega,by omega,by omega,by omega⟩).trans hZ
 have hB6:Below w.heap.size w w6:=((Step.of_below hB).trans (hT.imp (fun x hx=>⟨by omega,by omega,by omega,by omega⟩))).below
 have hz6:=hT.size
 have hM6:=hM.move hT hrB hlB hiB
 have hM7:ImgM (fun b=>B≤b∧b<w6.heap.size) w6 ⟨vsegs,vneeds,.slice none 0 0,.slice none 0 0,.slice none 0 0,.slice none 0 0,.slice none 0 0,.slice none 0 0,.slice none 0 0,.slice none 0 0,.slice none 0 0⟩ ⟨name,flags,segs,needs,[],[],[],[],0,[],[],[],[],[],0⟩:=
  {
   hM6 with
   needed:=hPl.imp (fun b hb=>⟨by have:=hb.1;omega,hb.2⟩)}
 clear hPl hK hc hmneeds
 clear hM hM6 hT hZ hB hX hL
 replace hib5:ib<w6.heap.size:=by omega
 replace hBle:B≤w6.heap.size:=by omega
 clear hz6
 have hM:=hM7
 have hZ:=hZ6
 have hB:=hB6
 have hX:=hX6
 have hL:=hL6
 clear hM7 hZ6 hB6 hX6 hL6
 obtain⟨w5,hw5⟩:∃ x:World,x=w6:=⟨_,rfl⟩
 subst hw5
 have e0:dRest Tryz.f6 6=.seq (dCode Tryz.f6 6) (dRest Tryz.f6 7):=d_seq _ 6 (by kernel_rfl)
 rw [e0]
 clear e0
 refine wp_seq (dlist6 ?_ (z:=w.heap.size) hF hL hX hir hil hig hne hng hib5 ?_)
 ·exact fun x a a' w e h=>hP x a a' w e h
 intro a w6 m6 runPath u1 u2 vrunPath hF hGnrunPath hmrunPath hc hGrunPath hK hL6 hX6 hT hPl
 show Code.wp _ (dRest Tryz.f6 7) _ a w6
 have hZ6:w6.heap[w.heap.size]? =_:=(hT.block w.heap.size ⟨by omega,by omega,by omega,by omega⟩).trans hZ
 have hB6:Below w.heap.size w w6:=((Step.of_below hB).trans (hT.imp (fun x hx=>⟨by omega,by omega,by omega,by omega⟩))).below
 have hz6:=hT.size
 have hM6:=hM.move hT hrB hlB hiB
 have hM7:ImgM (fun b=>B≤b∧b<w6.heap.size) w6 ⟨vsegs,vneeds,vrunPath,.slice none 0 0,.slice none 0 0,.slice none 0 0,.slice none 0 0,.slice none 0 0,.slice none 0 0,.slice none 0 0,.slice none 0 0⟩ ⟨name,flags,segs,needs,runPath,[],[],[],0,[],[],[],[],[],0⟩:=
  {
   hM6 with
   runPath:=hPl.imp (fun b hb=>⟨by have:=hb.1;omega,hb.2⟩)}
 clear hPl hK hc hmrunPath
 clear hM hM6 hT hZ hB hX hL
 replace hib5:ib<w6.heap.size:=by omega
 replace hBle:B≤w6.heap.size:=by omega
 clear hz6
 have hM:=hM7
 have hZ:=hZ6
 have hB:=hB6
 have hX:=hX6
 have hL:=hL6
 clear hM7 hZ6 hB6 hX6 hL6
 obtain⟨w5,hw5⟩:∃ x:World,x=w6:=⟨_,rfl⟩
 subst hw5
 have e0:dRest Tryz.f6 7=.seq (dCode Tryz.f6 7) (dRest Tryz.f6 8):=d_seq _ 7 (by kernel_rfl)
 rw [e0]
 clear e0
 refine wp_seq (dloop3 ?_ (z:=w.heap.size) hF hL hX hir hil hig hne hng hib5 ?_)
 ·exact fun x a a' w e h=>hP x a a' w e h
 intro a w6 m7 syms u1 u2 vsyms hF hGnsyms hmsyms hc hGsyms hK hL6 hX6 hT hPl
 show Code.wp _ (dRest Tryz.f6 8) _ a w6
 have hZ6:w6.heap[w.heap.size]? =_:=(hT.block w.heap.size ⟨by omega,by omega,by omega,by omega⟩).trans hZ
 have hB6:Below w.heap.size w w6:=((Step.of_below hB).trans (hT.imp (fun x hx=>⟨by omega,by omega,by omega,by omega⟩))).below
 have hz6:=hT.size
 have hM6:=hM.move hT hrB hlB hiB
 have hM7:ImgM (fun b=>B≤b∧b<w6.heap.size) w6 ⟨vsegs,vneeds,vrunPath,vsyms,.slice none 0 0,.slice none 0 0,.slice none 0 0,.slice none 0 0,.slice none 0 0,.slice none 0 0,.slice none 0 0⟩ ⟨name,flags,segs,needs,runPath,syms,[],[],0,[],[],[],[],[],0⟩:=
  {
   hM6 with
   syms:=hPl.imp (fun b hb=>⟨by have:=hb.1;omega,hb.2⟩)}
 clear hPl hK hc hmsyms
 clear hM hM6 hT hZ hB hX hL
 replace hib5:ib<w6.heap.size:=by omega
 replace hBle:B≤w6.heap.size:=by omega
 clear hz6
 have hM:=hM7
 have hZ:=hZ6
 have hB:=hB6
 have hX:=hX6
 have hL:=hL6
 clear hM7 hZ6 hB6 hX6 hL6
 obtain⟨w5,hw5⟩:∃ x:World,x=w6:=⟨_,rfl⟩
 subst hw5
 have e0:dRest Tryz.f6 8=.seq (dCode Tryz.f6 8) (dRest Tryz.f6 9):=d_seq _ 8 (by kernel_rfl)
 rw [e0]
 clear e0
 refine wp_seq (dloop4 ?_ (z:=w.heap.size) hF hL hX hir hil hig hne hng hib5 ?_)
 ·exact fun x a a' w e h=>hP x a a' w e h
 intro a w6 m8 buckets u1 u2 vbuckets hF hGnbuckets hmbuckets hc hGbuckets hK hL6 hX6 hT hPl
 show Code.wp _ (dRest Tryz.f6 9) _ a w6
 have hZ6:w6.heap[w.heap.size]? =_:=(hT.block w.heap.size ⟨by omega,by omega,by omega,by omega⟩).trans hZ
 have hB6:Below w.heap.size w w6:=((Step.of_below hB).trans (hT.imp (fun x hx=>⟨by omega,by omega,by omega,by omega⟩))).below
 have hz6:=hT.size
 have hM6:=hM.move hT hrB hlB hiB
 have hM7:ImgM (fun b=>B≤b∧b<w6.heap.size) w6 ⟨vsegs,vneeds,vrunPath,vsyms,vbuckets,.slice none 0 0,.slice none 0 0,.slice none 0 0,.slice none 0 0,.slice none 0 0,.slice none 0 0⟩ ⟨name,flags,segs,needs,runPath,syms,buckets,[],0,[],[],[],[],[],0⟩:=
  {
   hM6 with
   buckets:=hPl.imp (fun b hb=>⟨by have:=hb.1;omega,hb.2⟩)
   bucketsL:=fun c hc=>by
    have h:c.length<65536:=(hK c hc).1
    omega }
 clear hPl hK hc hmbuckets
 clear hM hM6 hT hZ hB hX hL
 replace hib5:ib<w6.heap.size:=by omega
 replace hBle:B≤w6.heap.size:=by omega
 clear hz6
 have hM:=hM7
 have hZ:=hZ6
 have hB:=hB6
 have hX:=hX6
 have hL:=hL6
 clear hM7 hZ6 hB6 hX6 hL6
 obtain⟨w5,hw5⟩:∃ x:World,x=w6:=⟨_,rfl⟩
 subst hw5
 have e0:dRest Tryz.f6 9=.seq (dCode Tryz.f6 9) (dRest Tryz.f6 10):=d_seq _ 9 (by kernel_rfl)
 rw [e0]
 clear e0
 refine wp_seq (dshift ?_ (z:=w.heap.size) hF hL hX hir hil hig hne hng hib5 ?_)
 ·exact fun x a a' w e h=>hP x a a' w e h
 intro a w6 shift u2 hF hGshift hKshift hL6 hX6 hT
 show Code.wp _ (dRest Tryz.f6 10) _ a w6
 have hZ6:w6.heap[w.heap.size]? =_:=(hT.block w.heap.size ⟨by omega,by omega,by omega,by omega⟩).trans hZ
 have hB6:Below w.heap.size w w6:=((Step.of_below hB).trans (hT.imp (fun x hx=>⟨by omega,by omega,by omega,by omega⟩))).below
 have hz6:=hT.size
 have hM6:=hM.move hT hrB hlB hiB
 have hM7:ImgM (fun b=>B≤b∧b<w6.heap.size) w6 ⟨vsegs,vneeds,vrunPath,vsyms,vbuckets,.slice none 0 0,.slice none 0 0,.slice none 0 0,.slice none 0 0,.slice none 0 0,.slice none 0 0⟩ ⟨name,flags,segs,needs,runPath,syms,buckets,[],shift,[],[],[],[],[],0⟩:={hM6 with shift:=okN_int64 hKshift }
 clear hM hM6 hT hZ hB hX hL
 replace hib5:ib<w6.heap.size:=by omega
 replace hBle:B≤w6.heap.size:=by omega
 clear hz6
 have hM:=hM7
 have hZ:=hZ6
 have hB:=hB6
 have hX:=hX6
 have hL:=hL6
 clear hM7 hZ6 hB6 hX6 hL6
 obtain⟨w5,hw5⟩:∃ x:World,x=w6:=⟨_,rfl⟩
 subst hw5
 have e0:dRest Tryz.f6 10=.seq (dCode Tryz.f6 10) (dRest Tryz.f6 11):=d_seq _ 10 (by kernel_rfl)
 rw [e0]
 clear e0
 refine wp_seq (dloop5 ?_ (z:=w.heap.size) hF hL hX hir hil hig hne hng hib5 ?_)
 ·exact fun x a a' w e h=>hP x a a' w e h
 intro a w6 m10 words u1 u2 vwords hF hGnwords hmwords hc hGwords hK hL6 hX6 hT hPl
 show Code.wp _ (dRest Tryz.f6 11) _ a w6
 have hZ6:w6.heap[w.heap.size]? =_:=(hT.block w.heap.size ⟨by omega,by omega,by omega,by omega⟩).trans hZ
 have hB6:Below w.heap.size w w6:=((Step.of_below hB).trans (hT.imp (fun x hx=>⟨by omega,by omega,by omega,by omega⟩))).below
 have hz6:=hT.size
 have hM6:=hM.move hT hrB hlB hiB
 have hM7:ImgM (fun b=>B≤b∧b<w6.heap.size) w6 ⟨vsegs,vneeds,vrunPath,vsyms,vbuckets,vwords,.slice none 0 0,.slice none 0 0,.slice none 0 0,.slice none 0 0,.slice none 0 0⟩ ⟨name,flags,segs,needs,runPath,syms,buckets,words,shift,[],[],[],[],[],0⟩:=
  {
   hM6 with
   words:=hPl.imp (fun b hb=>⟨by have:=hb.1;omega,hb.2⟩)
   wordsR:=hK }
 clear hPl hK hc hmwords
 clear hM hM6 hT hZ hB hX hL
 replace hib5:ib<w6.heap.size:=by omega
 replace hBle:B≤w6.heap.size:=by omega
 clear hz6
 have hM:=hM7
 have hZ:=hZ6
 have hB:=hB6
 have hX:=hX6
 have hL:=hL6
 clear hM7 hZ6 hB6 hX6 hL6
 obtain⟨w5,hw5⟩:∃ x:World,x=w6:=⟨_,rfl⟩
 subst hw5
 have e0:dRest Tryz.f6 11=.seq (dCode Tryz.f6 11) (dRest Tryz.f6 12):=d_seq _ 11 (by kernel_rfl)
 rw [e0]
 clear e0
 refine wp_seq (dloop6 ?_ (z:=w.heap.size) hF hL hX hir hil hig hne hng hib5 ?_)
 ·exact fun x a a' w e h=>hP x a a' w e h
 intro a w6 m11 relocs u1 u2 vrelocs hF hGnrelocs hmrelocs hc hGrelocs hK hL6 hX6 hT hPl
 show Code.wp _ (dRest Tryz.f6 12) _ a w6
 have hZ6:w6.heap[w.heap.size]? =_:=(hT.block w.heap.size ⟨by omega,by omega,by omega,by omega⟩).trans hZ
 have hB6:Below w.heap.size w w6:=((Step.of_below hB).trans (hT.imp (fun x hx=>⟨by omega,by omega,by omega,by omega⟩))).below
 have hz6:=hT.size
 have hM6:=hM.move hT hrB hlB hiB
 have hM7:ImgM (fun b=>B≤b∧b<w6.heap.size) w6 ⟨vsegs,vneeds,vrunPath,vsyms,vbuckets,vwords,vrelocs,.slice none 0 0,.slice none 0 0,.slice none 0 0,.slice none 0 0⟩ ⟨name,flags,segs,needs,runPath,syms,buckets,words,shift,relocs,[],[],[],[],0⟩:=
  {
   hM6 with
   relocs:=hPl.imp (fun b hb=>⟨by have:=hb.1;omega,hb.2⟩)
   relocsR:=fun r hr=>⟨okN_int64 (hK r hr).2.2.1,okN_int64 (hK r hr).2.1,okN_int64 (hK r hr).2.2.2⟩}
 clear hPl hK hc hmrelocs
 clear hM hM6 hT hZ hB hX hL
 replace hib5:ib<w6.heap.size:=by omega
 replace hBle:B≤w6.heap.size:=by omega
 clear hz6
 have hM:=hM7
 have hZ:=hZ6
 have hB:=hB6
 have hX:=hX6
 have hL:=hL6
 clear hM7 hZ6 hB6 hX6 hL6
 obtain⟨w5,hw5⟩:∃ x:World,x=w6:=⟨_,rfl⟩
 subst hw5
 have e0:dRest Tryz.f6 12=.seq (dCode Tryz.f6 12) (dRest Tryz.f6 13):=d_seq _ 12 (by kernel_rfl)
 rw [e0]
 clear e0
 refine wp_seq (dloop7 ?_ (z:=w.heap.size) hF hL hX hir hil hig hne hng hib5 ?_)
 ·exact fun x a a' w e h=>hP x a a' w e h
 intro a w6 m12 slots u1 u2 vslots hF hGnslots hmslots hc hGslots hK hL6 hX6 hT hPl
 show Code.wp _ (dRest Tryz.f6 13) _ a w6
 have hZ6:w6.heap[w.heap.size]? =_:=(hT.block w.heap.size ⟨by omega,by omega,by omega,by omega⟩).trans hZ
 have hB6:Below w.heap.size w w6:=((Step.of_below hB).trans (hT.imp (fun x hx=>⟨by omega,by omega,by omega,by omega⟩))).below
 have hz6:=hT.size
 have hM6:=hM.move hT hrB hlB hiB
 have hM7:ImgM (fun b=>B≤b∧b<w6.heap.size) w6 ⟨vsegs,vneeds,vrunPath,vsyms,vbuckets,vwords,vrelocs,vslots,.slice none 0 0,.slice none 0 0,.slice none 0 0⟩ ⟨name,flags,segs,needs,runPath,syms,buckets,words,shift,relocs,slots,[],[],[],0⟩:=
  {
   hM6 with
   slots:=hPl.imp (fun b hb=>⟨by have:=hb.1;omega,hb.2⟩)
   slotsR:=fun r hr=>⟨okN_int64 (hK r hr).2.1,okN_int64 (hK r hr).1,okN_int64 (hK r hr).2.2⟩}
 clear hPl hK hc hmslots
 clear hM hM6 hT hZ hB hX hL
 replace hib5:ib<w6.heap.size:=by omega
 replace hBle:B≤w6.heap.size:=by omega
 clear hz6
 have hM:=hM7
 have hZ:=hZ6
 have hB:=hB6
 have hX:=hX6
 have hL:=hL6
 clear hM7 hZ6 hB6 hX6 hL6
 obtain⟨w5,hw5⟩:∃ x:World,x=w6:=⟨_,rfl⟩
 subst hw5
 have e0:dRest Tryz.f6 13=.seq (dCode Tryz.f6 13) (dRest Tryz.f6 14):=d_seq _ 13 (by kernel_rfl)
 rw [e0]
 clear e0
 refine wp_seq (dlist13 ?_ (z:=w.heap.size) hF hL hX hir hil hig hne hng hib5 ?_)
 ·exact fun x a a' w e h=>hP x a a' w e h
 intro a w6 m13 init u1 u2 vinit hF hGninit hminit hc hGinit hK hL6 hX6 hT hPl
 show Code.wp _ (dRest Tryz.f6 14) _ a w6
 have hZ6:w6.heap[w.heap.size]? =_:=(hT.block w.heap.size ⟨by omega,by omega,by omega,by omega⟩).trans hZ
 have hB6:Below w.heap.size w w6:=((Step.of_below hB).trans (hT.imp (fun x hx=>⟨by omega,by omega,by omega,by omega⟩))).below
 have hz6:=hT.size
 have hM6:=hM.move hT hrB hlB hiB
 have hM7:ImgM (fun b=>B≤b∧b<w6.heap.size) w6 ⟨vsegs,vneeds,vrunPath,vsyms,vbuckets,vwords,vrelocs,vslots,vinit,.slice none 0 0,.slice none 0 0⟩ ⟨name,flags,segs,needs,runPath,syms,buckets,words,shift,relocs,slots,init,[],[],0⟩:=
  {
   hM6 with
   init:=hPl.imp (fun b hb=>⟨by have:=hb.1;omega,hb.2⟩)
   initR:=fun x hx=>okN_int64 (hK x hx)}
 clear hPl hK hc hminit
 clear hM hM6 hT hZ hB hX hL
 replace hib5:ib<w6.heap.size:=by omega
 replace hBle:B≤w6.heap.size:=by omega
 clear hz6
 have hM:=hM7
 have hZ:=hZ6
 have hB:=hB6
 have hX:=hX6
 have hL:=hL6
 clear hM7 hZ6 hB6 hX6 hL6
 obtain⟨w5,hw5⟩:∃ x:World,x=w6:=⟨_,rfl⟩
 subst hw5
 have e0:dRest Tryz.f6 14=.seq (dCode Tryz.f6 14) (dRest Tryz.f6 15):=d_seq _ 14 (by kernel_rfl)
 rw [e0]
 clear e0
 refine wp_seq (dlist14 ?_ (z:=w.heap.size) hF hL hX hir hil hig hne hng hib5 ?_)
 ·exact fun x a a' w e h=>hP x a a' w e h
 intro a w6 m14 fini u1 u2 vfini hF hGnfini hmfini hc hGfini hK hL6 hX6 hT hPl
 show Code.wp _ (dRest Tryz.f6 15) _ a w6
 have hZ6:w6.heap[w.heap.size]? =_:=(hT.block w.heap.size ⟨by omega,by omega,by omega,by omega⟩).trans hZ
 have hB6:Below w.heap.size w w6:=((Step.of_below hB).trans (hT.imp (fun x hx=>⟨by omega,by omega,by omega,by omega⟩))).below
 have hz6:=hT.size
 have hM6:=hM.move hT hrB hlB hiB
 have hM7:ImgM (fun b=>B≤b∧b<w6.heap.size) w6 ⟨vsegs,vneeds,vrunPath,vsyms,vbuckets,vwords,vrelocs,vslots,vinit,vfini,.slice none 0 0⟩ ⟨name,flags,segs,needs,runPath,syms,buckets,words,shift,relocs,slots,init,fini,[],0⟩:=
  {
   hM6 with
   fini:=hPl.imp (fun b hb=>⟨by have:=hb.1;omega,hb.2⟩)
   finiR:=fun x hx=>okN_int64 (hK x hx)}
 clear hPl hK hc hmfini
 clear hM hM6 hT hZ hB hX hL
 replace hib5:ib<w6.heap.size:=by omega
 replace hBle:B≤w6.heap.size:=by omega
 clear hz6
 have hM:=hM7
 have hZ:=hZ6
 have hB:=hB6
 have hX:=hX6
 have hL:=hL6
 clear hM7 hZ6 hB6 hX6 hL6
 obtain⟨w5,hw5⟩:∃ x:World,x=w6:=⟨_,rfl⟩
 subst hw5
 exact dend hF hL hX hir hil hig hne hng hib5 hwB hlB hrB hiB hBle (by omega) (by omega) (by omega) (by omega) hZ hB hM (fun x st' h=>got_img hG0 ho hst (hG1.bind (hG2.bind (hGnsegs.bind (hGsegs.bind (hGnneeds.bind (hGneeds.bind (hGnrunPath.bind (hGrunPath.bind (hGnsyms.bind (hGsyms.bind (hGnbuckets.bind (hGbuckets.bind (hGshift.bind (hGnwords.bind (hGwords.bind (hGnrelocs.bind (hGrelocs.bind (hGnslots.bind (hGslots.bind (hGninit.bind (hGinit.bind (hGnfini.bind (hGfini.bind h))))))))))))))))))))))))
end Go.Proofs.YtfchpchabdhcgaaGreat
namespace Go.Proofs.YtfchpchabdhcgaaGreat
open Go.RowKit
theorem dec_says:DecSays:=fun w bv l hl hlen hw=>(idecode_any w bv l hl hlen hw).mono fun e w' ⟨v,he,hb,hm⟩=>by
 refine⟨v,_,_,he,hb,hm,fun h=>by unfold decL;rw [h],fun x hx h0=>by unfold decL;rw [hx];show(if mayL x=0 then _ else _:ImgL × Int).1=_∧(if mayL x=0 then _ else _:ImgL × Int).2=_;rw [if_pos h0];exact⟨rfl,rfl⟩,fun h=> ?_⟩
 unfold decL at h
 cases hw:wholeP l with
 | none=>rw [hw]at h;cases h
 | some x=>
  rw [hw]at h
  by_cases h0:mayL x=0
  ·exact⟨x,rfl,h0⟩
  ·have h:(if mayL x=0 then (x,0) else (emptyL,mayL x):ImgL × Int).2=0:=h
   rw [if_neg h0]at h
   exact absurd h h0
end Go.Proofs.YtfchpchabdhcgaaGreat
