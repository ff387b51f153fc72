/- Lemmas. -/
import Derived.Test.YtfchpchabdhcgaaGreatDec33
import Derived.Deep.RegionHeld
set_option linter.unusedVariables false
set_option linter.unusedSimpArgs false
set_option maxHeartbeats 64000000
set_option maxRecDepth 100000
namespace Go.Proofs.YtfchpchabdhcgaaGreat
open Go.RowKit
def runsF (im:ImgL) (k:Nat):List UInt8:=((([im.init,im.fini]:List (List Int)).take k).map fun l=>digitsL 1 l.length++numsL 4 l).flatten
theorem runsF_len (im:ImgL) (q:Nat) (h:OkImg im):(runsF im q).length≤2050:=by
 have h1:im.init.length<256:=h.init.1
 have h2:im.fini.length<256:=h.fini.1
 match q with
 | 0=>simp [runsF]
 | 1=>simp [runsF,digitsL_len,numsL_len];omega
 | q+2=>simp [runsF,digitsL_len,numsL_len];omega
theorem okN_one (b:Bool):okN 1 (oneL b):=by cases b<;>simp [okN,oneL]
theorem wrap64_eq (x:Int):wrap64 x=IntKind.i64.wrap x:=by rw [IntKind.wrap_i64];unfold wrap64;rfl
theorem digitsL_wrap64 (x:Int):digitsL 8 (wrap64 x)=digitsL 8 x:=by rw [wrap64_eq];exact digitsL_wrap x
theorem okN_wrap (x:Int):okN 8 (wrap64 x):=by unfold okN;rw [if_pos rfl,wrap64_eq,IntKind.wrap_i64];omega
theorem iencode_any (w:World) (v:ImgV) (im:ImgL) (hm:ImgM (·<w.heap.size) w v im):
  Calls Tryz.prog 12 #[.agg (imgCells v im)] w fun e w'=>∃ r,e=.returned (.tuple #[r,.int .i64 (mayL im)])∧Below w.heap.size w w'∧(mayL im≠0→r=.slice none 0 0)∧(mayL im=0→OwnK 5 kByte w.heap.size (fun _=>False) w' r (formL im)):=by
 obtain⟨a2,c2,hv2⟩:=hm.segs.form
 obtain⟨a3,c3,hv3⟩:=hm.needed.form
 obtain⟨a4,c4,hv4⟩:=hm.runPath.form
 obtain⟨a5,c5,hv5⟩:=hm.syms.form
 obtain⟨a6,c6,hv6⟩:=hm.buckets.form
 obtain⟨a7,c7,hv7⟩:=hm.words.form
 obtain⟨a9,c9,hv9⟩:=hm.relocs.form
 obtain⟨a10,c10,hv10⟩:=hm.slots.form
 obtain⟨a11,c11,hv11⟩:=hm.init.form
 obtain⟨a12,c12,hv12⟩:=hm.fini.form
 obtain⟨a13,c13,hv13⟩:=hm.tls.form
 obtain⟨vsegs,vneeded,vrunPath,vsyms,vbuckets,vwords,vrelocs,vslots,vinit,vfini,vtls⟩:=v
 simp only at hv2 hv3 hv4 hv5 hv6 hv7 hv9 hv10 hv11 hv12 hv13
 subst hv2 hv3 hv4 hv5 hv6 hv7 hv9 hv10 hv11 hv12 hv13
 have Hm:=Lib.hid hm
 have HMay:=Lib.hid (fun w' (hb:Below w.heap.size w w')=>imay_any w' ⟨.slice a2 im.segs.length c2,.slice a3 im.needed.length c3,.slice a4 im.runPath.length c4,.slice a5 im.syms.length c5,.slice a6 im.buckets.length c6,.slice a7 im.words.length c7,.slice a9 im.relocs.length c9,.slice a10 im.slots.length c10,.slice a11 im.init.length c11,.slice a12 im.fini.length c12,.slice a13 im.tls.length c13⟩ im (hm.later hb))
 have hcells:imgCells ⟨.slice a2 im.segs.length c2,.slice a3 im.needed.length c3,.slice a4 im.runPath.length c4,.slice a5 im.syms.length c5,.slice a6 im.buckets.length c6,.slice a7 im.words.length c7,.slice a9 im.relocs.length c9,.slice a10 im.slots.length c10,.slice a11 im.init.length c11,.slice a12 im.fini.length c12,.slice a13 im.tls.length c13⟩ im=#[.string ⟨im.name.toArray⟩,.int .i64 im.flags,.slice a2 im.segs.length c2,.slice a3 im.needed.length c3,.slice a4 im.runPath.length c4,.slice a5 im.syms.length c5,.slice a6 im.buckets.length c6,.slice a7 im.words.length c7,.int .i64 im.shift,.slice a9 im.relocs.length c9,.slice a10 im.slots.length c10,.slice a11 im.init.length c11,.slice a12 im.fini.length c12,.slice a13 im.tls.length c13,.int .i64 im.tlsSize]:=rfl
 rw [hcells]at HMay ⊢
 clear hcells hm
 generalize hI:(Array.mk [.string ⟨im.name.toArray⟩,.int .i64 im.flags,.slice a2 im.segs.length c2,.slice a3 im.needed.length c3,.slice a4 im.runPath.length c4,.slice a5 im.syms.length c5,.slice a6 im.buckets.length c6,.slice a7 im.words.length c7,.int .i64 im.shift,.slice a9 im.relocs.length c9,.slice a10 im.slots.length c10,.slice a11 im.init.length c11,.slice a12 im.fini.length c12,.slice a13 im.tls.length c13,.int .i64 im.tlsSize]:Array Value)=I at HMay
 have F0:=Lib.hid (heap_alloc_new w (.cells I 40 (0,0)))
 have B0:=Lib.hid ((Below.refl w.heap.size w).alloc (Nat.le_refl _) (.cells I 40 (0,0)))
 have hz0:(w.alloc (.cells I 40 (0,0))).heap.size=w.heap.size+1:=by simp
 subst hI
 go_enter Tryz.func12,Tryz.ntmps12
 go_wp2_with fail
 generalize w.alloc (.cells #[.string ⟨im.name.toArray⟩,.int .i64 im.flags,.slice a2 im.segs.length c2,.slice a3 im.needed.length c3,.slice a4 im.runPath.length c4,.slice a5 im.syms.length c5,.slice a6 im.buckets.length c6,.slice a7 im.words.length c7,.int .i64 im.shift,.slice a9 im.relocs.length c9,.slice a10 im.slots.length c10,.slice a11 im.init.length c11,.slice a12 im.fini.length c12,.slice a13 im.tls.length c13,.int .i64 im.tlsSize] 40 (0,0))=w0 at *
 refine(HMay.out w0 B0.out).mono ?_
 rintro e w1 ⟨rfl,hb1⟩
 have hz1:=hb1.size
 have F1:=Lib.hid ((hb1.block w.heap.size (by omega)).trans F0.out)
 have B1:=Lib.hid (B0.out.trans (hb1.mono (by omega)))
 clear hb1 HMay F0 B0
 by_cases hmay:mayL im=0
 case neg=>
  have hbne:(mayL im != 0)=true:=by rw [bne_iff_ne];exact hmay
  have Hne:=Lib.hid hmay
  clear hmay
  go_wp2
  go_ret2
  exact⟨_,rfl,B1.out,fun _=>rfl,fun h=>absurd h Hne.out⟩
 have Hok:=Lib.hid (may_ok hmay Hm.out.wordsR)
 have Hfew:=Lib.hid (may_few hmay)
 have Hm0:=Lib.hid hmay
 have hbne:(mayL im != 0)=false:=by rw [bne_eq_false_iff_eq];exact hmay
 rw [hmay]
 rw [hmay]at hbne
 clear hmay
 go_wp2_with fail
 refine(wnew_any w1).mono ?_
 rintro e w2 ⟨rfl,hw2,hb2,hz2⟩
 have HW2:=Lib.hid hw2
 have F2:=Lib.hid ((hb2.block w.heap.size (by omega)).trans F1.out)
 have B2:=Lib.hid (B1.out.trans (hb2.mono (by omega)))
 have hz2':w1.heap.size<w2.heap.size:=by omega
 clear hw2 hb2 hz2
 generalize w1.heap.size=wb at *
 have HC:Hid (∀ {wi:World},Step (·<wb) w2 wi→∀ k u,#[.string ⟨im.name.toArray⟩,.int .i64 im.flags,.slice a2 im.segs.length c2,.slice a3 im.needed.length c3,.slice a4 im.runPath.length c4,.slice a5 im.syms.length c5,.slice a6 im.buckets.length c6,.slice a7 im.words.length c7,.int .i64 im.shift,.slice a9 im.relocs.length c9,.slice a10 im.slots.length c10,.slice a11 im.init.length c11,.slice a12 im.fini.length c12,.slice a13 im.tls.length c13,.int .i64 im.tlsSize][k]? =some u→wi.cell? ⟨w.heap.size,k,none⟩=some u):=Lib.hid (fun hs k u hu=>by
  rw [hs.cell (p:=⟨w.heap.size,k,none⟩) (show w.heap.size<wb by omega),Lib.cell_of_heap F2.out];exact hu)
 have HI:Hid (∀ {wi:World},Step (·<wb) w2 wi→ImgM (·<w.heap.size) wi ⟨.slice a2 im.segs.length c2,.slice a3 im.needed.length c3,.slice a4 im.runPath.length c4,.slice a5 im.syms.length c5,.slice a6 im.buckets.length c6,.slice a7 im.words.length c7,.slice a9 im.relocs.length c9,.slice a10 im.slots.length c10,.slice a11 im.init.length c11,.slice a12 im.fini.length c12,.slice a13 im.tls.length c13⟩ im):=Lib.hid (fun hs=>Hm.out.keeps (fun b hb=>by
  have hb:b<w.heap.size:=hb
  rw [hs.block b (show b<wb by omega)];exact B2.out.block b hb))
 have HS2:Hid (Step (·<wb) w2 w2):=Lib.hid (Step.refl _ _)
 have hsub:∀ x,x<w.heap.size→x<wb:=fun x hx=>by omega
 have x0:w2.cell? ⟨w.heap.size,0,none⟩=some (.string ⟨im.name.toArray⟩):=HC.out HS2.out 0 _ rfl
 have HN:=Lib.hid (wtext_built wb (·<wb) w2 ([]:List UInt8) [[99,108,101,118,105,115,49],im.name] HW2.out (ts2 (by decide) Hok.out.name) (by simp only [List.length_cons,List.length_nil];omega))
 have hpl:=textsL_len [[99,108,101,118,105,115,49],im.name] (ts2 (by decide) Hok.out.name)
 simp only [List.length_cons,List.length_nil]at hpl
 go_wp2_with fail
 refine HN.out.mono ?_
 rintro e w3 ⟨rfl,hw,hs⟩
 have HS3:=Lib.hid (HS2.out.trans hs)
 obtain⟨L3,hL3⟩:∃ L3,([]:List UInt8)++textsL [[99,108,101,118,105,115,49],im.name]=L3:=⟨_,rfl⟩
 have bL3:L3.length≤8196:=by rw [← hL3];simp only [List.length_append,List.length_nil,numsL_len,List.length_cons];omega
 rw [hL3]at hw
 have HL3:=Lib.hid hL3
 have HW3:=Lib.hid hw
 clear hw hs HN hL3 x0
 clear hpl
 have x1:w3.cell? ⟨w.heap.size,1,none⟩=some (.int .i64 im.flags):=HC.out HS3.out 1 _ rfl
 have x2:w3.cell? ⟨w.heap.size,2,none⟩=some (.slice a2 im.segs.length c2):=HC.out HS3.out 2 _ rfl
 have HN:=Lib.hid (wnum_built wb (·<wb) w3 L3 1 [im.flags,(im.segs.length:Int)] HW3.out (by decide) (all2 Hok.out.flags (okLen_N (by decide) Hok.out.segs.1)) (by simp only [List.length_cons,List.length_nil];omega) (by simp))
 go_wp2_with fail
 refine HN.out.mono ?_
 rintro e w4 ⟨rfl,hw,hs⟩
 have HS4:=Lib.hid (HS3.out.trans hs)
 obtain⟨L4,hL4⟩:∃ L4,L3++numsL 1 [im.flags,(im.segs.length:Int)]=L4:=⟨_,rfl⟩
 have bL4:L4.length≤8198:=by rw [← hL4];simp only [List.length_append,List.length_nil,numsL_len,List.length_cons];omega
 rw [hL4]at hw
 have HL4:=Lib.hid hL4
 have HW4:=Lib.hid hw
 clear hw hs HN hL4 x1 x2
 have x2:w4.cell? ⟨w.heap.size,2,none⟩=some (.slice a2 im.segs.length c2):=HC.out HS4.out 2 _ rfl
 obtain⟨la2,lb2,lo2,lc2,hlv,hlm2,hlc2,hlat⟩:=(HI.out HS4.out).segs.at
 cases hlv
 have Hat2:=Lib.hid hlat
 clear hlat
 have hF2:∀ x∈im.segs,(segF x).length≤1048589:=fun x hx=>segF_len (Hok.out.segs.2 x hx)
 have HF2:=Lib.hid hF2
 clear hF2
 have hfew2:im.segs.length≤8:=Hfew.out.segs
 go_wp2_with fail
 clear x2
 go_loopw [44] (fun i wr=>∃ q:Nat,i=.int .i64 q∧q≤im.segs.length∧WB wb (·<wb) wr (L4++((im.segs.take q).map segF).flatten)∧Step (·<wb) w2 wr) (fun i _=>im.segs.length-(intOf i).toNat)
 case atStart=>exact⟨0,rfl,Nat.zero_le _,by have h:=HW4.out;simpa using h,HS4.out⟩
 case round=>
  obtain⟨q,rfl,hq,hw,hst⟩:=hrel
  have hfl:=flat_take_len segF 1048589 8 im.segs q HF2.out (by omega)
  obtain⟨M,hM⟩:∃ M,L4++((im.segs.take q).map segF).flatten=M:=⟨_,rfl⟩
  have hMl:M.length≤8396910:=by rw [← hM,List.length_append];omega
  rw [hM]at hw
  have HM0:=Lib.hid hM
  have HW:=Lib.hid hw
  have HS:=Lib.hid hst
  clear hw hst hM hfl
  by_cases hlt:q<im.segs.length
  ·obtain rfl:=Hat2.out.addr (by omega)
   obtain⟨s,hx⟩:∃ s,im.segs[q]? =some s:=⟨_,List.getElem?_eq_getElem hlt⟩
   have hmem:=List.mem_of_getElem? hx
   have Hft:=Lib.hid (flat_take segF im.segs q s hx)
   have hsl:=HF2.out s hmem
   have hkk:Keeps (·<w.heap.size) w4 wr:=fun b hb=>by have hb:b<w.heap.size:=hb;rw [HS.out.block b (show b<wb by omega),HS4.out.block b (show b<wb by omega)]
   obtain⟨ev,g0,g1,g2,g3,hev⟩:=(Hat2.out.keeps hkk).seg4 q s hx
   obtain⟨ea,ec,rfl⟩:=hev.form
   have Hev:=Lib.hid hev
   have hoks:=Hok.out.segs.2 s hmem
   have hob:s.bytes.length≤1048576:=hoks.2.2.2
   clear hev
   have HSx:=Lib.hid (HS.out.trans (Step.later ((Below.refl _ wr).alloc (Nat.le_refl _) (.cells #[.int .i64 s.at_,.int .i64 s.size,.slice ea s.bytes.length ec,.int .i64 s.perm] 57 (0,0))) (fun x hx=>HW.out.inS hx)))
   have HWx:=Lib.hid (HW.out.alloc (.cells #[.int .i64 s.at_,.int .i64 s.size,.slice ea s.bytes.length ec,.int .i64 s.perm] 57 (0,0)))
   have HX:=Lib.hid (heap_alloc_new wr (.cells #[.int .i64 s.at_,.int .i64 s.size,.slice ea s.bytes.length ec,.int .i64 s.perm] 57 (0,0)))
   have hzx:wr.heap.size<(wr.alloc (.cells #[.int .i64 s.at_,.int .i64 s.size,.slice ea s.bytes.length ec,.int .i64 s.perm] 57 (0,0))).heap.size:=by simp
   have HBX0:=Lib.hid (fun b (hb:b<w.heap.size)=>heap_alloc_old wr (.cells #[.int .i64 s.at_,.int .i64 s.size,.slice ea s.bytes.length ec,.int .i64 s.perm] 57 (0,0)) (r:=b) (by have:=HW.out.lt;omega))
   clear hx
   go_upto_region 10 with fail
   generalize wr.alloc (.cells #[.int .i64 s.at_,.int .i64 s.size,.slice ea s.bytes.length ec,.int .i64 s.perm] 57 (0,0))=v0 at *
   generalize wr.heap.size=zx at *
   have HV0:=Lib.hid (HWx.out)
   have HT0:Hid (Step (fun x=>x<wb∨x=zx) v0 v0):=Lib.hid (Step.refl _ _)
   clear HWx
   have HBX:=Lib.hid (fun b (hb:b<w.heap.size)=>HBX0.out b hb)
   have y0:v0.cell? ⟨zx,0,none⟩=some (.int .i64 s.at_):=by rw [Lib.cell_of_heap ((HT0.out.block zx (Or.inr rfl)).trans HX.out)];rfl
   have y1:v0.cell? ⟨zx,1,none⟩=some (.int .i64 s.size):=by rw [Lib.cell_of_heap ((HT0.out.block zx (Or.inr rfl)).trans HX.out)];rfl
   have HN:=Lib.hid (wnum_built wb (fun x=>x<wb∨x=zx) v0 M 4 [s.at_,s.size] HV0.out (by decide) (all2 hoks.1 hoks.2.1) (by simp only [List.length_cons,List.length_nil,List.length_append,numsL_len,digitsL_len];omega) (by simp))
   go_wp2_with fail
   refine HN.out.mono ?_
   rintro e v1 ⟨rfl,hw,hs⟩
   have HT1:=Lib.hid (HT0.out.trans hs)
   obtain⟨M1,hM1⟩:∃ M1,M++numsL 4 [s.at_,s.size]=M1:=⟨_,rfl⟩
   rw [hM1]at hw
   have hlM1:M1.length=M.length+(numsL 4 [s.at_,s.size]).length:=by rw [← hM1,List.length_append]
   simp only [numsL_len,List.length_cons,List.length_nil]at hlM1
   have HE1:=Lib.hid hM1
   have HV1:=Lib.hid hw
   clear hw hs HN hM1 y0 y1
   have y3:v1.cell? ⟨zx,3,none⟩=some (.int .i64 s.perm):=by rw [Lib.cell_of_heap ((HT1.out.block zx (Or.inr rfl)).trans HX.out)];rfl
   have HN:=Lib.hid (wnum_built wb (fun x=>x<wb∨x=zx) v1 M1 1 [s.perm] HV1.out (by decide) (all1 hoks.2.2.1) (by simp only [List.length_cons,List.length_nil,List.length_append,numsL_len,digitsL_len];omega) (by simp))
   go_wp2_with fail
   refine HN.out.mono ?_
   rintro e v2 ⟨rfl,hw,hs⟩
   have HT2:=Lib.hid (HT1.out.trans hs)
   obtain⟨M2,hM2⟩:∃ M2,M1++numsL 1 [s.perm]=M2:=⟨_,rfl⟩
   rw [hM2]at hw
   have hlM2:M2.length=M1.length+(numsL 1 [s.perm]).length:=by rw [← hM2,List.length_append]
   simp only [numsL_len,List.length_cons,List.length_nil]at hlM2
   have HE2:=Lib.hid hM2
   have HV2:=Lib.hid hw
   clear hw hs HN hM2 y3
   have y2:v2.cell? ⟨zx,2,none⟩=some (.slice ea s.bytes.length ec):=by rw [Lib.cell_of_heap ((HT2.out.block zx (Or.inr rfl)).trans HX.out)];rfl
   have HN:=Lib.hid (wblock_any wb (fun x=>x<wb∨x=zx) v2 M2 s.bytes (.slice ea s.bytes.length ec) HV2.out ((Hev.out.keeps (fun b hb=>by have hb:b<w.heap.size:=hb;rw [HT2.out.block b (Or.inl (hsub b hb)),HBX.out b hb])).imp (fun x hx=>Or.inl (hsub x hx))) (hoks.2.2.2) (by omega))
   go_wp2_with fail
   refine HN.out.mono ?_
   rintro e v3 ⟨rfl,hw,hs⟩
   have HT3:=Lib.hid (HT2.out.trans hs)
   obtain⟨M3,hM3⟩:∃ M3,M2++blockL s.bytes=M3:=⟨_,rfl⟩
   rw [hM3]at hw
   have hlM3:M3.length=M2.length+(blockL s.bytes).length:=by rw [← hM3,List.length_append]
   have hpl:(blockL s.bytes).length=4+s.bytes.length:=by unfold blockL;rw [List.length_append,digitsL_len]
   have HE3:=Lib.hid hM3
   have HV3:=Lib.hid hw
   clear hw hs HN hM3 y2
   have Hfin:Hid (L4++((im.segs.take (q+1)).map segF).flatten=M3):=Lib.hid (by rw [Hft.out,← List.append_assoc,HM0.out,← HE3.out,← HE2.out,← HE1.out];unfold segF;simp only [numsL,List.map_cons,List.map_nil,List.flatten_cons,List.flatten_nil,List.append_nil,List.append_assoc])
   go_wp2
   go_roundw
   case rel=>exact⟨q+1,by go_num,by omega,by rw [Hfin.out];exact HV3.out.less (fun x hx=>Or.inl hx),HSx.out.trans (HT3.out.imp (fun x hx=>Or.inl hx))⟩
   case measure=>simp [intOf];omega
  ·have hall:im.segs.take q=im.segs:=List.take_of_length_le (by omega)
   rw [hall]at HM0
   have HL5:Hid (L4++(im.segs.map segF).flatten=M):=HM0
   have HW5:=HW
   have HS5:=HS
   clear HM0 HW HS hall
   obtain⟨w5,hw5⟩:∃ x:World,x=wr:=⟨_,rfl⟩
   subst hw5
   obtain⟨L5,hL5⟩:∃ x:List UInt8,x=M:=⟨_,rfl⟩
   subst hL5
   have x3:w5.cell? ⟨w.heap.size,3,none⟩=some (.slice a3 im.needed.length c3):=HC.out HS5.out 3 _ rfl
   have HN:=Lib.hid (wnum_built wb (·<wb) w5 L5 1 [(im.needed.length:Int)] HW5.out (by decide) (all1 (okLen_N (by decide) Hok.out.needed.1)) (by simp only [List.length_cons,List.length_nil];omega) (by simp))
   go_wp2_with fail
   refine HN.out.mono ?_
   rintro e w6 ⟨rfl,hw,hs⟩
   have HS6:=Lib.hid (HS5.out.trans hs)
   obtain⟨L6,hL6⟩:∃ L6,L5++numsL 1 [(im.needed.length:Int)]=L6:=⟨_,rfl⟩
   have bL6:L6.length≤8396911:=by rw [← hL6];simp only [List.length_append,List.length_nil,numsL_len,List.length_cons];omega
   rw [hL6]at hw
   have HL6:=Lib.hid hL6
   have HW6:=Lib.hid hw
   clear hw hs HN hL6 x3
   have x3:w6.cell? ⟨w.heap.size,3,none⟩=some (.slice a3 im.needed.length c3):=HC.out HS6.out 3 _ rfl
   obtain⟨la3,lb3,lo3,lc3,hlv,hlm3,hlc3,hlat⟩:=(HI.out HS6.out).needed.at
   cases hlv
   have Hat3:=Lib.hid hlat
   clear hlat
   have hF3:∀ x∈im.needed,(needF x).length≤1053187:=fun x hx=>needF_len (Hok.out.needed.2 x hx)
   have HF3:=Lib.hid hF3
   clear hF3
   have hfew3:im.needed.length≤16:=Hfew.out.needed
   go_wp2_with fail
   clear x3
   go_loopw [74] (fun i wr=>∃ q:Nat,i=.int .i64 q∧q≤im.needed.length∧WB wb (·<wb) wr (L6++((im.needed.take q).map needF).flatten)∧Step (·<wb) w2 wr) (fun i _=>im.needed.length-(intOf i).toNat)
   case atStart=>exact⟨0,rfl,Nat.zero_le _,by have h:=HW6.out;simpa using h,HS6.out⟩
   case round=>
    obtain⟨q,rfl,hq,hw,hst⟩:=hrel
    have hfl:=flat_take_len needF 1053187 16 im.needed q HF3.out (by omega)
    obtain⟨M,hM⟩:∃ M,L6++((im.needed.take q).map needF).flatten=M:=⟨_,rfl⟩
    have hMl:M.length≤25247903:=by rw [← hM,List.length_append];omega
    rw [hM]at hw
    have HM0:=Lib.hid hM
    have HW:=Lib.hid hw
    have HS:=Lib.hid hst
    clear hw hst hM hfl
    by_cases hlt:q<im.needed.length
    ·obtain rfl:=Hat3.out.addr (by omega)
     obtain⟨s,hx⟩:∃ s,im.needed[q]? =some s:=⟨_,List.getElem?_eq_getElem hlt⟩
     have hmem:=List.mem_of_getElem? hx
     have Hft:=Lib.hid (flat_take needF im.needed q s hx)
     have hsl:=HF3.out s hmem
     have hkk:Keeps (·<w.heap.size) w6 wr:=fun b hb=>by have hb:b<w.heap.size:=hb;rw [HS.out.block b (show b<wb by omega),HS6.out.block b (show b<wb by omega)]
     obtain⟨ev,g0,g1,hev,_⟩:=(Hat3.out.keeps hkk).need2 q s hx
     obtain⟨ea,ec,rfl⟩:=hev.form
     have Hev:=Lib.hid hev
     have hoks:=Hok.out.needed.2 s hmem
     have hob:s.name.length≤4096:=hoks.1
     have hov:s.versions.length<256:=hoks.2.1
     clear hev
     have HSx:=Lib.hid (HS.out.trans (Step.later ((Below.refl _ wr).alloc (Nat.le_refl _) (.cells #[.string ⟨s.name.toArray⟩,.slice ea s.versions.length ec] 67 (0,0))) (fun x hx=>HW.out.inS hx)))
     have HWx:=Lib.hid (HW.out.alloc (.cells #[.string ⟨s.name.toArray⟩,.slice ea s.versions.length ec] 67 (0,0)))
     have HX:=Lib.hid (heap_alloc_new wr (.cells #[.string ⟨s.name.toArray⟩,.slice ea s.versions.length ec] 67 (0,0)))
     have hzx:wr.heap.size<(wr.alloc (.cells #[.string ⟨s.name.toArray⟩,.slice ea s.versions.length ec] 67 (0,0))).heap.size:=by simp
     have HBX0:=Lib.hid (fun b (hb:b<w.heap.size)=>heap_alloc_old wr (.cells #[.string ⟨s.name.toArray⟩,.slice ea s.versions.length ec] 67 (0,0)) (r:=b) (by have:=HW.out.lt;omega))
     clear hx
     go_upto_region 18 with fail
     generalize wr.alloc (.cells #[.string ⟨s.name.toArray⟩,.slice ea s.versions.length ec] 67 (0,0))=v0 at *
     generalize wr.heap.size=zx at *
     have HV0:=Lib.hid (HWx.out)
     have HT0:Hid (Step (fun x=>x<wb∨x=zx) v0 v0):=Lib.hid (Step.refl _ _)
     clear HWx
     have HBX:=Lib.hid (fun b (hb:b<w.heap.size)=>HBX0.out b hb)
     have y0:v0.cell? ⟨zx,0,none⟩=some (.string ⟨s.name.toArray⟩):=by rw [Lib.cell_of_heap ((HT0.out.block zx (Or.inr rfl)).trans HX.out)];rfl
     have HN:=Lib.hid (wtext_built wb (fun x=>x<wb∨x=zx) v0 M [s.name] HV0.out (ts1 hoks.1) (by simp only [List.length_cons,List.length_nil];omega))
     go_wp2_with fail
     refine HN.out.mono ?_
     rintro e v1 ⟨rfl,hw,hs⟩
     have HT1:=Lib.hid (HT0.out.trans hs)
     obtain⟨M1,hM1⟩:∃ M1,M++textsL [s.name]=M1:=⟨_,rfl⟩
     rw [hM1]at hw
     have hlM1:M1.length=M.length+(textsL [s.name]).length:=by rw [← hM1,List.length_append]
     have hpl:=textsL_len [s.name] (ts1 hoks.1)
     simp only [List.length_cons,List.length_nil]at hpl
     have HE1:=Lib.hid hM1
     have HV1:=Lib.hid hw
     clear hw hs HN hM1 y0
     have y1:v1.cell? ⟨zx,1,none⟩=some (.slice ea s.versions.length ec):=by rw [Lib.cell_of_heap ((HT1.out.block zx (Or.inr rfl)).trans HX.out)];rfl
     have HN:=Lib.hid (wnum_built wb (fun x=>x<wb∨x=zx) v1 M1 1 [(s.versions.length:Int)] HV1.out (by decide) (all1 (okLen_N (by decide) hoks.2.1)) (by simp only [List.length_cons,List.length_nil,List.length_append,numsL_len,digitsL_len];omega) (by simp))
     go_wp2_with fail
     refine HN.out.mono ?_
     rintro e v2 ⟨rfl,hw,hs⟩
     have HT2:=Lib.hid (HT1.out.trans hs)
     obtain⟨M2,hM2⟩:∃ M2,M1++numsL 1 [(s.versions.length:Int)]=M2:=⟨_,rfl⟩
     rw [hM2]at hw
     have hlM2:M2.length=M1.length+(numsL 1 [(s.versions.length:Int)]).length:=by rw [← hM2,List.length_append]
     simp only [numsL_len,List.length_cons,List.length_nil]at hlM2
     have HE2:=Lib.hid hM2
     have HV2:=Lib.hid hw
     clear hw hs HN hM2 y1
     have y1:v2.cell? ⟨zx,1,none⟩=some (.slice ea s.versions.length ec):=by rw [Lib.cell_of_heap ((HT2.out.block zx (Or.inr rfl)).trans HX.out)];rfl
     have HN:=Lib.hid (wtext_any wb (fun x=>x<wb∨x=zx) v2 M2 s.versions (.slice ea s.versions.length ec) HV2.out ((Hev.out.keeps (fun b hb=>by have hb:b<w.heap.size:=hb;rw [HT2.out.block b (Or.inl (hsub b hb)),HBX.out b hb])).imp (fun x hx=>Or.inl (hsub x hx))) (hoks.2.2) (by omega))
     go_wp2_with fail
     refine HN.out.mono ?_
     rintro e v3 ⟨rfl,hw,hs⟩
     have HT3:=Lib.hid (HT2.out.trans hs)
     obtain⟨M3,hM3⟩:∃ M3,M2++textsL s.versions=M3:=⟨_,rfl⟩
     rw [hM3]at hw
     have hlM3:M3.length=M2.length+(textsL s.versions).length:=by rw [← hM3,List.length_append]
     have hpl:=textsL_len s.versions (hoks.2.2)
     have HE3:=Lib.hid hM3
     have HV3:=Lib.hid hw
     clear hw hs HN hM3 y1
     have Hfin:Hid (L6++((im.needed.take (q+1)).map needF).flatten=M3):=Lib.hid (by rw [Hft.out,← List.append_assoc,HM0.out,← HE3.out,← HE2.out,← HE1.out];unfold needF textL';simp only [numsL,textsL,textL',List.map_cons,List.map_nil,List.flatten_cons,List.flatten_nil,List.append_nil,List.append_assoc])
     go_wp2
     go_roundw
     case rel=>exact⟨q+1,by go_num,by omega,by rw [Hfin.out];exact HV3.out.less (fun x hx=>Or.inl hx),HSx.out.trans (HT3.out.imp (fun x hx=>Or.inl hx))⟩
     case measure=>simp [intOf];omega
    ·have hall:im.needed.take q=im.needed:=List.take_of_length_le (by omega)
     rw [hall]at HM0
     have HL7:Hid (L6++(im.needed.map needF).flatten=M):=HM0
     have HW7:=HW
     have HS7:=HS
     clear HM0 HW HS hall
     obtain⟨w7,hw7⟩:∃ x:World,x=wr:=⟨_,rfl⟩
     subst hw7
     obtain⟨L7,hL7⟩:∃ x:List UInt8,x=M:=⟨_,rfl⟩
     subst hL7
     have x4:w7.cell? ⟨w.heap.size,4,none⟩=some (.slice a4 im.runPath.length c4):=HC.out HS7.out 4 _ rfl
     have HN:=Lib.hid (wnum_built wb (·<wb) w7 L7 1 [(im.runPath.length:Int)] HW7.out (by decide) (all1 (okLen_N (by decide) Hok.out.runPath.1)) (by simp only [List.length_cons,List.length_nil];omega) (by simp))
     go_wp2_with fail
     refine HN.out.mono ?_
     rintro e w8 ⟨rfl,hw,hs⟩
     have HS8:=Lib.hid (HS7.out.trans hs)
     obtain⟨L8,hL8⟩:∃ L8,L7++numsL 1 [(im.runPath.length:Int)]=L8:=⟨_,rfl⟩
     have bL8:L8.length≤25247904:=by rw [← hL8];simp only [List.length_append,List.length_nil,numsL_len,List.length_cons];omega
     rw [hL8]at hw
     have HL8:=Lib.hid hL8
     have HW8:=Lib.hid hw
     clear hw hs HN hL8 x4
     have x4:w8.cell? ⟨w.heap.size,4,none⟩=some (.slice a4 im.runPath.length c4):=HC.out HS8.out 4 _ rfl
     have hfew4:im.runPath.length≤16:=Hfew.out.runPath
     have HN:=Lib.hid (wtext_any wb (·<wb) w8 L8 im.runPath _ HW8.out ((HI.out HS8.out).runPath.imp (fun x hx=>hsub x hx)) (Hok.out.runPath.2) (by omega))
     have hpl:=textsL_len im.runPath Hok.out.runPath.2
     go_wp2_with fail
     refine HN.out.mono ?_
     rintro e w9 ⟨rfl,hw,hs⟩
     have HS9:=Lib.hid (HS8.out.trans hs)
     obtain⟨L9,hL9⟩:∃ L9,L8++textsL im.runPath=L9:=⟨_,rfl⟩
     have bL9:L9.length≤25313472:=by rw [← hL9];simp only [List.length_append,List.length_nil,numsL_len,List.length_cons];omega
     rw [hL9]at hw
     have HL9:=Lib.hid hL9
     have HW9:=Lib.hid hw
     clear hw hs HN hL9 x4
     clear hpl
     have x5:w9.cell? ⟨w.heap.size,5,none⟩=some (.slice a5 im.syms.length c5):=HC.out HS9.out 5 _ rfl
     have HN:=Lib.hid (wnum_built wb (·<wb) w9 L9 2 [(im.syms.length:Int)] HW9.out (by decide) (all1 (okLen_N (by decide) Hok.out.syms.1)) (by simp only [List.length_cons,List.length_nil];omega) (by simp))
     go_wp2_with fail
     refine HN.out.mono ?_
     rintro e w10 ⟨rfl,hw,hs⟩
     have HS10:=Lib.hid (HS9.out.trans hs)
     obtain⟨L10,hL10⟩:∃ L10,L9++numsL 2 [(im.syms.length:Int)]=L10:=⟨_,rfl⟩
     have bL10:L10.length≤25313474:=by rw [← hL10];simp only [List.length_append,List.length_nil,numsL_len,List.length_cons];omega
     rw [hL10]at hw
     have HL10:=Lib.hid hL10
     have HW10:=Lib.hid hw
     clear hw hs HN hL10 x5
     have x5:w10.cell? ⟨w.heap.size,5,none⟩=some (.slice a5 im.syms.length c5):=HC.out HS10.out 5 _ rfl
     obtain⟨la5,lb5,lo5,lc5,hlv,hlm5,hlc5,hlat⟩:=(HI.out HS10.out).syms.at
     cases hlv
     have Hat5:=Lib.hid hlat
     clear hlat
     have hF5:∀ x∈im.syms,(symF x).length≤8217:=fun x hx=>symF_len (Hok.out.syms.2 x hx)
     have HF5:=Lib.hid hF5
     clear hF5
     have hfew5:im.syms.length≤512:=Hfew.out.syms
     go_wp2_with fail
     clear x5
     go_loopw [113] (fun i wr=>∃ q:Nat,i=.int .i64 q∧q≤im.syms.length∧WB wb (·<wb) wr (L10++((im.syms.take q).map symF).flatten)∧Step (·<wb) w2 wr) (fun i _=>im.syms.length-(intOf i).toNat)
     case atStart=>exact⟨0,rfl,Nat.zero_le _,by have h:=HW10.out;simpa using h,HS10.out⟩
     case round=>
      obtain⟨q,rfl,hq,hw,hst⟩:=hrel
      have hfl:=flat_take_len symF 8217 512 im.syms q HF5.out (by omega)
      obtain⟨M,hM⟩:∃ M,L10++((im.syms.take q).map symF).flatten=M:=⟨_,rfl⟩
      have hMl:M.length≤29520578:=by rw [← hM,List.length_append];omega
      rw [hM]at hw
      have HM0:=Lib.hid hM
      have HW:=Lib.hid hw
      have HS:=Lib.hid hst
      clear hw hst hM hfl
      by_cases hlt:q<im.syms.length
      ·obtain rfl:=Hat5.out.addr (by omega)
       obtain⟨s,hx⟩:∃ s,im.syms[q]? =some s:=⟨_,List.getElem?_eq_getElem hlt⟩
       have hmem:=List.mem_of_getElem? hx
       have Hft:=Lib.hid (flat_take symF im.syms q s hx)
       have hsl:=HF5.out s hmem
       have hkk:Keeps (·<w.heap.size) w10 wr:=fun b hb=>by have hb:b<w.heap.size:=hb;rw [HS.out.block b (show b<wb by omega),HS10.out.block b (show b<wb by omega)]
       obtain⟨_,g0,g1,g2,g3,g4,g5,g6,g7,g8⟩:=(Hat5.out.keeps hkk).sym9 q s hx
       have hoks:=Hok.out.syms.2 s hmem
       have hob:s.name.length≤4096:=hoks.1
       have hov:s.version.length≤4096:=hoks.2.1
       have HSx:=Lib.hid (HS.out.trans (Step.later ((Below.refl _ wr).alloc (Nat.le_refl _) (.cells #[.string ⟨s.name.toArray⟩,.string ⟨s.version.toArray⟩,.bool s.old,.int .i64 s.kind,.bool s.weak,.int .i64 s.vis,.bool s.defined,.int .i64 s.value,.int .i64 s.size] 72 (0,0))) (fun x hx=>HW.out.inS hx)))
       have HWx:=Lib.hid (HW.out.alloc (.cells #[.string ⟨s.name.toArray⟩,.string ⟨s.version.toArray⟩,.bool s.old,.int .i64 s.kind,.bool s.weak,.int .i64 s.vis,.bool s.defined,.int .i64 s.value,.int .i64 s.size] 72 (0,0)))
       have HX:=Lib.hid (heap_alloc_new wr (.cells #[.string ⟨s.name.toArray⟩,.string ⟨s.version.toArray⟩,.bool s.old,.int .i64 s.kind,.bool s.weak,.int .i64 s.vis,.bool s.defined,.int .i64 s.value,.int .i64 s.size] 72 (0,0)))
       have hzx:wr.heap.size<(wr.alloc (.cells #[.string ⟨s.name.toArray⟩,.string ⟨s.version.toArray⟩,.bool s.old,.int .i64 s.kind,.bool s.weak,.int .i64 s.vis,.bool s.defined,.int .i64 s.value,.int .i64 s.size] 72 (0,0))).heap.size:=by simp
       have HBX0:=Lib.hid (fun b (hb:b<w.heap.size)=>heap_alloc_old wr (.cells #[.string ⟨s.name.toArray⟩,.string ⟨s.version.toArray⟩,.bool s.old,.int .i64 s.kind,.bool s.weak,.int .i64 s.vis,.bool s.defined,.int .i64 s.value,.int .i64 s.size] 72 (0,0)) (r:=b) (by have:=HW.out.lt;omega))
       clear hx
       go_upto_region 28 with fail
       generalize wr.alloc (.cells #[.string ⟨s.name.toArray⟩,.string ⟨s.version.toArray⟩,.bool s.old,.int .i64 s.kind,.bool s.weak,.int .i64 s.vis,.bool s.defined,.int .i64 s.value,.int .i64 s.size] 72 (0,0))=v0 at *
       generalize wr.heap.size=zx at *
       have HV0:=Lib.hid (HWx.out)
       have HT0:Hid (Step (fun x=>x<wb∨x=zx) v0 v0):=Lib.hid (Step.refl _ _)
       clear HWx
       have HBX:=Lib.hid (fun b (hb:b<w.heap.size)=>HBX0.out b hb)
       have y0:v0.cell? ⟨zx,0,none⟩=some (.string ⟨s.name.toArray⟩):=by rw [Lib.cell_of_heap ((HT0.out.block zx (Or.inr rfl)).trans HX.out)];rfl
       have y1:v0.cell? ⟨zx,1,none⟩=some (.string ⟨s.version.toArray⟩):=by rw [Lib.cell_of_heap ((HT0.out.block zx (Or.inr rfl)).trans HX.out)];rfl
       have HN:=Lib.hid (wtext_built wb (fun x=>x<wb∨x=zx) v0 M [s.name,s.version] HV0.out (ts2 hoks.1 hoks.2.1) (by simp only [List.length_cons,List.length_nil];omega))
       go_wp2_with fail
       refine HN.out.mono ?_
       rintro e v1 ⟨rfl,hw,hs⟩
       have HT1:=Lib.hid (HT0.out.trans hs)
       obtain⟨M1,hM1⟩:∃ M1,M++textsL [s.name,s.version]=M1:=⟨_,rfl⟩
       rw [hM1]at hw
       have hlM1:M1.length=M.length+(textsL [s.name,s.version]).length:=by rw [← hM1,List.length_append]
       have hpl:=textsL_len [s.name,s.version] (ts2 hoks.1 hoks.2.1)
       simp only [List.length_cons,List.length_nil]at hpl
       have HE1:=Lib.hid hM1
       have HV1:=Lib.hid hw
       clear hw hs HN hM1 y0 y1
       have y3:v1.cell? ⟨zx,3,none⟩=some (.int .i64 s.kind):=by rw [Lib.cell_of_heap ((HT1.out.block zx (Or.inr rfl)).trans HX.out)];rfl
       have y5:v1.cell? ⟨zx,5,none⟩=some (.int .i64 s.vis):=by rw [Lib.cell_of_heap ((HT1.out.block zx (Or.inr rfl)).trans HX.out)];rfl
       have y2:v1.cell? ⟨zx,2,none⟩=some (.bool s.old):=by rw [Lib.cell_of_heap ((HT1.out.block zx (Or.inr rfl)).trans HX.out)];rfl
       have y4:v1.cell? ⟨zx,4,none⟩=some (.bool s.weak):=by rw [Lib.cell_of_heap ((HT1.out.block zx (Or.inr rfl)).trans HX.out)];rfl
       have y6:v1.cell? ⟨zx,6,none⟩=some (.bool s.defined):=by rw [Lib.cell_of_heap ((HT1.out.block zx (Or.inr rfl)).trans HX.out)];rfl
       have HN:=Lib.hid (fun vd (hd:Below v1.heap.size v1 vd)=>wnum_built wb (fun x=>x<wb∨x=zx) vd M1 1 [s.kind,s.vis,oneL s.old,oneL s.weak,oneL s.defined] (HV1.out.below hd) (by decide) (all5 hoks.2.2.1 hoks.2.2.2.1 (okN_one _) (okN_one _) (okN_one _)) (by simp only [List.length_cons,List.length_nil,List.length_append,numsL_len,digitsL_len];omega) (by simp))
       go_wp2_with fail
       refine wp_region_held_drew (S:=fun w'=>w'.cell? ⟨zx,3,none⟩=some (.int .i64 s.kind)∧w'.cell? ⟨zx,5,none⟩=some (.int .i64 s.vis)∧w'.cell? ⟨zx,2,none⟩=some (.bool s.old)∧w'.cell? ⟨zx,4,none⟩=some (.bool s.weak)∧w'.cell? ⟨zx,6,none⟩=some (.bool s.defined)) (by kernel_rfl) ⟨y3,y5,y2,y4,y6⟩ (fun hHeld=> ?_)
       have HN2:=Lib.hid (HN.out v1.drew ((Below.refl _ _).drew))
       have HTd:=Lib.hid (HT1.out.drew)
       generalize v1.drew=vd at *
       refine wpAnyH_take (i:=0) (v:= ?_) rfl (by kernel_rfl) (by kernel_rfl) (by kernel_rfl) (fun _ _ _ h=>h) (Or.inl ⟨by rfl,?_⟩) hHeld ?_
       rotate_left
       ·(intro w hSw;(try dsimp only at hSw);go_simp;try with_reducible rfl)
       try simp only [Act.put,List.setIfInBounds_toArray,List.set_cons_zero,List.set_cons_succ]
       refine wpAnyH_take (i:=1) (v:= ?_) rfl (by kernel_rfl) (by kernel_rfl) (by kernel_rfl) (fun _ _ _ h=>h) (Or.inl ⟨by rfl,?_⟩) hHeld ?_
       rotate_left
       ·(intro w hSw;(try dsimp only at hSw);go_simp;try with_reducible rfl)
       try simp only [Act.put,List.setIfInBounds_toArray,List.set_cons_zero,List.set_cons_succ]
       refine wpAnyH_take (i:=2) (v:= ?_) rfl (by kernel_rfl) (by kernel_rfl) (by kernel_rfl) (fun _ _ _ h=>h) (Or.inl ⟨by rfl,?_⟩) hHeld ?_
       rotate_left
       ·(intro w hSw;(try dsimp only at hSw);go_simp;try with_reducible rfl)
       try simp only [Act.put,List.setIfInBounds_toArray,List.set_cons_zero,List.set_cons_succ]
       refine wpAnyH_take (i:=3) (v:= ?_) rfl (by kernel_rfl) (by kernel_rfl) (by kernel_rfl) (fun _ _ _ h=>h) (Or.inl ⟨by rfl,?_⟩) hHeld ?_
       rotate_left
       ·(intro w hSw;(try dsimp only at hSw);go_simp;try with_reducible rfl)
       try simp only [Act.put,List.setIfInBounds_toArray,List.set_cons_zero,List.set_cons_succ]
       refine wpAnyH_take (i:=4) (v:= ?_) rfl (by kernel_rfl) (by kernel_rfl) (by kernel_rfl) (fun _ _ _ h=>h) (Or.inl ⟨by rfl,?_⟩) hHeld ?_
       rotate_left
       ·(intro w hSw;(try dsimp only at hSw);go_simp;try with_reducible rfl)
       try simp only [Act.put,List.setIfInBounds_toArray,List.set_cons_zero,List.set_cons_succ]
       refine wpAnyH_take (i:=5) (v:= ?_) rfl (by kernel_rfl) (by kernel_rfl) (by kernel_rfl) (fun _ _ _ h=>h) (Or.inl ⟨by rfl,?_⟩) hHeld ?_
       rotate_left
       ·(intro w hSw;(try dsimp only at hSw);go_simp;try with_reducible rfl)
       try simp only [Act.put,List.setIfInBounds_toArray,List.set_cons_zero,List.set_cons_succ]
       refine wpAnyH_take (i:=6) (v:= ?_) rfl (by kernel_rfl) (by kernel_rfl) (by kernel_rfl) (fun _ _ _ h=>h) (Or.inl ⟨by rfl,?_⟩) hHeld ?_
       rotate_left
       ·(intro w hSw;(try dsimp only at hSw);go_simp;try with_reducible rfl)
       try simp only [Act.put,List.setIfInBounds_toArray,List.set_cons_zero,List.set_cons_succ]
       refine wpAnyH_take (i:=8) (v:= ?_) rfl (by kernel_rfl) (by kernel_rfl) (by kernel_rfl) (fun _ _ _ h=>h) (Or.inl ⟨by rfl,?_⟩) hHeld ?_
       rotate_left
       ·(intro w hSw;(try dsimp only at hSw);go_simp;try with_reducible rfl)
       try simp only [Act.put,List.setIfInBounds_toArray,List.set_cons_zero,List.set_cons_succ]
       refine wpAnyH_take (i:=9) (v:= ?_) rfl (by kernel_rfl) (by kernel_rfl) (by kernel_rfl) (fun _ _ _ h=>h) (Or.inl ⟨by rfl,?_⟩) hHeld ?_
       rotate_left
       ·(intro w hSw;(try dsimp only at hSw);go_simp;try with_reducible rfl)
       try simp only [Act.put,List.setIfInBounds_toArray,List.set_cons_zero,List.set_cons_succ]
       refine wpAnyH_take (i:=11) (v:= ?_) rfl (by kernel_rfl) (by kernel_rfl) (by kernel_rfl) (fun _ _ _ h=>h) (Or.inl ⟨by rfl,?_⟩) hHeld ?_
       rotate_left
       ·(intro w hSw;(try dsimp only at hSw);go_simp;try with_reducible rfl)
       try simp only [Act.put,List.setIfInBounds_toArray,List.set_cons_zero,List.set_cons_succ]
       refine wpAnyH_take (i:=12) (v:= ?_) rfl (by kernel_rfl) (by kernel_rfl) (by kernel_rfl) (fun _ _ _ h=>h) (Or.inl ⟨by rfl,?_⟩) hHeld ?_
       rotate_left
       ·(intro w hSw;(try dsimp only at hSw);go_simp;try with_reducible rfl)
       try simp only [Act.put,List.setIfInBounds_toArray,List.set_cons_zero,List.set_cons_succ]
       refine wpAnyH_ready (rs:=[7]) (by kernel_rfl) (by simp) ?_
       refine AllReadyH.cons rfl (fun K hK=> ?_) AllReadyH.nil
       go_simp
       refine(flag_any _ s.old).mono ?_
       rintro e vq ⟨rfl,hq⟩
       rw [hq]
       refine hK.out _ _ hHeld (fun hHeld=> ?_)
       clear hK K hq
       try simp only [Act.put,List.setIfInBounds_toArray,List.set_cons_zero,List.set_cons_succ]
       refine wpAnyH_ready (rs:=[10]) (by kernel_rfl) (by simp) ?_
       refine AllReadyH.cons rfl (fun K hK=> ?_) AllReadyH.nil
       go_simp
       refine(flag_any _ s.weak).mono ?_
       rintro e vq ⟨rfl,hq⟩
       rw [hq]
       refine hK.out _ _ hHeld (fun hHeld=> ?_)
       clear hK K hq
       try simp only [Act.put,List.setIfInBounds_toArray,List.set_cons_zero,List.set_cons_succ]
       refine wpAnyH_ready (rs:=[13]) (by kernel_rfl) (by simp) ?_
       refine AllReadyH.cons rfl (fun K hK=> ?_) AllReadyH.nil
       go_simp
       refine(flag_any _ s.defined).mono ?_
       rintro e vq ⟨rfl,hq⟩
       rw [hq]
       refine hK.out _ _ hHeld (fun hHeld=> ?_)
       clear hK K hq
       try simp only [Act.put,List.setIfInBounds_toArray,List.set_cons_zero,List.set_cons_succ]
       refine wpAnyH_ready (rs:=[14]) (by kernel_rfl) (by simp) ?_
       refine AllReadyH.cons rfl (fun K hK=> ?_) AllReadyH.nil
       go_simp
       refine hK.out _ _ (by obtain⟨h1,h2,h3,h4,h5⟩:=hHeld;exact⟨(World.cell?_alloc_lt _ _ _ (World.block_lt_of_cell? _ _ h1)).trans h1,(World.cell?_alloc_lt _ _ _ (World.block_lt_of_cell? _ _ h2)).trans h2,(World.cell?_alloc_lt _ _ _ (World.block_lt_of_cell? _ _ h3)).trans h3,(World.cell?_alloc_lt _ _ _ (World.block_lt_of_cell? _ _ h4)).trans h4,(World.cell?_alloc_lt _ _ _ (World.block_lt_of_cell? _ _ h5)).trans h5⟩) (fun _=> ?_)
       clear hK K
       try simp only [Act.put,List.setIfInBounds_toArray,List.set_cons_zero,List.set_cons_succ]
       refine wpAnyH_ready (rs:=[15]) (by kernel_rfl) (by simp) ?_
       refine AllReadyH.cons rfl (fun K hK=> ?_) AllReadyH.nil
       go_simp
       refine HN2.out.mono ?_
       rintro e v2 ⟨rfl,hw,hs⟩
       have HT2:=Lib.hid (HTd.out.trans hs)
       refine hK.out _ _ (by obtain⟨h1,h2,h3,h4,h5⟩:=hHeld;exact⟨(hs.cell (p:=⟨zx,3,none⟩) (Or.inr rfl)).trans h1,(hs.cell (p:=⟨zx,5,none⟩) (Or.inr rfl)).trans h2,(hs.cell (p:=⟨zx,2,none⟩) (Or.inr rfl)).trans h3,(hs.cell (p:=⟨zx,4,none⟩) (Or.inr rfl)).trans h4,(hs.cell (p:=⟨zx,6,none⟩) (Or.inr rfl)).trans h5⟩) (fun _=> ?_)
       clear hK K
       try simp only [Act.put,List.setIfInBounds_toArray,List.set_cons_zero,List.set_cons_succ]
       refine wpAnyH_done (by kernel_rfl) ?_ _
       clear hHeld HN2 HTd hs
       obtain⟨M2,hM2⟩:∃ M2,M1++numsL 1 [s.kind,s.vis,oneL s.old,oneL s.weak,oneL s.defined]=M2:=⟨_,rfl⟩
       rw [hM2]at hw
       have hlM2:M2.length=M1.length+(numsL 1 [s.kind,s.vis,oneL s.old,oneL s.weak,oneL s.defined]).length:=by rw [← hM2,List.length_append]
       simp only [numsL_len,List.length_cons,List.length_nil]at hlM2
       have HE2:=Lib.hid hM2
       have HV2:=Lib.hid hw
       clear hw HN hM2 y3 y5 y2 y4 y6
       have y7:v2.cell? ⟨zx,7,none⟩=some (.int .i64 s.value):=by rw [Lib.cell_of_heap ((HT2.out.block zx (Or.inr rfl)).trans HX.out)];rfl
       have y8:v2.cell? ⟨zx,8,none⟩=some (.int .i64 s.size):=by rw [Lib.cell_of_heap ((HT2.out.block zx (Or.inr rfl)).trans HX.out)];rfl
       have HN:=Lib.hid (wnum_built wb (fun x=>x<wb∨x=zx) v2 M2 8 [s.value,s.size] HV2.out (by decide) (all2 hoks.2.2.2.2.1 hoks.2.2.2.2.2) (by simp only [List.length_cons,List.length_nil,List.length_append,numsL_len,digitsL_len];omega) (by simp))
       go_wp2_with fail
       refine HN.out.mono ?_
       rintro e v3 ⟨rfl,hw,hs⟩
       have HT3:=Lib.hid (HT2.out.trans hs)
       obtain⟨M3,hM3⟩:∃ M3,M2++numsL 8 [s.value,s.size]=M3:=⟨_,rfl⟩
       rw [hM3]at hw
       have hlM3:M3.length=M2.length+(numsL 8 [s.value,s.size]).length:=by rw [← hM3,List.length_append]
       simp only [numsL_len,List.length_cons,List.length_nil]at hlM3
       have HE3:=Lib.hid hM3
       have HV3:=Lib.hid hw
       clear hw hs HN hM3 y7 y8
       have Hfin:Hid (L10++((im.syms.take (q+1)).map symF).flatten=M3):=Lib.hid (by rw [Hft.out,← List.append_assoc,HM0.out,← HE3.out,← HE2.out,← HE1.out];unfold symF textL';simp only [numsL,textsL,textL',List.map_cons,List.map_nil,List.flatten_cons,List.flatten_nil,List.append_nil,List.append_assoc])
       go_wp2
       go_roundw
       case rel=>exact⟨q+1,by go_num,by omega,by rw [Hfin.out];exact HV3.out.less (fun x hx=>Or.inl hx),HSx.out.trans (HT3.out.imp (fun x hx=>Or.inl hx))⟩
       case measure=>simp [intOf];omega
      ·have hall:im.syms.take q=im.syms:=List.take_of_length_le (by omega)
       rw [hall]at HM0
       have HL11:Hid (L10++(im.syms.map symF).flatten=M):=HM0
       have HW11:=HW
       have HS11:=HS
       clear HM0 HW HS hall
       obtain⟨w11,hw11⟩:∃ x:World,x=wr:=⟨_,rfl⟩
       subst hw11
       obtain⟨L11,hL11⟩:∃ x:List UInt8,x=M:=⟨_,rfl⟩
       subst hL11
       have x6:w11.cell? ⟨w.heap.size,6,none⟩=some (.slice a6 im.buckets.length c6):=HC.out HS11.out 6 _ rfl
       have HN:=Lib.hid (wnum_built wb (·<wb) w11 L11 2 [(im.buckets.length:Int)] HW11.out (by decide) (all1 (okLen_N (by decide) Hok.out.buckets.1)) (by simp only [List.length_cons,List.length_nil];omega) (by simp))
       go_wp2_with fail
       refine HN.out.mono ?_
       rintro e w12 ⟨rfl,hw,hs⟩
       have HS12:=Lib.hid (HS11.out.trans hs)
       obtain⟨L12,hL12⟩:∃ L12,L11++numsL 2 [(im.buckets.length:Int)]=L12:=⟨_,rfl⟩
       have bL12:L12.length≤29520580:=by rw [← hL12];simp only [List.length_append,List.length_nil,numsL_len,List.length_cons];omega
       rw [hL12]at hw
       have HL12:=Lib.hid hL12
       have HW12:=Lib.hid hw
       clear hw hs HN hL12 x6
       have x6:w12.cell? ⟨w.heap.size,6,none⟩=some (.slice a6 im.buckets.length c6):=HC.out HS12.out 6 _ rfl
       obtain⟨la6,lb6,lo6,lc6,hlv,hlm6,hlc6,hlat⟩:=(HI.out HS12.out).buckets.at
       cases hlv
       have Hat6:=Lib.hid hlat
       clear hlat
       have hF6:∀ x∈im.buckets,(chainF x).length≤131074:=fun x hx=>chainF_len (Hok.out.buckets.2 x hx).1
       have HF6:=Lib.hid hF6
       clear hF6
       have hfew6:im.buckets.length≤512:=Hfew.out.buckets
       go_wp2_with fail
       clear x6
       go_loopw [13,159] (fun _ i wr=>∃ q:Nat,i=.int .i64 q∧q≤im.buckets.length∧WB wb (·<wb) wr (L12++((im.buckets.take q).map chainF).flatten)∧Step (·<wb) w2 wr) (fun _ i _=>im.buckets.length-(intOf i).toNat)
       case atStart=>exact⟨0,rfl,Nat.zero_le _,by have h:=HW12.out;simpa using h,HS12.out⟩
       case round=>
        obtain⟨q,rfl,hq,hw,hst⟩:=hrel
        have hfl:=flat_take_len chainF 131074 512 im.buckets q HF6.out (by omega)
        obtain⟨M,hM⟩:∃ M,L12++((im.buckets.take q).map chainF).flatten=M:=⟨_,rfl⟩
        have hMl:M.length≤96630468:=by rw [← hM,List.length_append];omega
        rw [hM]at hw
        have HM0:=Lib.hid hM
        have HW:=Lib.hid hw
        have HS:=Lib.hid hst
        clear hw hst hM hfl
        by_cases hlt:q<im.buckets.length
        ·obtain rfl:=Hat6.out.addr (by omega)
         obtain⟨s,hx⟩:∃ s,im.buckets[q]? =some s:=⟨_,List.getElem?_eq_getElem hlt⟩
         have hmem:=List.mem_of_getElem? hx
         have Hft:=Lib.hid (flat_take chainF im.buckets q s hx)
         have hsl:=HF6.out s hmem
         have hkk:Keeps (·<w.heap.size) w12 wr:=fun b hb=>by have hb:b<w.heap.size:=hb;rw [HS.out.block b (show b<wb by omega),HS12.out.block b (show b<wb by omega)]
         obtain⟨ev,g0,hev⟩:=(Hat6.out.keeps hkk).ints1 q s hx
         obtain⟨ea,ec,rfl⟩:=hev.form
         have Hev:=Lib.hid hev
         have hoks:=Hok.out.buckets.2 s hmem
         have hov:s.length<65536:=hoks.1
         clear hev
         have HV0:=HW
         have HT0:Hid (Step (·<wb) wr wr):=Lib.hid (Step.refl _ _)
         have HSx:=HS
         have HBX:Hid (∀ b,b<w.heap.size→wr.heap[b]? =wr.heap[b]?):=Lib.hid (fun _ _=>rfl)
         clear hx
         have HN:=Lib.hid (wnum_built wb (·<wb) wr M 2 [(s.length:Int)] HV0.out (by decide) (all1 (okLen_N (by decide) hoks.1)) (by simp only [List.length_cons,List.length_nil,List.length_append,numsL_len,digitsL_len];omega) (by simp))
         go_wp2_with fail
         refine HN.out.mono ?_
         rintro e v1 ⟨rfl,hw,hs⟩
         have HT1:=Lib.hid (HT0.out.trans hs)
         obtain⟨M1,hM1⟩:∃ M1,M++numsL 2 [(s.length:Int)]=M1:=⟨_,rfl⟩
         rw [hM1]at hw
         have hlM1:M1.length=M.length+(numsL 2 [(s.length:Int)]).length:=by rw [← hM1,List.length_append]
         simp only [numsL_len,List.length_cons,List.length_nil]at hlM1
         have HE1:=Lib.hid hM1
         have HV1:=Lib.hid hw
         clear hw hs HN hM1
         have HN:=Lib.hid (wnum_any wb (·<wb) v1 M1 2 s (.slice ea s.length ec) HV1.out ((Hev.out.keeps (fun b hb=>by have hb:b<w.heap.size:=hb;rw [HT1.out.block b (hsub b hb)])).imp (fun x hx=>hsub x hx)) (by decide) (hoks.2) (fun n hn=>okN_i64 (by decide) (hoks.2 n hn)) (by omega))
         go_wp2_with fail
         refine HN.out.mono ?_
         rintro e v2 ⟨rfl,hw,hs⟩
         have HT2:=Lib.hid (HT1.out.trans hs)
         obtain⟨M2,hM2⟩:∃ M2,M1++numsL 2 s=M2:=⟨_,rfl⟩
         rw [hM2]at hw
         have hlM2:M2.length=M1.length+(numsL 2 s).length:=by rw [← hM2,List.length_append]
         simp only [numsL_len]at hlM2
         have HE2:=Lib.hid hM2
         have HV2:=Lib.hid hw
         clear hw hs HN hM2
         have Hfin:Hid (L12++((im.buckets.take (q+1)).map chainF).flatten=M2):=Lib.hid (by rw [Hft.out,← List.append_assoc,HM0.out,← HE2.out,← HE1.out];unfold chainF;simp only [numsL,List.map_cons,List.map_nil,List.flatten_cons,List.flatten_nil,List.append_nil,List.append_assoc])
         go_wp2
         go_roundw
         case rel=>exact⟨q+1,by go_num,by omega,by rw [Hfin.out];exact HV2.out.less (fun x hx=>hx),HSx.out.trans (HT2.out.imp (fun x hx=>hx))⟩
         case measure=>simp [intOf];omega
        ·have hall:im.buckets.take q=im.buckets:=List.take_of_length_le (by omega)
         rw [hall]at HM0
         have HL13:Hid (L12++(im.buckets.map chainF).flatten=M):=HM0
         have HW13:=HW
         have HS13:=HS
         clear HM0 HW HS hall
         obtain⟨w13,hw13⟩:∃ x:World,x=wr:=⟨_,rfl⟩
         subst hw13
         obtain⟨L13,hL13⟩:∃ x:List UInt8,x=M:=⟨_,rfl⟩
         subst hL13
         have x8:w13.cell? ⟨w.heap.size,8,none⟩=some (.int .i64 im.shift):=HC.out HS13.out 8 _ rfl
         have x7:w13.cell? ⟨w.heap.size,7,none⟩=some (.slice a7 im.words.length c7):=HC.out HS13.out 7 _ rfl
         have HN:=Lib.hid (wnum_built wb (·<wb) w13 L13 1 [im.shift,(im.words.length:Int)] HW13.out (by decide) (all2 Hok.out.shift (okLen_N (by decide) Hok.out.words.1)) (by simp only [List.length_cons,List.length_nil];omega) (by simp))
         go_wp2_with fail
         refine HN.out.mono ?_
         rintro e w14 ⟨rfl,hw,hs⟩
         have HS14:=Lib.hid (HS13.out.trans hs)
         obtain⟨L14,hL14⟩:∃ L14,L13++numsL 1 [im.shift,(im.words.length:Int)]=L14:=⟨_,rfl⟩
         have bL14:L14.length≤96630470:=by rw [← hL14];simp only [List.length_append,List.length_nil,numsL_len,List.length_cons];omega
         rw [hL14]at hw
         have HL14:=Lib.hid hL14
         have HW14:=Lib.hid hw
         clear hw hs HN hL14 x8 x7
         have x7:w14.cell? ⟨w.heap.size,7,none⟩=some (.slice a7 im.words.length c7):=HC.out HS14.out 7 _ rfl
         obtain⟨la7,lb7,lo7,lc7,hlv,hlm7,hlc7,hlat⟩:=(HI.out HS14.out).words.at
         cases hlv
         have Hat7:=Lib.hid hlat
         clear hlat
         have hF7:∀ x∈im.words,((digitsL 8) x).length≤8:=fun x _=>by rw [digitsL_len];decide
         have HF7:=Lib.hid hF7
         clear hF7
         have hfew7:im.words.length≤64:=Hfew.out.words
         go_wp2_with fail
         clear x7
         go_loopw [15,189] (fun _ i wr=>∃ q:Nat,i=.int .i64 q∧q≤im.words.length∧WB wb (·<wb) wr (L14++((im.words.take q).map (digitsL 8)).flatten)∧Step (·<wb) w2 wr) (fun _ i _=>im.words.length-(intOf i).toNat)
         case atStart=>exact⟨0,rfl,Nat.zero_le _,by have h:=HW14.out;simpa using h,HS14.out⟩
         case round=>
          obtain⟨q,rfl,hq,hw,hst⟩:=hrel
          have hfl:=flat_take_len (digitsL 8) 8 64 im.words q HF7.out (by omega)
          obtain⟨M,hM⟩:∃ M,L14++((im.words.take q).map (digitsL 8)).flatten=M:=⟨_,rfl⟩
          have hMl:M.length≤96630982:=by rw [← hM,List.length_append];omega
          rw [hM]at hw
          have HM0:=Lib.hid hM
          have HW:=Lib.hid hw
          have HS:=Lib.hid hst
          clear hw hst hM hfl
          by_cases hlt:q<im.words.length
          ·obtain rfl:=Hat7.out.addr (by omega)
           obtain⟨s,hx⟩:∃ s,im.words[q]? =some s:=⟨_,List.getElem?_eq_getElem hlt⟩
           have hmem:=List.mem_of_getElem? hx
           have Hft:=Lib.hid (flat_take (digitsL 8) im.words q s hx)
           have hsl:=HF7.out s hmem
           have hkk:Keeps (·<w.heap.size) w14 wr:=fun b hb=>by have hb:b<w.heap.size:=hb;rw [HS.out.block b (show b<wb by omega),HS14.out.block b (show b<wb by omega)]
           have g0:=(Hat7.out.keeps hkk).word1 q s hx
           have hoks:=Hok.out.words.2 s hmem
           have HV0:=HW
           have HT0:Hid (Step (·<wb) wr wr):=Lib.hid (Step.refl _ _)
           have HSx:=HS
           have HBX:Hid (∀ b,b<w.heap.size→wr.heap[b]? =wr.heap[b]?):=Lib.hid (fun _ _=>rfl)
           clear hx
           have HN:=Lib.hid (wnum_built wb (·<wb) wr M 8 [wrap64 s] HV0.out (by decide) (all1 (okN_wrap s)) (by simp only [List.length_cons,List.length_nil,List.length_append,numsL_len,digitsL_len];omega) (by simp))
           go_wp2_with fail
           refine HN.out.mono ?_
           rintro e v1 ⟨rfl,hw,hs⟩
           have HT1:=Lib.hid (HT0.out.trans hs)
           obtain⟨M1,hM1⟩:∃ M1,M++numsL 8 [wrap64 s]=M1:=⟨_,rfl⟩
           rw [hM1]at hw
           have hlM1:M1.length=M.length+(numsL 8 [wrap64 s]).length:=by rw [← hM1,List.length_append]
           simp only [numsL_len,List.length_cons,List.length_nil]at hlM1
           have HE1:=Lib.hid hM1
           have HV1:=Lib.hid hw
           clear hw hs HN hM1
           have Hfin:Hid (L14++((im.words.take (q+1)).map (digitsL 8)).flatten=M1):=Lib.hid (by rw [Hft.out,← List.append_assoc,HM0.out,← HE1.out];simp only [numsL,List.map_cons,List.map_nil,List.flatten_cons,List.flatten_nil,List.append_nil,List.append_assoc,digitsL_wrap64])
           go_wp2
           go_roundw
           case rel=>exact⟨q+1,by go_num,by omega,by rw [Hfin.out];exact HV1.out.less (fun x hx=>hx),HSx.out.trans (HT1.out.imp (fun x hx=>hx))⟩
           case measure=>simp [intOf];omega
          ·have hall:im.words.take q=im.words:=List.take_of_length_le (by omega)
           rw [hall]at HM0
           have HL15:Hid (L14++(im.words.map (digitsL 8)).flatten=M):=HM0
           have HW15:=HW
           have HS15:=HS
           clear HM0 HW HS hall
           obtain⟨w15,hw15⟩:∃ x:World,x=wr:=⟨_,rfl⟩
           subst hw15
           obtain⟨L15,hL15⟩:∃ x:List UInt8,x=M:=⟨_,rfl⟩
           subst hL15
           have x9:w15.cell? ⟨w.heap.size,9,none⟩=some (.slice a9 im.relocs.length c9):=HC.out HS15.out 9 _ rfl
           have HN:=Lib.hid (wnum_built wb (·<wb) w15 L15 2 [(im.relocs.length:Int)] HW15.out (by decide) (all1 (okLen_N (by decide) Hok.out.relocs.1)) (by simp only [List.length_cons,List.length_nil];omega) (by simp))
           go_wp2_with fail
           refine HN.out.mono ?_
           rintro e w16 ⟨rfl,hw,hs⟩
           have HS16:=Lib.hid (HS15.out.trans hs)
           obtain⟨L16,hL16⟩:∃ L16,L15++numsL 2 [(im.relocs.length:Int)]=L16:=⟨_,rfl⟩
           have bL16:L16.length≤96630984:=by rw [← hL16];simp only [List.length_append,List.length_nil,numsL_len,List.length_cons];omega
           rw [hL16]at hw
           have HL16:=Lib.hid hL16
           have HW16:=Lib.hid hw
           clear hw hs HN hL16 x9
           have x9:w16.cell? ⟨w.heap.size,9,none⟩=some (.slice a9 im.relocs.length c9):=HC.out HS16.out 9 _ rfl
           obtain⟨la9,lb9,lo9,lc9,hlv,hlm9,hlc9,hlat⟩:=(HI.out HS16.out).relocs.at
           cases hlv
           have Hat9:=Lib.hid hlat
           clear hlat
           have hF9:∀ x∈im.relocs,(relF x).length≤25:=fun x _=>relF_len x
           have HF9:=Lib.hid hF9
           clear hF9
           have hfew9:im.relocs.length≤512:=Hfew.out.relocs
           go_wp2_with fail
           clear x9
           go_loopw [208] (fun i wr=>∃ q:Nat,i=.int .i64 q∧q≤im.relocs.length∧WB wb (·<wb) wr (L16++((im.relocs.take q).map relF).flatten)∧Step (·<wb) w2 wr) (fun i _=>im.relocs.length-(intOf i).toNat)
           case atStart=>exact⟨0,rfl,Nat.zero_le _,by have h:=HW16.out;simpa using h,HS16.out⟩
           case round=>
            obtain⟨q,rfl,hq,hw,hst⟩:=hrel
            have hfl:=flat_take_len relF 25 512 im.relocs q HF9.out (by omega)
            obtain⟨M,hM⟩:∃ M,L16++((im.relocs.take q).map relF).flatten=M:=⟨_,rfl⟩
            have hMl:M.length≤96643784:=by rw [← hM,List.length_append];omega
            rw [hM]at hw
            have HM0:=Lib.hid hM
            have HW:=Lib.hid hw
            have HS:=Lib.hid hst
            clear hw hst hM hfl
            by_cases hlt:q<im.relocs.length
            ·obtain rfl:=Hat9.out.addr (by omega)
             obtain⟨s,hx⟩:∃ s,im.relocs[q]? =some s:=⟨_,List.getElem?_eq_getElem hlt⟩
             have hmem:=List.mem_of_getElem? hx
             have Hft:=Lib.hid (flat_take relF im.relocs q s hx)
             have hsl:=HF9.out s hmem
             have hkk:Keeps (·<w.heap.size) w16 wr:=fun b hb=>by have hb:b<w.heap.size:=hb;rw [HS.out.block b (show b<wb by omega),HS16.out.block b (show b<wb by omega)]
             obtain⟨g0,g1,g2,g3⟩:=(Hat9.out.keeps hkk).rel4 q s hx
             have hoks:=Hok.out.relocs.2 s hmem
             have HSx:=Lib.hid (HS.out.trans (Step.later ((Below.refl _ wr).alloc (Nat.le_refl _) (.cells #[.int .i64 s.at_,.int .i64 s.kind,.int .i64 s.sym,.int .i64 s.add] 53 (0,0))) (fun x hx=>HW.out.inS hx)))
             have HWx:=Lib.hid (HW.out.alloc (.cells #[.int .i64 s.at_,.int .i64 s.kind,.int .i64 s.sym,.int .i64 s.add] 53 (0,0)))
             have HX:=Lib.hid (heap_alloc_new wr (.cells #[.int .i64 s.at_,.int .i64 s.kind,.int .i64 s.sym,.int .i64 s.add] 53 (0,0)))
             have hzx:wr.heap.size<(wr.alloc (.cells #[.int .i64 s.at_,.int .i64 s.kind,.int .i64 s.sym,.int .i64 s.add] 53 (0,0))).heap.size:=by simp
             have HBX0:=Lib.hid (fun b (hb:b<w.heap.size)=>heap_alloc_old wr (.cells #[.int .i64 s.at_,.int .i64 s.kind,.int .i64 s.sym,.int .i64 s.add] 53 (0,0)) (r:=b) (by have:=HW.out.lt;omega))
             clear hx
             go_upto_region 49 with fail
             generalize wr.alloc (.cells #[.int .i64 s.at_,.int .i64 s.kind,.int .i64 s.sym,.int .i64 s.add] 53 (0,0))=v0 at *
             generalize wr.heap.size=zx at *
             have HV0:=Lib.hid (HWx.out)
             have HT0:Hid (Step (fun x=>x<wb∨x=zx) v0 v0):=Lib.hid (Step.refl _ _)
             clear HWx
             have HBX:=Lib.hid (fun b (hb:b<w.heap.size)=>HBX0.out b hb)
             have y1:v0.cell? ⟨zx,1,none⟩=some (.int .i64 s.kind):=by rw [Lib.cell_of_heap ((HT0.out.block zx (Or.inr rfl)).trans HX.out)];rfl
             have HN:=Lib.hid (wnum_built wb (fun x=>x<wb∨x=zx) v0 M 1 [s.kind] HV0.out (by decide) (all1 hoks.1) (by simp only [List.length_cons,List.length_nil,List.length_append,numsL_len,digitsL_len];omega) (by simp))
             go_wp2_with fail
             refine HN.out.mono ?_
             rintro e v1 ⟨rfl,hw,hs⟩
             have HT1:=Lib.hid (HT0.out.trans hs)
             obtain⟨M1,hM1⟩:∃ M1,M++numsL 1 [s.kind]=M1:=⟨_,rfl⟩
             rw [hM1]at hw
             have hlM1:M1.length=M.length+(numsL 1 [s.kind]).length:=by rw [← hM1,List.length_append]
             simp only [numsL_len,List.length_cons,List.length_nil]at hlM1
             have HE1:=Lib.hid hM1
             have HV1:=Lib.hid hw
             clear hw hs HN hM1 y1
             have y0:v1.cell? ⟨zx,0,none⟩=some (.int .i64 s.at_):=by rw [Lib.cell_of_heap ((HT1.out.block zx (Or.inr rfl)).trans HX.out)];rfl
             have y2:v1.cell? ⟨zx,2,none⟩=some (.int .i64 s.sym):=by rw [Lib.cell_of_heap ((HT1.out.block zx (Or.inr rfl)).trans HX.out)];rfl
             have y3:v1.cell? ⟨zx,3,none⟩=some (.int .i64 s.add):=by rw [Lib.cell_of_heap ((HT1.out.block zx (Or.inr rfl)).trans HX.out)];rfl
             have HN:=Lib.hid (wnum_built wb (fun x=>x<wb∨x=zx) v1 M1 8 [s.at_,s.sym,s.add] HV1.out (by decide) (all3 hoks.2.1 hoks.2.2.1 hoks.2.2.2) (by simp only [List.length_cons,List.length_nil,List.length_append,numsL_len,digitsL_len];omega) (by simp))
             go_wp2_with fail
             refine HN.out.mono ?_
             rintro e v2 ⟨rfl,hw,hs⟩
             have HT2:=Lib.hid (HT1.out.trans hs)
             obtain⟨M2,hM2⟩:∃ M2,M1++numsL 8 [s.at_,s.sym,s.add]=M2:=⟨_,rfl⟩
             rw [hM2]at hw
             have hlM2:M2.length=M1.length+(numsL 8 [s.at_,s.sym,s.add]).length:=by rw [← hM2,List.length_append]
             simp only [numsL_len,List.length_cons,List.length_nil]at hlM2
             have HE2:=Lib.hid hM2
             have HV2:=Lib.hid hw
             clear hw hs HN hM2 y0 y2 y3
             have Hfin:Hid (L16++((im.relocs.take (q+1)).map relF).flatten=M2):=Lib.hid (by rw [Hft.out,← List.append_assoc,HM0.out,← HE2.out,← HE1.out];unfold relF;simp only [numsL,List.map_cons,List.map_nil,List.flatten_cons,List.flatten_nil,List.append_nil,List.append_assoc])
             go_wp2
             go_roundw
             case rel=>exact⟨q+1,by go_num,by omega,by rw [Hfin.out];exact HV2.out.less (fun x hx=>Or.inl hx),HSx.out.trans (HT2.out.imp (fun x hx=>Or.inl hx))⟩
             case measure=>simp [intOf];omega
            ·have hall:im.relocs.take q=im.relocs:=List.take_of_length_le (by omega)
             rw [hall]at HM0
             have HL17:Hid (L16++(im.relocs.map relF).flatten=M):=HM0
             have HW17:=HW
             have HS17:=HS
             clear HM0 HW HS hall
             obtain⟨w17,hw17⟩:∃ x:World,x=wr:=⟨_,rfl⟩
             subst hw17
             obtain⟨L17,hL17⟩:∃ x:List UInt8,x=M:=⟨_,rfl⟩
             subst hL17
             have x10:w17.cell? ⟨w.heap.size,10,none⟩=some (.slice a10 im.slots.length c10):=HC.out HS17.out 10 _ rfl
             have HN:=Lib.hid (wnum_built wb (·<wb) w17 L17 2 [(im.slots.length:Int)] HW17.out (by decide) (all1 (okLen_N (by decide) Hok.out.slots.1)) (by simp only [List.length_cons,List.length_nil];omega) (by simp))
             go_wp2_with fail
             refine HN.out.mono ?_
             rintro e w18 ⟨rfl,hw,hs⟩
             have HS18:=Lib.hid (HS17.out.trans hs)
             obtain⟨L18,hL18⟩:∃ L18,L17++numsL 2 [(im.slots.length:Int)]=L18:=⟨_,rfl⟩
             have bL18:L18.length≤96643786:=by rw [← hL18];simp only [List.length_append,List.length_nil,numsL_len,List.length_cons];omega
             rw [hL18]at hw
             have HL18:=Lib.hid hL18
             have HW18:=Lib.hid hw
             clear hw hs HN hL18 x10
             have x10:w18.cell? ⟨w.heap.size,10,none⟩=some (.slice a10 im.slots.length c10):=HC.out HS18.out 10 _ rfl
             obtain⟨la10,lb10,lo10,lc10,hlv,hlm10,hlc10,hlat⟩:=(HI.out HS18.out).slots.at
             cases hlv
             have Hat10:=Lib.hid hlat
             clear hlat
             have hF10:∀ x∈im.slots,(slotF x).length≤12:=fun x _=>slotF_len x
             have HF10:=Lib.hid hF10
             clear hF10
             have hfew10:im.slots.length≤128:=Hfew.out.slots
             go_wp2_with fail
             clear x10
             go_loopw [236] (fun i wr=>∃ q:Nat,i=.int .i64 q∧q≤im.slots.length∧WB wb (·<wb) wr (L18++((im.slots.take q).map slotF).flatten)∧Step (·<wb) w2 wr) (fun i _=>im.slots.length-(intOf i).toNat)
             case atStart=>exact⟨0,rfl,Nat.zero_le _,by have h:=HW18.out;simpa using h,HS18.out⟩
             case round=>
              obtain⟨q,rfl,hq,hw,hst⟩:=hrel
              have hfl:=flat_take_len slotF 12 128 im.slots q HF10.out (by omega)
              obtain⟨M,hM⟩:∃ M,L18++((im.slots.take q).map slotF).flatten=M:=⟨_,rfl⟩
              have hMl:M.length≤96645322:=by rw [← hM,List.length_append];omega
              rw [hM]at hw
              have HM0:=Lib.hid hM
              have HW:=Lib.hid hw
              have HS:=Lib.hid hst
              clear hw hst hM hfl
              by_cases hlt:q<im.slots.length
              ·obtain rfl:=Hat10.out.addr (by omega)
               obtain⟨s,hx⟩:∃ s,im.slots[q]? =some s:=⟨_,List.getElem?_eq_getElem hlt⟩
               have hmem:=List.mem_of_getElem? hx
               have Hft:=Lib.hid (flat_take slotF im.slots q s hx)
               have hsl:=HF10.out s hmem
               have hkk:Keeps (·<w.heap.size) w18 wr:=fun b hb=>by have hb:b<w.heap.size:=hb;rw [HS.out.block b (show b<wb by omega),HS18.out.block b (show b<wb by omega)]
               obtain⟨g0,g1,g2⟩:=(Hat10.out.keeps hkk).slot3 q s hx
               have hoks:=Hok.out.slots.2 s hmem
               have HSx:=Lib.hid (HS.out.trans (Step.later ((Below.refl _ wr).alloc (Nat.le_refl _) (.cells #[.int .i64 s.at_,.int .i64 s.sym,.int .i64 s.stub] 76 (0,0))) (fun x hx=>HW.out.inS hx)))
               have HWx:=Lib.hid (HW.out.alloc (.cells #[.int .i64 s.at_,.int .i64 s.sym,.int .i64 s.stub] 76 (0,0)))
               have HX:=Lib.hid (heap_alloc_new wr (.cells #[.int .i64 s.at_,.int .i64 s.sym,.int .i64 s.stub] 76 (0,0)))
               have hzx:wr.heap.size<(wr.alloc (.cells #[.int .i64 s.at_,.int .i64 s.sym,.int .i64 s.stub] 76 (0,0))).heap.size:=by simp
               have HBX0:=Lib.hid (fun b (hb:b<w.heap.size)=>heap_alloc_old wr (.cells #[.int .i64 s.at_,.int .i64 s.sym,.int .i64 s.stub] 76 (0,0)) (r:=b) (by have:=HW.out.lt;omega))
               clear hx
               go_upto_region 56 with fail
               generalize wr.alloc (.cells #[.int .i64 s.at_,.int .i64 s.sym,.int .i64 s.stub] 76 (0,0))=v0 at *
               generalize wr.heap.size=zx at *
               have HV0:=Lib.hid (HWx.out)
               have HT0:Hid (Step (fun x=>x<wb∨x=zx) v0 v0):=Lib.hid (Step.refl _ _)
               clear HWx
               have HBX:=Lib.hid (fun b (hb:b<w.heap.size)=>HBX0.out b hb)
               have y0:v0.cell? ⟨zx,0,none⟩=some (.int .i64 s.at_):=by rw [Lib.cell_of_heap ((HT0.out.block zx (Or.inr rfl)).trans HX.out)];rfl
               have y1:v0.cell? ⟨zx,1,none⟩=some (.int .i64 s.sym):=by rw [Lib.cell_of_heap ((HT0.out.block zx (Or.inr rfl)).trans HX.out)];rfl
               have y2:v0.cell? ⟨zx,2,none⟩=some (.int .i64 s.stub):=by rw [Lib.cell_of_heap ((HT0.out.block zx (Or.inr rfl)).trans HX.out)];rfl
               have HN:=Lib.hid (wnum_built wb (fun x=>x<wb∨x=zx) v0 M 4 [s.at_,s.sym,s.stub] HV0.out (by decide) (all3 hoks.1 hoks.2.1 hoks.2.2) (by simp only [List.length_cons,List.length_nil,List.length_append,numsL_len,digitsL_len];omega) (by simp))
               go_wp2_with fail
               refine HN.out.mono ?_
               rintro e v1 ⟨rfl,hw,hs⟩
               have HT1:=Lib.hid (HT0.out.trans hs)
               obtain⟨M1,hM1⟩:∃ M1,M++numsL 4 [s.at_,s.sym,s.stub]=M1:=⟨_,rfl⟩
               rw [hM1]at hw
               have hlM1:M1.length=M.length+(numsL 4 [s.at_,s.sym,s.stub]).length:=by rw [← hM1,List.length_append]
               simp only [numsL_len,List.length_cons,List.length_nil]at hlM1
               have HE1:=Lib.hid hM1
               have HV1:=Lib.hid hw
               clear hw hs HN hM1 y0 y1 y2
               have Hfin:Hid (L18++((im.slots.take (q+1)).map slotF).flatten=M1):=Lib.hid (by rw [Hft.out,← List.append_assoc,HM0.out,← HE1.out];unfold slotF;simp only [numsL,List.map_cons,List.map_nil,List.flatten_cons,List.flatten_nil,List.append_nil,List.append_assoc])
               go_wp2
               go_roundw
               case rel=>exact⟨q+1,by go_num,by omega,by rw [Hfin.out];exact HV1.out.less (fun x hx=>Or.inl hx),HSx.out.trans (HT1.out.imp (fun x hx=>Or.inl hx))⟩
               case measure=>simp [intOf];omega
              ·have hall:im.slots.take q=im.slots:=List.take_of_length_le (by omega)
               rw [hall]at HM0
               have HL19:Hid (L18++(im.slots.map slotF).flatten=M):=HM0
               have HW19:=HW
               have HS19:=HS
               clear HM0 HW HS hall
               obtain⟨w19,hw19⟩:∃ x:World,x=wr:=⟨_,rfl⟩
               subst hw19
               obtain⟨L19,hL19⟩:∃ x:List UInt8,x=M:=⟨_,rfl⟩
               subst hL19
               have x11:w19.cell? ⟨w.heap.size,11,none⟩=some (.slice a11 im.init.length c11):=HC.out HS19.out 11 _ rfl
               have x12:w19.cell? ⟨w.heap.size,12,none⟩=some (.slice a12 im.fini.length c12):=HC.out HS19.out 12 _ rfl
               have HWr:=Lib.hid (HW19.out.alloc (.cells #[.slice a11 im.init.length c11,.slice a12 im.fini.length c12] 38 (0,0)))
               have HXr:=Lib.hid (heap_alloc_new w19 (.cells #[.slice a11 im.init.length c11,.slice a12 im.fini.length c12] 38 (0,0)))
               have HSr:=Lib.hid (HS19.out.trans (Step.later ((Below.refl _ w19).alloc (Nat.le_refl _) (.cells #[.slice a11 im.init.length c11,.slice a12 im.fini.length c12] 38 (0,0))) (fun x hx=>HW19.out.inS hx)))
               have hzr:w19.heap.size<(w19.alloc (.cells #[.slice a11 im.init.length c11,.slice a12 im.fini.length c12] 38 (0,0))).heap.size:=by simp
               go_upto_region 59 with fail
               generalize w19.alloc (.cells #[.slice a11 im.init.length c11,.slice a12 im.fini.length c12] 38 (0,0))=wa at *
               generalize w19.heap.size=zr at *
               go_wp2_with fail
               go_loopw [21,256] (fun _ i wr=>∃ q:Nat,i=.int .i64 q∧q≤2∧WB wb (fun x=>x<wb∨x=zr) wr (L19++runsF im q)∧Step (fun x=>x<wb∨x=zr) wa wr) (fun _ i _=>2-(intOf i).toNat)
               case atStart=>exact⟨0,rfl,by decide,by have h:=HWr.out;simpa [runsF] using h,Step.refl _ _⟩
               case round=>
                obtain⟨q,rfl,hq,hw,hst⟩:=hrel
                have hrl:=runsF_len im q Hok.out
                obtain⟨M,hM⟩:∃ M,L19++runsF im q=M:=⟨_,rfl⟩
                have hMl:M.length≤96647372:=by rw [← hM,List.length_append];omega
                rw [hM]at hw
                have HM0:=Lib.hid hM
                have HW:=Lib.hid hw
                have HS:=Lib.hid hst
                have hzx:=(hst.block zr (Or.inr rfl)).trans HXr.out
                have HIr:=Lib.hid (HI.out (HSr.out.trans (hst.imp (fun x hx=>Or.inl hx))))
                clear hw hst hM hrl
                by_cases hlt:q<2
                ·obtain⟨s,ea,ec,hcell,hev,hl1,hoks,hrf⟩:∃ (s:List Int) (ea:Option Addr) (ec:Nat),wr.cell? ⟨zr,q,none⟩=some (.slice ea s.length ec)∧LB kInt (·<w.heap.size) wr (.slice ea s.length ec) s∧okLen 1 s.length∧(∀ x∈s,okN 4 x)∧runsF im (q+1)=runsF im q++(digitsL 1 s.length++numsL 4 s):=by
                  have hq2:q=0∨q=1:=by omega
                  rcases hq2 with rfl | rfl
                  ·exact⟨im.init,_,_,(by rw [Lib.cell_of_heap hzx];rfl),HIr.out.init,Hok.out.init.1,Hok.out.init.2,by simp [runsF]⟩
                  ·exact⟨im.fini,_,_,(by rw [Lib.cell_of_heap hzx];rfl),HIr.out.fini,Hok.out.fini.1,Hok.out.fini.2,by simp [runsF]⟩
                 have Hev:=Lib.hid hev
                 have Hrf:=Lib.hid hrf
                 have hl2:s.length<256:=hl1
                 have HN:=Lib.hid (wnum_built wb (fun x=>x<wb∨x=zr) wr M 1 [(s.length:Int)] HW.out (by decide) (all1 (okLen_N (by decide) hl1)) (by simp only [List.length_cons,List.length_nil];omega) (by simp))
                 clear hev hrf hzx HIr
                 go_wp2_with fail
                 refine HN.out.mono ?_
                 rintro e v1 ⟨rfl,hw,hs⟩
                 have HT1:=Lib.hid hs
                 have HV1:=Lib.hid hw
                 have hl4:=numsL_len 1 [(s.length:Int)]
                 simp only [List.length_cons,List.length_nil]at hl4
                 have HN2:=Lib.hid (wnum_any wb (fun x=>x<wb∨x=zr) v1 _ 4 s (.slice ea s.length ec) HV1.out ((Hev.out.keeps (fun b hb=>by have hb:b<w.heap.size:=hb;rw [HT1.out.block b (Or.inl (hsub b hb))])).imp (fun x hx=>Or.inl (hsub x hx))) (by decide) hoks (fun n hn=>okN_i64 (by decide) (hoks n hn)) (by rw [List.length_append];omega))
                 clear hw hs HN hcell
                 go_wp2_with fail
                 refine HN2.out.mono ?_
                 rintro e v2 ⟨rfl,hw,hs⟩
                 have HT2:=Lib.hid (HT1.out.trans hs)
                 have Hfin:Hid (WB wb (fun x=>x<wb∨x=zr) v2 (L19++runsF im (q+1))):=Lib.hid (by
                  rw [Hrf.out,← List.append_assoc,HM0.out,← List.append_assoc,← numsL_one];exact hw)
                 clear hw hs HN2
                 go_wp2
                 go_roundw
                 case rel=>exact⟨q+1,by go_num,by omega,Hfin.out,HS.out.trans HT2.out⟩
                 case measure=>simp [intOf];omega
                ·have hq2:q=2:=by omega
                 rw [hq2]at HM0
                 have HL20:=HM0
                 have HW20:=Lib.hid (HW.out.less (S':=(·<wb)) (fun x hx=>Or.inl hx))
                 have HS20:=Lib.hid (HSr.out.trans (HS.out.imp (S':=(·<wb)) (fun x hx=>Or.inl hx)))
                 clear HM0 HW HS hzx HIr
                 obtain⟨w20,hw20⟩:∃ x:World,x=wr:=⟨_,rfl⟩
                 subst hw20
                 obtain⟨L20,hL20⟩:∃ x:List UInt8,x=M:=⟨_,rfl⟩
                 subst hL20
                 have x14:w20.cell? ⟨w.heap.size,14,none⟩=some (.int .i64 im.tlsSize):=HC.out HS20.out 14 _ rfl
                 have HN:=Lib.hid (wnum_built wb (·<wb) w20 L20 2 [im.tlsSize] HW20.out (by decide) (all1 Hok.out.tlsSize) (by simp only [List.length_cons,List.length_nil];omega) (by simp))
                 go_wp2_with fail
                 refine HN.out.mono ?_
                 rintro e w21 ⟨rfl,hw,hs⟩
                 have HS21:=Lib.hid (HS20.out.trans hs)
                 obtain⟨L21,hL21⟩:∃ L21,L20++numsL 2 [im.tlsSize]=L21:=⟨_,rfl⟩
                 have bL21:L21.length≤96647374:=by rw [← hL21];simp only [List.length_append,List.length_nil,numsL_len,List.length_cons];omega
                 rw [hL21]at hw
                 have HL21:=Lib.hid hL21
                 have HW21:=Lib.hid hw
                 clear hw hs HN hL21 x14
                 have x13:w21.cell? ⟨w.heap.size,13,none⟩=some (.slice a13 im.tls.length c13):=HC.out HS21.out 13 _ rfl
                 have htl:im.tls.length≤1048576:=Hok.out.tls
                 have hpl:(blockL im.tls).length=4+im.tls.length:=by unfold blockL;rw [List.length_append,digitsL_len]
                 have HN:=Lib.hid (wblock_any wb (·<wb) w21 L21 im.tls _ HW21.out ((HI.out HS21.out).tls.imp (fun x hx=>hsub x hx)) htl (by omega))
                 go_wp2_with fail
                 refine HN.out.mono ?_
                 rintro e w22 ⟨rfl,hw,hs⟩
                 have HS22:=Lib.hid (HS21.out.trans hs)
                 obtain⟨L22,hL22⟩:∃ L22,L21++blockL im.tls=L22:=⟨_,rfl⟩
                 have bL22:L22.length≤97695954:=by rw [← hL22];simp only [List.length_append,List.length_nil,numsL_len,List.length_cons];omega
                 rw [hL22]at hw
                 have HL22:=Lib.hid hL22
                 have HW22:=Lib.hid hw
                 clear hw hs HN hL22 x13
                 have Hfin:Hid (L22=formL im):=Lib.hid (by
                  rw [← HL22.out,← HL21.out,← HL20.out,← HL19.out,← HL18.out,← HL17.out,← HL16.out,← HL15.out,← HL14.out,← HL13.out,← HL12.out,← HL11.out,← HL10.out,← HL9.out,← HL8.out,← HL7.out,← HL6.out,← HL5.out,← HL4.out,← HL3.out]
                  rw [← formR_eq]
                  unfold formR runsF magicL
                  simp only [numsL,textsL,textL',List.map_cons,List.map_nil,List.flatten_cons,List.flatten_nil,List.append_nil,List.nil_append,List.append_assoc,List.take_succ_cons,List.take_zero,List.take_nil,List.length_cons,List.length_nil])
                 have HN:=Lib.hid (wbytes_any wb (·<wb) w22 L22 HW22.out (by omega))
                 go_wp2_with fail
                 refine HN.out.mono ?_
                 rintro e wz ⟨r,rfl,hown,hbz⟩
                 have Hown:Hid (OwnK 5 kByte w.heap.size (fun _=>False) wz r (formL im)):=Lib.hid (by rw [← Hfin.out];exact hown.mono (by have:=HS22.out.size;omega))
                 have Hbz:Hid (Below w.heap.size w wz):=Lib.hid ((B2.out.trans (HS22.out.imp (fun x hx=>hsub x hx)).below).trans (hbz.mono (by have:=HS22.out.size;omega)))
                 clear hown hbz HN
                 go_wp2
                 go_ret2
                 exact⟨r,by rw [Hm0.out];rfl,Hbz.out,fun h=>absurd Hm0.out h,fun _=>Hown.out⟩
end Go.Proofs.YtfchpchabdhcgaaGreat
