/- Lemmas. -/
import Derived.Test.YtfchpchabdhcgaaGreatDec31
import Derived.Test.YtfchpchabdhcgaaGreatDec29
import Derived.Deep.DeepCutAuto
set_option linter.unusedVariables false
set_option linter.unusedSimpArgs false
set_option maxHeartbeats 64000000
set_option maxRecDepth 100000
namespace Go.Proofs.YtfchpchabdhcgaaGreat
open Go.RowKit
theorem dlist6 {Q:Exit→Act→World→Prop} (hP:∀ x a a' w,a'.defers=a.defers→Q (.panic x) a w→Q (.panic x) a' w) {a:Act} {w5:World} {z lb rb gb ib:Nat} {s:Option (List UInt8)} {name:List UInt8} {flags sh tl:Int} {y0 y1 y3 y4 y5 y6 y7 y8 y9 y10:Value} (hF:Fr [(2,.pointer (some ⟨z,0,none⟩)),(4,.pointer (some ⟨lb,0,none⟩)),(5,.pointer (some ⟨ib,0,none⟩))] a) (hL:LD lb rb gb w5 s) (hX:w5.heap[ib]? =some (imgBlock name flags ⟨y0,y1,.slice none 0 0,y3,y4,y5,y6,y7,y8,y9,y10⟩ sh tl)) (hir:ib≠rb) (hil:ib≠lb) (hig:ib≠gb) (hne:lb≠rb) (hng:lb≠gb) (hib5:ib<w5.heap.size)
  (hQ:∀ (a':Act) (w':World) (m:Nat) (xs:List (List UInt8)) (s1 s2:Option (List UInt8)) (v:Value),Fr [(2,.pointer (some ⟨z,0,none⟩)),(4,.pointer (some ⟨lb,0,none⟩)),(5,.pointer (some ⟨ib,0,none⟩))] a'→Got (numP 1) s m s1→okLen 1 m→xs.length=m→Got (manyP textP m) s1 xs s2→(∀ x∈xs,(fun x=>x.length≤4096) x)→LD lb rb gb w' s2→w'.heap[ib]? =some (imgBlock name flags ⟨y0,y1,v,y3,y4,y5,y6,y7,y8,y9,y10⟩ sh tl)→Step (fun x=>x<w5.heap.size∧x≠rb∧x≠lb∧x≠ib) w5 w'→LB kStr (fun b=>w5.heap.size≤b∧b<w'.heap.size) w' v xs→Q .normal a' w'):(dCode Tryz.f6 6).wp Tryz.prog Q a w5:=by
 have L5:=Lib.hid hL
 have X5:=Lib.hid hX
 have HQ:=Lib.hid hQ
 have hz5:w5.heap.size≤w5.heap.size:=Nat.le_refl _
 have hlb5:=hL.lt
 have hrb5:=hL.rblt
 have hgb5:=hL.gblt
 clear hL hX hQ
 apply Fr.elim hF
 clear hF
 intro _ _
 intro V2
 intro _
 intro V4
 intro V5
 iterate 326 (intro _)
 intro hF
 obtain⟨-,-,e2,e4,e5,-⟩:=hF
 replace e2:V2=.pointer (some ⟨z,0,none⟩):=e2
 subst e2
 replace e4:V4=.pointer (some ⟨lb,0,none⟩):=e4
 subst e4
 replace e5:V5=.pointer (some ⟨ib,0,none⟩):=e5
 subst e5
 conv in dCode Tryz.f6 6=>whnf
 have c0:=L5.out.cell
 have L0:=L5
 have T0:=Lib.hid (Step.refl (fun x=>x<w5.heap.size∧x≠rb) w5)
 have HN:=Lib.hid (ldnum w5 lb rb gb _ 1 L0.out (by decide))
 go_wp2_with fail
 refine HN.out.mono ?_
 clear HN
 rintro e v1 ⟨nxs,t6,rfl,Gnxs,Knxs,hl,hs,-⟩
 have hzv1:=hs.size
 have L1:=Lib.hid hl
 replace Gnxs:=Lib.hid Gnxs
 replace Knxs:=Lib.hid Knxs
 have T1:=Lib.hid (T0.out.trans (hs.imp (fun x hx=>hx.2)))
 clear hl hs L0 T0
 clear c0
 obtain⟨m1,rfl,hmm1⟩:=okN_idx (by decide) Knxs.out
 have hm1:m1<256:=hmm1
 replace hmm1:=Lib.hid hmm1
 have c1:=L1.out.cell
 have HN:=Lib.hid (ldtexts v1 lb rb gb _ m1 L1.out (by omega))
 go_wp2_with fail
 refine HN.out.mono ?_
 clear HN
 rintro e v2 ⟨yxs,rfl,hq⟩
 obtain⟨xs,u6,Zxs,Kxs,Gxs,hl,hs,HBk⟩:=LQ.done v1.heap.size (Nat.le_refl _) hq
 clear hq
 replace Zxs:=Lib.hid Zxs
 replace HBk:=Lib.hid HBk
 have hzv2:=hs.size
 have L2:=Lib.hid hl
 replace Gxs:=Lib.hid Gxs
 replace Kxs:=Lib.hid Kxs
 have T2:=Lib.hid (T1.out.trans (hs.imp (fun x hx=>⟨by have:=hx.1;omega,hx.2⟩)))
 clear hl hs L1 T1
 clear c1
 obtain⟨ya,yc,rfl⟩:=HBk.out.form
 have XI:=Lib.hid ((T2.out.block ib ⟨by omega,hir⟩).trans X5.out)
 have cI:v2.cell? ⟨ib,4,none⟩=some (.slice none 0 0):=by rw [Lib.cell_of_heap XI.out];rfl
 have fI:v2.frozen? ⟨ib,4,none⟩=false:=Lib.frozen_of_heap XI.out 4
 go_wp2_with fail
 have X6:=Lib.hid (setCell_row (k:=4) (.slice ya xs.length yc) XI.out)
 have L1000:=Lib.hid (L2.out.step (setCell_step _ ib 4 (.slice ya xs.length yc)) (by show lb≠ib;omega) (by show rb≠ib;omega) (by show gb≠ib;omega))
 have Q6:Hid (Step (fun x=>x<w5.heap.size∧x≠rb∧x≠lb∧x≠ib) w5 (v2.setCell ⟨ib,4,none⟩ (.slice ya xs.length yc))):=Lib.hid ((T2.out.imp (fun x hx=>⟨hx.1,hx.2.1⟩)).trans ((setCell_step _ ib 4 (.slice ya xs.length yc)).imp (fun x hx=>hx.2.2.2)))
 clear cI fI XI X5 L2 T2
 try clear L5
 have Pxs:=Lib.hid (LB.far (B':=w5.heap.size) HBk.out (setCell_step _ ib 4 (.slice ya xs.length yc)) (fun b h _=>by show b≠ib;omega) (by omega))
 clear HBk
 have hz6:w5.heap.size≤(v2.setCell ⟨ib,4,none⟩ (.slice ya xs.length yc)).heap.size:=by simp;omega
 have L6:=L1000
 clear L1000
 generalize v2.setCell ⟨ib,4,none⟩ (.slice ya xs.length yc)=w6 at *
 try clear hzv1 hzv2
 exact HQ.out _ _ m1 xs _ _ (.slice ya xs.length yc) ⟨by kernel_rfl,rfl,(by kernel_rfl),(by kernel_rfl),(by kernel_rfl),trivial⟩ Gnxs.out hmm1.out Zxs.out Gxs.out Kxs.out L6.out X6.out Q6.out Pxs.out
theorem dlist13 {Q:Exit→Act→World→Prop} (hP:∀ x a a' w,a'.defers=a.defers→Q (.panic x) a w→Q (.panic x) a' w) {a:Act} {w5:World} {z lb rb gb ib:Nat} {s:Option (List UInt8)} {name:List UInt8} {flags sh tl:Int} {y0 y1 y2 y3 y4 y5 y6 y7 y9 y10:Value} (hF:Fr [(2,.pointer (some ⟨z,0,none⟩)),(4,.pointer (some ⟨lb,0,none⟩)),(5,.pointer (some ⟨ib,0,none⟩))] a) (hL:LD lb rb gb w5 s) (hX:w5.heap[ib]? =some (imgBlock name flags ⟨y0,y1,y2,y3,y4,y5,y6,y7,.slice none 0 0,y9,y10⟩ sh tl)) (hir:ib≠rb) (hil:ib≠lb) (hig:ib≠gb) (hne:lb≠rb) (hng:lb≠gb) (hib5:ib<w5.heap.size)
  (hQ:∀ (a':Act) (w':World) (m:Nat) (xs:List Int) (s1 s2:Option (List UInt8)) (v:Value),Fr [(2,.pointer (some ⟨z,0,none⟩)),(4,.pointer (some ⟨lb,0,none⟩)),(5,.pointer (some ⟨ib,0,none⟩))] a'→Got (numP 1) s m s1→okLen 1 m→xs.length=m→Got (manyP (numP 4) m) s1 xs s2→(∀ x∈xs,(okN 4) x)→LD lb rb gb w' s2→w'.heap[ib]? =some (imgBlock name flags ⟨y0,y1,y2,y3,y4,y5,y6,y7,v,y9,y10⟩ sh tl)→Step (fun x=>x<w5.heap.size∧x≠rb∧x≠lb∧x≠ib) w5 w'→LB kInt (fun b=>w5.heap.size≤b∧b<w'.heap.size) w' v xs→Q .normal a' w'):(dCode Tryz.f6 13).wp Tryz.prog Q a w5:=by
 have L5:=Lib.hid hL
 have X5:=Lib.hid hX
 have HQ:=Lib.hid hQ
 have hz5:w5.heap.size≤w5.heap.size:=Nat.le_refl _
 have hlb5:=hL.lt
 have hrb5:=hL.rblt
 have hgb5:=hL.gblt
 clear hL hX hQ
 apply Fr.elim hF
 clear hF
 intro _ _
 intro V2
 intro _
 intro V4
 intro V5
 iterate 326 (intro _)
 intro hF
 obtain⟨-,-,e2,e4,e5,-⟩:=hF
 replace e2:V2=.pointer (some ⟨z,0,none⟩):=e2
 subst e2
 replace e4:V4=.pointer (some ⟨lb,0,none⟩):=e4
 subst e4
 replace e5:V5=.pointer (some ⟨ib,0,none⟩):=e5
 subst e5
 conv in dCode Tryz.f6 13=>whnf
 have c0:=L5.out.cell
 have L0:=L5
 have T0:=Lib.hid (Step.refl (fun x=>x<w5.heap.size∧x≠rb) w5)
 have HN:=Lib.hid (ldnum w5 lb rb gb _ 1 L0.out (by decide))
 go_wp2_with fail
 refine HN.out.mono ?_
 clear HN
 rintro e v1 ⟨nxs,t6,rfl,Gnxs,Knxs,hl,hs,-⟩
 have hzv1:=hs.size
 have L1:=Lib.hid hl
 replace Gnxs:=Lib.hid Gnxs
 replace Knxs:=Lib.hid Knxs
 have T1:=Lib.hid (T0.out.trans (hs.imp (fun x hx=>hx.2)))
 clear hl hs L0 T0
 clear c0
 obtain⟨m1,rfl,hmm1⟩:=okN_idx (by decide) Knxs.out
 have hm1:m1<256:=hmm1
 replace hmm1:=Lib.hid hmm1
 have c1:=L1.out.cell
 have HN:=Lib.hid (ldnums v1 lb rb gb _ m1 4 L1.out (by decide) (by omega))
 go_wp2_with fail
 refine HN.out.mono ?_
 clear HN
 rintro e v2 ⟨yxs,rfl,hq⟩
 obtain⟨xs,u6,Zxs,Kxs,Gxs,hl,hs,HBk⟩:=LQ.done v1.heap.size (Nat.le_refl _) hq
 clear hq
 replace Zxs:=Lib.hid Zxs
 replace HBk:=Lib.hid HBk
 have hzv2:=hs.size
 have L2:=Lib.hid hl
 replace Gxs:=Lib.hid Gxs
 replace Kxs:=Lib.hid Kxs
 have T2:=Lib.hid (T1.out.trans (hs.imp (fun x hx=>⟨by have:=hx.1;omega,hx.2⟩)))
 clear hl hs L1 T1
 clear c1
 obtain⟨ya,yc,rfl⟩:=HBk.out.form
 have XI:=Lib.hid ((T2.out.block ib ⟨by omega,hir⟩).trans X5.out)
 have cI:v2.cell? ⟨ib,11,none⟩=some (.slice none 0 0):=by rw [Lib.cell_of_heap XI.out];rfl
 have fI:v2.frozen? ⟨ib,11,none⟩=false:=Lib.frozen_of_heap XI.out 11
 go_wp2_with fail
 have X6:=Lib.hid (setCell_row (k:=11) (.slice ya xs.length yc) XI.out)
 have L1000:=Lib.hid (L2.out.step (setCell_step _ ib 11 (.slice ya xs.length yc)) (by show lb≠ib;omega) (by show rb≠ib;omega) (by show gb≠ib;omega))
 have Q6:Hid (Step (fun x=>x<w5.heap.size∧x≠rb∧x≠lb∧x≠ib) w5 (v2.setCell ⟨ib,11,none⟩ (.slice ya xs.length yc))):=Lib.hid ((T2.out.imp (fun x hx=>⟨hx.1,hx.2.1⟩)).trans ((setCell_step _ ib 11 (.slice ya xs.length yc)).imp (fun x hx=>hx.2.2.2)))
 clear cI fI XI X5 L2 T2
 try clear L5
 have Pxs:=Lib.hid (LB.far (B':=w5.heap.size) HBk.out (setCell_step _ ib 11 (.slice ya xs.length yc)) (fun b h _=>by show b≠ib;omega) (by omega))
 clear HBk
 have hz6:w5.heap.size≤(v2.setCell ⟨ib,11,none⟩ (.slice ya xs.length yc)).heap.size:=by simp;omega
 have L6:=L1000
 clear L1000
 generalize v2.setCell ⟨ib,11,none⟩ (.slice ya xs.length yc)=w6 at *
 try clear hzv1 hzv2
 exact HQ.out _ _ m1 xs _ _ (.slice ya xs.length yc) ⟨by kernel_rfl,rfl,(by kernel_rfl),(by kernel_rfl),(by kernel_rfl),trivial⟩ Gnxs.out hmm1.out Zxs.out Gxs.out Kxs.out L6.out X6.out Q6.out Pxs.out
theorem dlist14 {Q:Exit→Act→World→Prop} (hP:∀ x a a' w,a'.defers=a.defers→Q (.panic x) a w→Q (.panic x) a' w) {a:Act} {w5:World} {z lb rb gb ib:Nat} {s:Option (List UInt8)} {name:List UInt8} {flags sh tl:Int} {y0 y1 y2 y3 y4 y5 y6 y7 y8 y10:Value} (hF:Fr [(2,.pointer (some ⟨z,0,none⟩)),(4,.pointer (some ⟨lb,0,none⟩)),(5,.pointer (some ⟨ib,0,none⟩))] a) (hL:LD lb rb gb w5 s) (hX:w5.heap[ib]? =some (imgBlock name flags ⟨y0,y1,y2,y3,y4,y5,y6,y7,y8,.slice none 0 0,y10⟩ sh tl)) (hir:ib≠rb) (hil:ib≠lb) (hig:ib≠gb) (hne:lb≠rb) (hng:lb≠gb) (hib5:ib<w5.heap.size)
  (hQ:∀ (a':Act) (w':World) (m:Nat) (xs:List Int) (s1 s2:Option (List UInt8)) (v:Value),Fr [(2,.pointer (some ⟨z,0,none⟩)),(4,.pointer (some ⟨lb,0,none⟩)),(5,.pointer (some ⟨ib,0,none⟩))] a'→Got (numP 1) s m s1→okLen 1 m→xs.length=m→Got (manyP (numP 4) m) s1 xs s2→(∀ x∈xs,(okN 4) x)→LD lb rb gb w' s2→w'.heap[ib]? =some (imgBlock name flags ⟨y0,y1,y2,y3,y4,y5,y6,y7,y8,v,y10⟩ sh tl)→Step (fun x=>x<w5.heap.size∧x≠rb∧x≠lb∧x≠ib) w5 w'→LB kInt (fun b=>w5.heap.size≤b∧b<w'.heap.size) w' v xs→Q .normal a' w'):(dCode Tryz.f6 14).wp Tryz.prog Q a w5:=by
 have L5:=Lib.hid hL
 have X5:=Lib.hid hX
 have HQ:=Lib.hid hQ
 have hz5:w5.heap.size≤w5.heap.size:=Nat.le_refl _
 have hlb5:=hL.lt
 have hrb5:=hL.rblt
 have hgb5:=hL.gblt
 clear hL hX hQ
 apply Fr.elim hF
 clear hF
 intro _ _
 intro V2
 intro _
 intro V4
 intro V5
 iterate 326 (intro _)
 intro hF
 obtain⟨-,-,e2,e4,e5,-⟩:=hF
 replace e2:V2=.pointer (some ⟨z,0,none⟩):=e2
 subst e2
 replace e4:V4=.pointer (some ⟨lb,0,none⟩):=e4
 subst e4
 replace e5:V5=.pointer (some ⟨ib,0,none⟩):=e5
 subst e5
 conv in dCode Tryz.f6 14=>whnf
 have c0:=L5.out.cell
 have L0:=L5
 have T0:=Lib.hid (Step.refl (fun x=>x<w5.heap.size∧x≠rb) w5)
 have HN:=Lib.hid (ldnum w5 lb rb gb _ 1 L0.out (by decide))
 go_wp2_with fail
 refine HN.out.mono ?_
 clear HN
 rintro e v1 ⟨nxs,t6,rfl,Gnxs,Knxs,hl,hs,-⟩
 have hzv1:=hs.size
 have L1:=Lib.hid hl
 replace Gnxs:=Lib.hid Gnxs
 replace Knxs:=Lib.hid Knxs
 have T1:=Lib.hid (T0.out.trans (hs.imp (fun x hx=>hx.2)))
 clear hl hs L0 T0
 clear c0
 obtain⟨m1,rfl,hmm1⟩:=okN_idx (by decide) Knxs.out
 have hm1:m1<256:=hmm1
 replace hmm1:=Lib.hid hmm1
 have c1:=L1.out.cell
 have HN:=Lib.hid (ldnums v1 lb rb gb _ m1 4 L1.out (by decide) (by omega))
 go_wp2_with fail
 refine HN.out.mono ?_
 clear HN
 rintro e v2 ⟨yxs,rfl,hq⟩
 obtain⟨xs,u6,Zxs,Kxs,Gxs,hl,hs,HBk⟩:=LQ.done v1.heap.size (Nat.le_refl _) hq
 clear hq
 replace Zxs:=Lib.hid Zxs
 replace HBk:=Lib.hid HBk
 have hzv2:=hs.size
 have L2:=Lib.hid hl
 replace Gxs:=Lib.hid Gxs
 replace Kxs:=Lib.hid Kxs
 have T2:=Lib.hid (T1.out.trans (hs.imp (fun x hx=>⟨by have:=hx.1;omega,hx.2⟩)))
 clear hl hs L1 T1
 clear c1
 obtain⟨ya,yc,rfl⟩:=HBk.out.form
 have XI:=Lib.hid ((T2.out.block ib ⟨by omega,hir⟩).trans X5.out)
 have cI:v2.cell? ⟨ib,12,none⟩=some (.slice none 0 0):=by rw [Lib.cell_of_heap XI.out];rfl
 have fI:v2.frozen? ⟨ib,12,none⟩=false:=Lib.frozen_of_heap XI.out 12
 go_wp2_with fail
 have X6:=Lib.hid (setCell_row (k:=12) (.slice ya xs.length yc) XI.out)
 have L1000:=Lib.hid (L2.out.step (setCell_step _ ib 12 (.slice ya xs.length yc)) (by show lb≠ib;omega) (by show rb≠ib;omega) (by show gb≠ib;omega))
 have Q6:Hid (Step (fun x=>x<w5.heap.size∧x≠rb∧x≠lb∧x≠ib) w5 (v2.setCell ⟨ib,12,none⟩ (.slice ya xs.length yc))):=Lib.hid ((T2.out.imp (fun x hx=>⟨hx.1,hx.2.1⟩)).trans ((setCell_step _ ib 12 (.slice ya xs.length yc)).imp (fun x hx=>hx.2.2.2)))
 clear cI fI XI X5 L2 T2
 try clear L5
 have Pxs:=Lib.hid (LB.far (B':=w5.heap.size) HBk.out (setCell_step _ ib 12 (.slice ya xs.length yc)) (fun b h _=>by show b≠ib;omega) (by omega))
 clear HBk
 have hz6:w5.heap.size≤(v2.setCell ⟨ib,12,none⟩ (.slice ya xs.length yc)).heap.size:=by simp;omega
 have L6:=L1000
 clear L1000
 generalize v2.setCell ⟨ib,12,none⟩ (.slice ya xs.length yc)=w6 at *
 try clear hzv1 hzv2
 exact HQ.out _ _ m1 xs _ _ (.slice ya xs.length yc) ⟨by kernel_rfl,rfl,(by kernel_rfl),(by kernel_rfl),(by kernel_rfl),trivial⟩ Gnxs.out hmm1.out Zxs.out Gxs.out Kxs.out L6.out X6.out Q6.out Pxs.out
theorem dshift {Q:Exit→Act→World→Prop} (hP:∀ x a a' w,a'.defers=a.defers→Q (.panic x) a w→Q (.panic x) a' w) {a:Act} {w5:World} {z lb rb gb ib:Nat} {s:Option (List UInt8)} {name:List UInt8} {flags tl:Int} {y0 y1 y2 y3 y4 y5 y6 y7 y8 y9 y10:Value} (hF:Fr [(2,.pointer (some ⟨z,0,none⟩)),(4,.pointer (some ⟨lb,0,none⟩)),(5,.pointer (some ⟨ib,0,none⟩))] a) (hL:LD lb rb gb w5 s) (hX:w5.heap[ib]? =some (imgBlock name flags ⟨y0,y1,y2,y3,y4,y5,y6,y7,y8,y9,y10⟩ 0 tl)) (hir:ib≠rb) (hil:ib≠lb) (hig:ib≠gb) (hne:lb≠rb) (hng:lb≠gb) (hib5:ib<w5.heap.size)
  (hQ:∀ (a':Act) (w':World) (n:Int) (s1:Option (List UInt8)),Fr [(2,.pointer (some ⟨z,0,none⟩)),(4,.pointer (some ⟨lb,0,none⟩)),(5,.pointer (some ⟨ib,0,none⟩))] a'→Got (numP 1) s n s1→okN 1 n→LD lb rb gb w' s1→w'.heap[ib]? =some (imgBlock name flags ⟨y0,y1,y2,y3,y4,y5,y6,y7,y8,y9,y10⟩ n tl)→Step (fun x=>x<w5.heap.size∧x≠rb∧x≠lb∧x≠ib) w5 w'→Q .normal a' w'):(dCode Tryz.f6 9).wp Tryz.prog Q a w5:=by
 have L5:=Lib.hid hL
 have X5:=Lib.hid hX
 have HQ:=Lib.hid hQ
 have hz5:w5.heap.size≤w5.heap.size:=Nat.le_refl _
 have hlb5:=hL.lt
 have hrb5:=hL.rblt
 have hgb5:=hL.gblt
 clear hL hX hQ
 apply Fr.elim hF
 clear hF
 intro _ _
 intro V2
 intro _
 intro V4
 intro V5
 iterate 326 (intro _)
 intro hF
 obtain⟨-,-,e2,e4,e5,-⟩:=hF
 replace e2:V2=.pointer (some ⟨z,0,none⟩):=e2
 subst e2
 replace e4:V4=.pointer (some ⟨lb,0,none⟩):=e4
 subst e4
 replace e5:V5=.pointer (some ⟨ib,0,none⟩):=e5
 subst e5
 conv in dCode Tryz.f6 9=>whnf
 have c0:=L5.out.cell
 have L0:=L5
 have T0:=Lib.hid (Step.refl (fun x=>x<w5.heap.size∧x≠rb) w5)
 have HN:=Lib.hid (ldnum w5 lb rb gb _ 1 L0.out (by decide))
 go_wp2_with fail
 refine HN.out.mono ?_
 clear HN
 rintro e v1 ⟨shift,s1,rfl,Gshift,Kshift,hl,hs,-⟩
 have hzv1:=hs.size
 have L1:=Lib.hid hl
 replace Gshift:=Lib.hid Gshift
 replace Kshift:=Lib.hid Kshift
 have T1:=Lib.hid (T0.out.trans (hs.imp (fun x hx=>hx.2)))
 clear hl hs L0 T0
 clear c0
 have XI:=Lib.hid ((T1.out.block ib ⟨by omega,hir⟩).trans X5.out)
 have cI:v1.cell? ⟨ib,8,none⟩=some (.int .i64 0):=by rw [Lib.cell_of_heap XI.out];rfl
 have fI:v1.frozen? ⟨ib,8,none⟩=false:=Lib.frozen_of_heap XI.out 8
 go_wp2_with fail
 have X6:=Lib.hid (setCell_row (k:=8) (.int .i64 shift) XI.out)
 have L1000:=Lib.hid (L1.out.step (setCell_step _ ib 8 (.int .i64 shift)) (by show lb≠ib;omega) (by show rb≠ib;omega) (by show gb≠ib;omega))
 have Q6:Hid (Step (fun x=>x<w5.heap.size∧x≠rb∧x≠lb∧x≠ib) w5 (v1.setCell ⟨ib,8,none⟩ (.int .i64 shift))):=Lib.hid ((T1.out.imp (fun x hx=>⟨hx.1,hx.2.1⟩)).trans ((setCell_step _ ib 8 (.int .i64 shift)).imp (fun x hx=>hx.2.2.2)))
 clear cI fI XI X5 L1 T1
 try clear L5
 have hz6:w5.heap.size≤(v1.setCell ⟨ib,8,none⟩ (.int .i64 shift)).heap.size:=by simp;omega
 have L6:=L1000
 clear L1000
 generalize v1.setCell ⟨ib,8,none⟩ (.int .i64 shift)=w6 at *
 try clear hzv1
 exact HQ.out _ _ shift _ ⟨by kernel_rfl,rfl,(by kernel_rfl),(by kernel_rfl),(by kernel_rfl),trivial⟩ Gshift.out Kshift.out L6.out X6.out Q6.out
end Go.Proofs.YtfchpchabdhcgaaGreat
namespace Go.Proofs.YtfchpchabdhcgaaGreat
open Go.RowKit
theorem dend {w:World} {l:List UInt8} {a:Act} {w5:World} {B lb rb gb ib:Nat} {s:Option (List UInt8)} {name:List UInt8} {flags sh:Int} {y0 y1 y2 y3 y4 y5 y6 y7 y8 y9:Value} {segs:List SegL} {needs:List NeedL} {runPath:List (List UInt8)} {syms:List SymL} {buckets:List (List Int)} {words:List Int} {relocs:List RelL} {slots:List SlotL} {init fini:List Int} (hF:Fr [(2,.pointer (some ⟨w.heap.size,0,none⟩)),(4,.pointer (some ⟨lb,0,none⟩)),(5,.pointer (some ⟨ib,0,none⟩))] a) (hL:LD lb rb gb w5 s) (hX:w5.heap[ib]? =some (imgBlock name flags ⟨y0,y1,y2,y3,y4,y5,y6,y7,y8,y9,.slice none 0 0⟩ sh 0)) (hir:ib≠rb) (hil:ib≠lb) (hig:ib≠gb) (hne:lb≠rb) (hng:lb≠gb) (hib5:ib<w5.heap.size)
  (hwB:w.heap.size<B) (hlB:lb<B) (hrB:rb<B) (hiB:ib<B) (hB5:B≤w5.heap.size) (hzl:w.heap.size≠lb) (hwl:w.heap.size≤lb) (hwr:w.heap.size<rb) (hwi:w.heap.size<ib)
  (hFZ:w5.heap[w.heap.size]? =some (.cells #[.string ⟨#[]⟩,.int .i64 0,.slice none 0 0,.slice none 0 0,.slice none 0 0,.slice none 0 0,.slice none 0 0,.slice none 0 0,.int .i64 0,.slice none 0 0,.slice none 0 0,.slice none 0 0,.slice none 0 0,.slice none 0 0,.int .i64 0] 40 (0,0))) (hB0:Below w.heap.size w w5)
  (hM:ImgM (fun b=>B≤b∧b<w5.heap.size) w5 ⟨y0,y1,y2,y3,y4,y5,y6,y7,y8,y9,.slice none 0 0⟩ ⟨name,flags,segs,needs,runPath,syms,buckets,words,sh,relocs,slots,init,fini,[],0⟩)
  (hA:∀ x st',Got (bindP (numP 2) fun tlsSize=>bindP blockP fun tls t=>some ((⟨name,flags,segs,needs,runPath,syms,buckets,words,sh,relocs,slots,init,fini,tls,tlsSize⟩:ImgL),t)) s x st'→Got imgP (some l) x st'):
  (dRest Tryz.f6 15).wp Tryz.prog (bodyPost Tryz.prog Tryz.f6 (fun e w'=>∃ v,e=.returned (.tuple #[.agg (imgCells v (decL l).1),.int .i64 (decL l).2])∧Below w.heap.size w w'∧ImgM (fun b=>w.heap.size≤b∧b<w'.heap.size) w' v (decL l).1)) a w5:=by
 have L5:=Lib.hid hL
 have X5:=Lib.hid hX
 have FZ0:=Lib.hid hFZ
 have HB0:=Lib.hid hB0
 have HM0:=Lib.hid hM
 have HA0:=Lib.hid hA
 have hlb5:=hL.lt
 have hrb5:=hL.rblt
 have hgb5:=hL.gblt
 have hz5:w5.heap.size≤w5.heap.size:=Nat.le_refl _
 clear hL hX hFZ hB0 hM hA
 apply Fr.elim hF
 clear hF
 intro _ _
 intro V2
 intro _
 intro V4
 intro V5
 iterate 326 (intro _)
 intro hF
 obtain⟨-,-,e2,e4,e5,-⟩:=hF
 replace e2:V2=.pointer (some ⟨w.heap.size,0,none⟩):=e2
 subst e2
 replace e4:V4=.pointer (some ⟨lb,0,none⟩):=e4
 subst e4
 replace e5:V5=.pointer (some ⟨ib,0,none⟩):=e5
 subst e5
 conv in dRest _ 15=>whnf
 have hP:∀ (x:List PanicEntry) (a a':Act) (w0:World),a'.defers=a.defers→bodyPost Tryz.prog Tryz.f6 (fun e w'=>∃ v,e=.returned (.tuple #[.agg (imgCells v (decL l).1),.int .i64 (decL l).2])∧Below w.heap.size w w'∧ImgM (fun b=>w.heap.size≤b∧b<w'.heap.size) w' v (decL l).1) (.panic x) a w0→bodyPost Tryz.prog Tryz.f6 (fun e w'=>∃ v,e=.returned (.tuple #[.agg (imgCells v (decL l).1),.int .i64 (decL l).2])∧Below w.heap.size w w'∧ImgM (fun b=>w.heap.size≤b∧b<w'.heap.size) w' v (decL l).1) (.panic x) a' w0:=fun _ _ _ _ e h=>⟨e.trans h.1,h.2⟩
 go_wp2_with fail
 have c':=L5.out.cell
 refine wp_region_held_drew (S:=fun w'=>w'.cell? ⟨lb,0,none⟩=some (.pointer (some ⟨rb,0,none⟩))) (by kernel_rfl) c' (fun hHeld=> ?_)
 refine wpAnyH_take (i:=0) (v:= ?_) rfl (by kernel_rfl) (by kernel_rfl) (by kernel_rfl) (fun _ _ _ h=>hP _ _ _ _ (by rfl) h) (Or.inl ⟨by rfl,?_⟩) hHeld ?_
 rotate_left
 ·(intro w hSw;(try dsimp only at hSw);go_simp;try with_reducible rfl)
 simp only [List.getElem_toArray,List.getElem_cons_zero,List.getElem_cons_succ,Act.put,List.setIfInBounds_toArray,List.set_cons_zero,List.set_cons_succ]
 refine wpAnyH_take (i:=1) (v:= ?_) rfl (by kernel_rfl) (by kernel_rfl) (by kernel_rfl) (fun _ _ _ h=>hP _ _ _ _ (by rfl) h) (Or.inl ⟨by rfl,?_⟩) hHeld ?_
 rotate_left
 ·(intro w hSw;(try dsimp only at hSw);go_simp;try with_reducible rfl)
 simp only [List.getElem_toArray,List.getElem_cons_zero,List.getElem_cons_succ,Act.put,List.setIfInBounds_toArray,List.set_cons_zero,List.set_cons_succ]
 refine wpAnyH_take (i:=2) (v:= ?_) rfl (by kernel_rfl) (by kernel_rfl) (by kernel_rfl) (fun _ _ _ h=>hP _ _ _ _ (by rfl) h) (Or.inl ⟨by rfl,?_⟩) hHeld ?_
 rotate_left
 ·(intro w hSw;(try dsimp only at hSw);go_simp;try with_reducible rfl)
 simp only [List.getElem_toArray,List.getElem_cons_zero,List.getElem_cons_succ,Act.put,List.setIfInBounds_toArray,List.set_cons_zero,List.set_cons_succ]
 refine wpAnyH_take (i:=3) (v:= ?_) rfl (by kernel_rfl) (by kernel_rfl) (by kernel_rfl) (fun _ _ _ h=>hP _ _ _ _ (by rfl) h) (Or.inl ⟨by rfl,?_⟩) hHeld ?_
 rotate_left
 ·(intro w hSw;(try dsimp only at hSw);go_simp;try with_reducible rfl)
 simp only [List.getElem_toArray,List.getElem_cons_zero,List.getElem_cons_succ,Act.put,List.setIfInBounds_toArray,List.set_cons_zero,List.set_cons_succ]
 refine wpAnyH_take (i:=5) (v:= ?_) rfl (by kernel_rfl) (by kernel_rfl) (by kernel_rfl) (fun _ _ _ h=>hP _ _ _ _ (by rfl) h) (Or.inl ⟨by rfl,?_⟩) hHeld ?_
 rotate_left
 ·(intro w hSw;(try dsimp only at hSw);go_simp;try with_reducible rfl)
 simp only [List.getElem_toArray,List.getElem_cons_zero,List.getElem_cons_succ,Act.put,List.setIfInBounds_toArray,List.set_cons_zero,List.set_cons_succ]
 refine wpAnyH_take (i:=6) (v:= ?_) rfl (by kernel_rfl) (by kernel_rfl) (by kernel_rfl) (fun _ _ _ h=>hP _ _ _ _ (by rfl) h) (Or.inl ⟨by rfl,?_⟩) hHeld ?_
 rotate_left
 ·(intro w hSw;(try dsimp only at hSw);go_simp;try with_reducible rfl)
 simp only [List.getElem_toArray,List.getElem_cons_zero,List.getElem_cons_succ,Act.put,List.setIfInBounds_toArray,List.set_cons_zero,List.set_cons_succ]
 refine wpAnyH_take (i:=7) (v:= ?_) rfl (by kernel_rfl) (by kernel_rfl) (by kernel_rfl) (fun _ _ _ h=>hP _ _ _ _ (by rfl) h) (Or.inl ⟨by rfl,?_⟩) hHeld ?_
 rotate_left
 ·(intro w hSw;(try dsimp only at hSw);go_simp;try with_reducible rfl)
 simp only [List.getElem_toArray,List.getElem_cons_zero,List.getElem_cons_succ,Act.put,List.setIfInBounds_toArray,List.set_cons_zero,List.set_cons_succ]
 refine wpAnyH_take (i:=8) (v:= ?_) rfl (by kernel_rfl) (by kernel_rfl) (by kernel_rfl) (fun _ _ _ h=>hP _ _ _ _ (by rfl) h) (Or.inl ⟨by rfl,?_⟩) hHeld ?_
 rotate_left
 ·(intro w hSw;(try dsimp only at hSw);go_simp;try with_reducible rfl)
 simp only [List.getElem_toArray,List.getElem_cons_zero,List.getElem_cons_succ,Act.put,List.setIfInBounds_toArray,List.set_cons_zero,List.set_cons_succ]
 have L0:=Lib.hid (L5.out.drew)
 have T0:=Lib.hid ((Step.refl (fun x=>x<w5.heap.size∧x≠rb∧x≠lb∧x≠ib) w5).drew)
 have FS0:Hid (w5.drew.heap[ib]? =_):=Lib.hid X5.out
 have hz0':w5.heap.size≤w5.drew.heap.size:=Nat.le_refl _
 generalize w5.drew=v0 at L0 T0 FS0 hz0' hHeld ⊢
 clear c' L5 X5
 refine wpAnyH_ready (rs:=[4]) (by kernel_rfl) (by simp) ?_
 refine AllReadyH.cons rfl (fun K hK=> ?_) AllReadyH.nil
 go_simp
 refine(ldnum _ lb rb gb _ 2 L0.out (by decide)).mono ?_
 rintro e v1 ⟨tlsSize,tA,rfl,gt,kt,hl,hs,-⟩
 have hz1:=hs.size
 have L1:=Lib.hid hl
 have T1:=Lib.hid (T0.out.trans (hs.imp (fun x hx=>hx.2.1)))
 have FS1:=Lib.hid ((hs.block ib (by show ib≠rb;omega)).trans FS0.out)
 have gt:=Lib.hid gt
 refine hK.out _ _ ((hs.cell (p:=⟨lb,0,none⟩) hne).trans hHeld) (fun hHeld=> ?_)
 clear hK K hl hs
 try simp only [List.getElem_toArray,List.getElem_cons_zero,List.getElem_cons_succ,Act.put,List.setIfInBounds_toArray,List.set_cons_zero,List.set_cons_succ]
 refine wpAnyH_take (i:=10) (v:= ?_) rfl (by kernel_rfl) (by kernel_rfl) (by kernel_rfl) (fun _ _ _ h=>hP _ _ _ _ (by rfl) h) (Or.inl ⟨by rfl,?_⟩) hHeld ?_
 rotate_left
 ·(intro w hSw;(try dsimp only at hSw);go_simp;try with_reducible rfl)
 simp only [List.getElem_toArray,List.getElem_cons_zero,List.getElem_cons_succ,Act.put,List.setIfInBounds_toArray,List.set_cons_zero,List.set_cons_succ]
 refine wpAnyH_ready (rs:=[9]) (by kernel_rfl) (by simp) ?_
 refine AllReadyH.cons rfl (fun K hK=> ?_) AllReadyH.nil
 go_simp
 refine(ldblock _ lb rb gb _ L1.out).mono ?_
 rintro e v2 ⟨_,tls,tB,rfl,ho,gl,kl,hl,hs⟩
 obtain⟨ba,bc,rfl⟩:=ho.form
 have HBk:=Lib.hid (ho.lbB plain_byte)
 have hz2:=hs.size
 have L2:=Lib.hid hl
 have T2:=Lib.hid (T1.out.trans (hs.imp (fun x hx=>⟨by have:=hx.1;omega,hx.2.1⟩)))
 have FS2:=Lib.hid ((hs.block ib ⟨by show ib<_;omega,by show ib≠rb;omega⟩).trans FS1.out)
 have gl:=Lib.hid gl
 refine hK.out _ _ ((hs.cell (p:=⟨lb,0,none⟩) ⟨by show lb<_;omega,hne⟩).trans hHeld) (fun hHeld=> ?_)
 clear hK K hl hs ho
 try simp only [List.getElem_toArray,List.getElem_cons_zero,List.getElem_cons_succ,Act.put,List.setIfInBounds_toArray,List.set_cons_zero,List.set_cons_succ]
 have cS:v2.cell? ⟨ib,14,none⟩=some (.int .i64 0):=by rw [Lib.cell_of_heap FS2.out];rfl
 have fS:v2.frozen? ⟨ib,14,none⟩=false:=Lib.frozen_of_heap FS2.out 14
 refine wpAnyH_ready (rs:=[11]) (by kernel_rfl) (by simp) ?_
 refine AllReadyH.cons rfl (fun K hK=> ?_) AllReadyH.nil
 go_simp
 have FS3:=Lib.hid (setCell_row (k:=14) (.int .i64 tlsSize) FS2.out)
 have L3:=Lib.hid (L2.out.step (setCell_step _ ib 14 (.int .i64 tlsSize)) (by show lb≠ib;omega) (by show rb≠ib;omega) (by show gb≠ib;omega))
 have T3:=Lib.hid (T2.out.trans ((setCell_step _ ib 14 (.int .i64 tlsSize)).imp (fun x hx=>hx.2.2.2)))
 refine hK.out _ _ ((World.cell?_of_block (a:=⟨lb,0,none⟩) (Below.heap_setCell _ _ _ _ (by show lb≠ib;omega))).trans hHeld) (fun hHeld=> ?_)
 clear hK K cS fS
 try simp only [List.getElem_toArray,List.getElem_cons_zero,List.getElem_cons_succ,Act.put,List.setIfInBounds_toArray,List.set_cons_zero,List.set_cons_succ]
 replace HBk:=Lib.hid (HBk.out.keeps (w':=v2.setCell ⟨ib,14,none⟩ (.int .i64 tlsSize)) (fun b hb=>Below.heap_setCell _ _ _ _ (by have:=hb.2;show b≠ib;omega)))
 have hz3:v2.heap.size≤(v2.setCell ⟨ib,14,none⟩ (.int .i64 tlsSize)).heap.size:=by simp
 generalize v2.setCell ⟨ib,14,none⟩ (.int .i64 tlsSize)=v3 at FS3 L3 T3 hz3 hHeld HBk ⊢
 refine wpAnyH_take (i:=12) (v:= ?_) rfl (by kernel_rfl) (by kernel_rfl) (by kernel_rfl) (fun _ _ _ h=>hP _ _ _ _ (by rfl) h) (Or.inl ⟨by rfl,?_⟩) hHeld ?_
 rotate_left
 ·(intro w hSw;(try dsimp only at hSw);go_simp;try with_reducible rfl)
 simp only [List.getElem_toArray,List.getElem_cons_zero,List.getElem_cons_succ,Act.put,List.setIfInBounds_toArray,List.set_cons_zero,List.set_cons_succ]
 have cS:v3.cell? ⟨ib,13,none⟩=some (.slice none 0 0):=by rw [Lib.cell_of_heap FS3.out];rfl
 have fS:v3.frozen? ⟨ib,13,none⟩=false:=Lib.frozen_of_heap FS3.out 13
 refine wpAnyH_ready (rs:=[13]) (by kernel_rfl) (by simp) ?_
 refine AllReadyH.cons rfl (fun K hK=> ?_) AllReadyH.nil
 go_simp
 have FS4:=Lib.hid (setCell_row (k:=13) (.slice ba tls.length bc) FS3.out)
 have L4:=Lib.hid (L3.out.step (setCell_step _ ib 13 (.slice ba tls.length bc)) (by show lb≠ib;omega) (by show rb≠ib;omega) (by show gb≠ib;omega))
 have T4:=Lib.hid (T3.out.trans ((setCell_step _ ib 13 (.slice ba tls.length bc)).imp (fun x hx=>hx.2.2.2)))
 refine hK.out _ _ ((World.cell?_of_block (a:=⟨lb,0,none⟩) (Below.heap_setCell _ _ _ _ (by show lb≠ib;omega))).trans hHeld) (fun hHeld=> ?_)
 clear hK K cS fS
 try simp only [List.getElem_toArray,List.getElem_cons_zero,List.getElem_cons_succ,Act.put,List.setIfInBounds_toArray,List.set_cons_zero,List.set_cons_succ]
 replace HBk:=Lib.hid (HBk.out.keeps (w':=v3.setCell ⟨ib,13,none⟩ (.slice ba tls.length bc)) (fun b hb=>Below.heap_setCell _ _ _ _ (by have:=hb.2;show b≠ib;omega)))
 have hz4:v3.heap.size≤(v3.setCell ⟨ib,13,none⟩ (.slice ba tls.length bc)).heap.size:=by simp
 generalize v3.setCell ⟨ib,13,none⟩ (.slice ba tls.length bc)=v4 at FS4 L4 T4 hz4 hHeld HBk ⊢
 refine wpAnyH_done (by kernel_rfl) ?_ _
 clear hHeld
 obtain⟨w6,hw⟩:∃ x:World,x=v4:=⟨_,rfl⟩
 subst hw
 have hz6:w5.heap.size≤w6.heap.size:=T4.out.size
 have FM:=Lib.hid ((T4.out.block w.heap.size ⟨by omega,by omega,by omega,by omega⟩).trans FZ0.out)
 have HB:Hid (Below w.heap.size w w6):=Lib.hid (((Step.of_below HB0.out).trans (T4.out.imp (fun x hx=>⟨by omega,by omega,by omega,by omega⟩))).below)
 have HA:Hid (Got imgP (some l) (⟨name,flags,segs,needs,runPath,syms,buckets,words,sh,relocs,slots,init,fini,tls,tlsSize⟩:ImgL) tB):=Lib.hid (HA0.out _ _ (gt.out.bind (gl.out.bind (Got.pure _ _))))
 have HM:Hid (ImgM (fun b=>B≤b∧b<w6.heap.size) w6 ⟨y0,y1,y2,y3,y4,y5,y6,y7,y8,y9,(.slice ba tls.length bc)⟩ ⟨name,flags,segs,needs,runPath,syms,buckets,words,sh,relocs,slots,init,fini,tls,tlsSize⟩):=Lib.hid (
  have h:=(HM0.out.keeps (fun b hb=>T4.out.block b ⟨hb.2,by have:=hb.1;omega,by have:=hb.1;omega,by have:=hb.1;omega⟩)).imp (S':=fun b=>B≤b∧b<w6.heap.size) (fun b hb=>⟨hb.1,by have:=hb.2;omega⟩)
  ⟨h.name,h.flags,h.segs,h.segsR,h.needed,h.runPath,h.syms,h.buckets,h.bucketsL,h.words,h.wordsR,h.shift,h.relocs,h.relocsR,h.slots,h.slotsR,h.init,h.initR,h.fini,h.finiR,HBk.out.imp (fun b hb=>⟨by have:=hb.2;omega,by have:=hb.1;omega⟩),okN_int64 kt⟩)
 have X6:=FS4
 have L6:=L4
 clear FS4 L4 T4 HBk HB0 FZ0 HA0 HM0 gt gl
 obtain⟨im,him⟩:∃ x:ImgL,x=⟨name,flags,segs,needs,runPath,syms,buckets,words,sh,relocs,slots,init,fini,tls,tlsSize⟩:=⟨_,rfl⟩
 have hv:imgCells ⟨y0,y1,y2,y3,y4,y5,y6,y7,y8,y9,(.slice ba tls.length bc)⟩ im=#[.string ⟨name.toArray⟩,.int .i64 flags,y0,y1,y2,y3,y4,y5,.int .i64 sh,y6,y7,y8,y9,(.slice ba tls.length bc),.int .i64 tlsSize]:=by rw [him];rfl
 rw [← him]at HA HM
 have FZ:Hid (w6.heap[w.heap.size]? =some (.cells #[.string ⟨#[]⟩,.int .i64 0,.slice none 0 0,.slice none 0 0,.slice none 0 0,.slice none 0 0,.slice none 0 0,.slice none 0 0,.int .i64 0,.slice none 0 0,.slice none 0 0,.slice none 0 0,.slice none 0 0,.slice none 0 0,.int .i64 0] 40 (0,0))):=FM
 have XB:Hid (w6.heap[ib]? =some (.cells #[.string ⟨name.toArray⟩,.int .i64 flags,y0,y1,y2,y3,y4,y5,.int .i64 sh,y6,y7,y8,y9,(.slice ba tls.length bc),.int .i64 tlsSize] 40 (0,0))):=Lib.hid X6.out
 have HOne:Hid (Array.all (#[.string ⟨name.toArray⟩,.int .i64 flags,y0,y1,y2,y3,y4,y5,.int .i64 sh,y6,y7,y8,y9,(.slice ba tls.length bc),.int .i64 tlsSize]) (·.oneCell')=true):=Lib.hid (by
  have o1:=HM.out.segs.one
  have o2:=HM.out.needed.one
  have o3:=HM.out.syms.one
  have o4:=HM.out.buckets.one
  have o5:=HM.out.words.one
  have o6:=HM.out.relocs.one
  have o7:=HM.out.slots.one
  have o8:=HM.out.runPath.one
  have o9:=HM.out.init.one
  have oA:=HM.out.fini.one
  simp [one_string,one_int,one_slice,o1,o2,o3,o4,o5,o6,o7,o8,o9,oA])
 have hmw:w.heap.size<w6.heap.size:=by omega
 have hiw:ib<w6.heap.size:=by omega
 clear him FM X6
 obtain⟨o2,st',hh1,hh2,hh3⟩:=L6.out.ex
 have HE:=Lib.hid (rend_any w6 rb gb st' hh2)
 have c24:=L6.out.cell
 have c24b:w6.cell? ⟨lb,1,none⟩=some (.bool o2):=by rw [Lib.cell_of_heap hh1];rfl
 have Hu:Hid (tB=if o2 then none else st'):=Lib.hid hh3
 clear hh1 hh2 hh3 L6
 go_wp2_with fail
 refine HE.out.mono ?_
 rintro e w6 ⟨⟨x,rfl,hx⟩,rfl⟩
 have Hx:=Lib.hid hx
 clear hx HE
 have hfail:(x≠0∨o2=true)→Hid (decL l=(emptyL,98)):=fun h=>Lib.hid (by
  have hne:tB≠some []:=by
   rw [Hu.out]
   intro e
   rcases h with h | h
   ·cases o2 with
    | true=>simp at e
    | false=>exact h (Hx.out.2 (by simpa using e))
   ·rw [h]at e;simp at e
  have hw:wholeP l=none:=by
   unfold wholeP
   cases hp:imgP l with
   | none=>rfl
   | some r=>
    obtain⟨y,t⟩:=r
    cases t with
    | cons c t=>rfl
    | nil=>exact absurd hp (HA.out.not_whole hne y)
  unfold decL
  rw [hw])
 have hgood:x=0→o2=false→Hid (wholeP l=some im):=fun h0 ho=>Lib.hid (by
  have e:tB=some []:=by rw [Hu.out,ho];exact Hx.out.1 h0
  have h1:=HA.out
  rw [e]at h1
  unfold wholeP
  rw [h1.whole])
 by_cases hx0:x=0
 ·subst hx0
  cases o2 with
  | true=>
   have HD:=hfail (Or.inr rfl)
   clear hfail hgood HA HM XB hv Hu Hx
   go_wp2_with (refine wpList_store_row rfl 40 (.tmp 2) (.tmp 324) rfl w.heap.size (#[.string ⟨#[]⟩,.int .i64 0,.slice none 0 0,.slice none 0 0,.slice none 0 0,.slice none 0 0,.slice none 0 0,.slice none 0 0,.int .i64 0,.slice none 0 0,.slice none 0 0,.slice none 0 0,.slice none 0 0,.slice none 0 0,.int .i64 0]) rfl rfl _ _ FZ.out (by kernel_rfl) rfl (by simp [Value.oneCell']) ?_)
   go_wp2_with fail
   have FR:=Lib.hid (setRow_heap _ w.heap.size _ (#[.string ⟨#[]⟩,.int .i64 0,.slice none 0 0,.slice none 0 0,.slice none 0 0,.slice none 0 0,.slice none 0 0,.slice none 0 0,.int .i64 0,.slice none 0 0,.slice none 0 0,.slice none 0 0,.slice none 0 0,.slice none 0 0,.int .i64 0]) _ _ FZ.out)
   refine bodyPost_ret (results_row_tmp rfl _ _ w.heap.size _ _ _ _ rfl FR.out Tryz.underlying40 rfl (by kernel_rfl)) rfl ?_
   rw [HD.out]
   exact⟨⟨.slice none 0 0,.slice none 0 0,.slice none 0 0,.slice none 0 0,.slice none 0 0,.slice none 0 0,.slice none 0 0,.slice none 0 0,.slice none 0 0,.slice none 0 0,.slice none 0 0⟩,rfl,((Step.of_below HB.out).trans ((step_setRow _ w.heap.size (#[.string ⟨#[]⟩,.int .i64 0,.slice none 0 0,.slice none 0 0,.slice none 0 0,.slice none 0 0,.slice none 0 0,.slice none 0 0,.int .i64 0,.slice none 0 0,.slice none 0 0,.slice none 0 0,.slice none 0 0,.slice none 0 0,.int .i64 0])).imp (fun x hx=>by show x≠w.heap.size;omega))).below,imgM_empty _ _⟩
  | false=>
   have HW:=hgood rfl rfl
   clear hfail hgood HA Hu Hx
   have HY:=Lib.hid (imay_any w6 ⟨y0,y1,y2,y3,y4,y5,y6,y7,y8,y9,(.slice ba tls.length bc)⟩ im (HM.out.imp (fun b hb=>hb.2)))
   rw [hv]at HY
   obtain⟨mm,hmm⟩:∃ mm,mayL im=mm:=⟨_,rfl⟩
   rw [hmm]at HY
   have Hmm:=Lib.hid hmm
   clear hmm
   go_wp2_with (refine wpList_load_row rfl 40 (.tmp 5) rfl ib rfl _ _ _ _ XB.out Tryz.underlying40 rfl (by kernel_rfl) ?_)
   go_wp2_with fail
   refine HY.out.mono ?_
   rintro e w25 ⟨rfl,hb25⟩
   have hz25:=hb25.size
   have FZ2:=Lib.hid ((hb25.block w.heap.size hmw).trans FZ.out)
   have XB2:=Lib.hid ((hb25.block ib hiw).trans XB.out)
   have HM2:Hid (ImgM (fun b=>B≤b∧b<w25.heap.size) w25 ⟨y0,y1,y2,y3,y4,y5,y6,y7,y8,y9,(.slice ba tls.length bc)⟩ im):=Lib.hid ((HM.out.keeps (fun b hb=>hb25.block b hb.2)).imp (fun b hb=>⟨hb.1,by have:=hb.2;omega⟩))
   have HB2:Hid (Below w.heap.size w w25):=Lib.hid (HB.out.trans (hb25.mono (by omega)))
   clear HM HB FZ XB HY hb25 hz25
   by_cases hm0:mm=0
   ·subst hm0
    have HD:Hid (decL l=(im,0)):=Lib.hid (by unfold decL;rw [HW.out];show(if mayL im=0 then _ else _)=_;rw [if_pos Hmm.out])
    clear HW Hmm
    go_wp2_with (first | refine wpList_load_row rfl 40 (.tmp 5) rfl ib rfl _ _ _ _ XB2.out Tryz.underlying40 rfl (by kernel_rfl) ?_ | refine wpList_store_row rfl 40 (.tmp 2) (.tmp 331) rfl w.heap.size (#[.string ⟨name.toArray⟩,.int .i64 flags,y0,y1,y2,y3,y4,y5,.int .i64 sh,y6,y7,y8,y9,(.slice ba tls.length bc),.int .i64 tlsSize]) rfl rfl _ _ FZ2.out (by kernel_rfl) rfl HOne.out ?_)
    go_wp2_with (first | refine wpList_load_row rfl 40 (.tmp 5) rfl ib rfl _ _ _ _ XB2.out Tryz.underlying40 rfl (by kernel_rfl) ?_ | refine wpList_store_row rfl 40 (.tmp 2) (.tmp 331) rfl w.heap.size (#[.string ⟨name.toArray⟩,.int .i64 flags,y0,y1,y2,y3,y4,y5,.int .i64 sh,y6,y7,y8,y9,(.slice ba tls.length bc),.int .i64 tlsSize]) rfl rfl _ _ FZ2.out (by kernel_rfl) rfl HOne.out ?_)
    go_wp2_with fail
    have FR:=Lib.hid (setRow_heap _ w.heap.size _ (#[.string ⟨name.toArray⟩,.int .i64 flags,y0,y1,y2,y3,y4,y5,.int .i64 sh,y6,y7,y8,y9,(.slice ba tls.length bc),.int .i64 tlsSize]) _ _ FZ2.out)
    refine bodyPost_ret (results_row_tmp rfl _ _ w.heap.size _ _ _ _ rfl FR.out Tryz.underlying40 rfl (by kernel_rfl)) rfl ?_
    rw [HD.out]
    exact⟨⟨y0,y1,y2,y3,y4,y5,y6,y7,y8,y9,(.slice ba tls.length bc)⟩,congrArg (fun c=>Ending.returned (.tuple #[.agg c,.int .i64 0])) hv.symm,((Step.of_below HB2.out).trans ((step_setRow _ w.heap.size (#[.string ⟨name.toArray⟩,.int .i64 flags,y0,y1,y2,y3,y4,y5,.int .i64 sh,y6,y7,y8,y9,(.slice ba tls.length bc),.int .i64 tlsSize])).imp (fun x hx=>by show x≠w.heap.size;omega))).below,(HM2.out.keeps (w':=w25.setRow w.heap.size (#[.string ⟨name.toArray⟩,.int .i64 flags,y0,y1,y2,y3,y4,y5,.int .i64 sh,y6,y7,y8,y9,(.slice ba tls.length bc),.int .i64 tlsSize])) (fun b hb=>setRow_other _ _ _ _ (by have:=hb.1;omega))).imp (fun b hb=>⟨by have:=hb.1;omega,by have:=hb.2;simpa using this⟩)⟩
   ·have HD:Hid (decL l=(emptyL,mm)):=Lib.hid (by unfold decL;rw [HW.out];show(if mayL im=0 then _ else _)=_;rw [Hmm.out,if_neg hm0])
    clear HW Hmm HM2 XB2
    go_wp2_with (refine wpList_store_row rfl 40 (.tmp 2) (.tmp 329) rfl w.heap.size (#[.string ⟨#[]⟩,.int .i64 0,.slice none 0 0,.slice none 0 0,.slice none 0 0,.slice none 0 0,.slice none 0 0,.slice none 0 0,.int .i64 0,.slice none 0 0,.slice none 0 0,.slice none 0 0,.slice none 0 0,.slice none 0 0,.int .i64 0]) rfl rfl _ _ FZ2.out (by kernel_rfl) rfl (by simp [Value.oneCell']) ?_)
    go_wp2_with fail
    have FR:=Lib.hid (setRow_heap _ w.heap.size _ (#[.string ⟨#[]⟩,.int .i64 0,.slice none 0 0,.slice none 0 0,.slice none 0 0,.slice none 0 0,.slice none 0 0,.slice none 0 0,.int .i64 0,.slice none 0 0,.slice none 0 0,.slice none 0 0,.slice none 0 0,.slice none 0 0,.int .i64 0]) _ _ FZ2.out)
    refine bodyPost_ret (results_row_tmp rfl _ _ w.heap.size _ _ _ _ rfl FR.out Tryz.underlying40 rfl (by kernel_rfl)) rfl ?_
    rw [HD.out]
    exact⟨⟨.slice none 0 0,.slice none 0 0,.slice none 0 0,.slice none 0 0,.slice none 0 0,.slice none 0 0,.slice none 0 0,.slice none 0 0,.slice none 0 0,.slice none 0 0,.slice none 0 0⟩,rfl,((Step.of_below HB2.out).trans ((step_setRow _ w.heap.size (#[.string ⟨#[]⟩,.int .i64 0,.slice none 0 0,.slice none 0 0,.slice none 0 0,.slice none 0 0,.slice none 0 0,.slice none 0 0,.int .i64 0,.slice none 0 0,.slice none 0 0,.slice none 0 0,.slice none 0 0,.slice none 0 0,.int .i64 0])).imp (fun x hx=>by show x≠w.heap.size;omega))).below,imgM_empty _ _⟩
 ·have HD:=hfail (Or.inl hx0)
  clear hfail hgood HA HM XB hv Hu Hx
  go_wp2_with (refine wpList_store_row rfl 40 (.tmp 2) (.tmp 324) rfl w.heap.size (#[.string ⟨#[]⟩,.int .i64 0,.slice none 0 0,.slice none 0 0,.slice none 0 0,.slice none 0 0,.slice none 0 0,.slice none 0 0,.int .i64 0,.slice none 0 0,.slice none 0 0,.slice none 0 0,.slice none 0 0,.slice none 0 0,.int .i64 0]) rfl rfl _ _ FZ.out (by kernel_rfl) rfl (by simp [Value.oneCell']) ?_)
  go_wp2_with fail
  have FR:=Lib.hid (setRow_heap _ w.heap.size _ (#[.string ⟨#[]⟩,.int .i64 0,.slice none 0 0,.slice none 0 0,.slice none 0 0,.slice none 0 0,.slice none 0 0,.slice none 0 0,.int .i64 0,.slice none 0 0,.slice none 0 0,.slice none 0 0,.slice none 0 0,.slice none 0 0,.int .i64 0]) _ _ FZ.out)
  refine bodyPost_ret (results_row_tmp rfl _ _ w.heap.size _ _ _ _ rfl FR.out Tryz.underlying40 rfl (by kernel_rfl)) rfl ?_
  rw [HD.out]
  exact⟨⟨.slice none 0 0,.slice none 0 0,.slice none 0 0,.slice none 0 0,.slice none 0 0,.slice none 0 0,.slice none 0 0,.slice none 0 0,.slice none 0 0,.slice none 0 0,.slice none 0 0⟩,rfl,((Step.of_below HB.out).trans ((step_setRow _ w.heap.size (#[.string ⟨#[]⟩,.int .i64 0,.slice none 0 0,.slice none 0 0,.slice none 0 0,.slice none 0 0,.slice none 0 0,.slice none 0 0,.int .i64 0,.slice none 0 0,.slice none 0 0,.slice none 0 0,.slice none 0 0,.slice none 0 0,.int .i64 0])).imp (fun x hx=>by show x≠w.heap.size;omega))).below,imgM_empty _ _⟩
end Go.Proofs.YtfchpchabdhcgaaGreat
namespace Go.Proofs.YtfchpchabdhcgaaGreat
open Go.RowKit
theorem dreg1 {Q:Exit→Act→World→Prop} (hP:∀ x a a' w,a'.defers=a.defers→Q (.panic x) a w→Q (.panic x) a' w) {a:Act} {wr:World} {z lb rb gb ib:Nat} {s0:Option (List UInt8)} {v1 v2:Value} (hF:Fr [(2,.pointer (some ⟨z,0,none⟩)),(4,.pointer (some ⟨lb,0,none⟩)),(5,.pointer (some ⟨ib,0,none⟩)),(39,v1),(40,v2)] a) (H:LD lb rb gb wr s0) (hne:lb≠rb) (hng:lb≠gb)
  (hR:∀ (a':Act) (wc:World) (sb:Nat) (a1 a2:Int) (s1 s2:Option (List UInt8)),Fr [(2,.pointer (some ⟨z,0,none⟩)),(4,.pointer (some ⟨lb,0,none⟩)),(5,.pointer (some ⟨ib,0,none⟩)),(39,v1),(40,v2),(6,.pointer (some ⟨sb,0,none⟩))] a'→Got (numP 4) s0 a1 s1→okN 4 a1→Got (numP 4) s1 a2 s2→okN 4 a2→LD lb rb gb wc s2→wc.heap[sb]? =some (.cells #[.int .i64 a1,.int .i64 a2,.slice none 0 0,.int .i64 0] 57 (0,0))→Step (fun x=>x<wr.heap.size∧x≠rb) wr wc→wr.heap.size≤sb→Q .normal a' wc):(dReg Tryz.f6 4).wp Tryz.prog Q a wr:=by
 have H5:=Lib.hid H
 have HR:=Lib.hid hR
 have hlb:=H.lt
 have hrb:=H.rblt
 have hgb:=H.gblt
 have c:=H.cell
 clear H hR
 apply Fr.elim hF
 clear hF
 intro _ _
 intro V2
 intro _
 intro V4
 intro V5
 iterate 33 (intro _)
 intro V39
 intro V40
 iterate 291 (intro _)
 intro hF
 obtain⟨-,-,e2,e4,e5,e39,e40,-⟩:=hF
 replace e2:V2=.pointer (some ⟨z,0,none⟩):=e2
 subst e2
 replace e4:V4=.pointer (some ⟨lb,0,none⟩):=e4
 subst e4
 replace e5:V5=.pointer (some ⟨ib,0,none⟩):=e5
 subst e5
 replace e39:V39=v1:=e39
 subst e39
 replace e40:V40=v2:=e40
 subst e40
 conv in dReg Tryz.f6 4=>whnf
 refine wp_region_held_drew (S:=fun w'=>w'.cell? ⟨lb,0,none⟩=some (.pointer (some ⟨rb,0,none⟩))) (by kernel_rfl) c (fun hHeld=> ?_)
 refine wpAnyH_take (i:=0) (v:= ?_) rfl (by kernel_rfl) (by kernel_rfl) (by kernel_rfl) (fun _ _ _ h=>hP _ _ _ _ (by rfl) h) (Or.inl ⟨by rfl,?_⟩) hHeld ?_
 rotate_left
 ·(intro w hSw;(try dsimp only at hSw);go_simp;try with_reducible rfl)
 simp only [List.getElem_toArray,List.getElem_cons_zero,List.getElem_cons_succ,Act.put,List.setIfInBounds_toArray,List.set_cons_zero,List.set_cons_succ]
 refine wpAnyH_take (i:=1) (v:= ?_) rfl (by kernel_rfl) (by kernel_rfl) (by kernel_rfl) (fun _ _ _ h=>hP _ _ _ _ (by rfl) h) (Or.inl ⟨by rfl,?_⟩) hHeld ?_
 rotate_left
 ·(intro w hSw;(try dsimp only at hSw);go_simp;try with_reducible rfl)
 simp only [List.getElem_toArray,List.getElem_cons_zero,List.getElem_cons_succ,Act.put,List.setIfInBounds_toArray,List.set_cons_zero,List.set_cons_succ]
 refine wpAnyH_take (i:=2) (v:= ?_) rfl (by kernel_rfl) (by kernel_rfl) (by kernel_rfl) (fun _ _ _ h=>hP _ _ _ _ (by rfl) h) (Or.inl ⟨by rfl,?_⟩) hHeld ?_
 rotate_left
 ·(intro w hSw;(try dsimp only at hSw);go_simp;try with_reducible rfl)
 simp only [List.getElem_toArray,List.getElem_cons_zero,List.getElem_cons_succ,Act.put,List.setIfInBounds_toArray,List.set_cons_zero,List.set_cons_succ]
 refine wpAnyH_take (i:=3) (v:= ?_) rfl (by kernel_rfl) (by kernel_rfl) (by kernel_rfl) (fun _ _ _ h=>hP _ _ _ _ (by rfl) h) (Or.inl ⟨by rfl,?_⟩) hHeld ?_
 rotate_left
 ·(intro w hSw;(try dsimp only at hSw);go_simp;try with_reducible rfl)
 simp only [List.getElem_toArray,List.getElem_cons_zero,List.getElem_cons_succ,Act.put,List.setIfInBounds_toArray,List.set_cons_zero,List.set_cons_succ]
 refine wpAnyH_take (i:=5) (v:= ?_) rfl (by kernel_rfl) (by kernel_rfl) (by kernel_rfl) (fun _ _ _ h=>hP _ _ _ _ (by rfl) h) (Or.inl ⟨by rfl,?_⟩) hHeld ?_
 rotate_left
 ·(intro w hSw;(try dsimp only at hSw);go_simp;try with_reducible rfl)
 simp only [List.getElem_toArray,List.getElem_cons_zero,List.getElem_cons_succ,Act.put,List.setIfInBounds_toArray,List.set_cons_zero,List.set_cons_succ]
 refine wpAnyH_take (i:=6) (v:= ?_) rfl (by kernel_rfl) (by kernel_rfl) (by kernel_rfl) (fun _ _ _ h=>hP _ _ _ _ (by rfl) h) (Or.inl ⟨by rfl,?_⟩) hHeld ?_
 rotate_left
 ·(intro w hSw;(try dsimp only at hSw);go_simp;try with_reducible rfl)
 simp only [List.getElem_toArray,List.getElem_cons_zero,List.getElem_cons_succ,Act.put,List.setIfInBounds_toArray,List.set_cons_zero,List.set_cons_succ]
 refine wpAnyH_take (i:=7) (v:= ?_) rfl (by kernel_rfl) (by kernel_rfl) (by kernel_rfl) (fun _ _ _ h=>hP _ _ _ _ (by rfl) h) (Or.inl ⟨by rfl,?_⟩) hHeld ?_
 rotate_left
 ·(intro w hSw;(try dsimp only at hSw);go_simp;try with_reducible rfl)
 simp only [List.getElem_toArray,List.getElem_cons_zero,List.getElem_cons_succ,Act.put,List.setIfInBounds_toArray,List.set_cons_zero,List.set_cons_succ]
 refine wpAnyH_take (i:=8) (v:= ?_) rfl (by kernel_rfl) (by kernel_rfl) (by kernel_rfl) (fun _ _ _ h=>hP _ _ _ _ (by rfl) h) (Or.inl ⟨by rfl,?_⟩) hHeld ?_
 rotate_left
 ·(intro w hSw;(try dsimp only at hSw);go_simp;try with_reducible rfl)
 simp only [List.getElem_toArray,List.getElem_cons_zero,List.getElem_cons_succ,Act.put,List.setIfInBounds_toArray,List.set_cons_zero,List.set_cons_succ]
 have L0:=Lib.hid (H5.out.drew)
 have T0:=Lib.hid ((Step.refl (fun x=>x<wr.heap.size∧x≠rb) wr).drew)
 have hzw:wr.heap.size≤wr.drew.heap.size:=Nat.le_refl _
 generalize wr.drew=v0 at L0 T0 hzw hHeld ⊢
 clear c
 refine wpAnyH_ready (rs:=[4,11]) (by kernel_rfl) (by simp) ?_
 refine AllReadyH.cons rfl (fun K hK=> ?_) (AllReadyH.cons rfl (fun K hK=> ?_) AllReadyH.nil)
 ·go_simp
  refine(ldnum _ lb rb gb _ 4 L0.out (by decide)).mono ?_
  rintro e v1 ⟨a1,s1,rfl,g0,k0,hl,hs,-⟩
  have L1:=Lib.hid hl
  have T1:=Lib.hid (T0.out.trans (hs.imp (fun x hx=>hx.2)))
  refine hK.out _ _ ((hs.cell (p:=⟨lb,0,none⟩) hne).trans hHeld) (fun hHeld=> ?_)
  replace g0:=Lib.hid g0
  clear hK K hl hs
  try simp only [List.getElem_toArray,List.getElem_cons_zero,List.getElem_cons_succ,Act.put,List.setIfInBounds_toArray,List.set_cons_zero,List.set_cons_succ]
  refine wpAnyH_ready (rs:=[9,11]) (by kernel_rfl) (by simp) ?_
  refine AllReadyH.cons rfl (fun K hK=> ?_) (AllReadyH.cons rfl (fun K hK=> ?_) AllReadyH.nil)
  ·go_simp
   refine(ldnum _ lb rb gb _ 4 L1.out (by decide)).mono ?_
   rintro e v2 ⟨a2,s2,rfl,g1,k1,hl,hs,-⟩
   have L2:=Lib.hid hl
   have T2:=Lib.hid (T1.out.trans (hs.imp (fun x hx=>hx.2)))
   refine hK.out _ _ ((hs.cell (p:=⟨lb,0,none⟩) hne).trans hHeld) (fun hHeld=> ?_)
   replace g1:=Lib.hid g1
   clear hK K hl hs
   try simp only [List.getElem_toArray,List.getElem_cons_zero,List.getElem_cons_succ,Act.put,List.setIfInBounds_toArray,List.set_cons_zero,List.set_cons_succ]
   refine wpAnyH_take (i:=10) (v:= ?_) rfl (by kernel_rfl) (by kernel_rfl) (by kernel_rfl) (fun _ _ _ h=>hP _ _ _ _ (by rfl) h) (Or.inl ⟨by rfl,?_⟩) hHeld ?_
   rotate_left
   ·(intro w hSw;(try dsimp only at hSw);go_simp;try with_reducible rfl)
   simp only [List.getElem_toArray,List.getElem_cons_zero,List.getElem_cons_succ,Act.put,List.setIfInBounds_toArray,List.set_cons_zero,List.set_cons_succ]
   refine wpAnyH_ready (rs:=[11]) (by kernel_rfl) (by simp) ?_
   refine AllReadyH.cons rfl (fun K hK=> ?_) AllReadyH.nil
   go_simp
   have L3:=Lib.hid (L2.out.alloc (.cells #[.int .i64 0,.int .i64 0,.slice none 0 0,.int .i64 0] 57 (0,0)))
   have T3:=Lib.hid (T2.out.alloc (fun b hb=>by have:=hb.1;have:=T2.out.size;omega) (.cells #[.int .i64 0,.int .i64 0,.slice none 0 0,.int .i64 0] 57 (0,0)))
   have FA3:=Lib.hid (heap_alloc_new v2 (.cells #[.int .i64 0,.int .i64 0,.slice none 0 0,.int .i64 0] 57 (0,0)))
   have hjb:wr.heap.size≤v2.heap.size:=T2.out.size
   refine hK.out _ _ ((World.cell?_alloc_lt _ _ _ (World.block_lt_of_cell? _ _ hHeld)).trans hHeld) (fun hHeld=> ?_)
   clear hK K
   try simp only [List.getElem_toArray,List.getElem_cons_zero,List.getElem_cons_succ,Act.put,List.setIfInBounds_toArray,List.set_cons_zero,List.set_cons_succ]
   generalize v2.alloc (.cells #[.int .i64 0,.int .i64 0,.slice none 0 0,.int .i64 0] 57 (0,0))=v3 at *
   generalize v2.heap.size=jb at *
   refine wpAnyH_ready (rs:=[12]) (by kernel_rfl) (by simp) ?_
   refine AllReadyH.cons rfl (fun K hK=> ?_) AllReadyH.nil
   rw [if_pos (by rfl)]
   simp only [List.getElem_toArray,List.getElem_cons_succ,List.getElem_cons_zero]
   refine wp_store_row 57 (.tmp 6) (.tmp 52) rfl jb (#[.int .i64 a1,.int .i64 a2,.slice none 0 0,.int .i64 0]) rfl rfl _ _ FA3.out (by kernel_rfl) rfl (by simp [Value.oneCell']) ?_
   have FA4:=Lib.hid (setRow_heap _ jb _ (#[.int .i64 a1,.int .i64 a2,.slice none 0 0,.int .i64 0]) _ _ FA3.out)
   have L4:=Lib.hid (L3.out.step (step_setRow _ jb (#[.int .i64 a1,.int .i64 a2,.slice none 0 0,.int .i64 0])) (by show lb≠jb;omega) (by show rb≠jb;omega) (by show gb≠jb;omega))
   have T4:=Lib.hid (T3.out.trans ((step_setRow _ jb (#[.int .i64 a1,.int .i64 a2,.slice none 0 0,.int .i64 0])).imp (fun x hx=>by have:=hx.1;show x≠jb;omega)))
   refine hK.out _ _ ((cell_setRow_other _ _ _ _ (by show lb≠jb;omega)).trans hHeld) (fun hHeld=> ?_)
   clear hK K
   try simp only [List.getElem_toArray,List.getElem_cons_zero,List.getElem_cons_succ,Act.put,List.setIfInBounds_toArray,List.set_cons_zero,List.set_cons_succ]
   refine wpAnyH_done (by kernel_rfl) ?_ _
   exact HR.out _ _ jb a1 a2 s1 s2 ⟨by kernel_rfl,rfl,(by kernel_rfl),(by kernel_rfl),(by kernel_rfl),(by kernel_rfl),(by kernel_rfl),(by kernel_rfl),trivial⟩ g0.out k0 g1.out k1 L4.out FA4.out T4.out hjb
  ·go_simp
   have L2:=Lib.hid (L1.out.alloc (.cells #[.int .i64 0,.int .i64 0,.slice none 0 0,.int .i64 0] 57 (0,0)))
   have T2:=Lib.hid (T1.out.alloc (fun b hb=>by have:=hb.1;have:=T1.out.size;omega) (.cells #[.int .i64 0,.int .i64 0,.slice none 0 0,.int .i64 0] 57 (0,0)))
   have FA2:=Lib.hid (heap_alloc_new v1 (.cells #[.int .i64 0,.int .i64 0,.slice none 0 0,.int .i64 0] 57 (0,0)))
   have hjb:wr.heap.size≤v1.heap.size:=T1.out.size
   refine hK.out _ _ ((World.cell?_alloc_lt _ _ _ (World.block_lt_of_cell? _ _ hHeld)).trans hHeld) (fun hHeld=> ?_)
   clear hK K
   try simp only [List.getElem_toArray,List.getElem_cons_zero,List.getElem_cons_succ,Act.put,List.setIfInBounds_toArray,List.set_cons_zero,List.set_cons_succ]
   generalize v1.alloc (.cells #[.int .i64 0,.int .i64 0,.slice none 0 0,.int .i64 0] 57 (0,0))=v2 at *
   generalize v1.heap.size=jb at *
   refine wpAnyH_ready (rs:=[9]) (by kernel_rfl) (by simp) ?_
   refine AllReadyH.cons rfl (fun K hK=> ?_) AllReadyH.nil
   go_simp
   refine(ldnum _ lb rb gb _ 4 L2.out (by decide)).mono ?_
   rintro e v3 ⟨a2,s2,rfl,g1,k1,hl,hs,-⟩
   have L3:=Lib.hid hl
   have T3:=Lib.hid (T2.out.trans (hs.imp (fun x hx=>hx.2)))
   have FA3:=Lib.hid ((hs.block jb (by omega)).trans FA2.out)
   refine hK.out _ _ ((hs.cell (p:=⟨lb,0,none⟩) hne).trans hHeld) (fun hHeld=> ?_)
   replace g1:=Lib.hid g1
   clear hK K hl hs
   try simp only [List.getElem_toArray,List.getElem_cons_zero,List.getElem_cons_succ,Act.put,List.setIfInBounds_toArray,List.set_cons_zero,List.set_cons_succ]
   refine wpAnyH_take (i:=10) (v:= ?_) rfl (by kernel_rfl) (by kernel_rfl) (by kernel_rfl) (fun _ _ _ h=>hP _ _ _ _ (by rfl) h) (Or.inl ⟨by rfl,?_⟩) hHeld ?_
   rotate_left
   ·(intro w hSw;(try dsimp only at hSw);go_simp;try with_reducible rfl)
   simp only [List.getElem_toArray,List.getElem_cons_zero,List.getElem_cons_succ,Act.put,List.setIfInBounds_toArray,List.set_cons_zero,List.set_cons_succ]
   refine wpAnyH_ready (rs:=[12]) (by kernel_rfl) (by simp) ?_
   refine AllReadyH.cons rfl (fun K hK=> ?_) AllReadyH.nil
   rw [if_pos (by rfl)]
   simp only [List.getElem_toArray,List.getElem_cons_succ,List.getElem_cons_zero]
   refine wp_store_row 57 (.tmp 6) (.tmp 52) rfl jb (#[.int .i64 a1,.int .i64 a2,.slice none 0 0,.int .i64 0]) rfl rfl _ _ FA3.out (by kernel_rfl) rfl (by simp [Value.oneCell']) ?_
   have FA4:=Lib.hid (setRow_heap _ jb _ (#[.int .i64 a1,.int .i64 a2,.slice none 0 0,.int .i64 0]) _ _ FA3.out)
   have L4:=Lib.hid (L3.out.step (step_setRow _ jb (#[.int .i64 a1,.int .i64 a2,.slice none 0 0,.int .i64 0])) (by show lb≠jb;omega) (by show rb≠jb;omega) (by show gb≠jb;omega))
   have T4:=Lib.hid (T3.out.trans ((step_setRow _ jb (#[.int .i64 a1,.int .i64 a2,.slice none 0 0,.int .i64 0])).imp (fun x hx=>by have:=hx.1;show x≠jb;omega)))
   refine hK.out _ _ ((cell_setRow_other _ _ _ _ (by show lb≠jb;omega)).trans hHeld) (fun hHeld=> ?_)
   clear hK K
   try simp only [List.getElem_toArray,List.getElem_cons_zero,List.getElem_cons_succ,Act.put,List.setIfInBounds_toArray,List.set_cons_zero,List.set_cons_succ]
   refine wpAnyH_done (by kernel_rfl) ?_ _
   exact HR.out _ _ jb a1 a2 s1 s2 ⟨by kernel_rfl,rfl,(by kernel_rfl),(by kernel_rfl),(by kernel_rfl),(by kernel_rfl),(by kernel_rfl),(by kernel_rfl),trivial⟩ g0.out k0 g1.out k1 L4.out FA4.out T4.out hjb
 ·go_simp
  have L1:=Lib.hid (L0.out.alloc (.cells #[.int .i64 0,.int .i64 0,.slice none 0 0,.int .i64 0] 57 (0,0)))
  have T1:=Lib.hid (T0.out.alloc (fun b hb=>by have:=hb.1;have:=T0.out.size;omega) (.cells #[.int .i64 0,.int .i64 0,.slice none 0 0,.int .i64 0] 57 (0,0)))
  have FA1:=Lib.hid (heap_alloc_new v0 (.cells #[.int .i64 0,.int .i64 0,.slice none 0 0,.int .i64 0] 57 (0,0)))
  have hjb:wr.heap.size≤v0.heap.size:=T0.out.size
  refine hK.out _ _ ((World.cell?_alloc_lt _ _ _ (World.block_lt_of_cell? _ _ hHeld)).trans hHeld) (fun hHeld=> ?_)
  clear hK K
  try simp only [List.getElem_toArray,List.getElem_cons_zero,List.getElem_cons_succ,Act.put,List.setIfInBounds_toArray,List.set_cons_zero,List.set_cons_succ]
  generalize v0.alloc (.cells #[.int .i64 0,.int .i64 0,.slice none 0 0,.int .i64 0] 57 (0,0))=v1 at *
  generalize v0.heap.size=jb at *
  refine wpAnyH_ready (rs:=[4]) (by kernel_rfl) (by simp) ?_
  refine AllReadyH.cons rfl (fun K hK=> ?_) AllReadyH.nil
  go_simp
  refine(ldnum _ lb rb gb _ 4 L1.out (by decide)).mono ?_
  rintro e v2 ⟨a1,s1,rfl,g0,k0,hl,hs,-⟩
  have L2:=Lib.hid hl
  have T2:=Lib.hid (T1.out.trans (hs.imp (fun x hx=>hx.2)))
  have FA2:=Lib.hid ((hs.block jb (by omega)).trans FA1.out)
  refine hK.out _ _ ((hs.cell (p:=⟨lb,0,none⟩) hne).trans hHeld) (fun hHeld=> ?_)
  replace g0:=Lib.hid g0
  clear hK K hl hs
  try simp only [List.getElem_toArray,List.getElem_cons_zero,List.getElem_cons_succ,Act.put,List.setIfInBounds_toArray,List.set_cons_zero,List.set_cons_succ]
  refine wpAnyH_ready (rs:=[9]) (by kernel_rfl) (by simp) ?_
  refine AllReadyH.cons rfl (fun K hK=> ?_) AllReadyH.nil
  go_simp
  refine(ldnum _ lb rb gb _ 4 L2.out (by decide)).mono ?_
  rintro e v3 ⟨a2,s2,rfl,g1,k1,hl,hs,-⟩
  have L3:=Lib.hid hl
  have T3:=Lib.hid (T2.out.trans (hs.imp (fun x hx=>hx.2)))
  have FA3:=Lib.hid ((hs.block jb (by omega)).trans FA2.out)
  refine hK.out _ _ ((hs.cell (p:=⟨lb,0,none⟩) hne).trans hHeld) (fun hHeld=> ?_)
  replace g1:=Lib.hid g1
  clear hK K hl hs
  try simp only [List.getElem_toArray,List.getElem_cons_zero,List.getElem_cons_succ,Act.put,List.setIfInBounds_toArray,List.set_cons_zero,List.set_cons_succ]
  refine wpAnyH_take (i:=10) (v:= ?_) rfl (by kernel_rfl) (by kernel_rfl) (by kernel_rfl) (fun _ _ _ h=>hP _ _ _ _ (by rfl) h) (Or.inl ⟨by rfl,?_⟩) hHeld ?_
  rotate_left
  ·(intro w hSw;(try dsimp only at hSw);go_simp;try with_reducible rfl)
  simp only [List.getElem_toArray,List.getElem_cons_zero,List.getElem_cons_succ,Act.put,List.setIfInBounds_toArray,List.set_cons_zero,List.set_cons_succ]
  refine wpAnyH_ready (rs:=[12]) (by kernel_rfl) (by simp) ?_
  refine AllReadyH.cons rfl (fun K hK=> ?_) AllReadyH.nil
  rw [if_pos (by rfl)]
  simp only [List.getElem_toArray,List.getElem_cons_succ,List.getElem_cons_zero]
  refine wp_store_row 57 (.tmp 6) (.tmp 52) rfl jb (#[.int .i64 a1,.int .i64 a2,.slice none 0 0,.int .i64 0]) rfl rfl _ _ FA3.out (by kernel_rfl) rfl (by simp [Value.oneCell']) ?_
  have FA4:=Lib.hid (setRow_heap _ jb _ (#[.int .i64 a1,.int .i64 a2,.slice none 0 0,.int .i64 0]) _ _ FA3.out)
  have L4:=Lib.hid (L3.out.step (step_setRow _ jb (#[.int .i64 a1,.int .i64 a2,.slice none 0 0,.int .i64 0])) (by show lb≠jb;omega) (by show rb≠jb;omega) (by show gb≠jb;omega))
  have T4:=Lib.hid (T3.out.trans ((step_setRow _ jb (#[.int .i64 a1,.int .i64 a2,.slice none 0 0,.int .i64 0])).imp (fun x hx=>by have:=hx.1;show x≠jb;omega)))
  refine hK.out _ _ ((cell_setRow_other _ _ _ _ (by show lb≠jb;omega)).trans hHeld) (fun hHeld=> ?_)
  clear hK K
  try simp only [List.getElem_toArray,List.getElem_cons_zero,List.getElem_cons_succ,Act.put,List.setIfInBounds_toArray,List.set_cons_zero,List.set_cons_succ]
  refine wpAnyH_done (by kernel_rfl) ?_ _
  exact HR.out _ _ jb a1 a2 s1 s2 ⟨by kernel_rfl,rfl,(by kernel_rfl),(by kernel_rfl),(by kernel_rfl),(by kernel_rfl),(by kernel_rfl),(by kernel_rfl),trivial⟩ g0.out k0 g1.out k1 L4.out FA4.out T4.out hjb
end Go.Proofs.YtfchpchabdhcgaaGreat
namespace Go.Proofs.YtfchpchabdhcgaaGreat
open Go.RowKit
theorem dloop1 {Q:Exit→Act→World→Prop} (hP:∀ x a a' w,a'.defers=a.defers→Q (.panic x) a w→Q (.panic x) a' w) {a:Act} {w5:World} {z lb rb gb ib:Nat} {s:Option (List UInt8)} {name:List UInt8} {flags sh tl:Int} {y1 y2 y3 y4 y5 y6 y7 y8 y9 y10:Value} (hF:Fr [(2,.pointer (some ⟨z,0,none⟩)),(4,.pointer (some ⟨lb,0,none⟩)),(5,.pointer (some ⟨ib,0,none⟩))] a) (hL:LD lb rb gb w5 s) (hX:w5.heap[ib]? =some (imgBlock name flags ⟨.slice none 0 0,y1,y2,y3,y4,y5,y6,y7,y8,y9,y10⟩ sh tl)) (hir:ib≠rb) (hil:ib≠lb) (hig:ib≠gb) (hne:lb≠rb) (hng:lb≠gb) (hib5:ib<w5.heap.size)
  (hQ:∀ (a':Act) (w':World) (m:Nat) (xs:List SegL) (s1 s2:Option (List UInt8)) (v:Value),Fr [(2,.pointer (some ⟨z,0,none⟩)),(4,.pointer (some ⟨lb,0,none⟩)),(5,.pointer (some ⟨ib,0,none⟩))] a'→Got (numP 1) s m s1→okLen 1 m→xs.length=m→Got (manyP segP m) s1 xs s2→(∀ x∈xs,okSeg x)→LD lb rb gb w' s2→w'.heap[ib]? =some (imgBlock name flags ⟨v,y1,y2,y3,y4,y5,y6,y7,y8,y9,y10⟩ sh tl)→Step (fun x=>x<w5.heap.size∧x≠rb∧x≠lb∧x≠ib) w5 w'→LB kSeg (fun b=>w5.heap.size≤b∧b<w'.heap.size) w' v xs→Q .normal a' w'):(dCode Tryz.f6 4).wp Tryz.prog Q a w5:=by
 have L5:=Lib.hid hL
 have X5:=Lib.hid hX
 have HQ:=Lib.hid hQ
 have hz5:w5.heap.size≤w5.heap.size:=Nat.le_refl _
 have hlb5:=hL.lt
 have hrb5:=hL.rblt
 have hgb5:=hL.gblt
 clear hL hX hQ
 apply Fr.elim hF
 clear hF
 intro _ _
 intro V2
 intro _
 intro V4
 intro V5
 iterate 326 (intro _)
 intro hF
 obtain⟨-,-,e2,e4,e5,-⟩:=hF
 replace e2:V2=.pointer (some ⟨z,0,none⟩):=e2
 subst e2
 replace e4:V4=.pointer (some ⟨lb,0,none⟩):=e4
 subst e4
 replace e5:V5=.pointer (some ⟨ib,0,none⟩):=e5
 subst e5
 conv in dCode Tryz.f6 4=>whnf
 have c5:=L5.out.cell
 have HN:=Lib.hid (ldnum w5 lb rb gb s 1 L5.out (by decide))
 go_wp2_with fail
 refine HN.out.mono ?_
 rintro e w6 ⟨n1,t5,rfl,hg,hk,hl,hs,-⟩
 have Gn1:=Lib.hid hg
 have Kn1:=Lib.hid hk
 have L6:=Lib.hid hl
 have X6:=Lib.hid ((hs.block ib hir).trans X5.out)
 have hz6:w5.heap.size≤w6.heap.size:=Nat.le_trans hz5 hs.size
 have Q6:=Lib.hid (hs.imp (S':=fun x=>x<w5.heap.size∧x≠rb∧x≠lb∧x≠ib) (fun x hx=>hx.2.1))
 clear hg hk hl hs HN c5 X5 L5
 obtain⟨m1,rfl,hmm1⟩:=okN_idx (by decide) Kn1.out
 have hm1:m1<256:=hmm1
 go_wp2_with fail
 refine wp_loop_n (k:=40) (m:=m1) (fun q a wr=>q≤m1∧Fr [(2,.pointer (some ⟨z,0,none⟩)),(4,.pointer (some ⟨lb,0,none⟩)),(5,.pointer (some ⟨ib,0,none⟩)),(39,.int .i64 m1),(40,.int .i64 q)] a∧∃ v,wr.heap[ib]? =some (imgBlock name flags ⟨v,y1,y2,y3,y4,y5,y6,y7,y8,y9,y10⟩ sh tl)∧LQ 57 kSeg segP okSeg lb rb gb (fun x=>x≠rb∧x≠lb∧x≠ib) w6 t5 wr v q) ?_ ?_ ?_
 ·exact fun q a w h=>⟨h.1,FrL.get h.2.1.2.2 (40,.int .i64 q) (by simp)⟩
 ·exact⟨Nat.zero_le _,⟨by kernel_rfl,rfl,(by kernel_rfl),(by kernel_rfl),(by kernel_rfl),(by kernel_rfl),(by kernel_rfl),trivial⟩,_,X6.out,.start L6.out⟩
 clear X6 L6
 intro q a wr K hq hI HK
 obtain⟨-,hF,v,hX,hlq⟩:=hI
 replace HK:=Lib.hid HK
 apply Fr.elim hF
 clear hF
 intro _ _
 intro V2
 intro _
 intro V4
 intro V5
 iterate 33 (intro _)
 intro V39
 intro V40
 iterate 291 (intro _)
 intro hF
 obtain⟨-,-,e2,e4,e5,e39,e40,-⟩:=hF
 replace e2:V2=.pointer (some ⟨z,0,none⟩):=e2
 subst e2
 replace e4:V4=.pointer (some ⟨lb,0,none⟩):=e4
 subst e4
 replace e5:V5=.pointer (some ⟨ib,0,none⟩):=e5
 subst e5
 replace e39:V39=.int .i64 m1:=e39
 subst e39
 replace e40:V40=.int .i64 q:=e40
 subst e40
 by_cases hlt:q<m1
 ·clear HQ Gn1 Kn1 Q6
  obtain⟨xs,s0,h1,h2,h3,h4,h5,h6⟩:=hlq
  obtain⟨oa,oc,rfl⟩:=h1.form
  rw [h2]at h1 hX
  have H1:=Lib.hid h1
  have H2:=Lib.hid h2
  have H3:=Lib.hid h3
  have H4:=Lib.hid h4
  have H5:=Lib.hid h5
  have H6:=Lib.hid h6
  have HX:=Lib.hid hX
  have hwr:=h6.size
  have c:=h5.cell
  clear h1 h2 h3 h4 h5 h6 hX
  have hrl:rb<wr.heap.size:=by omega
  have hll:lb<wr.heap.size:=by omega
  have hgl2:gb<wr.heap.size:=by omega
  go_upto_region 6 with fail
  refine dreg1 ?_ (z:=z) (ib:=ib) (v1:=.int .i64 m1) (v2:=.int .i64 q) ?_ H5.out hne hng ?_
  ·exact fun x a a' w e h=>hP x a a' w e h
  ·exact⟨by kernel_rfl,rfl,(by kernel_rfl),(by kernel_rfl),(by kernel_rfl),(by kernel_rfl),(by kernel_rfl),trivial⟩
  rintro a wc sb a1 a2 s1 s2 hF hg1 hk1 hg2 hk2 hl hS hT hsb
  apply Fr.elim hF
  clear hF
  intro _ _
  intro V2
  intro _
  intro V4
  intro V5
  intro V6
  iterate 32 (intro _)
  intro V39
  intro V40
  iterate 291 (intro _)
  intro hF
  obtain⟨-,-,e2,e4,e5,e39,e40,e6,-⟩:=hF
  replace e2:V2=.pointer (some ⟨z,0,none⟩):=e2
  subst e2
  replace e4:V4=.pointer (some ⟨lb,0,none⟩):=e4
  subst e4
  replace e5:V5=.pointer (some ⟨ib,0,none⟩):=e5
  subst e5
  replace e39:V39=.int .i64 m1:=e39
  subst e39
  replace e40:V40=.int .i64 q:=e40
  subst e40
  replace e6:V6=.pointer (some ⟨sb,0,none⟩):=e6
  subst e6
  have g1:=Lib.hid hg1
  have g2:=Lib.hid hg2
  have k1:=Lib.hid hk1
  have k2:=Lib.hid hk2
  have L0:=Lib.hid hl
  have FS0:=Lib.hid hS
  have T0:=Lib.hid hT
  have c':=hl.cell
  have hsbl:sb<wc.heap.size:=by
   rcases Nat.lt_or_ge sb wc.heap.size with h | h
   ·exact h
   ·rw [Array.getElem?_eq_none h]at hS;cases hS
  have hzc:=hT.size
  clear hg1 hg2 hk1 hk2 hl hS hT
  go_upto_region 7 with fail
  refine wp_region_held_drew (S:=fun w'=>w'.cell? ⟨lb,0,none⟩=some (.pointer (some ⟨rb,0,none⟩))) (by kernel_rfl) c' (fun hHeld=> ?_)
  refine wpAnyH_take (i:=0) (v:= ?_) rfl (by kernel_rfl) (by kernel_rfl) (by kernel_rfl) (fun _ _ _ h=>hP _ _ _ _ (by rfl) h) (Or.inl ⟨by rfl,?_⟩) hHeld ?_
  rotate_left
  ·(intro w hSw;(try dsimp only at hSw);go_simp;try with_reducible rfl)
  simp only [List.getElem_toArray,List.getElem_cons_zero,List.getElem_cons_succ,Act.put,List.setIfInBounds_toArray,List.set_cons_zero,List.set_cons_succ]
  refine wpAnyH_take (i:=1) (v:= ?_) rfl (by kernel_rfl) (by kernel_rfl) (by kernel_rfl) (fun _ _ _ h=>hP _ _ _ _ (by rfl) h) (Or.inl ⟨by rfl,?_⟩) hHeld ?_
  rotate_left
  ·(intro w hSw;(try dsimp only at hSw);go_simp;try with_reducible rfl)
  simp only [List.getElem_toArray,List.getElem_cons_zero,List.getElem_cons_succ,Act.put,List.setIfInBounds_toArray,List.set_cons_zero,List.set_cons_succ]
  refine wpAnyH_take (i:=2) (v:= ?_) rfl (by kernel_rfl) (by kernel_rfl) (by kernel_rfl) (fun _ _ _ h=>hP _ _ _ _ (by rfl) h) (Or.inl ⟨by rfl,?_⟩) hHeld ?_
  rotate_left
  ·(intro w hSw;(try dsimp only at hSw);go_simp;try with_reducible rfl)
  simp only [List.getElem_toArray,List.getElem_cons_zero,List.getElem_cons_succ,Act.put,List.setIfInBounds_toArray,List.set_cons_zero,List.set_cons_succ]
  refine wpAnyH_take (i:=3) (v:= ?_) rfl (by kernel_rfl) (by kernel_rfl) (by kernel_rfl) (fun _ _ _ h=>hP _ _ _ _ (by rfl) h) (Or.inl ⟨by rfl,?_⟩) hHeld ?_
  rotate_left
  ·(intro w hSw;(try dsimp only at hSw);go_simp;try with_reducible rfl)
  simp only [List.getElem_toArray,List.getElem_cons_zero,List.getElem_cons_succ,Act.put,List.setIfInBounds_toArray,List.set_cons_zero,List.set_cons_succ]
  refine wpAnyH_take (i:=5) (v:= ?_) rfl (by kernel_rfl) (by kernel_rfl) (by kernel_rfl) (fun _ _ _ h=>hP _ _ _ _ (by rfl) h) (Or.inl ⟨by rfl,?_⟩) hHeld ?_
  rotate_left
  ·(intro w hSw;(try dsimp only at hSw);go_simp;try with_reducible rfl)
  simp only [List.getElem_toArray,List.getElem_cons_zero,List.getElem_cons_succ,Act.put,List.setIfInBounds_toArray,List.set_cons_zero,List.set_cons_succ]
  refine wpAnyH_take (i:=6) (v:= ?_) rfl (by kernel_rfl) (by kernel_rfl) (by kernel_rfl) (fun _ _ _ h=>hP _ _ _ _ (by rfl) h) (Or.inl ⟨by rfl,?_⟩) hHeld ?_
  rotate_left
  ·(intro w hSw;(try dsimp only at hSw);go_simp;try with_reducible rfl)
  simp only [List.getElem_toArray,List.getElem_cons_zero,List.getElem_cons_succ,Act.put,List.setIfInBounds_toArray,List.set_cons_zero,List.set_cons_succ]
  refine wpAnyH_take (i:=7) (v:= ?_) rfl (by kernel_rfl) (by kernel_rfl) (by kernel_rfl) (fun _ _ _ h=>hP _ _ _ _ (by rfl) h) (Or.inl ⟨by rfl,?_⟩) hHeld ?_
  rotate_left
  ·(intro w hSw;(try dsimp only at hSw);go_simp;try with_reducible rfl)
  simp only [List.getElem_toArray,List.getElem_cons_zero,List.getElem_cons_succ,Act.put,List.setIfInBounds_toArray,List.set_cons_zero,List.set_cons_succ]
  refine wpAnyH_take (i:=8) (v:= ?_) rfl (by kernel_rfl) (by kernel_rfl) (by kernel_rfl) (fun _ _ _ h=>hP _ _ _ _ (by rfl) h) (Or.inl ⟨by rfl,?_⟩) hHeld ?_
  rotate_left
  ·(intro w hSw;(try dsimp only at hSw);go_simp;try with_reducible rfl)
  simp only [List.getElem_toArray,List.getElem_cons_zero,List.getElem_cons_succ,Act.put,List.setIfInBounds_toArray,List.set_cons_zero,List.set_cons_succ]
  replace L0:=Lib.hid (L0.out.drew)
  replace T0:=Lib.hid (T0.out.drew)
  replace FS0:Hid (wc.drew.heap[sb]? =_):=Lib.hid FS0.out
  have hzd:wc.heap.size≤wc.drew.heap.size:=Nat.le_refl _
  generalize wc.drew=v0 at L0 T0 FS0 hzd hHeld ⊢
  clear c c'
  refine wpAnyH_ready (rs:=[4]) (by kernel_rfl) (by simp) ?_
  refine AllReadyH.cons rfl (fun K hK=> ?_) AllReadyH.nil
  go_simp
  refine(ldnum _ lb rb gb _ 1 L0.out (by decide)).mono ?_
  rintro e v1 ⟨a3,s3,rfl,g3,k3,hl,hs,-⟩
  have hz1:=hs.size
  have L1:=Lib.hid hl
  have T1:=Lib.hid (T0.out.trans (hs.imp (fun x hx=>hx.2)))
  have FS1:=Lib.hid ((hs.block sb (by show sb≠rb;omega)).trans FS0.out)
  have g3:=Lib.hid g3
  refine hK.out _ _ ((hs.cell (p:=⟨lb,0,none⟩) hne).trans hHeld) (fun hHeld=> ?_)
  clear hK K hl hs
  try simp only [List.getElem_toArray,List.getElem_cons_zero,List.getElem_cons_succ,Act.put,List.setIfInBounds_toArray,List.set_cons_zero,List.set_cons_succ]
  refine wpAnyH_take (i:=10) (v:= ?_) rfl (by kernel_rfl) (by kernel_rfl) (by kernel_rfl) (fun _ _ _ h=>hP _ _ _ _ (by rfl) h) (Or.inl ⟨by rfl,?_⟩) hHeld ?_
  rotate_left
  ·(intro w hSw;(try dsimp only at hSw);go_simp;try with_reducible rfl)
  simp only [List.getElem_toArray,List.getElem_cons_zero,List.getElem_cons_succ,Act.put,List.setIfInBounds_toArray,List.set_cons_zero,List.set_cons_succ]
  refine wpAnyH_ready (rs:=[9]) (by kernel_rfl) (by simp) ?_
  refine AllReadyH.cons rfl (fun K hK=> ?_) AllReadyH.nil
  go_simp
  refine(ldblock _ lb rb gb _ L1.out).mono ?_
  rintro e v2 ⟨_,a4,s4,rfl,ho,g4,k4,hl,hs⟩
  obtain⟨ba,bc,rfl⟩:=ho.form
  have HBk:=Lib.hid (ho.lbB plain_byte)
  have hz2:=hs.size
  have L2:=Lib.hid hl
  have T2:=Lib.hid (T1.out.trans (hs.imp (fun x hx=>⟨by have:=hx.1;omega,hx.2⟩)))
  have FS2:=Lib.hid ((hs.block sb ⟨by show sb<_;omega,by show sb≠rb;omega⟩).trans FS1.out)
  have g4:=Lib.hid g4
  refine hK.out _ _ ((hs.cell (p:=⟨lb,0,none⟩) ⟨by show lb<_;omega,hne⟩).trans hHeld) (fun hHeld=> ?_)
  clear hK K hl hs ho
  try simp only [List.getElem_toArray,List.getElem_cons_zero,List.getElem_cons_succ,Act.put,List.setIfInBounds_toArray,List.set_cons_zero,List.set_cons_succ]
  have cS:v2.cell? ⟨sb,3,none⟩=some (.int .i64 0):=by rw [Lib.cell_of_heap FS2.out];rfl
  have fS:v2.frozen? ⟨sb,3,none⟩=false:=Lib.frozen_of_heap FS2.out 3
  refine wpAnyH_ready (rs:=[11]) (by kernel_rfl) (by simp) ?_
  refine AllReadyH.cons rfl (fun K hK=> ?_) AllReadyH.nil
  go_simp
  have FS3:=Lib.hid (setCell_row (k:=3) (.int .i64 a3) FS2.out)
  have L3:=Lib.hid (L2.out.step (setCell_step _ sb 3 (.int .i64 a3)) (by show lb≠sb;omega) (by show rb≠sb;omega) (by show gb≠sb;omega))
  have T3:=Lib.hid (T2.out.trans ((setCell_step _ sb 3 (.int .i64 a3)).imp (fun x hx=>by have:=hx.1;show x≠sb;omega)))
  refine hK.out _ _ ((World.cell?_of_block (a:=⟨lb,0,none⟩) (Below.heap_setCell _ _ _ _ (by show lb≠sb;omega))).trans hHeld) (fun hHeld=> ?_)
  clear hK K cS fS
  try simp only [List.getElem_toArray,List.getElem_cons_zero,List.getElem_cons_succ,Act.put,List.setIfInBounds_toArray,List.set_cons_zero,List.set_cons_succ]
  replace HBk:=Lib.hid (HBk.out.keeps (w':=v2.setCell ⟨sb,3,none⟩ (.int .i64 a3)) (fun b hb=>Below.heap_setCell _ _ _ _ (by have:=hb.2;show b≠sb;omega)))
  have hz3:v2.heap.size≤(v2.setCell ⟨sb,3,none⟩ (.int .i64 a3)).heap.size:=by simp
  generalize v2.setCell ⟨sb,3,none⟩ (.int .i64 a3)=v3 at FS3 L3 T3 hz3 hHeld HBk ⊢
  refine wpAnyH_take (i:=12) (v:= ?_) rfl (by kernel_rfl) (by kernel_rfl) (by kernel_rfl) (fun _ _ _ h=>hP _ _ _ _ (by rfl) h) (Or.inl ⟨by rfl,?_⟩) hHeld ?_
  rotate_left
  ·(intro w hSw;(try dsimp only at hSw);go_simp;try with_reducible rfl)
  simp only [List.getElem_toArray,List.getElem_cons_zero,List.getElem_cons_succ,Act.put,List.setIfInBounds_toArray,List.set_cons_zero,List.set_cons_succ]
  have cS:v3.cell? ⟨sb,2,none⟩=some (.slice none 0 0):=by rw [Lib.cell_of_heap FS3.out];rfl
  have fS:v3.frozen? ⟨sb,2,none⟩=false:=Lib.frozen_of_heap FS3.out 2
  refine wpAnyH_ready (rs:=[13]) (by kernel_rfl) (by simp) ?_
  refine AllReadyH.cons rfl (fun K hK=> ?_) AllReadyH.nil
  go_simp
  have FS4:=Lib.hid (setCell_row (k:=2) (.slice ba a4.length bc) FS3.out)
  have L4:=Lib.hid (L3.out.step (setCell_step _ sb 2 (.slice ba a4.length bc)) (by show lb≠sb;omega) (by show rb≠sb;omega) (by show gb≠sb;omega))
  have T4:=Lib.hid (T3.out.trans ((setCell_step _ sb 2 (.slice ba a4.length bc)).imp (fun x hx=>by have:=hx.1;show x≠sb;omega)))
  refine hK.out _ _ ((World.cell?_of_block (a:=⟨lb,0,none⟩) (Below.heap_setCell _ _ _ _ (by show lb≠sb;omega))).trans hHeld) (fun hHeld=> ?_)
  clear hK K cS fS
  try simp only [List.getElem_toArray,List.getElem_cons_zero,List.getElem_cons_succ,Act.put,List.setIfInBounds_toArray,List.set_cons_zero,List.set_cons_succ]
  replace HBk:=Lib.hid (HBk.out.keeps (w':=v3.setCell ⟨sb,2,none⟩ (.slice ba a4.length bc)) (fun b hb=>Below.heap_setCell _ _ _ _ (by have:=hb.2;show b≠sb;omega)))
  have hz4:v3.heap.size≤(v3.setCell ⟨sb,2,none⟩ (.slice ba a4.length bc)).heap.size:=by simp
  generalize v3.setCell ⟨sb,2,none⟩ (.slice ba a4.length bc)=v4 at FS4 L4 T4 hz4 hHeld HBk ⊢
  refine wpAnyH_done (by kernel_rfl) ?_ _
  clear hHeld
  have XI:=Lib.hid ((T4.out.block ib ⟨by omega,hir⟩).trans HX.out)
  have cI:v4.cell? ⟨ib,2,none⟩=some (.slice oa q oc):=by rw [Lib.cell_of_heap XI.out];rfl
  have e0:v4.cell? ⟨sb,0,none⟩=some (.int .i64 a1):=by rw [Lib.cell_of_heap FS4.out];rfl
  have e1:v4.cell? ⟨sb,1,none⟩=some (.int .i64 a2):=by rw [Lib.cell_of_heap FS4.out];rfl
  have e2:v4.cell? ⟨sb,2,none⟩=some (.slice ba a4.length bc):=by rw [Lib.cell_of_heap FS4.out];rfl
  have e3:v4.cell? ⟨sb,3,none⟩=some (.int .i64 a3):=by rw [Lib.cell_of_heap FS4.out];rfl
  have hnz:v4.heap.size<(v4.alloc (.cells #[.int .i64 a1,.int .i64 a2,.slice ba a4.length bc,.int .i64 a3] 57 (0,0))).heap.size:=by simp
  have O0:=Lib.hid (H1.out.step T4.out (fun y hy1 hy=>⟨hy1,fun e=>hy (by rw [e];show rb<w6.heap.size;omega)⟩))
  have OA:=Lib.hid (O0.out.alloc (.cells #[.int .i64 a1,.int .i64 a2,.slice ba a4.length bc,.int .i64 a3] 57 (0,0)))
  have hown:=H1.out.lt
  have TA:=Lib.hid (T4.out.alloc (fun b hb=>by have:=hb.1;omega) (.cells #[.int .i64 a1,.int .i64 a2,.slice ba a4.length bc,.int .i64 a3] 57 (0,0)))
  have LA:=Lib.hid (L4.out.alloc (.cells #[.int .i64 a1,.int .i64 a2,.slice ba a4.length bc,.int .i64 a3] 57 (0,0)))
  have XA:=Lib.hid (heap_alloc_old v4 (.cells #[.int .i64 a1,.int .i64 a2,.slice ba a4.length bc,.int .i64 a3] 57 (0,0)) (r:=ib) (by omega) |>.trans XI.out)
  have NA:=Lib.hid (heap_alloc_new v4 (.cells #[.int .i64 a1,.int .i64 a2,.slice ba a4.length bc,.int .i64 a3] 57 (0,0)))
  have HRow:Hid (kSeg.R (fun b=>b<(v4.alloc (.cells #[.int .i64 a1,.int .i64 a2,.slice ba a4.length bc,.int .i64 a3] 57 (0,0))).heap.size∧¬ b<w6.heap.size∧(Value.slice oa q oc).ownBlock≠some b) (v4.alloc (.cells #[.int .i64 a1,.int .i64 a2,.slice ba a4.length bc,.int .i64 a3] 57 (0,0))) ⟨a1,a2,a4,a3⟩ [.int .i64 a1,.int .i64 a2,.slice ba a4.length bc,.int .i64 a3]):=Lib.hid ⟨_,rfl,(HBk.out.keeps (fun b hb=>by have h1:=hb.1;have h2:=hb.2;exact heap_alloc_old _ _ (by omega))).imp (fun b hb=>⟨by have:=hb.1;omega,by have:=hb.2;omega,fun e=>by have:=(hown b e).2;have:=hb.2;omega⟩)⟩
  have hk:okSeg (⟨a1,a2,a4,a3⟩:SegL):=⟨k1.out,k2.out,k3,k4⟩
  have HOne:∀ u∈([.int .i64 a1,.int .i64 a2,.slice ba a4.length bc,.int .i64 a3]:List Value),u.oneCell'=true:=by
   intro u hu
   simp only [List.mem_cons,List.not_mem_nil,or_false]at hu
   rcases hu with rfl | rfl | rfl | rfl<;>rfl
  replace HOne:=Lib.hid HOne
  go_wp2_with (at_builtin;refine wpList_appendK (K:=kSeg) (v:=.slice oa q oc) (e:=57) (B:=w6.heap.size) (E:=(·<w6.heap.size)) 26 (.agg #[.int .i64 0,.int .i64 0,.slice none 0 0,.int .i64 0]) 48 Tryz.underlying26 info_seg rfl (by decide) rfl (.tmp 66) (.tmp 68) rfl q H2.out rfl OA.out (fun b hb=>by have hb:b<w6.heap.size:=hb;omega) v4.heap.size ((⟨a1,a2,a4,a3⟩:SegL)) [.int .i64 a1,.int .i64 a2,.slice ba a4.length bc,.int .i64 a3] rfl (row_of NA.out) HOne.out HRow.out ?c3 ?c4 ?c5 ?_)
  case c3=>rw [H2.out];omega
  case c4=>rw [H2.out];omega
  case c5=>omega
  intro g c2 w9 ho9 hs9 hg9
  have hno:=OA.out.notE
  have S9:Step (fun x=>x<v4.heap.size∧(x<w6.heap.size∨x=ib∨x=lb∨x=rb∨x=gb)) (v4.alloc (.cells #[.int .i64 a1,.int .i64 a2,.slice ba a4.length bc,.int .i64 a3] 57 (0,0))) w9:=hs9.imp (fun x hx=>⟨by omega,fun e=>hno x e (by show x<w6.heap.size;omega)⟩)
  have X9:=Lib.hid ((S9.block ib ⟨by omega,by omega⟩).trans XA.out)
  have cI:w9.cell? ⟨ib,2,none⟩=some (.slice oa q oc):=by rw [Lib.cell_of_heap X9.out];rfl
  have fI:w9.frozen? ⟨ib,2,none⟩=false:=Lib.frozen_of_heap X9.out 2
  have L9:=Lib.hid ((LA.out.step S9 ⟨by omega,by omega⟩ ⟨by omega,by omega⟩ ⟨by omega,by omega⟩).step (setCell_step w9 ib 2 (.slice (some ⟨g,0,none⟩) (q+1) c2)) (by show lb≠ib;omega) (by show rb≠ib;omega) (by show gb≠ib;omega))
  have Hfin:Hid (LQ 57 kSeg segP okSeg lb rb gb (fun x=>x≠rb∧x≠lb∧x≠ib) w6 t5 (w9.setCell ⟨ib,2,none⟩ (.slice (some ⟨g,0,none⟩) (q+1) c2)) (.slice (some ⟨g,0,none⟩) (q+1) c2) (q+1)):=Lib.hid (LQ.next H2.out H3.out H4.out H6.out (g1.out.bind (g2.out.bind (g3.out.bind (g4.out.bind (Got.pure _ _))))) hk ((TA.out.imp (fun x hx=>⟨by have:=hx.1;omega,hx.2.1⟩)).trans ((S9.imp (fun x hx=>⟨by have:=hx.1;omega,Or.inl hx.1⟩)).trans ((setCell_step w9 ib 2 _).imp (fun x hx=>hx.2.2.2)))) L9.out (ho9.step (setCell_step w9 ib 2 _) (fun b _ hb e=>hb (by rw [e];show ib<w6.heap.size;omega))))
  have X10:=Lib.hid (setCell_row (k:=2) (.slice (some ⟨g,0,none⟩) (q+1) c2) X9.out)
  clear cI ho9 hs9 hg9 S9 hno
  have cI:w9.cell? ⟨ib,2,none⟩=some (.slice oa q oc):=by rw [Lib.cell_of_heap X9.out];rfl
  go_wp2_with fail
  exact HK.out _ _ hlt ⟨by omega,⟨by kernel_rfl,rfl,(by kernel_rfl),(by kernel_rfl),(by kernel_rfl),(by kernel_rfl),(by show Value.int .i64 _=_;go_num),trivial⟩,_,X10.out,Hfin.out⟩
 ·obtain⟨xs,s2,c1,c2,c3,c4,c5,c6⟩:=LQ.done w5.heap.size hz6 hlq
  obtain rfl:m1=q:=by omega
  clear HK hlq
  have HE:=Lib.hid (HQ.out (m:=m1) (xs:=xs) (s1:=t5) (s2:=s2) (v:=v))
  replace c3:=Lib.hid c3
  replace c4:=Lib.hid c4
  replace hX:=Lib.hid hX
  replace c5:=Lib.hid c5
  replace c6:=Lib.hid c6
  replace c2:=Lib.hid c2
  replace hmm1:=Lib.hid hmm1
  clear HQ
  go_wp2_with fail
  exact HE.out _ _ ⟨by kernel_rfl,rfl,(by kernel_rfl),(by kernel_rfl),(by kernel_rfl),trivial⟩ Gn1.out hmm1.out c1 c3.out c2.out c4.out hX.out (Q6.out.trans (c5.out.imp (S':=fun x=>x<w5.heap.size∧x≠rb∧x≠lb∧x≠ib) (fun x hx=>⟨Nat.lt_of_lt_of_le hx.1 Q6.out.size,hx.2⟩))) c6.out
end Go.Proofs.YtfchpchabdhcgaaGreat
namespace Go.Proofs.YtfchpchabdhcgaaGreat
open Go.RowKit
theorem dloop2 {Q:Exit→Act→World→Prop} (hP:∀ x a a' w,a'.defers=a.defers→Q (.panic x) a w→Q (.panic x) a' w) {a:Act} {w5:World} {z lb rb gb ib:Nat} {s:Option (List UInt8)} {name:List UInt8} {flags sh tl:Int} {y0 y2 y3 y4 y5 y6 y7 y8 y9 y10:Value} (hF:Fr [(2,.pointer (some ⟨z,0,none⟩)),(4,.pointer (some ⟨lb,0,none⟩)),(5,.pointer (some ⟨ib,0,none⟩))] a) (hL:LD lb rb gb w5 s) (hX:w5.heap[ib]? =some (imgBlock name flags ⟨y0,.slice none 0 0,y2,y3,y4,y5,y6,y7,y8,y9,y10⟩ sh tl)) (hir:ib≠rb) (hil:ib≠lb) (hig:ib≠gb) (hne:lb≠rb) (hng:lb≠gb) (hib5:ib<w5.heap.size)
  (hQ:∀ (a':Act) (w':World) (m:Nat) (xs:List NeedL) (s1 s2:Option (List UInt8)) (v:Value),Fr [(2,.pointer (some ⟨z,0,none⟩)),(4,.pointer (some ⟨lb,0,none⟩)),(5,.pointer (some ⟨ib,0,none⟩))] a'→Got (numP 1) s m s1→okLen 1 m→xs.length=m→Got (manyP needP m) s1 xs s2→(∀ x∈xs,okNeed x)→LD lb rb gb w' s2→w'.heap[ib]? =some (imgBlock name flags ⟨y0,v,y2,y3,y4,y5,y6,y7,y8,y9,y10⟩ sh tl)→Step (fun x=>x<w5.heap.size∧x≠rb∧x≠lb∧x≠ib) w5 w'→LB kNeed (fun b=>w5.heap.size≤b∧b<w'.heap.size) w' v xs→Q .normal a' w'):(dCode Tryz.f6 5).wp Tryz.prog Q a w5:=by
 have L5:=Lib.hid hL
 have X5:=Lib.hid hX
 have HQ:=Lib.hid hQ
 have hz5:w5.heap.size≤w5.heap.size:=Nat.le_refl _
 have hlb5:=hL.lt
 have hrb5:=hL.rblt
 have hgb5:=hL.gblt
 clear hL hX hQ
 apply Fr.elim hF
 clear hF
 intro _ _
 intro V2
 intro _
 intro V4
 intro V5
 iterate 326 (intro _)
 intro hF
 obtain⟨-,-,e2,e4,e5,-⟩:=hF
 replace e2:V2=.pointer (some ⟨z,0,none⟩):=e2
 subst e2
 replace e4:V4=.pointer (some ⟨lb,0,none⟩):=e4
 subst e4
 replace e5:V5=.pointer (some ⟨ib,0,none⟩):=e5
 subst e5
 conv in dCode Tryz.f6 5=>whnf
 have c5:=L5.out.cell
 have HN:=Lib.hid (ldnum w5 lb rb gb s 1 L5.out (by decide))
 go_wp2_with fail
 refine HN.out.mono ?_
 rintro e w6 ⟨n1,t5,rfl,hg,hk,hl,hs,-⟩
 have Gn1:=Lib.hid hg
 have Kn1:=Lib.hid hk
 have L6:=Lib.hid hl
 have X6:=Lib.hid ((hs.block ib hir).trans X5.out)
 have hz6:w5.heap.size≤w6.heap.size:=Nat.le_trans hz5 hs.size
 have Q6:=Lib.hid (hs.imp (S':=fun x=>x<w5.heap.size∧x≠rb∧x≠lb∧x≠ib) (fun x hx=>hx.2.1))
 clear hg hk hl hs HN c5 X5 L5
 obtain⟨m1,rfl,hmm1⟩:=okN_idx (by decide) Kn1.out
 have hm1:m1<256:=hmm1
 go_wp2_with fail
 refine wp_loop_n (k:=77) (m:=m1) (fun q a wr=>q≤m1∧Fr [(2,.pointer (some ⟨z,0,none⟩)),(4,.pointer (some ⟨lb,0,none⟩)),(5,.pointer (some ⟨ib,0,none⟩)),(76,.int .i64 m1),(77,.int .i64 q)] a∧∃ v,wr.heap[ib]? =some (imgBlock name flags ⟨y0,v,y2,y3,y4,y5,y6,y7,y8,y9,y10⟩ sh tl)∧LQ 67 kNeed needP okNeed lb rb gb (fun x=>x≠rb∧x≠lb∧x≠ib) w6 t5 wr v q) ?_ ?_ ?_
 ·exact fun q a w h=>⟨h.1,FrL.get h.2.1.2.2 (77,.int .i64 q) (by simp)⟩
 ·exact⟨Nat.zero_le _,⟨by kernel_rfl,rfl,(by kernel_rfl),(by kernel_rfl),(by kernel_rfl),(by kernel_rfl),(by kernel_rfl),trivial⟩,_,X6.out,.start L6.out⟩
 clear X6 L6
 intro q a wr K hq hI HK
 obtain⟨-,hF,v,hX,hlq⟩:=hI
 replace HK:=Lib.hid HK
 apply Fr.elim hF
 clear hF
 intro _ _
 intro V2
 intro _
 intro V4
 intro V5
 iterate 70 (intro _)
 intro V76
 intro V77
 iterate 254 (intro _)
 intro hF
 obtain⟨-,-,e2,e4,e5,e76,e77,-⟩:=hF
 replace e2:V2=.pointer (some ⟨z,0,none⟩):=e2
 subst e2
 replace e4:V4=.pointer (some ⟨lb,0,none⟩):=e4
 subst e4
 replace e5:V5=.pointer (some ⟨ib,0,none⟩):=e5
 subst e5
 replace e76:V76=.int .i64 m1:=e76
 subst e76
 replace e77:V77=.int .i64 q:=e77
 subst e77
 by_cases hlt:q<m1
 ·clear HQ Gn1 Kn1 Q6
  obtain⟨xs,s0,h1,h2,h3,h4,h5,h6⟩:=hlq
  obtain⟨oa,oc,rfl⟩:=h1.form
  rw [h2]at h1 hX
  have H1:=Lib.hid h1
  have H2:=Lib.hid h2
  have H3:=Lib.hid h3
  have H4:=Lib.hid h4
  have H5:=Lib.hid h5
  have H6:=Lib.hid h6
  have HX:=Lib.hid hX
  have hwr:=h6.size
  have c:=h5.cell
  clear h1 h2 h3 h4 h5 h6 hX
  have hrl:rb<wr.heap.size:=by omega
  have hll:lb<wr.heap.size:=by omega
  have hgl2:gb<wr.heap.size:=by omega
  have L0:=H5
  have T0:=Lib.hid (Step.refl (fun x=>x<wr.heap.size∧x≠rb) wr)
  have HN:=Lib.hid (ldtext wr lb rb gb _ L0.out)
  go_wp2_with fail
  refine HN.out.mono ?_
  clear HN
  rintro e v1 ⟨a1,s1,rfl,g1,k1,hl,hs,-⟩
  have hzv1:=hs.size
  have L1:=Lib.hid hl
  replace g1:=Lib.hid g1
  replace k1:=Lib.hid k1
  have T1:=Lib.hid (T0.out.trans (hs.imp (fun x hx=>hx.2)))
  clear hl hs L0 T0
  go_upto_region 13 with fail
  have FS2:=Lib.hid (heap_alloc_new v1 (.cells #[.string ⟨a1.toArray⟩,.slice none 0 0] 67 (0,0)))
  have L2:=Lib.hid (L1.out.alloc (.cells #[.string ⟨a1.toArray⟩,.slice none 0 0] 67 (0,0)))
  have T2:=Lib.hid (T1.out.alloc (fun b hb=>by have:=hb.1;omega) (.cells #[.string ⟨a1.toArray⟩,.slice none 0 0] 67 (0,0)))
  have hzn:v1.heap.size<(v1.alloc (.cells #[.string ⟨a1.toArray⟩,.slice none 0 0] 67 (0,0))).heap.size:=by simp
  clear L1 T1
  generalize v1.alloc (.cells #[.string ⟨a1.toArray⟩,.slice none 0 0] 67 (0,0))=v2 at FS2 L2 T2 hzn ⊢
  have hsb:wr.heap.size≤v1.heap.size:=by omega
  generalize v1.heap.size=sb at FS2 hzn hzv1 hsb ⊢
  have c2:=L2.out.cell
  have HN:=Lib.hid (ldnum v2 lb rb gb _ 1 L2.out (by decide))
  go_wp2_with fail
  refine HN.out.mono ?_
  clear HN
  rintro e v3 ⟨n,s2,rfl,g2,k2,hl,hs,-⟩
  have hzv3:=hs.size
  have L3:=Lib.hid hl
  replace g2:=Lib.hid g2
  replace k2:=Lib.hid k2
  have T3:=Lib.hid (T2.out.trans (hs.imp (fun x hx=>hx.2)))
  have FS3:=Lib.hid ((hs.block sb (by show sb≠rb;omega)).trans FS2.out)
  clear hl hs L2 T2
  clear c2
  obtain⟨m,rfl,hmm⟩:=okN_idx (by decide) k2.out
  have hm:m<256:=hmm
  have HN:=Lib.hid (ldtexts v3 lb rb gb _ m L3.out (by omega))
  go_wp2_with fail
  refine HN.out.mono ?_
  clear HN
  rintro e v4 ⟨ya2,rfl,hq⟩
  obtain⟨a2,s3,Za2,k3,g3,hl,hs,HBk⟩:=LQ.done v3.heap.size (Nat.le_refl _) hq
  clear hq
  replace Za2:=Lib.hid Za2
  replace HBk:=Lib.hid HBk
  have hzv4:=hs.size
  have L4:=Lib.hid hl
  replace g3:=Lib.hid g3
  replace k3:=Lib.hid k3
  have T4:=Lib.hid (T3.out.trans (hs.imp (fun x hx=>⟨by have:=hx.1;omega,hx.2⟩)))
  have FS4:=Lib.hid ((hs.block sb ⟨by show sb<_;omega,by show sb≠rb;omega⟩).trans FS3.out)
  clear hl hs L3 T3
  obtain⟨ya,yc,rfl⟩:=HBk.out.form
  have cS:v4.cell? ⟨sb,1,none⟩=some (.slice none 0 0):=by rw [Lib.cell_of_heap FS4.out];rfl
  have fS:v4.frozen? ⟨sb,1,none⟩=false:=Lib.frozen_of_heap FS4.out 1
  go_upto_region 14 with fail
  have FS5:=Lib.hid (setCell_row (k:=1) (.slice ya a2.length yc) FS4.out)
  have L5:=Lib.hid (L4.out.step (setCell_step _ sb 1 (.slice ya a2.length yc)) (by show lb≠sb;omega) (by show rb≠sb;omega) (by show gb≠sb;omega))
  have T5:=Lib.hid (T4.out.trans ((setCell_step _ sb 1 (.slice ya a2.length yc)).imp (fun x hx=>by have:=hx.1;show x≠sb;omega)))
  clear cS fS L4 T4 FS4
  replace HBk:=Lib.hid (HBk.out.keeps (w':=v4.setCell ⟨sb,1,none⟩ (.slice ya a2.length yc)) (fun b hb=>Below.heap_setCell _ _ _ _ (by have:=hb.1;show b≠sb;omega)))
  have hz5:v4.heap.size≤(v4.setCell ⟨sb,1,none⟩ (.slice ya a2.length yc)).heap.size:=by simp
  generalize v4.setCell ⟨sb,1,none⟩ (.slice ya a2.length yc)=v5 at *
  have XI:=Lib.hid ((T5.out.block ib ⟨by omega,hir⟩).trans HX.out)
  have cI:v5.cell? ⟨ib,3,none⟩=some (.slice oa q oc):=by rw [Lib.cell_of_heap XI.out];rfl
  have e0:v5.cell? ⟨sb,0,none⟩=some (.string ⟨a1.toArray⟩):=by rw [Lib.cell_of_heap FS5.out];rfl
  have e1:v5.cell? ⟨sb,1,none⟩=some (.slice ya a2.length yc):=by rw [Lib.cell_of_heap FS5.out];rfl
  have hnz:v5.heap.size<(v5.alloc (.cells #[.string ⟨a1.toArray⟩,.slice ya a2.length yc] 67 (0,0))).heap.size:=by simp
  have O0:=Lib.hid (H1.out.step T5.out (fun y hy1 hy=>⟨hy1,fun e=>hy (by rw [e];show rb<w6.heap.size;omega)⟩))
  have OA:=Lib.hid (O0.out.alloc (.cells #[.string ⟨a1.toArray⟩,.slice ya a2.length yc] 67 (0,0)))
  have hown:=H1.out.lt
  have TA:=Lib.hid (T5.out.alloc (fun b hb=>by have:=hb.1;omega) (.cells #[.string ⟨a1.toArray⟩,.slice ya a2.length yc] 67 (0,0)))
  have LA:=Lib.hid (L5.out.alloc (.cells #[.string ⟨a1.toArray⟩,.slice ya a2.length yc] 67 (0,0)))
  have XA:=Lib.hid (heap_alloc_old v5 (.cells #[.string ⟨a1.toArray⟩,.slice ya a2.length yc] 67 (0,0)) (r:=ib) (by omega) |>.trans XI.out)
  have NA:=Lib.hid (heap_alloc_new v5 (.cells #[.string ⟨a1.toArray⟩,.slice ya a2.length yc] 67 (0,0)))
  have HRow:Hid (kNeed.R (fun b=>b<(v5.alloc (.cells #[.string ⟨a1.toArray⟩,.slice ya a2.length yc] 67 (0,0))).heap.size∧¬ b<w6.heap.size∧(Value.slice oa q oc).ownBlock≠some b) (v5.alloc (.cells #[.string ⟨a1.toArray⟩,.slice ya a2.length yc] 67 (0,0))) ⟨a1,a2⟩ [.string ⟨a1.toArray⟩,.slice ya a2.length yc]):=Lib.hid ⟨_,rfl,(HBk.out.keeps (fun b hb=>by have h1:=hb.1;have h2:=hb.2;exact heap_alloc_old _ _ (by omega))).imp (fun b hb=>⟨by have:=hb.2;omega,by have:=hb.1;omega,fun e=>by have:=(hown b e).2;have:=hb.1;omega⟩),Nat.le_trans k1.out (by decide)⟩
  have hk:okNeed (⟨a1,a2⟩:NeedL):=⟨k1.out,by rw [okLen,Za2.out];exact hmm,k3.out⟩
  have HOne:∀ u∈([.string ⟨a1.toArray⟩,.slice ya a2.length yc]:List Value),u.oneCell'=true:=by
   intro u hu
   simp only [List.mem_cons,List.not_mem_nil,or_false]at hu
   rcases hu with rfl | rfl<;>rfl
  replace HOne:=Lib.hid HOne
  go_wp2_with (at_builtin;refine wpList_appendK (K:=kNeed) (v:=.slice oa q oc) (e:=67) (B:=w6.heap.size) (E:=(·<w6.heap.size)) 27 (.agg #[.string ⟨#[]⟩,.slice none 0 0]) 40 Tryz.underlying27 info_need rfl (by decide) rfl (.tmp 94) (.tmp 96) rfl q H2.out rfl OA.out (fun b hb=>by have hb:b<w6.heap.size:=hb;omega) v5.heap.size ((⟨a1,a2⟩:NeedL)) [.string ⟨a1.toArray⟩,.slice ya a2.length yc] rfl (row_of NA.out) HOne.out HRow.out ?c3 ?c4 ?c5 ?_)
  case c3=>rw [H2.out];omega
  case c4=>rw [H2.out];omega
  case c5=>omega
  intro g c2 w9 ho9 hs9 hg9
  have hno:=OA.out.notE
  have S9:Step (fun x=>x<v5.heap.size∧(x<w6.heap.size∨x=ib∨x=lb∨x=rb∨x=gb)) (v5.alloc (.cells #[.string ⟨a1.toArray⟩,.slice ya a2.length yc] 67 (0,0))) w9:=hs9.imp (fun x hx=>⟨by omega,fun e=>hno x e (by show x<w6.heap.size;omega)⟩)
  have X9:=Lib.hid ((S9.block ib ⟨by omega,by omega⟩).trans XA.out)
  have cI:w9.cell? ⟨ib,3,none⟩=some (.slice oa q oc):=by rw [Lib.cell_of_heap X9.out];rfl
  have fI:w9.frozen? ⟨ib,3,none⟩=false:=Lib.frozen_of_heap X9.out 3
  have L9:=Lib.hid ((LA.out.step S9 ⟨by omega,by omega⟩ ⟨by omega,by omega⟩ ⟨by omega,by omega⟩).step (setCell_step w9 ib 3 (.slice (some ⟨g,0,none⟩) (q+1) c2)) (by show lb≠ib;omega) (by show rb≠ib;omega) (by show gb≠ib;omega))
  have Hfin:Hid (LQ 67 kNeed needP okNeed lb rb gb (fun x=>x≠rb∧x≠lb∧x≠ib) w6 t5 (w9.setCell ⟨ib,3,none⟩ (.slice (some ⟨g,0,none⟩) (q+1) c2)) (.slice (some ⟨g,0,none⟩) (q+1) c2) (q+1)):=Lib.hid (LQ.next H2.out H3.out H4.out H6.out (g1.out.bind (g2.out.bind (g3.out.bind (Got.pure _ _)))) hk ((TA.out.imp (fun x hx=>⟨by have:=hx.1;omega,hx.2.1⟩)).trans ((S9.imp (fun x hx=>⟨by have:=hx.1;omega,Or.inl hx.1⟩)).trans ((setCell_step w9 ib 3 _).imp (fun x hx=>hx.2.2.2)))) L9.out (ho9.step (setCell_step w9 ib 3 _) (fun b _ hb e=>hb (by rw [e];show ib<w6.heap.size;omega))))
  have X10:=Lib.hid (setCell_row (k:=3) (.slice (some ⟨g,0,none⟩) (q+1) c2) X9.out)
  clear cI ho9 hs9 hg9 S9 hno
  have cI:w9.cell? ⟨ib,3,none⟩=some (.slice oa q oc):=by rw [Lib.cell_of_heap X9.out];rfl
  go_wp2_with fail
  exact HK.out _ _ hlt ⟨by omega,⟨by kernel_rfl,rfl,(by kernel_rfl),(by kernel_rfl),(by kernel_rfl),(by kernel_rfl),(by show Value.int .i64 _=_;go_num),trivial⟩,_,X10.out,Hfin.out⟩
 ·obtain⟨xs,s2,c1,c2,c3,c4,c5,c6⟩:=LQ.done w5.heap.size hz6 hlq
  obtain rfl:m1=q:=by omega
  clear HK hlq
  have HE:=Lib.hid (HQ.out (m:=m1) (xs:=xs) (s1:=t5) (s2:=s2) (v:=v))
  replace c3:=Lib.hid c3
  replace c4:=Lib.hid c4
  replace hX:=Lib.hid hX
  replace c5:=Lib.hid c5
  replace c6:=Lib.hid c6
  replace c2:=Lib.hid c2
  replace hmm1:=Lib.hid hmm1
  clear HQ
  go_wp2_with fail
  exact HE.out _ _ ⟨by kernel_rfl,rfl,(by kernel_rfl),(by kernel_rfl),(by kernel_rfl),trivial⟩ Gn1.out hmm1.out c1 c3.out c2.out c4.out hX.out (Q6.out.trans (c5.out.imp (S':=fun x=>x<w5.heap.size∧x≠rb∧x≠lb∧x≠ib) (fun x hx=>⟨Nat.lt_of_lt_of_le hx.1 Q6.out.size,hx.2⟩))) c6.out
end Go.Proofs.YtfchpchabdhcgaaGreat
namespace Go.Proofs.YtfchpchabdhcgaaGreat
open Go.RowKit
theorem dloop6 {Q:Exit→Act→World→Prop} (hP:∀ x a a' w,a'.defers=a.defers→Q (.panic x) a w→Q (.panic x) a' w) {a:Act} {w5:World} {z lb rb gb ib:Nat} {s:Option (List UInt8)} {name:List UInt8} {flags sh tl:Int} {y0 y1 y2 y3 y4 y5 y7 y8 y9 y10:Value} (hF:Fr [(2,.pointer (some ⟨z,0,none⟩)),(4,.pointer (some ⟨lb,0,none⟩)),(5,.pointer (some ⟨ib,0,none⟩))] a) (hL:LD lb rb gb w5 s) (hX:w5.heap[ib]? =some (imgBlock name flags ⟨y0,y1,y2,y3,y4,y5,.slice none 0 0,y7,y8,y9,y10⟩ sh tl)) (hir:ib≠rb) (hil:ib≠lb) (hig:ib≠gb) (hne:lb≠rb) (hng:lb≠gb) (hib5:ib<w5.heap.size)
  (hQ:∀ (a':Act) (w':World) (m:Nat) (xs:List RelL) (s1 s2:Option (List UInt8)) (v:Value),Fr [(2,.pointer (some ⟨z,0,none⟩)),(4,.pointer (some ⟨lb,0,none⟩)),(5,.pointer (some ⟨ib,0,none⟩))] a'→Got (numP 2) s m s1→okLen 2 m→xs.length=m→Got (manyP relP m) s1 xs s2→(∀ x∈xs,okRel x)→LD lb rb gb w' s2→w'.heap[ib]? =some (imgBlock name flags ⟨y0,y1,y2,y3,y4,y5,v,y7,y8,y9,y10⟩ sh tl)→Step (fun x=>x<w5.heap.size∧x≠rb∧x≠lb∧x≠ib) w5 w'→LB kRel (fun b=>w5.heap.size≤b∧b<w'.heap.size) w' v xs→Q .normal a' w'):(dCode Tryz.f6 11).wp Tryz.prog Q a w5:=by
 have L5:=Lib.hid hL
 have X5:=Lib.hid hX
 have HQ:=Lib.hid hQ
 have hz5:w5.heap.size≤w5.heap.size:=Nat.le_refl _
 have hlb5:=hL.lt
 have hrb5:=hL.rblt
 have hgb5:=hL.gblt
 clear hL hX hQ
 apply Fr.elim hF
 clear hF
 intro _ _
 intro V2
 intro _
 intro V4
 intro V5
 iterate 326 (intro _)
 intro hF
 obtain⟨-,-,e2,e4,e5,-⟩:=hF
 replace e2:V2=.pointer (some ⟨z,0,none⟩):=e2
 subst e2
 replace e4:V4=.pointer (some ⟨lb,0,none⟩):=e4
 subst e4
 replace e5:V5=.pointer (some ⟨ib,0,none⟩):=e5
 subst e5
 conv in dCode Tryz.f6 11=>whnf
 have c5:=L5.out.cell
 have HN:=Lib.hid (ldnum w5 lb rb gb s 2 L5.out (by decide))
 go_wp2_with fail
 refine HN.out.mono ?_
 rintro e w6 ⟨n1,t5,rfl,hg,hk,hl,hs,-⟩
 have Gn1:=Lib.hid hg
 have Kn1:=Lib.hid hk
 have L6:=Lib.hid hl
 have X6:=Lib.hid ((hs.block ib hir).trans X5.out)
 have hz6:w5.heap.size≤w6.heap.size:=Nat.le_trans hz5 hs.size
 have Q6:=Lib.hid (hs.imp (S':=fun x=>x<w5.heap.size∧x≠rb∧x≠lb∧x≠ib) (fun x hx=>hx.2.1))
 clear hg hk hl hs HN c5 X5 L5
 obtain⟨m1,rfl,hmm1⟩:=okN_idx (by decide) Kn1.out
 have hm1:m1<65536:=hmm1
 go_wp2_with fail
 refine wp_loop_n (k:=222) (m:=m1) (fun q a wr=>q≤m1∧Fr [(2,.pointer (some ⟨z,0,none⟩)),(4,.pointer (some ⟨lb,0,none⟩)),(5,.pointer (some ⟨ib,0,none⟩)),(221,.int .i64 m1),(222,.int .i64 q)] a∧∃ v,wr.heap[ib]? =some (imgBlock name flags ⟨y0,y1,y2,y3,y4,y5,v,y7,y8,y9,y10⟩ sh tl)∧LQ 53 kRel relP okRel lb rb gb (fun x=>x≠rb∧x≠lb∧x≠ib) w6 t5 wr v q) ?_ ?_ ?_
 ·exact fun q a w h=>⟨h.1,FrL.get h.2.1.2.2 (222,.int .i64 q) (by simp)⟩
 ·exact⟨Nat.zero_le _,⟨by kernel_rfl,rfl,(by kernel_rfl),(by kernel_rfl),(by kernel_rfl),(by kernel_rfl),(by kernel_rfl),trivial⟩,_,X6.out,.start L6.out⟩
 clear X6 L6
 intro q a wr K hq hI HK
 obtain⟨-,hF,v,hX,hlq⟩:=hI
 replace HK:=Lib.hid HK
 apply Fr.elim hF
 clear hF
 intro _ _
 intro V2
 intro _
 intro V4
 intro V5
 iterate 215 (intro _)
 intro V221
 intro V222
 iterate 109 (intro _)
 intro hF
 obtain⟨-,-,e2,e4,e5,e221,e222,-⟩:=hF
 replace e2:V2=.pointer (some ⟨z,0,none⟩):=e2
 subst e2
 replace e4:V4=.pointer (some ⟨lb,0,none⟩):=e4
 subst e4
 replace e5:V5=.pointer (some ⟨ib,0,none⟩):=e5
 subst e5
 replace e221:V221=.int .i64 m1:=e221
 subst e221
 replace e222:V222=.int .i64 q:=e222
 subst e222
 by_cases hlt:q<m1
 ·clear HQ Gn1 Kn1 Q6
  obtain⟨xs,s0,h1,h2,h3,h4,h5,h6⟩:=hlq
  obtain⟨oa,oc,rfl⟩:=h1.form
  rw [h2]at h1 hX
  have H1:=Lib.hid h1
  have H2:=Lib.hid h2
  have H3:=Lib.hid h3
  have H4:=Lib.hid h4
  have H5:=Lib.hid h5
  have H6:=Lib.hid h6
  have HX:=Lib.hid hX
  have hwr:=h6.size
  have c:=h5.cell
  clear h1 h2 h3 h4 h5 h6 hX
  have hrl:rb<wr.heap.size:=by omega
  have hll:lb<wr.heap.size:=by omega
  have hgl2:gb<wr.heap.size:=by omega
  have L0:=H5
  have T0:=Lib.hid (Step.refl (fun x=>x<wr.heap.size∧x≠rb) wr)
  have HN:=Lib.hid (ldnum wr lb rb gb _ 1 L0.out (by decide))
  go_wp2_with fail
  refine HN.out.mono ?_
  clear HN
  rintro e v1 ⟨a1,s1,rfl,g1,k1,hl,hs,-⟩
  have hzv1:=hs.size
  have L1:=Lib.hid hl
  replace g1:=Lib.hid g1
  replace k1:=Lib.hid k1
  have T1:=Lib.hid (T0.out.trans (hs.imp (fun x hx=>hx.2)))
  clear hl hs L0 T0
  go_upto_region 36 with fail
  have FS2:=Lib.hid (heap_alloc_new v1 (.cells #[.int .i64 0,.int .i64 a1,.int .i64 0,.int .i64 0] 53 (0,0)))
  have L2:=Lib.hid (L1.out.alloc (.cells #[.int .i64 0,.int .i64 a1,.int .i64 0,.int .i64 0] 53 (0,0)))
  have T2:=Lib.hid (T1.out.alloc (fun b hb=>by have:=hb.1;omega) (.cells #[.int .i64 0,.int .i64 a1,.int .i64 0,.int .i64 0] 53 (0,0)))
  have hzn:v1.heap.size<(v1.alloc (.cells #[.int .i64 0,.int .i64 a1,.int .i64 0,.int .i64 0] 53 (0,0))).heap.size:=by simp
  clear L1 T1
  generalize v1.alloc (.cells #[.int .i64 0,.int .i64 a1,.int .i64 0,.int .i64 0] 53 (0,0))=v2 at FS2 L2 T2 hzn ⊢
  have hsb:wr.heap.size≤v1.heap.size:=by omega
  generalize v1.heap.size=sb at FS2 hzn hzv1 hsb ⊢
  have c':=L2.out.cell
  refine wp_region_held_drew (S:=fun w'=>w'.cell? ⟨lb,0,none⟩=some (.pointer (some ⟨rb,0,none⟩))) (by kernel_rfl) c' (fun hHeld=> ?_)
  refine wpAnyH_take (i:=0) (v:= ?_) rfl (by kernel_rfl) (by kernel_rfl) (by kernel_rfl) (fun _ _ _ h=>hP _ _ _ _ (by rfl) h) (Or.inl ⟨by rfl,?_⟩) hHeld ?_
  rotate_left
  ·(intro w hSw;(try dsimp only at hSw);go_simp;try with_reducible rfl)
  simp only [List.getElem_toArray,List.getElem_cons_zero,List.getElem_cons_succ,Act.put,List.setIfInBounds_toArray,List.set_cons_zero,List.set_cons_succ]
  refine wpAnyH_take (i:=1) (v:= ?_) rfl (by kernel_rfl) (by kernel_rfl) (by kernel_rfl) (fun _ _ _ h=>hP _ _ _ _ (by rfl) h) (Or.inl ⟨by rfl,?_⟩) hHeld ?_
  rotate_left
  ·(intro w hSw;(try dsimp only at hSw);go_simp;try with_reducible rfl)
  simp only [List.getElem_toArray,List.getElem_cons_zero,List.getElem_cons_succ,Act.put,List.setIfInBounds_toArray,List.set_cons_zero,List.set_cons_succ]
  refine wpAnyH_take (i:=2) (v:= ?_) rfl (by kernel_rfl) (by kernel_rfl) (by kernel_rfl) (fun _ _ _ h=>hP _ _ _ _ (by rfl) h) (Or.inl ⟨by rfl,?_⟩) hHeld ?_
  rotate_left
  ·(intro w hSw;(try dsimp only at hSw);go_simp;try with_reducible rfl)
  simp only [List.getElem_toArray,List.getElem_cons_zero,List.getElem_cons_succ,Act.put,List.setIfInBounds_toArray,List.set_cons_zero,List.set_cons_succ]
  refine wpAnyH_take (i:=3) (v:= ?_) rfl (by kernel_rfl) (by kernel_rfl) (by kernel_rfl) (fun _ _ _ h=>hP _ _ _ _ (by rfl) h) (Or.inl ⟨by rfl,?_⟩) hHeld ?_
  rotate_left
  ·(intro w hSw;(try dsimp only at hSw);go_simp;try with_reducible rfl)
  simp only [List.getElem_toArray,List.getElem_cons_zero,List.getElem_cons_succ,Act.put,List.setIfInBounds_toArray,List.set_cons_zero,List.set_cons_succ]
  refine wpAnyH_take (i:=5) (v:= ?_) rfl (by kernel_rfl) (by kernel_rfl) (by kernel_rfl) (fun _ _ _ h=>hP _ _ _ _ (by rfl) h) (Or.inl ⟨by rfl,?_⟩) hHeld ?_
  rotate_left
  ·(intro w hSw;(try dsimp only at hSw);go_simp;try with_reducible rfl)
  simp only [List.getElem_toArray,List.getElem_cons_zero,List.getElem_cons_succ,Act.put,List.setIfInBounds_toArray,List.set_cons_zero,List.set_cons_succ]
  refine wpAnyH_take (i:=6) (v:= ?_) rfl (by kernel_rfl) (by kernel_rfl) (by kernel_rfl) (fun _ _ _ h=>hP _ _ _ _ (by rfl) h) (Or.inl ⟨by rfl,?_⟩) hHeld ?_
  rotate_left
  ·(intro w hSw;(try dsimp only at hSw);go_simp;try with_reducible rfl)
  simp only [List.getElem_toArray,List.getElem_cons_zero,List.getElem_cons_succ,Act.put,List.setIfInBounds_toArray,List.set_cons_zero,List.set_cons_succ]
  refine wpAnyH_take (i:=7) (v:= ?_) rfl (by kernel_rfl) (by kernel_rfl) (by kernel_rfl) (fun _ _ _ h=>hP _ _ _ _ (by rfl) h) (Or.inl ⟨by rfl,?_⟩) hHeld ?_
  rotate_left
  ·(intro w hSw;(try dsimp only at hSw);go_simp;try with_reducible rfl)
  simp only [List.getElem_toArray,List.getElem_cons_zero,List.getElem_cons_succ,Act.put,List.setIfInBounds_toArray,List.set_cons_zero,List.set_cons_succ]
  refine wpAnyH_take (i:=8) (v:= ?_) rfl (by kernel_rfl) (by kernel_rfl) (by kernel_rfl) (fun _ _ _ h=>hP _ _ _ _ (by rfl) h) (Or.inl ⟨by rfl,?_⟩) hHeld ?_
  rotate_left
  ·(intro w hSw;(try dsimp only at hSw);go_simp;try with_reducible rfl)
  simp only [List.getElem_toArray,List.getElem_cons_zero,List.getElem_cons_succ,Act.put,List.setIfInBounds_toArray,List.set_cons_zero,List.set_cons_succ]
  refine wpAnyH_take (i:=10) (v:= ?_) rfl (by kernel_rfl) (by kernel_rfl) (by kernel_rfl) (fun _ _ _ h=>hP _ _ _ _ (by rfl) h) (Or.inl ⟨by rfl,?_⟩) hHeld ?_
  rotate_left
  ·(intro w hSw;(try dsimp only at hSw);go_simp;try with_reducible rfl)
  simp only [List.getElem_toArray,List.getElem_cons_zero,List.getElem_cons_succ,Act.put,List.setIfInBounds_toArray,List.set_cons_zero,List.set_cons_succ]
  refine wpAnyH_take (i:=11) (v:= ?_) rfl (by kernel_rfl) (by kernel_rfl) (by kernel_rfl) (fun _ _ _ h=>hP _ _ _ _ (by rfl) h) (Or.inl ⟨by rfl,?_⟩) hHeld ?_
  rotate_left
  ·(intro w hSw;(try dsimp only at hSw);go_simp;try with_reducible rfl)
  simp only [List.getElem_toArray,List.getElem_cons_zero,List.getElem_cons_succ,Act.put,List.setIfInBounds_toArray,List.set_cons_zero,List.set_cons_succ]
  refine wpAnyH_take (i:=12) (v:= ?_) rfl (by kernel_rfl) (by kernel_rfl) (by kernel_rfl) (fun _ _ _ h=>hP _ _ _ _ (by rfl) h) (Or.inl ⟨by rfl,?_⟩) hHeld ?_
  rotate_left
  ·(intro w hSw;(try dsimp only at hSw);go_simp;try with_reducible rfl)
  simp only [List.getElem_toArray,List.getElem_cons_zero,List.getElem_cons_succ,Act.put,List.setIfInBounds_toArray,List.set_cons_zero,List.set_cons_succ]
  refine wpAnyH_take (i:=13) (v:= ?_) rfl (by kernel_rfl) (by kernel_rfl) (by kernel_rfl) (fun _ _ _ h=>hP _ _ _ _ (by rfl) h) (Or.inl ⟨by rfl,?_⟩) hHeld ?_
  rotate_left
  ·(intro w hSw;(try dsimp only at hSw);go_simp;try with_reducible rfl)
  simp only [List.getElem_toArray,List.getElem_cons_zero,List.getElem_cons_succ,Act.put,List.setIfInBounds_toArray,List.set_cons_zero,List.set_cons_succ]
  have L3:=Lib.hid (L2.out.drew)
  have T3:=Lib.hid (T2.out.drew)
  have FS3:Hid (v2.drew.heap[sb]? =_):=Lib.hid FS2.out
  have hz3:v2.heap.size≤v2.drew.heap.size:=Nat.le_refl _
  generalize v2.drew=v3 at L3 T3 FS3 hz3 hHeld ⊢
  clear L2 T2 FS2 c c'
  refine wpAnyH_ready (rs:=[4]) (by kernel_rfl) (by simp) ?_
  refine AllReadyH.cons rfl (fun K hK=> ?_) AllReadyH.nil
  go_simp
  refine(ldnum _ lb rb gb _ 8 L3.out (by decide)).mono ?_
  rintro e v4 ⟨a2,s2,rfl,g2,k2,hl,hs,-⟩
  have hz4:=hs.size
  have L4:=Lib.hid hl
  have T4:=Lib.hid (T3.out.trans (hs.imp (fun x hx=>hx.2)))
  have FS4:=Lib.hid ((hs.block sb (by show sb≠rb;omega)).trans FS3.out)
  have g2:=Lib.hid g2
  refine hK.out _ _ ((hs.cell (p:=⟨lb,0,none⟩) hne).trans hHeld) (fun hHeld=> ?_)
  clear hK K hl hs
  try simp only [List.getElem_toArray,List.getElem_cons_zero,List.getElem_cons_succ,Act.put,List.setIfInBounds_toArray,List.set_cons_zero,List.set_cons_succ]
  refine wpAnyH_take (i:=15) (v:= ?_) rfl (by kernel_rfl) (by kernel_rfl) (by kernel_rfl) (fun _ _ _ h=>hP _ _ _ _ (by rfl) h) (Or.inl ⟨by rfl,?_⟩) hHeld ?_
  rotate_left
  ·(intro w hSw;(try dsimp only at hSw);go_simp;try with_reducible rfl)
  simp only [List.getElem_toArray,List.getElem_cons_zero,List.getElem_cons_succ,Act.put,List.setIfInBounds_toArray,List.set_cons_zero,List.set_cons_succ]
  refine wpAnyH_ready (rs:=[9]) (by kernel_rfl) (by simp) ?_
  refine AllReadyH.cons rfl (fun K hK=> ?_) AllReadyH.nil
  go_simp
  refine(ldnum _ lb rb gb _ 8 L4.out (by decide)).mono ?_
  rintro e v5 ⟨a3,s3,rfl,g3,k3,hl,hs,-⟩
  have hz5:=hs.size
  have L5:=Lib.hid hl
  have T5:=Lib.hid (T4.out.trans (hs.imp (fun x hx=>hx.2)))
  have FS5:=Lib.hid ((hs.block sb (by show sb≠rb;omega)).trans FS4.out)
  have g3:=Lib.hid g3
  refine hK.out _ _ ((hs.cell (p:=⟨lb,0,none⟩) hne).trans hHeld) (fun hHeld=> ?_)
  clear hK K hl hs
  try simp only [List.getElem_toArray,List.getElem_cons_zero,List.getElem_cons_succ,Act.put,List.setIfInBounds_toArray,List.set_cons_zero,List.set_cons_succ]
  refine wpAnyH_ready (rs:=[14]) (by kernel_rfl) (by simp) ?_
  refine AllReadyH.cons rfl (fun K hK=> ?_) AllReadyH.nil
  go_simp
  refine(ldnum _ lb rb gb _ 8 L5.out (by decide)).mono ?_
  rintro e v6 ⟨a4,s4,rfl,g4,k4,hl,hs,-⟩
  have hz6:=hs.size
  have L6:=Lib.hid hl
  have T6:=Lib.hid (T5.out.trans (hs.imp (fun x hx=>hx.2)))
  have FS6:=Lib.hid ((hs.block sb (by show sb≠rb;omega)).trans FS5.out)
  have g4:=Lib.hid g4
  refine hK.out _ _ ((hs.cell (p:=⟨lb,0,none⟩) hne).trans hHeld) (fun hHeld=> ?_)
  clear hK K hl hs
  try simp only [List.getElem_toArray,List.getElem_cons_zero,List.getElem_cons_succ,Act.put,List.setIfInBounds_toArray,List.set_cons_zero,List.set_cons_succ]
  have cS:v6.cell? ⟨sb,0,none⟩=some (.int .i64 0):=by rw [Lib.cell_of_heap FS6.out];rfl
  have fS:v6.frozen? ⟨sb,0,none⟩=false:=Lib.frozen_of_heap FS6.out 0
  refine wpAnyH_ready (rs:=[16]) (by kernel_rfl) (by simp) ?_
  refine AllReadyH.cons rfl (fun K hK=> ?_) AllReadyH.nil
  go_simp
  have FS7:=Lib.hid (setCell_row (k:=0) (.int .i64 a2) FS6.out)
  have L7:=Lib.hid (L6.out.step (setCell_step _ sb 0 (.int .i64 a2)) (by show lb≠sb;omega) (by show rb≠sb;omega) (by show gb≠sb;omega))
  have T7:=Lib.hid (T6.out.trans ((setCell_step _ sb 0 (.int .i64 a2)).imp (fun x hx=>by have:=hx.1;show x≠sb;omega)))
  refine hK.out _ _ ((World.cell?_of_block (a:=⟨lb,0,none⟩) (Below.heap_setCell _ _ _ _ (by show lb≠sb;omega))).trans hHeld) (fun hHeld=> ?_)
  clear hK K cS fS
  try simp only [List.getElem_toArray,List.getElem_cons_zero,List.getElem_cons_succ,Act.put,List.setIfInBounds_toArray,List.set_cons_zero,List.set_cons_succ]
  have hz7:v6.heap.size≤(v6.setCell ⟨sb,0,none⟩ (.int .i64 a2)).heap.size:=by simp
  generalize v6.setCell ⟨sb,0,none⟩ (.int .i64 a2)=v7 at FS7 L7 T7 hz7 hHeld ⊢
  refine wpAnyH_take (i:=17) (v:= ?_) rfl (by kernel_rfl) (by kernel_rfl) (by kernel_rfl) (fun _ _ _ h=>hP _ _ _ _ (by rfl) h) (Or.inl ⟨by rfl,?_⟩) hHeld ?_
  rotate_left
  ·(intro w hSw;(try dsimp only at hSw);go_simp;try with_reducible rfl)
  simp only [List.getElem_toArray,List.getElem_cons_zero,List.getElem_cons_succ,Act.put,List.setIfInBounds_toArray,List.set_cons_zero,List.set_cons_succ]
  have cS:v7.cell? ⟨sb,2,none⟩=some (.int .i64 0):=by rw [Lib.cell_of_heap FS7.out];rfl
  have fS:v7.frozen? ⟨sb,2,none⟩=false:=Lib.frozen_of_heap FS7.out 2
  refine wpAnyH_ready (rs:=[18]) (by kernel_rfl) (by simp) ?_
  refine AllReadyH.cons rfl (fun K hK=> ?_) AllReadyH.nil
  go_simp
  have FS8:=Lib.hid (setCell_row (k:=2) (.int .i64 a3) FS7.out)
  have L8:=Lib.hid (L7.out.step (setCell_step _ sb 2 (.int .i64 a3)) (by show lb≠sb;omega) (by show rb≠sb;omega) (by show gb≠sb;omega))
  have T8:=Lib.hid (T7.out.trans ((setCell_step _ sb 2 (.int .i64 a3)).imp (fun x hx=>by have:=hx.1;show x≠sb;omega)))
  refine hK.out _ _ ((World.cell?_of_block (a:=⟨lb,0,none⟩) (Below.heap_setCell _ _ _ _ (by show lb≠sb;omega))).trans hHeld) (fun hHeld=> ?_)
  clear hK K cS fS
  try simp only [List.getElem_toArray,List.getElem_cons_zero,List.getElem_cons_succ,Act.put,List.setIfInBounds_toArray,List.set_cons_zero,List.set_cons_succ]
  have hz8:v7.heap.size≤(v7.setCell ⟨sb,2,none⟩ (.int .i64 a3)).heap.size:=by simp
  generalize v7.setCell ⟨sb,2,none⟩ (.int .i64 a3)=v8 at FS8 L8 T8 hz8 hHeld ⊢
  refine wpAnyH_take (i:=19) (v:= ?_) rfl (by kernel_rfl) (by kernel_rfl) (by kernel_rfl) (fun _ _ _ h=>hP _ _ _ _ (by rfl) h) (Or.inl ⟨by rfl,?_⟩) hHeld ?_
  rotate_left
  ·(intro w hSw;(try dsimp only at hSw);go_simp;try with_reducible rfl)
  simp only [List.getElem_toArray,List.getElem_cons_zero,List.getElem_cons_succ,Act.put,List.setIfInBounds_toArray,List.set_cons_zero,List.set_cons_succ]
  have cS:v8.cell? ⟨sb,3,none⟩=some (.int .i64 0):=by rw [Lib.cell_of_heap FS8.out];rfl
  have fS:v8.frozen? ⟨sb,3,none⟩=false:=Lib.frozen_of_heap FS8.out 3
  refine wpAnyH_ready (rs:=[20]) (by kernel_rfl) (by simp) ?_
  refine AllReadyH.cons rfl (fun K hK=> ?_) AllReadyH.nil
  go_simp
  have FS9:=Lib.hid (setCell_row (k:=3) (.int .i64 a4) FS8.out)
  have L9:=Lib.hid (L8.out.step (setCell_step _ sb 3 (.int .i64 a4)) (by show lb≠sb;omega) (by show rb≠sb;omega) (by show gb≠sb;omega))
  have T9:=Lib.hid (T8.out.trans ((setCell_step _ sb 3 (.int .i64 a4)).imp (fun x hx=>by have:=hx.1;show x≠sb;omega)))
  refine hK.out _ _ ((World.cell?_of_block (a:=⟨lb,0,none⟩) (Below.heap_setCell _ _ _ _ (by show lb≠sb;omega))).trans hHeld) (fun hHeld=> ?_)
  clear hK K cS fS
  try simp only [List.getElem_toArray,List.getElem_cons_zero,List.getElem_cons_succ,Act.put,List.setIfInBounds_toArray,List.set_cons_zero,List.set_cons_succ]
  have hz9:v8.heap.size≤(v8.setCell ⟨sb,3,none⟩ (.int .i64 a4)).heap.size:=by simp
  generalize v8.setCell ⟨sb,3,none⟩ (.int .i64 a4)=v9 at FS9 L9 T9 hz9 hHeld ⊢
  refine wpAnyH_done (by kernel_rfl) ?_ _
  clear hHeld
  have XI:=Lib.hid ((T9.out.block ib ⟨by omega,hir⟩).trans HX.out)
  have cI:v9.cell? ⟨ib,9,none⟩=some (.slice oa q oc):=by rw [Lib.cell_of_heap XI.out];rfl
  have e0:v9.cell? ⟨sb,0,none⟩=some (.int .i64 a2):=by rw [Lib.cell_of_heap FS9.out];rfl
  have e1:v9.cell? ⟨sb,1,none⟩=some (.int .i64 a1):=by rw [Lib.cell_of_heap FS9.out];rfl
  have e2:v9.cell? ⟨sb,2,none⟩=some (.int .i64 a3):=by rw [Lib.cell_of_heap FS9.out];rfl
  have e3:v9.cell? ⟨sb,3,none⟩=some (.int .i64 a4):=by rw [Lib.cell_of_heap FS9.out];rfl
  have hnz:v9.heap.size<(v9.alloc (.cells #[.int .i64 a2,.int .i64 a1,.int .i64 a3,.int .i64 a4] 53 (0,0))).heap.size:=by simp
  have O0:=Lib.hid (H1.out.step T9.out (fun y hy1 hy=>⟨hy1,fun e=>hy (by rw [e];show rb<w6.heap.size;omega)⟩))
  have OA:=Lib.hid (O0.out.alloc (.cells #[.int .i64 a2,.int .i64 a1,.int .i64 a3,.int .i64 a4] 53 (0,0)))
  have hown:=H1.out.lt
  have TA:=Lib.hid (T9.out.alloc (fun b hb=>by have:=hb.1;omega) (.cells #[.int .i64 a2,.int .i64 a1,.int .i64 a3,.int .i64 a4] 53 (0,0)))
  have LA:=Lib.hid (L9.out.alloc (.cells #[.int .i64 a2,.int .i64 a1,.int .i64 a3,.int .i64 a4] 53 (0,0)))
  have XA:=Lib.hid (heap_alloc_old v9 (.cells #[.int .i64 a2,.int .i64 a1,.int .i64 a3,.int .i64 a4] 53 (0,0)) (r:=ib) (by omega) |>.trans XI.out)
  have NA:=Lib.hid (heap_alloc_new v9 (.cells #[.int .i64 a2,.int .i64 a1,.int .i64 a3,.int .i64 a4] 53 (0,0)))
  have HRow:Hid (kRel.R (fun b=>b<(v9.alloc (.cells #[.int .i64 a2,.int .i64 a1,.int .i64 a3,.int .i64 a4] 53 (0,0))).heap.size∧¬ b<w6.heap.size∧(Value.slice oa q oc).ownBlock≠some b) (v9.alloc (.cells #[.int .i64 a2,.int .i64 a1,.int .i64 a3,.int .i64 a4] 53 (0,0))) ⟨a2,a1,a3,a4⟩ [.int .i64 a2,.int .i64 a1,.int .i64 a3,.int .i64 a4]):=Lib.hid rfl
  have hk:okRel (⟨a2,a1,a3,a4⟩:RelL):=⟨k1.out,k2,k3,k4⟩
  have HOne:∀ u∈([.int .i64 a2,.int .i64 a1,.int .i64 a3,.int .i64 a4]:List Value),u.oneCell'=true:=by
   intro u hu
   simp only [List.mem_cons,List.not_mem_nil,or_false]at hu
   rcases hu with rfl | rfl | rfl | rfl<;>rfl
  replace HOne:=Lib.hid HOne
  go_wp2_with (at_builtin;refine wpList_appendK (K:=kRel) (v:=.slice oa q oc) (e:=53) (B:=w6.heap.size) (E:=(·<w6.heap.size)) 36 (.agg #[.int .i64 0,.int .i64 0,.int .i64 0,.int .i64 0]) 32 Tryz.underlying36 info_reloc rfl (by decide) rfl (.tmp 249) (.tmp 251) rfl q H2.out rfl OA.out (fun b hb=>by have hb:b<w6.heap.size:=hb;omega) v9.heap.size ((⟨a2,a1,a3,a4⟩:RelL)) [.int .i64 a2,.int .i64 a1,.int .i64 a3,.int .i64 a4] rfl (row_of NA.out) HOne.out HRow.out ?c3 ?c4 ?c5 ?_)
  case c3=>rw [H2.out];omega
  case c4=>rw [H2.out];omega
  case c5=>omega
  intro g c2 w9 ho9 hs9 hg9
  have hno:=OA.out.notE
  have S9:Step (fun x=>x<v9.heap.size∧(x<w6.heap.size∨x=ib∨x=lb∨x=rb∨x=gb)) (v9.alloc (.cells #[.int .i64 a2,.int .i64 a1,.int .i64 a3,.int .i64 a4] 53 (0,0))) w9:=hs9.imp (fun x hx=>⟨by omega,fun e=>hno x e (by show x<w6.heap.size;omega)⟩)
  have X9:=Lib.hid ((S9.block ib ⟨by omega,by omega⟩).trans XA.out)
  have cI:w9.cell? ⟨ib,9,none⟩=some (.slice oa q oc):=by rw [Lib.cell_of_heap X9.out];rfl
  have fI:w9.frozen? ⟨ib,9,none⟩=false:=Lib.frozen_of_heap X9.out 9
  have L9:=Lib.hid ((LA.out.step S9 ⟨by omega,by omega⟩ ⟨by omega,by omega⟩ ⟨by omega,by omega⟩).step (setCell_step w9 ib 9 (.slice (some ⟨g,0,none⟩) (q+1) c2)) (by show lb≠ib;omega) (by show rb≠ib;omega) (by show gb≠ib;omega))
  have Hfin:Hid (LQ 53 kRel relP okRel lb rb gb (fun x=>x≠rb∧x≠lb∧x≠ib) w6 t5 (w9.setCell ⟨ib,9,none⟩ (.slice (some ⟨g,0,none⟩) (q+1) c2)) (.slice (some ⟨g,0,none⟩) (q+1) c2) (q+1)):=Lib.hid (LQ.next H2.out H3.out H4.out H6.out (g1.out.bind (g2.out.bind (g3.out.bind (g4.out.bind (Got.pure _ _))))) hk ((TA.out.imp (fun x hx=>⟨by have:=hx.1;omega,hx.2.1⟩)).trans ((S9.imp (fun x hx=>⟨by have:=hx.1;omega,Or.inl hx.1⟩)).trans ((setCell_step w9 ib 9 _).imp (fun x hx=>hx.2.2.2)))) L9.out (ho9.step (setCell_step w9 ib 9 _) (fun b _ hb e=>hb (by rw [e];show ib<w6.heap.size;omega))))
  have X10:=Lib.hid (setCell_row (k:=9) (.slice (some ⟨g,0,none⟩) (q+1) c2) X9.out)
  clear cI ho9 hs9 hg9 S9 hno
  have cI:w9.cell? ⟨ib,9,none⟩=some (.slice oa q oc):=by rw [Lib.cell_of_heap X9.out];rfl
  go_wp2_with fail
  exact HK.out _ _ hlt ⟨by omega,⟨by kernel_rfl,rfl,(by kernel_rfl),(by kernel_rfl),(by kernel_rfl),(by kernel_rfl),(by show Value.int .i64 _=_;go_num),trivial⟩,_,X10.out,Hfin.out⟩
 ·obtain⟨xs,s2,c1,c2,c3,c4,c5,c6⟩:=LQ.done w5.heap.size hz6 hlq
  obtain rfl:m1=q:=by omega
  clear HK hlq
  have HE:=Lib.hid (HQ.out (m:=m1) (xs:=xs) (s1:=t5) (s2:=s2) (v:=v))
  replace c3:=Lib.hid c3
  replace c4:=Lib.hid c4
  replace hX:=Lib.hid hX
  replace c5:=Lib.hid c5
  replace c6:=Lib.hid c6
  replace c2:=Lib.hid c2
  replace hmm1:=Lib.hid hmm1
  clear HQ
  go_wp2_with fail
  exact HE.out _ _ ⟨by kernel_rfl,rfl,(by kernel_rfl),(by kernel_rfl),(by kernel_rfl),trivial⟩ Gn1.out hmm1.out c1 c3.out c2.out c4.out hX.out (Q6.out.trans (c5.out.imp (S':=fun x=>x<w5.heap.size∧x≠rb∧x≠lb∧x≠ib) (fun x hx=>⟨Nat.lt_of_lt_of_le hx.1 Q6.out.size,hx.2⟩))) c6.out
end Go.Proofs.YtfchpchabdhcgaaGreat
namespace Go.Proofs.YtfchpchabdhcgaaGreat
open Go.RowKit
theorem dloop7 {Q:Exit→Act→World→Prop} (hP:∀ x a a' w,a'.defers=a.defers→Q (.panic x) a w→Q (.panic x) a' w) {a:Act} {w5:World} {z lb rb gb ib:Nat} {s:Option (List UInt8)} {name:List UInt8} {flags sh tl:Int} {y0 y1 y2 y3 y4 y5 y6 y8 y9 y10:Value} (hF:Fr [(2,.pointer (some ⟨z,0,none⟩)),(4,.pointer (some ⟨lb,0,none⟩)),(5,.pointer (some ⟨ib,0,none⟩))] a) (hL:LD lb rb gb w5 s) (hX:w5.heap[ib]? =some (imgBlock name flags ⟨y0,y1,y2,y3,y4,y5,y6,.slice none 0 0,y8,y9,y10⟩ sh tl)) (hir:ib≠rb) (hil:ib≠lb) (hig:ib≠gb) (hne:lb≠rb) (hng:lb≠gb) (hib5:ib<w5.heap.size)
  (hQ:∀ (a':Act) (w':World) (m:Nat) (xs:List SlotL) (s1 s2:Option (List UInt8)) (v:Value),Fr [(2,.pointer (some ⟨z,0,none⟩)),(4,.pointer (some ⟨lb,0,none⟩)),(5,.pointer (some ⟨ib,0,none⟩))] a'→Got (numP 2) s m s1→okLen 2 m→xs.length=m→Got (manyP slotP m) s1 xs s2→(∀ x∈xs,okSlot x)→LD lb rb gb w' s2→w'.heap[ib]? =some (imgBlock name flags ⟨y0,y1,y2,y3,y4,y5,y6,v,y8,y9,y10⟩ sh tl)→Step (fun x=>x<w5.heap.size∧x≠rb∧x≠lb∧x≠ib) w5 w'→LB kSlot (fun b=>w5.heap.size≤b∧b<w'.heap.size) w' v xs→Q .normal a' w'):(dCode Tryz.f6 12).wp Tryz.prog Q a w5:=by
 have L5:=Lib.hid hL
 have X5:=Lib.hid hX
 have HQ:=Lib.hid hQ
 have hz5:w5.heap.size≤w5.heap.size:=Nat.le_refl _
 have hlb5:=hL.lt
 have hrb5:=hL.rblt
 have hgb5:=hL.gblt
 clear hL hX hQ
 apply Fr.elim hF
 clear hF
 intro _ _
 intro V2
 intro _
 intro V4
 intro V5
 iterate 326 (intro _)
 intro hF
 obtain⟨-,-,e2,e4,e5,-⟩:=hF
 replace e2:V2=.pointer (some ⟨z,0,none⟩):=e2
 subst e2
 replace e4:V4=.pointer (some ⟨lb,0,none⟩):=e4
 subst e4
 replace e5:V5=.pointer (some ⟨ib,0,none⟩):=e5
 subst e5
 conv in dCode Tryz.f6 12=>whnf
 have c5:=L5.out.cell
 have HN:=Lib.hid (ldnum w5 lb rb gb s 2 L5.out (by decide))
 go_wp2_with fail
 refine HN.out.mono ?_
 rintro e w6 ⟨n1,t5,rfl,hg,hk,hl,hs,-⟩
 have Gn1:=Lib.hid hg
 have Kn1:=Lib.hid hk
 have L6:=Lib.hid hl
 have X6:=Lib.hid ((hs.block ib hir).trans X5.out)
 have hz6:w5.heap.size≤w6.heap.size:=Nat.le_trans hz5 hs.size
 have Q6:=Lib.hid (hs.imp (S':=fun x=>x<w5.heap.size∧x≠rb∧x≠lb∧x≠ib) (fun x hx=>hx.2.1))
 clear hg hk hl hs HN c5 X5 L5
 obtain⟨m1,rfl,hmm1⟩:=okN_idx (by decide) Kn1.out
 have hm1:m1<65536:=hmm1
 go_wp2_with fail
 refine wp_loop_n (k:=260) (m:=m1) (fun q a wr=>q≤m1∧Fr [(2,.pointer (some ⟨z,0,none⟩)),(4,.pointer (some ⟨lb,0,none⟩)),(5,.pointer (some ⟨ib,0,none⟩)),(259,.int .i64 m1),(260,.int .i64 q)] a∧∃ v,wr.heap[ib]? =some (imgBlock name flags ⟨y0,y1,y2,y3,y4,y5,y6,v,y8,y9,y10⟩ sh tl)∧LQ 76 kSlot slotP okSlot lb rb gb (fun x=>x≠rb∧x≠lb∧x≠ib) w6 t5 wr v q) ?_ ?_ ?_
 ·exact fun q a w h=>⟨h.1,FrL.get h.2.1.2.2 (260,.int .i64 q) (by simp)⟩
 ·exact⟨Nat.zero_le _,⟨by kernel_rfl,rfl,(by kernel_rfl),(by kernel_rfl),(by kernel_rfl),(by kernel_rfl),(by kernel_rfl),trivial⟩,_,X6.out,.start L6.out⟩
 clear X6 L6
 intro q a wr K hq hI HK
 obtain⟨-,hF,v,hX,hlq⟩:=hI
 replace HK:=Lib.hid HK
 apply Fr.elim hF
 clear hF
 intro _ _
 intro V2
 intro _
 intro V4
 intro V5
 iterate 253 (intro _)
 intro V259
 intro V260
 iterate 71 (intro _)
 intro hF
 obtain⟨-,-,e2,e4,e5,e259,e260,-⟩:=hF
 replace e2:V2=.pointer (some ⟨z,0,none⟩):=e2
 subst e2
 replace e4:V4=.pointer (some ⟨lb,0,none⟩):=e4
 subst e4
 replace e5:V5=.pointer (some ⟨ib,0,none⟩):=e5
 subst e5
 replace e259:V259=.int .i64 m1:=e259
 subst e259
 replace e260:V260=.int .i64 q:=e260
 subst e260
 by_cases hlt:q<m1
 ·clear HQ Gn1 Kn1 Q6
  obtain⟨xs,s0,h1,h2,h3,h4,h5,h6⟩:=hlq
  obtain⟨oa,oc,rfl⟩:=h1.form
  rw [h2]at h1 hX
  have H1:=Lib.hid h1
  have H2:=Lib.hid h2
  have H3:=Lib.hid h3
  have H4:=Lib.hid h4
  have H5:=Lib.hid h5
  have H6:=Lib.hid h6
  have HX:=Lib.hid hX
  have hwr:=h6.size
  have c:=h5.cell
  clear h1 h2 h3 h4 h5 h6 hX
  have hrl:rb<wr.heap.size:=by omega
  have hll:lb<wr.heap.size:=by omega
  have hgl2:gb<wr.heap.size:=by omega
  have cI:wr.cell? ⟨ib,10,none⟩=some (.slice oa q oc):=by rw [Lib.cell_of_heap HX.out];rfl
  go_upto_region 41 with fail
  refine wp_region_phase 20 (by kernel_rfl) (by kernel_rfl) ?_
  simp only [List.take_succ_cons,List.take_zero,List.drop_succ_cons,List.drop_zero,List.take_nil,List.drop_nil]
  refine wpAny_of_held (S:=(fun w':World=>w'.cell? ⟨lb,0,none⟩=some (.pointer (some ⟨rb,0,none⟩))∧w'.cell? ⟨ib,10,none⟩=some (.slice oa q oc))) _ _ _ _ ?_
  have hHeld:(fun w':World=>w'.cell? ⟨lb,0,none⟩=some (.pointer (some ⟨rb,0,none⟩))∧w'.cell? ⟨ib,10,none⟩=some (.slice oa q oc)) wr.drew:=⟨c,cI⟩
  show wpAnyH _ _ _ _ _ _ _ _ (World.drew _)
  have L0:=Lib.hid (H5.out.drew)
  have T0:=Lib.hid ((Step.refl (fun x=>x<wr.heap.size∧x≠rb) wr).drew)
  have hz0':wr.heap.size≤wr.drew.heap.size:=Nat.le_refl _
  generalize wr.drew=v0 at L0 T0 hz0' hHeld ⊢
  clear c cI
  refine wpAnyH_take (i:=0) (v:= ?_) rfl (by kernel_rfl) (by kernel_rfl) (by kernel_rfl) (fun _ _ _ h=>hP _ _ _ _ (by rfl) h) (Or.inl ⟨by rfl,?_⟩) hHeld ?_
  rotate_left
  ·(intro w hSw;(try dsimp only at hSw);go_simp;try with_reducible rfl)
  simp only [List.getElem_toArray,List.getElem_cons_zero,List.getElem_cons_succ,Act.put,List.setIfInBounds_toArray,List.set_cons_zero,List.set_cons_succ]
  refine wpAnyH_take (i:=1) (v:= ?_) rfl (by kernel_rfl) (by kernel_rfl) (by kernel_rfl) (fun _ _ _ h=>hP _ _ _ _ (by rfl) h) (Or.inl ⟨by rfl,?_⟩) hHeld ?_
  rotate_left
  ·(intro w hSw;(try dsimp only at hSw);go_simp;try with_reducible rfl)
  simp only [List.getElem_toArray,List.getElem_cons_zero,List.getElem_cons_succ,Act.put,List.setIfInBounds_toArray,List.set_cons_zero,List.set_cons_succ]
  refine wpAnyH_take (i:=2) (v:= ?_) rfl (by kernel_rfl) (by kernel_rfl) (by kernel_rfl) (fun _ _ _ h=>hP _ _ _ _ (by rfl) h) (Or.inl ⟨by rfl,?_⟩) hHeld ?_
  rotate_left
  ·(intro w hSw;(try dsimp only at hSw);go_simp;try with_reducible rfl)
  simp only [List.getElem_toArray,List.getElem_cons_zero,List.getElem_cons_succ,Act.put,List.setIfInBounds_toArray,List.set_cons_zero,List.set_cons_succ]
  refine wpAnyH_take (i:=3) (v:= ?_) rfl (by kernel_rfl) (by kernel_rfl) (by kernel_rfl) (fun _ _ _ h=>hP _ _ _ _ (by rfl) h) (Or.inl ⟨by rfl,?_⟩) hHeld ?_
  rotate_left
  ·(intro w hSw;(try dsimp only at hSw);go_simp;try with_reducible rfl)
  simp only [List.getElem_toArray,List.getElem_cons_zero,List.getElem_cons_succ,Act.put,List.setIfInBounds_toArray,List.set_cons_zero,List.set_cons_succ]
  refine wpAnyH_take (i:=4) (v:= ?_) rfl (by kernel_rfl) (by kernel_rfl) (by kernel_rfl) (fun _ _ _ h=>hP _ _ _ _ (by rfl) h) (Or.inl ⟨by rfl,?_⟩) hHeld ?_
  rotate_left
  ·(intro w hSw;(try dsimp only at hSw);go_simp;try with_reducible rfl)
  simp only [List.getElem_toArray,List.getElem_cons_zero,List.getElem_cons_succ,Act.put,List.setIfInBounds_toArray,List.set_cons_zero,List.set_cons_succ]
  refine wpAnyH_take (i:=5) (v:= ?_) rfl (by kernel_rfl) (by kernel_rfl) (by kernel_rfl) (fun _ _ _ h=>hP _ _ _ _ (by rfl) h) (Or.inl ⟨by rfl,?_⟩) hHeld ?_
  rotate_left
  ·(intro w hSw;(try dsimp only at hSw);go_simp;try with_reducible rfl)
  simp only [List.getElem_toArray,List.getElem_cons_zero,List.getElem_cons_succ,Act.put,List.setIfInBounds_toArray,List.set_cons_zero,List.set_cons_succ]
  refine wpAnyH_take (i:=7) (v:= ?_) rfl (by kernel_rfl) (by kernel_rfl) (by kernel_rfl) (fun _ _ _ h=>hP _ _ _ _ (by rfl) h) (Or.inl ⟨by rfl,?_⟩) hHeld ?_
  rotate_left
  ·(intro w hSw;(try dsimp only at hSw);go_simp;try with_reducible rfl)
  simp only [List.getElem_toArray,List.getElem_cons_zero,List.getElem_cons_succ,Act.put,List.setIfInBounds_toArray,List.set_cons_zero,List.set_cons_succ]
  refine wpAnyH_take (i:=8) (v:= ?_) rfl (by kernel_rfl) (by kernel_rfl) (by kernel_rfl) (fun _ _ _ h=>hP _ _ _ _ (by rfl) h) (Or.inl ⟨by rfl,?_⟩) hHeld ?_
  rotate_left
  ·(intro w hSw;(try dsimp only at hSw);go_simp;try with_reducible rfl)
  simp only [List.getElem_toArray,List.getElem_cons_zero,List.getElem_cons_succ,Act.put,List.setIfInBounds_toArray,List.set_cons_zero,List.set_cons_succ]
  refine wpAnyH_take (i:=9) (v:= ?_) rfl (by kernel_rfl) (by kernel_rfl) (by kernel_rfl) (fun _ _ _ h=>hP _ _ _ _ (by rfl) h) (Or.inl ⟨by rfl,?_⟩) hHeld ?_
  rotate_left
  ·(intro w hSw;(try dsimp only at hSw);go_simp;try with_reducible rfl)
  simp only [List.getElem_toArray,List.getElem_cons_zero,List.getElem_cons_succ,Act.put,List.setIfInBounds_toArray,List.set_cons_zero,List.set_cons_succ]
  refine wpAnyH_take (i:=10) (v:= ?_) rfl (by kernel_rfl) (by kernel_rfl) (by kernel_rfl) (fun _ _ _ h=>hP _ _ _ _ (by rfl) h) (Or.inl ⟨by rfl,?_⟩) hHeld ?_
  rotate_left
  ·(intro w hSw;(try dsimp only at hSw);go_simp;try with_reducible rfl)
  simp only [List.getElem_toArray,List.getElem_cons_zero,List.getElem_cons_succ,Act.put,List.setIfInBounds_toArray,List.set_cons_zero,List.set_cons_succ]
  refine wpAnyH_take (i:=12) (v:= ?_) rfl (by kernel_rfl) (by kernel_rfl) (by kernel_rfl) (fun _ _ _ h=>hP _ _ _ _ (by rfl) h) (Or.inl ⟨by rfl,?_⟩) hHeld ?_
  rotate_left
  ·(intro w hSw;(try dsimp only at hSw);go_simp;try with_reducible rfl)
  simp only [List.getElem_toArray,List.getElem_cons_zero,List.getElem_cons_succ,Act.put,List.setIfInBounds_toArray,List.set_cons_zero,List.set_cons_succ]
  refine wpAnyH_take (i:=13) (v:= ?_) rfl (by kernel_rfl) (by kernel_rfl) (by kernel_rfl) (fun _ _ _ h=>hP _ _ _ _ (by rfl) h) (Or.inl ⟨by rfl,?_⟩) hHeld ?_
  rotate_left
  ·(intro w hSw;(try dsimp only at hSw);go_simp;try with_reducible rfl)
  simp only [List.getElem_toArray,List.getElem_cons_zero,List.getElem_cons_succ,Act.put,List.setIfInBounds_toArray,List.set_cons_zero,List.set_cons_succ]
  refine wpAnyH_take (i:=14) (v:= ?_) rfl (by kernel_rfl) (by kernel_rfl) (by kernel_rfl) (fun _ _ _ h=>hP _ _ _ _ (by rfl) h) (Or.inl ⟨by rfl,?_⟩) hHeld ?_
  rotate_left
  ·(intro w hSw;(try dsimp only at hSw);go_simp;try with_reducible rfl)
  simp only [List.getElem_toArray,List.getElem_cons_zero,List.getElem_cons_succ,Act.put,List.setIfInBounds_toArray,List.set_cons_zero,List.set_cons_succ]
  refine wpAnyH_take (i:=15) (v:= ?_) rfl (by kernel_rfl) (by kernel_rfl) (by kernel_rfl) (fun _ _ _ h=>hP _ _ _ _ (by rfl) h) (Or.inl ⟨by rfl,?_⟩) hHeld ?_
  rotate_left
  ·(intro w hSw;(try dsimp only at hSw);go_simp;try with_reducible rfl)
  simp only [List.getElem_toArray,List.getElem_cons_zero,List.getElem_cons_succ,Act.put,List.setIfInBounds_toArray,List.set_cons_zero,List.set_cons_succ]
  refine wpAnyH_ready (rs:=[6]) (by kernel_rfl) (by simp) ?_
  refine AllReadyH.cons rfl (fun K hK=> ?_) AllReadyH.nil
  go_simp
  refine(ldnum _ lb rb gb _ 4 L0.out (by decide)).mono ?_
  rintro e v1 ⟨a1,s1,rfl,g1,k1,hl,hs,-⟩
  have hz1:=hs.size
  have L1:=Lib.hid hl
  have T1:=Lib.hid (T0.out.trans (hs.imp (fun x hx=>hx.2)))
  have g1:=Lib.hid g1
  refine hK.out _ _ (⟨(hs.cell (p:=⟨lb,0,none⟩) hne).trans hHeld.1,(hs.cell (p:=⟨ib,10,none⟩) hir).trans hHeld.2⟩) (fun hHeld=> ?_)
  clear hK K hl hs
  try simp only [List.getElem_toArray,List.getElem_cons_zero,List.getElem_cons_succ,Act.put,List.setIfInBounds_toArray,List.set_cons_zero,List.set_cons_succ]
  refine wpAnyH_ready (rs:=[11]) (by kernel_rfl) (by simp) ?_
  refine AllReadyH.cons rfl (fun K hK=> ?_) AllReadyH.nil
  go_simp
  refine(ldnum _ lb rb gb _ 4 L1.out (by decide)).mono ?_
  rintro e v2 ⟨a2,s2,rfl,g2,k2,hl,hs,-⟩
  have hz2:=hs.size
  have L2:=Lib.hid hl
  have T2:=Lib.hid (T1.out.trans (hs.imp (fun x hx=>hx.2)))
  have g2:=Lib.hid g2
  refine hK.out _ _ (⟨(hs.cell (p:=⟨lb,0,none⟩) hne).trans hHeld.1,(hs.cell (p:=⟨ib,10,none⟩) hir).trans hHeld.2⟩) (fun hHeld=> ?_)
  clear hK K hl hs
  try simp only [List.getElem_toArray,List.getElem_cons_zero,List.getElem_cons_succ,Act.put,List.setIfInBounds_toArray,List.set_cons_zero,List.set_cons_succ]
  refine wpAnyH_ready (rs:=[16]) (by kernel_rfl) (by simp) ?_
  refine AllReadyH.cons rfl (fun K hK=> ?_) AllReadyH.nil
  go_simp
  refine(ldnum _ lb rb gb _ 4 L2.out (by decide)).mono ?_
  rintro e v3 ⟨a3,s3,rfl,g3,k3,hl,hs,-⟩
  have hz3:=hs.size
  have L3:=Lib.hid hl
  have T3:=Lib.hid (T2.out.trans (hs.imp (fun x hx=>hx.2)))
  have g3:=Lib.hid g3
  refine hK.out _ _ (⟨(hs.cell (p:=⟨lb,0,none⟩) hne).trans hHeld.1,(hs.cell (p:=⟨ib,10,none⟩) hir).trans hHeld.2⟩) (fun hHeld=> ?_)
  clear hK K hl hs
  try simp only [List.getElem_toArray,List.getElem_cons_zero,List.getElem_cons_succ,Act.put,List.setIfInBounds_toArray,List.set_cons_zero,List.set_cons_succ]
  refine wpAnyH_take (i:=17) (v:= ?_) rfl (by kernel_rfl) (by kernel_rfl) (by kernel_rfl) (fun _ _ _ h=>hP _ _ _ _ (by rfl) h) (Or.inl ⟨by rfl,?_⟩) hHeld ?_
  rotate_left
  ·(intro w hSw;(try dsimp only at hSw);go_simp;try with_reducible rfl)
  simp only [List.getElem_toArray,List.getElem_cons_zero,List.getElem_cons_succ,Act.put,List.setIfInBounds_toArray,List.set_cons_zero,List.set_cons_succ]
  have XI:=Lib.hid ((T3.out.block ib ⟨by omega,hir⟩).trans HX.out)
  refine wpAnyH_ready (rs:=[18]) (by kernel_rfl) (by simp) ?_
  refine AllReadyH.cons rfl (fun K hK=> ?_) AllReadyH.nil
  go_simp
  have hnz:v3.heap.size<(v3.alloc (.cells #[.int .i64 a1,.int .i64 a2,.int .i64 a3] 76 (0,0))).heap.size:=by simp
  have O0:=Lib.hid (H1.out.step T3.out (fun y hy1 hy=>⟨hy1,fun e=>hy (by rw [e];show rb<w6.heap.size;omega)⟩))
  have OA:=Lib.hid (O0.out.alloc (.cells #[.int .i64 a1,.int .i64 a2,.int .i64 a3] 76 (0,0)))
  have hown:=H1.out.lt
  have TA:=Lib.hid (T3.out.alloc (fun b hb=>by have:=hb.1;omega) (.cells #[.int .i64 a1,.int .i64 a2,.int .i64 a3] 76 (0,0)))
  have LA:=Lib.hid (L3.out.alloc (.cells #[.int .i64 a1,.int .i64 a2,.int .i64 a3] 76 (0,0)))
  have XA:=Lib.hid (heap_alloc_old v3 (.cells #[.int .i64 a1,.int .i64 a2,.int .i64 a3] 76 (0,0)) (r:=ib) (by omega) |>.trans XI.out)
  have NA:=Lib.hid (heap_alloc_new v3 (.cells #[.int .i64 a1,.int .i64 a2,.int .i64 a3] 76 (0,0)))
  have HRow:Hid (kSlot.R (fun b=>b<(v3.alloc (.cells #[.int .i64 a1,.int .i64 a2,.int .i64 a3] 76 (0,0))).heap.size∧¬ b<w6.heap.size∧(Value.slice oa q oc).ownBlock≠some b) (v3.alloc (.cells #[.int .i64 a1,.int .i64 a2,.int .i64 a3] 76 (0,0))) (⟨a1,a2,a3⟩:SlotL) [.int .i64 a1,.int .i64 a2,.int .i64 a3]):=Lib.hid rfl
  have hk:okSlot (⟨a1,a2,a3⟩:SlotL):=⟨k1,k2,k3⟩
  have HOne:∀ u∈([.int .i64 a1,.int .i64 a2,.int .i64 a3]:List Value),u.oneCell'=true:=by
   intro u hu
   simp only [List.mem_cons,List.not_mem_nil,or_false]at hu
   rcases hu with rfl | rfl | rfl<;>rfl
  replace HOne:=Lib.hid HOne
  refine hK.out _ _ ⟨(World.cell?_alloc_lt _ _ _ (World.block_lt_of_cell? _ _ hHeld.1)).trans hHeld.1,(World.cell?_alloc_lt _ _ _ (World.block_lt_of_cell? _ _ hHeld.2)).trans hHeld.2⟩ (fun hHeld=> ?_)
  clear hK K
  try simp only [List.getElem_toArray,List.getElem_cons_zero,List.getElem_cons_succ,Act.put,List.setIfInBounds_toArray,List.set_cons_zero,List.set_cons_succ]
  refine wpAnyH_ready (rs:=[19]) (by kernel_rfl) (by simp) ?_
  refine AllReadyH.cons rfl (fun K hK=> ?_) AllReadyH.nil
  rw [if_pos (by rfl)]
  simp only [List.getElem_toArray,List.getElem_cons_succ,List.getElem_cons_zero]
  refine wp_appendK (K:=kSlot) (v:=.slice oa q oc) (e:=76) (B:=w6.heap.size) (E:=(·<w6.heap.size)) 37 (.agg #[.int .i64 0,.int .i64 0,.int .i64 0]) 24 Tryz.underlying37 info_slot rfl (by decide) (.tmp 263) (.tmp 280) rfl q H2.out rfl OA.out (fun b hb=>by have hb:b<w6.heap.size:=hb;omega) v3.heap.size ((⟨a1,a2,a3⟩:SlotL)) [.int .i64 a1,.int .i64 a2,.int .i64 a3] rfl (row_of NA.out) HOne.out HRow.out (by rw [H2.out];omega) (by rw [H2.out];omega) (by omega) ?_
  rintro g c2 w9 ho9 hs9 hg9-
  have hno:=OA.out.notE
  have S9:Step (fun x=>x<v3.heap.size∧(x<w6.heap.size∨x=ib∨x=lb∨x=rb∨x=gb)) (v3.alloc (.cells #[.int .i64 a1,.int .i64 a2,.int .i64 a3] 76 (0,0))) w9:=hs9.imp (fun x hx=>⟨by omega,fun e=>hno x e (by show x<w6.heap.size;omega)⟩)
  have X9:=Lib.hid ((S9.block ib ⟨by omega,by omega⟩).trans XA.out)
  have L9:=Lib.hid ((LA.out.step S9 ⟨by omega,by omega⟩ ⟨by omega,by omega⟩ ⟨by omega,by omega⟩).step (setCell_step w9 ib 10 (.slice (some ⟨g,0,none⟩) (q+1) c2)) (by show lb≠ib;omega) (by show rb≠ib;omega) (by show gb≠ib;omega))
  have Hfin:Hid (LQ 76 kSlot slotP okSlot lb rb gb (fun x=>x≠rb∧x≠lb∧x≠ib) w6 t5 (w9.setCell ⟨ib,10,none⟩ (.slice (some ⟨g,0,none⟩) (q+1) c2)) (.slice (some ⟨g,0,none⟩) (q+1) c2) (q+1)):=Lib.hid (LQ.next H2.out H3.out H4.out H6.out (g1.out.bind (g2.out.bind (g3.out.bind (Got.pure _ _)))) hk ((TA.out.imp (fun x hx=>⟨by have:=hx.1;omega,hx.2.1⟩)).trans ((S9.imp (fun x hx=>⟨by have:=hx.1;omega,Or.inl hx.1⟩)).trans ((setCell_step w9 ib 10 _).imp (fun x hx=>hx.2.2.2)))) L9.out (ho9.step (setCell_step w9 ib 10 _) (fun b _ hb e=>hb (by rw [e];show ib<w6.heap.size;omega))))
  have X10:=Lib.hid (setCell_row (k:=10) (.slice (some ⟨g,0,none⟩) (q+1) c2) X9.out)
  refine hK.out _ _ ⟨(S9.cell (p:=⟨lb,0,none⟩) ⟨by show lb<_;omega,Or.inr (Or.inr (Or.inl rfl))⟩).trans hHeld.1,(S9.cell (p:=⟨ib,10,none⟩) ⟨by show ib<_;omega,Or.inr (Or.inl rfl)⟩).trans hHeld.2⟩ (fun hHeld=> ?_)
  clear hK K
  try simp only [List.getElem_toArray,List.getElem_cons_zero,List.getElem_cons_succ,Act.put,List.setIfInBounds_toArray,List.set_cons_zero,List.set_cons_succ]
  refine wpAnyH_done (by kernel_rfl) ?_ _
  simp only [phaseQ]
  clear hHeld ho9 hs9 hg9 S9 hno
  have cI:w9.cell? ⟨ib,10,none⟩=some (.slice oa q oc):=by rw [Lib.cell_of_heap X9.out];rfl
  have fI:w9.frozen? ⟨ib,10,none⟩=false:=Lib.frozen_of_heap X9.out 10
  go_wp2_with fail
  exact HK.out _ _ hlt ⟨by omega,⟨by kernel_rfl,rfl,(by kernel_rfl),(by kernel_rfl),(by kernel_rfl),(by kernel_rfl),(by show Value.int .i64 _=_;go_num),trivial⟩,_,X10.out,Hfin.out⟩
 ·obtain⟨xs,s2,c1,c2,c3,c4,c5,c6⟩:=LQ.done w5.heap.size hz6 hlq
  obtain rfl:m1=q:=by omega
  clear HK hlq
  have HE:=Lib.hid (HQ.out (m:=m1) (xs:=xs) (s1:=t5) (s2:=s2) (v:=v))
  replace c3:=Lib.hid c3
  replace c4:=Lib.hid c4
  replace hX:=Lib.hid hX
  replace c5:=Lib.hid c5
  replace c6:=Lib.hid c6
  replace c2:=Lib.hid c2
  replace hmm1:=Lib.hid hmm1
  clear HQ
  go_wp2_with fail
  exact HE.out _ _ ⟨by kernel_rfl,rfl,(by kernel_rfl),(by kernel_rfl),(by kernel_rfl),trivial⟩ Gn1.out hmm1.out c1 c3.out c2.out c4.out hX.out (Q6.out.trans (c5.out.imp (S':=fun x=>x<w5.heap.size∧x≠rb∧x≠lb∧x≠ib) (fun x hx=>⟨Nat.lt_of_lt_of_le hx.1 Q6.out.size,hx.2⟩))) c6.out
end Go.Proofs.YtfchpchabdhcgaaGreat
