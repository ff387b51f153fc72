/- Lemmas. -/
import Derived.Test.YtfchpchabdhcgaaGreatDec11
import Derived.Test.YtfchpchabdhcgaaGreatDec29
set_option linter.unusedVariables false
set_option linter.unusedSimpArgs false
set_option maxHeartbeats 64000000
set_option maxRecDepth 100000
namespace Go.Proofs.YtfchpchabdhcgaaGreat
open Go.RowKit
theorem okN_i64 {size:Nat} {n:Int} (hs:size=1∨size=2∨size=4∨size=8) (h:okN size n): -9223372036854775808≤n∧n≤9223372036854775807:=by
 have p1:(256:Int) ^ 1=256:=by decide
 have p2:(256:Int) ^ 2=65536:=by decide
 have p4:(256:Int) ^ 4=4294967296:=by decide
 unfold okN at h
 rcases hs with rfl | rfl | rfl | rfl
 ·rw [if_neg (by decide)]at h;simp only [p1]at h;omega
 ·rw [if_neg (by decide)]at h;simp only [p2]at h;omega
 ·rw [if_neg (by decide)]at h;simp only [p4]at h;omega
 ·rw [if_pos rfl]at h;omega
theorem all1 {P:Int→Prop} {a:Int} (ha:P a):∀ n∈[a],P n:=fun n hn=>by simp at hn;subst hn;exact ha
theorem all2 {P:Int→Prop} {a b:Int} (ha:P a) (hb:P b):∀ n∈[a,b],P n:=fun n hn=>by
 rcases List.mem_cons.1 hn with rfl | hn
 ·exact ha
 ·exact all1 hb n hn
theorem all3 {P:Int→Prop} {a b c:Int} (ha:P a) (hb:P b) (hc:P c):∀ n∈[a,b,c],P n:=fun n hn=>by
 rcases List.mem_cons.1 hn with rfl | hn
 ·exact ha
 ·exact all2 hb hc n hn
theorem all5 {P:Int→Prop} {a b c d e:Int} (ha:P a) (hb:P b) (hc:P c) (hd:P d) (he:P e):∀ n∈[a,b,c,d,e],P n:=fun n hn=>by
 rcases List.mem_cons.1 hn with rfl | hn
 ·exact ha
 ·rcases List.mem_cons.1 hn with rfl | hn
  ·exact hb
  ·exact all3 hc hd he n hn
theorem ts1 {P:List UInt8→Prop} {a:List UInt8} (ha:P a):∀ n∈[a],P n:=fun n hn=>by simp at hn;subst hn;exact ha
theorem ts2 {P:List UInt8→Prop} {a b:List UInt8} (ha:P a) (hb:P b):∀ n∈[a,b],P n:=fun n hn=>by
 rcases List.mem_cons.1 hn with rfl | hn
 ·exact ha
 ·exact ts1 hb n hn
theorem wnum_built (b:Nat) (S:Nat→Prop) (w:World) (l:List UInt8) (size:Nat) (ns:List Int) (h:WB b S w l) (hs:size=1∨size=2∨size=4∨size=8) (hf:∀ n∈ns,okN size n) (hlen:l.length+size*ns.length≤1000000000) (hn:ns.length≤1000000):
  Calls Tryz.prog 28 #[.pointer (some ⟨b,0,none⟩),.int .i64 (size:Int),.slice (some ⟨w.heap.size,0,none⟩) ns.length ns.length] (w.alloc (.cells (ns.map (Value.int .i64)).toArray 3 (0,0))) fun e w'=>e=.returned (.tuple #[])∧WB b S w' (l++numsL size ns)∧Step S w w':=by
 refine(wnum_any b (fun x=>S x∨x=w.heap.size) _ l size ns _ (h.alloc _) ((built_ints w ns (by omega)).imp (fun x hx=>Or.inr hx)) hs hf (fun n hn=>okN_i64 hs (hf n hn)) hlen).mono ?_
 rintro e w' ⟨he,hw,hs'⟩
 exact⟨he,hw.less (fun x hx=>Or.inl hx),(Step.later ((Below.refl _ w).alloc (Nat.le_refl _) _) (fun x hx=>h.inS hx)).trans (hs'.imp (fun x hx=>Or.inl hx))⟩
theorem wtext_built (b:Nat) (S:Nat→Prop) (w:World) (l:List UInt8) (ss:List (List UInt8)) (h:WB b S w l) (hf:∀ s∈ss,s.length≤4096) (hlen:l.length+4098*ss.length≤1000000000):
  Calls Tryz.prog 27 #[.pointer (some ⟨b,0,none⟩),.slice (some ⟨w.heap.size,0,none⟩) ss.length ss.length] (w.alloc (.cells (ss.map (fun s=>Value.string ⟨s.toArray⟩)).toArray 9 (0,0))) fun e w'=>e=.returned (.tuple #[])∧WB b S w' (l++textsL ss)∧Step S w w':=by
 refine(wtext_any b (fun x=>S x∨x=w.heap.size) _ l ss _ (h.alloc _) ((built_strs w ss (by omega) (fun s hs=>by have:=hf s hs;omega)).imp (fun x hx=>Or.inr hx)) hf hlen).mono ?_
 rintro e w' ⟨he,hw,hs'⟩
 exact⟨he,hw.less (fun x hx=>Or.inl hx),(Step.later ((Below.refl _ w).alloc (Nat.le_refl _) _) (fun x hx=>h.inS hx)).trans (hs'.imp (fun x hx=>Or.inl hx))⟩
theorem flat_len {α:Type} (f:α→List UInt8) (m:Nat):∀ l:List α,(∀ x∈l,(f x).length≤m)→(l.map f).flatten.length≤m*l.length
 | [],_=>by simp
 | x :: l,h=>by
  have h1:=flat_len f m l (fun y hy=>h y (by simp [hy]))
  have h2:=h x (by simp)
  rw [List.map_cons,List.flatten_cons,List.length_append,List.length_cons,Nat.mul_succ];omega
theorem flat_take {α:Type} (f:α→List UInt8) (l:List α) (k:Nat) (x:α) (hx:l[k]? =some x):((l.take (k+1)).map f).flatten=((l.take k).map f).flatten++f x:=by
 obtain⟨h,rfl⟩:=List.getElem?_eq_some_iff.1 hx
 rw [List.take_succ_eq_append_getElem h,List.map_append,List.flatten_append];simp
theorem flat_take_len {α:Type} (f:α→List UInt8) (m n:Nat) (l:List α) (k:Nat) (h:∀ x∈l,(f x).length≤m) (hk:k≤n):((l.take k).map f).flatten.length≤m*n:=by
 have h1:=flat_len f m (l.take k) (fun x hx=>h x (List.mem_of_mem_take hx))
 have h2:=List.length_take_le k l
 exact Nat.le_trans h1 (Nat.mul_le_mul_left _ (by omega))
theorem segF_len {s:SegL} (h:okSeg s):(segF s).length≤1048589:=by
 unfold segF blockL;simp only [List.length_append,digitsL_len];have:=h.2.2.2;omega
theorem needF_len {n:NeedL} (h:okNeed n):(needF n).length≤1053187:=by
 have h1:=textsL_len n.versions h.2.2
 have h2:n.versions.length<256:=h.2.1
 unfold needF textL';simp only [List.length_append,digitsL_len];have:=h.1;omega
theorem symF_len {s:SymL} (h:okSym s):(symF s).length≤8217:=by
 unfold symF textL';simp only [List.length_append,digitsL_len];have:=h.1;have:=h.2.1;omega
theorem chainF_len {c:List Int} (h:okLen 2 c.length):(chainF c).length≤131074:=by
 have h2:c.length<65536:=h
 unfold chainF;simp only [List.length_append,digitsL_len,numsL_len];omega
theorem relF_len (r:RelL):(relF r).length≤25:=by unfold relF;simp only [List.length_append,digitsL_len];omega
theorem slotF_len (r:SlotL):(slotF r).length≤12:=by unfold slotF;simp only [List.length_append,digitsL_len];omega
theorem digitsL_wrap (x:Int):digitsL 8 (IntKind.i64.wrap x)=digitsL 8 x:=by
 unfold digitsL
 rw [IntKind.wrap_i64]
 have:((x+9223372036854775808)%18446744073709551616-9223372036854775808)%18446744073709551616=x%18446744073709551616:=by omega
 rw [this]
structure Few (im:ImgL):Prop where
 segs:im.segs.length≤8
 needed:im.needed.length≤16
 runPath:im.runPath.length≤16
 syms:im.syms.length≤512
 buckets:im.buckets.length≤512
 words:im.words.length≤64
 relocs:im.relocs.length≤512
 slots:im.slots.length≤128
 init:im.init.length≤8
 fini:im.fini.length≤8
theorem may_few {im:ImgL} (h:mayL im=0):Few im:=by
 obtain⟨hh,hg,ht,hs,htb,hr,hsl,hi,hf⟩:=may_parts h
 simp only [headB,Bool.and_eq_true,decide_eq_true_eq]at hh
 simp only [segsB,Bool.and_eq_true,decide_eq_true_eq]at hg
 simp only [symsB,Bool.and_eq_true,decide_eq_true_eq]at hs
 simp only [tableB,Bool.and_eq_true,decide_eq_true_eq]at htb
 simp only [relocsB,Bool.and_eq_true,decide_eq_true_eq]at hr
 simp only [slotsB,Bool.and_eq_true,decide_eq_true_eq]at hsl
 simp only [runB,Bool.and_eq_true,decide_eq_true_eq]at hi hf
 have hsv:=htb.1.1.2
 simp only [sieveB,Bool.and_eq_true,Bool.or_eq_true,decide_eq_true_eq]at hsv
 exact⟨hg.1.2,hh.1.1.1.2,hh.1.1.2,hs.1,htb.1.1.1.2,by omega,hr.1,hsl.1,hi.1,hf.1⟩
end Go.Proofs.YtfchpchabdhcgaaGreat
