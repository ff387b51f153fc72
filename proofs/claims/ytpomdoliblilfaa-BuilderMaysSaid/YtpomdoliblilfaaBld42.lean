/- Lemmas. -/
import Derived.Test.YtpomdoliblilfaaBld41
import Derived.Test.YtpomdoliblilfaaBld18
import Derived.Deep.DeepCutAuto
namespace Go.Proofs.Ytpomdoliblilfaa
set_option linter.unusedVariables false
set_option linter.unusedSimpArgs false
open Go.RowKit
theorem LB.of_block {α:Type} {K:Kind α} {S:Nat→Prop} {w:World} {g:Nat} {xs:List Value} {t:TypeId} (hh:w.heap[g]? =some (.cells xs.toArray t (0,0))) (l:List α) (r:α→List Value) (hx:xs=l.flatMap r) (hlen:∀ x,(r x).length=K.k) (hl:l.length≤9223372036854775807) (hr:∀ x∈l,K.R S w x (r x)) (hS:S g) (n:Nat) (hn:n=l.length):LB K S w (.slice (some ⟨g,0,none⟩) n n) l:=by
 subst hx hn
 refine⟨some ⟨g,0,none⟩,g,0,l.length,rfl,hl,fun _=>rfl,⟨Nat.le_refl _,fun h=>by cases h⟩,fun _=>hS,fun i x hx=>⟨r x,hr x (List.mem_of_getElem? hx),fun j u hu=> ?_⟩⟩
 rw [Lib.cell_of_heap hh,Nat.zero_add]
 simpa using flat_get r K.k hlen l i x hx j u hu
theorem few_ex (fs:List FuncL) (h:fs=[exFunc]∨fs=[exFunc,exFunc]):FewL (exSpec fs):=by
 rcases h with rfl | rfl<;>exact⟨by decide,by decide,by decide,by decide,by decide,by decide,by decide,by decide,by decide,fun n hn=>by cases hn⟩
theorem exLine_ok:LineOk exLine:=⟨by decide,⟨by decide,by decide,by decide,by decide,by decide⟩,by decide,by decide,by decide⟩
theorem exSym_ok:SymOk exSym:=by constructor<;>decide
def exV (fv:Value):SpecV:=⟨.slice none 0 0,.slice none 0 0,fv,.slice none 0 0,.slice none 0 0,.slice none 0 0,.slice none 0 0⟩
theorem exM {w:World} {S:Nat→Prop} {fv:Value} {fs:List FuncL} (h:LB kFunc S w fv fs):SpecM S w (exV fv) (exSpec fs):=
 ⟨LB.nil _ _ _,LB.nil _ _ _,h,LB.nil _ _ _,LB.nil _ _ _,LB.nil _ _ _,LB.nil _ _ _,Nat.zero_le _,⟨by show(-9223372036854775808:Int)≤0;decide,by show(0:Int)≤9223372036854775807;decide⟩⟩
theorem exFuncs_lb {w:World} {S:Nat→Prop} {g lb:Nat} {t t2:TypeId} {xs:List Value} {fs:List FuncL} (hl:w.heap[lb]? =some (.cells #[.int .i64 1,.int .i64 0,.int .i64 0,.int .i64 0,.int .i64 0,.int .i64 0,.int .i64 0,.string ⟨#[103]⟩,.string ⟨#[]⟩] t2 (0,0))) (hg:w.heap[g]? =some (.cells xs.toArray t (0,0))) (hx:xs=fs.flatMap fun _=>(#[.string ⟨#[102]⟩,.string ⟨#[]⟩,.bool false,.int .i64 1,.bool false,.int .i64 0,.bool false,.int .i64 0,.int .i64 0,.slice (some ⟨lb,0,none⟩) 1 1]:Array Value).toList) (hfs:fs=[exFunc]∨fs=[exFunc,exFunc]) (hSl:S lb) (hSg:S g) (n:Nat) (hn:n=fs.length):LB kFunc S w (.slice (some ⟨g,0,none⟩) n n) fs:=by
 have h1:LB kLine S w (.slice (some ⟨lb,0,none⟩) 1 1) [exLine]:=LB.of_block (xs:=[.int .i64 1,.int .i64 0,.int .i64 0,.int .i64 0,.int .i64 0,.int .i64 0,.int .i64 0,.string ⟨#[103]⟩,.string ⟨#[]⟩]) hl [exLine] lineCells rfl (fun _=>rfl) (by decide) (fun x hx=>by
  obtain rfl:=List.mem_singleton.1 hx
  exact⟨rfl,exLine_ok⟩) hSl 1 rfl
 refine LB.of_block hg fs _ hx (fun _=>rfl) (by rcases hfs with rfl | rfl<;>decide) (fun x hx=> ?_) hSg n hn
 have hx:x=exFunc:=by rcases hfs with rfl | rfl<;>simpa using hx
 subst hx
 exact⟨_,rfl,h1,exSym_ok⟩
set_option maxHeartbeats 16000000 in
set_option maxRecDepth 100000 in
theorem bawake_any (w:World):Calls Try.prog 8 #[] w fun e w'=>e=.returned (.bool true)∧Below w.heap.size w w':=by
 go_enter Try.func8,Try.ntmps8
 go_upto_region 2 with fail
 have HB1:=Lib.hid (((Below.refl w.heap.size w).alloc (Nat.le_refl _) (.cells #[.int .i64 1,.int .i64 0,.int .i64 0,.int .i64 0,.int .i64 0,.int .i64 0,.int .i64 0,.string ⟨#[103]⟩,.string ⟨#[]⟩] 77 (0,0))).alloc (by simp) (.cells #[.string ⟨#[102]⟩,.string ⟨#[]⟩,.bool false,.int .i64 1,.bool false,.int .i64 0,.bool false,.int .i64 0,.int .i64 0,.slice (some ⟨w.heap.size,0,none⟩) 1 1] 68 (0,0)))
 have HL1:Hid (((w.alloc (.cells #[.int .i64 1,.int .i64 0,.int .i64 0,.int .i64 0,.int .i64 0,.int .i64 0,.int .i64 0,.string ⟨#[103]⟩,.string ⟨#[]⟩] 77 (0,0))).alloc (.cells #[.string ⟨#[102]⟩,.string ⟨#[]⟩,.bool false,.int .i64 1,.bool false,.int .i64 0,.bool false,.int .i64 0,.int .i64 0,.slice (some ⟨w.heap.size,0,none⟩) 1 1] 68 (0,0))).heap[w.heap.size]? =some (.cells #[.int .i64 1,.int .i64 0,.int .i64 0,.int .i64 0,.int .i64 0,.int .i64 0,.int .i64 0,.string ⟨#[103]⟩,.string ⟨#[]⟩] 77 (0,0))):=Lib.hid ((heap_alloc_old _ _ (by simp)).trans (heap_alloc_new w _))
 have HF1:Hid (((w.alloc (.cells #[.int .i64 1,.int .i64 0,.int .i64 0,.int .i64 0,.int .i64 0,.int .i64 0,.int .i64 0,.string ⟨#[103]⟩,.string ⟨#[]⟩] 77 (0,0))).alloc (.cells #[.string ⟨#[102]⟩,.string ⟨#[]⟩,.bool false,.int .i64 1,.bool false,.int .i64 0,.bool false,.int .i64 0,.int .i64 0,.slice (some ⟨w.heap.size,0,none⟩) 1 1] 68 (0,0))).heap[w.heap.size+1]? =some (.cells #[.string ⟨#[102]⟩,.string ⟨#[]⟩,.bool false,.int .i64 1,.bool false,.int .i64 0,.bool false,.int .i64 0,.int .i64 0,.slice (some ⟨w.heap.size,0,none⟩) 1 1] 68 (0,0))):=Lib.hid (by
  have:=heap_alloc_new (w.alloc (.cells #[.int .i64 1,.int .i64 0,.int .i64 0,.int .i64 0,.int .i64 0,.int .i64 0,.int .i64 0,.string ⟨#[103]⟩,.string ⟨#[]⟩] 77 (0,0))) (.cells #[.string ⟨#[102]⟩,.string ⟨#[]⟩,.bool false,.int .i64 1,.bool false,.int .i64 0,.bool false,.int .i64 0,.int .i64 0,.slice (some ⟨w.heap.size,0,none⟩) 1 1] 68 (0,0))
  rwa [World.size_alloc]at this)
 have hz1:((w.alloc (.cells #[.int .i64 1,.int .i64 0,.int .i64 0,.int .i64 0,.int .i64 0,.int .i64 0,.int .i64 0,.string ⟨#[103]⟩,.string ⟨#[]⟩] 77 (0,0))).alloc (.cells #[.string ⟨#[102]⟩,.string ⟨#[]⟩,.bool false,.int .i64 1,.bool false,.int .i64 0,.bool false,.int .i64 0,.int .i64 0,.slice (some ⟨w.heap.size,0,none⟩) 1 1] 68 (0,0))).heap.size=w.heap.size+2:=by simp
 generalize (w.alloc (.cells #[.int .i64 1,.int .i64 0,.int .i64 0,.int .i64 0,.int .i64 0,.int .i64 0,.int .i64 0,.string ⟨#[103]⟩,.string ⟨#[]⟩] 77 (0,0))).alloc (.cells #[.string ⟨#[102]⟩,.string ⟨#[]⟩,.bool false,.int .i64 1,.bool false,.int .i64 0,.bool false,.int .i64 0,.int .i64 0,.slice (some ⟨w.heap.size,0,none⟩) 1 1] 68 (0,0))=w1 at *
 have HB2:=Lib.hid (HB1.out.alloc (by omega) (.cells #[.string ⟨#[102]⟩,.string ⟨#[]⟩,.bool false,.int .i64 1,.bool false,.int .i64 0,.bool false,.int .i64 0,.int .i64 0,.slice (some ⟨w.heap.size,0,none⟩) 1 1] 68 (0,0)))
 have HL2:=Lib.hid ((heap_alloc_old w1 (.cells #[.string ⟨#[102]⟩,.string ⟨#[]⟩,.bool false,.int .i64 1,.bool false,.int .i64 0,.bool false,.int .i64 0,.int .i64 0,.slice (some ⟨w.heap.size,0,none⟩) 1 1] 68 (0,0)) (r:=w.heap.size) (by omega)).trans HL1.out)
 have HF2:=Lib.hid ((heap_alloc_old w1 (.cells #[.string ⟨#[102]⟩,.string ⟨#[]⟩,.bool false,.int .i64 1,.bool false,.int .i64 0,.bool false,.int .i64 0,.int .i64 0,.slice (some ⟨w.heap.size,0,none⟩) 1 1] 68 (0,0)) (r:=w.heap.size+1) (by omega)).trans HF1.out)
 have HG2:=Lib.hid (heap_alloc_new w1 (.cells #[.string ⟨#[102]⟩,.string ⟨#[]⟩,.bool false,.int .i64 1,.bool false,.int .i64 0,.bool false,.int .i64 0,.int .i64 0,.slice (some ⟨w.heap.size,0,none⟩) 1 1] 68 (0,0)))
 have HC2:Hid (Calls Try.prog 10 #[.agg #[.string ⟨#[]⟩,.int .i64 0,.slice none 0 0,.slice none 0 0,.slice (some ⟨w1.heap.size,0,none⟩) 1 1,.slice none 0 0,.slice none 0 0,.slice none 0 0,.slice none 0 0]] (w1.alloc (.cells #[.string ⟨#[102]⟩,.string ⟨#[]⟩,.bool false,.int .i64 1,.bool false,.int .i64 0,.bool false,.int .i64 0,.int .i64 0,.slice (some ⟨w.heap.size,0,none⟩) 1 1] 68 (0,0))) (BuildPost (w1.alloc (.cells #[.string ⟨#[102]⟩,.string ⟨#[]⟩,.bool false,.int .i64 1,.bool false,.int .i64 0,.bool false,.int .i64 0,.int .i64 0,.slice (some ⟨w.heap.size,0,none⟩) 1 1] 68 (0,0))) (exSpec [exFunc]))):=Lib.hid (build_any _ (exV (.slice (some ⟨w1.heap.size,0,none⟩) 1 1)) _ (exM (exFuncs_lb HL2.out HG2.out rfl (Or.inl rfl) (by simp;omega) (by simp) 1 rfl)) (few_ex _ (Or.inl rfl)))
 have hz2:(w1.alloc (.cells #[.string ⟨#[102]⟩,.string ⟨#[]⟩,.bool false,.int .i64 1,.bool false,.int .i64 0,.bool false,.int .i64 0,.int .i64 0,.slice (some ⟨w.heap.size,0,none⟩) 1 1] 68 (0,0))).heap.size=w.heap.size+3:=by simp;omega
 have Hz1:=Lib.hid hz1
 have Hz2:=Lib.hid hz2
 clear hz1 hz2
 have x0:=cells_row HF1.out 0 _ rfl
 have x1:=cells_row HF1.out 1 _ rfl
 have x2:=cells_row HF1.out 2 _ rfl
 have x3:=cells_row HF1.out 3 _ rfl
 have x4:=cells_row HF1.out 4 _ rfl
 have x5:=cells_row HF1.out 5 _ rfl
 have x6:=cells_row HF1.out 6 _ rfl
 have x7:=cells_row HF1.out 7 _ rfl
 have x8:=cells_row HF1.out 8 _ rfl
 have x9:=cells_row HF1.out 9 _ rfl
 go_wp2_with fail
 refine HC2.out.mono ?_
 clear x0 x1 x2 x3 x4 x5 x6 x7 x8 x9
 generalize (w1.alloc (.cells #[.string ⟨#[102]⟩,.string ⟨#[]⟩,.bool false,.int .i64 1,.bool false,.int .i64 0,.bool false,.int .i64 0,.int .i64 0,.slice (some ⟨w.heap.size,0,none⟩) 1 1] 68 (0,0)))=w2 at *
 rintro e w3 ⟨iv,rfl,hb3,hm3⟩
 obtain⟨im1,him⟩:∃ im1,im1=(buildL (exSpec [exFunc])).1:=⟨_,rfl⟩
 rw [ex1_err,← him]
 rw [← him]at hm3
 have e1:=ex1_segs
 have e2:=ex1_seg0
 have e3:=ex1_syms
 have e4:=ex1_slots
 rw [← him]at e1 e2 e3 e4
 have hone:=img_one hm3
 obtain⟨sa,sb,so,sc,hsf,hsm,hsc,hsat⟩:=hm3.segs.at
 obtain⟨ya,yc,hyf⟩:=hm3.syms.form
 obtain⟨ta,tb,to_,tc,htf,htm,htc,htat⟩:=hm3.slots.at
 obtain⟨x0,hx0⟩:∃ x,im1.segs[0]? =some x:=⟨_,List.getElem?_eq_getElem (by omega)⟩
 rw [hx0]at e2
 have e2:x0.bytes.length=32:=Option.some.inj e2
 obtain⟨bv,g0,g1,g2,-,gb⟩:=hsat.seg4 0 x0 hx0
 obtain⟨ba,bc,rfl⟩:=gb.form
 rw [e2]at g2
 obtain⟨t0,t1,t2⟩:=htat.slot3 0 ⟨64,1,24⟩ (by rw [e4];rfl)
 have hta:=htat.addr (by rw [e4];decide)
 have hsa:=hsat.addr (by omega)
 subst hta hsa
 rw [e1]at hsf
 rw [e3]at hyf
 rw [e4]at htf
 have hcells:imgCells iv im1=#[.string ⟨im1.name.toArray⟩,.int .i64 im1.flags,.slice (some ⟨sb,so,none⟩) 2 sc,iv.needed,iv.runPath,.slice ya 2 yc,iv.buckets,iv.words,.int .i64 im1.shift,iv.relocs,.slice (some ⟨tb,to_,none⟩) 1 tc,iv.init,iv.fini,iv.tls,.int .i64 im1.tlsSize]:=by unfold imgCells;rw [hsf,hyf,htf];rfl
 rw [hcells]at hone ⊢
 simp only [Nat.zero_mul,Nat.add_zero]at g0 g1 g2 t0 t1 t2
 have hsS:=hsat.inS (by omega)
 have htS:=htat.inS (by rw [e4];decide)
 have Hz3:=Lib.hid hb3.size
 have HB3:=Lib.hid (HB2.out.trans (hb3.mono (by have:=Hz2.out;omega)))
 have HL3:=Lib.hid ((hb3.block w.heap.size (by have:=Hz2.out;omega)).trans HL2.out)
 have HF3:=Lib.hid ((hb3.block (w.heap.size+1) (by have:=Hz2.out;omega)).trans HF2.out)
 have HS3:Hid (sb<w3.heap.size∧tb<w3.heap.size):=Lib.hid ⟨hsS.2,htS.2⟩
 have Hsg:=Lib.hid g2
 have Ht0:=Lib.hid t0
 have Ht1:=Lib.hid t1
 have Ht2:=Lib.hid t2
 clear hb3 hm3 hsm hsc hsat htm htc htat hsf hyf htf hx0 g0 g1 g2 t0 t1 t2 hsS htS him e1 e2 e3 e4 hcells HB1 HL1 HF1 HB2 HL2 HF2 HG2 HC2
 go_upto_region 3 with (refine wpList_store_row rfl 44 (.tmp 2) (.tmp 13) rfl w3.heap.size #[.string ⟨im1.name.toArray⟩,.int .i64 im1.flags,.slice (some ⟨sb,so,none⟩) 2 sc,iv.needed,iv.runPath,.slice ya 2 yc,iv.buckets,iv.words,.int .i64 im1.shift,iv.relocs,.slice (some ⟨tb,to_,none⟩) 1 tc,iv.init,iv.fini,iv.tls,.int .i64 im1.tlsSize] rfl rfl _ _ (heap_alloc_new w3 _) (by kernel_rfl) rfl hone ?_)
 have HX4:=Lib.hid (setRow_heap (w3.alloc (.cells #[.string ⟨#[]⟩,.int .i64 0,.slice none 0 0,.slice none 0 0,.slice none 0 0,.slice none 0 0,.slice none 0 0,.slice none 0 0,.int .i64 0,.slice none 0 0,.slice none 0 0,.slice none 0 0,.slice none 0 0,.slice none 0 0,.int .i64 0] 44 (0,0))) w3.heap.size _ (#[.string ⟨im1.name.toArray⟩,.int .i64 im1.flags,.slice (some ⟨sb,so,none⟩) 2 sc,iv.needed,iv.runPath,.slice ya 2 yc,iv.buckets,iv.words,.int .i64 im1.shift,iv.relocs,.slice (some ⟨tb,to_,none⟩) 1 tc,iv.init,iv.fini,iv.tls,.int .i64 im1.tlsSize]) _ _ (heap_alloc_new w3 _))
 have Hold:Hid (∀ b,b<w3.heap.size→((w3.alloc (.cells #[.string ⟨#[]⟩,.int .i64 0,.slice none 0 0,.slice none 0 0,.slice none 0 0,.slice none 0 0,.slice none 0 0,.slice none 0 0,.int .i64 0,.slice none 0 0,.slice none 0 0,.slice none 0 0,.slice none 0 0,.slice none 0 0,.int .i64 0] 44 (0,0))).setRow w3.heap.size (#[.string ⟨im1.name.toArray⟩,.int .i64 im1.flags,.slice (some ⟨sb,so,none⟩) 2 sc,iv.needed,iv.runPath,.slice ya 2 yc,iv.buckets,iv.words,.int .i64 im1.shift,iv.relocs,.slice (some ⟨tb,to_,none⟩) 1 tc,iv.init,iv.fini,iv.tls,.int .i64 im1.tlsSize])).heap[b]? =w3.heap[b]?):=Lib.hid (fun b hb=>(setRow_other _ _ b _ (by omega)).trans (heap_alloc_old w3 _ hb))
 have HB4:=Lib.hid (below_setRow (HB3.out.alloc HB3.out.size (.cells #[.string ⟨#[]⟩,.int .i64 0,.slice none 0 0,.slice none 0 0,.slice none 0 0,.slice none 0 0,.slice none 0 0,.slice none 0 0,.int .i64 0,.slice none 0 0,.slice none 0 0,.slice none 0 0,.slice none 0 0,.slice none 0 0,.int .i64 0] 44 (0,0))) w3.heap.size (#[.string ⟨im1.name.toArray⟩,.int .i64 im1.flags,.slice (some ⟨sb,so,none⟩) 2 sc,iv.needed,iv.runPath,.slice ya 2 yc,iv.buckets,iv.words,.int .i64 im1.shift,iv.relocs,.slice (some ⟨tb,to_,none⟩) 1 tc,iv.init,iv.fini,iv.tls,.int .i64 im1.tlsSize]) HB3.out.size)
 have hz4:((w3.alloc (.cells #[.string ⟨#[]⟩,.int .i64 0,.slice none 0 0,.slice none 0 0,.slice none 0 0,.slice none 0 0,.slice none 0 0,.slice none 0 0,.int .i64 0,.slice none 0 0,.slice none 0 0,.slice none 0 0,.slice none 0 0,.slice none 0 0,.int .i64 0] 44 (0,0))).setRow w3.heap.size (#[.string ⟨im1.name.toArray⟩,.int .i64 im1.flags,.slice (some ⟨sb,so,none⟩) 2 sc,iv.needed,iv.runPath,.slice ya 2 yc,iv.buckets,iv.words,.int .i64 im1.shift,iv.relocs,.slice (some ⟨tb,to_,none⟩) 1 tc,iv.init,iv.fini,iv.tls,.int .i64 im1.tlsSize])).heap.size=w3.heap.size+1:=by simp
 obtain⟨ib,hib⟩:∃ ib,ib=w3.heap.size:=⟨_,rfl⟩
 rw [← hib]at HX4 HB4 Hold hz4 ⊢
 generalize (w3.alloc (.cells #[.string ⟨#[]⟩,.int .i64 0,.slice none 0 0,.slice none 0 0,.slice none 0 0,.slice none 0 0,.slice none 0 0,.slice none 0 0,.int .i64 0,.slice none 0 0,.slice none 0 0,.slice none 0 0,.slice none 0 0,.slice none 0 0,.int .i64 0] 44 (0,0))).setRow ib (#[.string ⟨im1.name.toArray⟩,.int .i64 im1.flags,.slice (some ⟨sb,so,none⟩) 2 sc,iv.needed,iv.runPath,.slice ya 2 yc,iv.buckets,iv.words,.int .i64 im1.shift,iv.relocs,.slice (some ⟨tb,to_,none⟩) 1 tc,iv.init,iv.fini,iv.tls,.int .i64 im1.tlsSize])=w4 at *
 have HL4:=Lib.hid ((Hold.out w.heap.size (by have:=Hz2.out;have:=Hz3.out;omega)).trans HL3.out)
 have HF4:=Lib.hid ((Hold.out (w.heap.size+1) (by have:=Hz2.out;have:=Hz3.out;omega)).trans HF3.out)
 have Hsg4:=Lib.hid ((World.cell?_of_block (a:=⟨sb,so+2,none⟩) (Hold.out sb (by have:=HS3.out.1;omega))).trans Hsg.out)
 have t0:=(World.cell?_of_block (a:=⟨tb,to_,none⟩) (Hold.out tb (by have:=HS3.out.2;omega))).trans Ht0.out
 have t1:=(World.cell?_of_block (a:=⟨tb,to_+1,none⟩) (Hold.out tb (by have:=HS3.out.2;omega))).trans Ht1.out
 have t2:=(World.cell?_of_block (a:=⟨tb,to_+2,none⟩) (Hold.out tb (by have:=HS3.out.2;omega))).trans Ht2.out
 have s2:w4.cell? ⟨ib,2,none⟩=some (.slice (some ⟨sb,so,none⟩) 2 sc):=by rw [Lib.cell_of_heap HX4.out];rfl
 have s5:w4.cell? ⟨ib,5,none⟩=some (.slice ya 2 yc):=by rw [Lib.cell_of_heap HX4.out];rfl
 have s10:w4.cell? ⟨ib,10,none⟩=some (.slice (some ⟨tb,to_,none⟩) 1 tc):=by rw [Lib.cell_of_heap HX4.out];rfl
 have HSb:Hid (sb<w4.heap.size∧ib<w4.heap.size∧w.heap.size+3≤w4.heap.size):=Lib.hid (by have:=HS3.out;have:=Hz3.out;have:=Hz2.out;omega)
 clear hone Hold hz4 hib Hz1 Hz2 Hz3 HB3 HL3 HF3 HS3 Hsg Ht0 Ht1 Ht2 e2 gb
 go_upto_region 5 with fail
 clear s2 s5 s10 t0 t1 t2
 have HB5:=Lib.hid (HB4.out.alloc (by have:=HSb.out;omega) (.cells #[.string ⟨#[102]⟩,.string ⟨#[]⟩,.bool false,.int .i64 1,.bool false,.int .i64 0,.bool false,.int .i64 0,.int .i64 0,.slice (some ⟨w.heap.size,0,none⟩) 1 1,.string ⟨#[102]⟩,.string ⟨#[]⟩,.bool false,.int .i64 1,.bool false,.int .i64 0,.bool false,.int .i64 0,.int .i64 0,.slice (some ⟨w.heap.size,0,none⟩) 1 1] 68 (0,0)))
 have HL5:=Lib.hid ((heap_alloc_old w4 (.cells #[.string ⟨#[102]⟩,.string ⟨#[]⟩,.bool false,.int .i64 1,.bool false,.int .i64 0,.bool false,.int .i64 0,.int .i64 0,.slice (some ⟨w.heap.size,0,none⟩) 1 1,.string ⟨#[102]⟩,.string ⟨#[]⟩,.bool false,.int .i64 1,.bool false,.int .i64 0,.bool false,.int .i64 0,.int .i64 0,.slice (some ⟨w.heap.size,0,none⟩) 1 1] 68 (0,0)) (r:=w.heap.size) (by have:=HSb.out;omega)).trans HL4.out)
 have HG5:=Lib.hid (heap_alloc_new w4 (.cells #[.string ⟨#[102]⟩,.string ⟨#[]⟩,.bool false,.int .i64 1,.bool false,.int .i64 0,.bool false,.int .i64 0,.int .i64 0,.slice (some ⟨w.heap.size,0,none⟩) 1 1,.string ⟨#[102]⟩,.string ⟨#[]⟩,.bool false,.int .i64 1,.bool false,.int .i64 0,.bool false,.int .i64 0,.int .i64 0,.slice (some ⟨w.heap.size,0,none⟩) 1 1] 68 (0,0)))
 have HX5:=Lib.hid ((heap_alloc_old w4 (.cells #[.string ⟨#[102]⟩,.string ⟨#[]⟩,.bool false,.int .i64 1,.bool false,.int .i64 0,.bool false,.int .i64 0,.int .i64 0,.slice (some ⟨w.heap.size,0,none⟩) 1 1,.string ⟨#[102]⟩,.string ⟨#[]⟩,.bool false,.int .i64 1,.bool false,.int .i64 0,.bool false,.int .i64 0,.int .i64 0,.slice (some ⟨w.heap.size,0,none⟩) 1 1] 68 (0,0)) (r:=ib) (by have:=HSb.out;omega)).trans HX4.out)
 have Hsg5:=Lib.hid ((World.cell?_of_block (a:=⟨sb,so+2,none⟩) (heap_alloc_old w4 (.cells #[.string ⟨#[102]⟩,.string ⟨#[]⟩,.bool false,.int .i64 1,.bool false,.int .i64 0,.bool false,.int .i64 0,.int .i64 0,.slice (some ⟨w.heap.size,0,none⟩) 1 1,.string ⟨#[102]⟩,.string ⟨#[]⟩,.bool false,.int .i64 1,.bool false,.int .i64 0,.bool false,.int .i64 0,.int .i64 0,.slice (some ⟨w.heap.size,0,none⟩) 1 1] 68 (0,0)) (by have:=HSb.out;show sb<_;omega))).trans Hsg4.out)
 have HC5:Hid (Calls Try.prog 10 #[.agg #[.string ⟨#[]⟩,.int .i64 0,.slice none 0 0,.slice none 0 0,.slice (some ⟨w4.heap.size,0,none⟩) 2 2,.slice none 0 0,.slice none 0 0,.slice none 0 0,.slice none 0 0]] (w4.alloc (.cells #[.string ⟨#[102]⟩,.string ⟨#[]⟩,.bool false,.int .i64 1,.bool false,.int .i64 0,.bool false,.int .i64 0,.int .i64 0,.slice (some ⟨w.heap.size,0,none⟩) 1 1,.string ⟨#[102]⟩,.string ⟨#[]⟩,.bool false,.int .i64 1,.bool false,.int .i64 0,.bool false,.int .i64 0,.int .i64 0,.slice (some ⟨w.heap.size,0,none⟩) 1 1] 68 (0,0))) (BuildPost (w4.alloc (.cells #[.string ⟨#[102]⟩,.string ⟨#[]⟩,.bool false,.int .i64 1,.bool false,.int .i64 0,.bool false,.int .i64 0,.int .i64 0,.slice (some ⟨w.heap.size,0,none⟩) 1 1,.string ⟨#[102]⟩,.string ⟨#[]⟩,.bool false,.int .i64 1,.bool false,.int .i64 0,.bool false,.int .i64 0,.int .i64 0,.slice (some ⟨w.heap.size,0,none⟩) 1 1] 68 (0,0))) (exSpec [exFunc,exFunc]))):=Lib.hid (build_any _ (exV (.slice (some ⟨w4.heap.size,0,none⟩) 2 2)) _ (exM (exFuncs_lb HL5.out HG5.out rfl (Or.inr rfl) (by have:=HSb.out;simp;omega) (by simp) 2 rfl)) (few_ex _ (Or.inr rfl)))
 have HSb5:Hid (sb<(w4.alloc (.cells #[.string ⟨#[102]⟩,.string ⟨#[]⟩,.bool false,.int .i64 1,.bool false,.int .i64 0,.bool false,.int .i64 0,.int .i64 0,.slice (some ⟨w.heap.size,0,none⟩) 1 1,.string ⟨#[102]⟩,.string ⟨#[]⟩,.bool false,.int .i64 1,.bool false,.int .i64 0,.bool false,.int .i64 0,.int .i64 0,.slice (some ⟨w.heap.size,0,none⟩) 1 1] 68 (0,0))).heap.size∧ib<(w4.alloc (.cells #[.string ⟨#[102]⟩,.string ⟨#[]⟩,.bool false,.int .i64 1,.bool false,.int .i64 0,.bool false,.int .i64 0,.int .i64 0,.slice (some ⟨w.heap.size,0,none⟩) 1 1,.string ⟨#[102]⟩,.string ⟨#[]⟩,.bool false,.int .i64 1,.bool false,.int .i64 0,.bool false,.int .i64 0,.int .i64 0,.slice (some ⟨w.heap.size,0,none⟩) 1 1] 68 (0,0))).heap.size∧w.heap.size≤(w4.alloc (.cells #[.string ⟨#[102]⟩,.string ⟨#[]⟩,.bool false,.int .i64 1,.bool false,.int .i64 0,.bool false,.int .i64 0,.int .i64 0,.slice (some ⟨w.heap.size,0,none⟩) 1 1,.string ⟨#[102]⟩,.string ⟨#[]⟩,.bool false,.int .i64 1,.bool false,.int .i64 0,.bool false,.int .i64 0,.int .i64 0,.slice (some ⟨w.heap.size,0,none⟩) 1 1] 68 (0,0))).heap.size):=Lib.hid (by have:=HSb.out;simp;omega)
 have x0:=cells_row HF4.out 0 _ rfl
 have x1:=cells_row HF4.out 1 _ rfl
 have x2:=cells_row HF4.out 2 _ rfl
 have x3:=cells_row HF4.out 3 _ rfl
 have x4:=cells_row HF4.out 4 _ rfl
 have x5:=cells_row HF4.out 5 _ rfl
 have x6:=cells_row HF4.out 6 _ rfl
 have x7:=cells_row HF4.out 7 _ rfl
 have x8:=cells_row HF4.out 8 _ rfl
 have x9:=cells_row HF4.out 9 _ rfl
 go_wp2_with fail
 refine HC5.out.mono ?_
 clear x0 x1 x2 x3 x4 x5 x6 x7 x8 x9
 generalize (w4.alloc (.cells #[.string ⟨#[102]⟩,.string ⟨#[]⟩,.bool false,.int .i64 1,.bool false,.int .i64 0,.bool false,.int .i64 0,.int .i64 0,.slice (some ⟨w.heap.size,0,none⟩) 1 1,.string ⟨#[102]⟩,.string ⟨#[]⟩,.bool false,.int .i64 1,.bool false,.int .i64 0,.bool false,.int .i64 0,.int .i64 0,.slice (some ⟨w.heap.size,0,none⟩) 1 1] 68 (0,0)))=w5 at *
 rintro e w6 ⟨iv2,rfl,hb6,-⟩
 rw [ex2_err]
 have HB6:=Lib.hid (HB5.out.trans (hb6.mono HSb5.out.2.2))
 have HX6:=Lib.hid ((hb6.block ib HSb5.out.2.1).trans HX5.out)
 have g2:=(World.cell?_of_block (a:=⟨sb,so+2,none⟩) (hb6.block sb HSb5.out.1)).trans Hsg5.out
 have s2:w6.cell? ⟨ib,2,none⟩=some (.slice (some ⟨sb,so,none⟩) 2 sc):=by rw [Lib.cell_of_heap HX6.out];rfl
 generalize imgCells iv2 (buildL (exSpec [exFunc,exFunc])).1=cs2
 clear hb6 HC5 HSb HSb5 HB5 HL5 HG5 HX5 Hsg5
 go_wp2_with fail
 go_ret
 exact⟨rfl,HB6.out⟩
end Go.Proofs.Ytpomdoliblilfaa
