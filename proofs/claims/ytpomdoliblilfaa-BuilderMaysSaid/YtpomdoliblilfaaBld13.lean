/- Lemmas. -/
import Derived.Test.YtpomdoliblilfaaBld12
import Derived.Test.YtpomdoliblilfaaBld4
namespace Go.Proofs.Ytpomdoliblilfaa
set_option linter.unusedVariables false
set_option linter.unusedSimpArgs false
open Go.RowKit
theorem PlanM.setOwn {B pb:Nat} {w:World} {sv:SpecV} {s:SpecL} {own:Int} {v:PlanV} {p:PlanL} (h:PlanM B pb w sv s own v p) (o:Int):PlanM B pb (w.setCell ⟨pb,10,none⟩ (.int .i64 o)) sv s o v p:=
 ⟨setCell_list h.ex 10 _,h.base,h.syms.setOther (Or.inl rfl) 10 _,h.cells.setOther (Or.inl rfl) 10 _,h.jumps.setOther (Or.inl rfl) 10 _⟩
structure ChkAt (B pb:Nat) (sv:SpecV) (s:SpecL) (own:Int) (v:PlanV) (w:World) (bs:List (Nat × Obj)) (q:PlanL) (w':World):Prop where
 ex:∃ v',PlanM B pb w' sv s own v' q∧PStep pb v v' w w'∧∀ b∈bs,w'.heap[b.1]? =some b.2∧Kept pb v' w' b.1
section
variable {B pb : Nat} {sv : SpecV} {s : SpecL} {own : Int} {v : PlanV} {w w1 : World} {bs : List (Nat × Obj)} {q : PlanL}
theorem ChkAt.size (h:ChkAt B pb sv s own v w bs q w1):w.heap.size≤w1.heap.size:=by
 obtain⟨v',_,h2,_⟩:=h.ex;exact h2.step.size
theorem ChkAt.low {p:PlanL} (h:ChkAt B pb sv s own v w bs q w1) {own':Int} (hM:PlanM B pb w sv s own' v p) (hB:B≤w.heap.size):Below B w w1:=by
 obtain⟨v',_,h2,_⟩:=h.ex;exact h2.low hM hB
theorem ChkAt.box (h:ChkAt B pb sv s own v w bs q w1) {b:Nat} {xs:List Value} {t:TypeId} (hb:(b,Obj.cells xs.toArray t (0,0))∈bs) (i:Nat) (u:Value) (hu:xs[i]? =some u):w1.cell? ⟨b,i,none⟩=some u:=by
 obtain⟨v',_,_,h3⟩:=h.ex
 rw [Lib.cell_of_heap (h3 _ hb).1];simpa using hu
theorem ChkAt.sub {bs':List (Nat × Obj)} (h:ChkAt B pb sv s own v w bs q w1) (hb:∀ b∈bs',b∈bs):ChkAt B pb sv s own v w bs' q w1:=by
 obtain⟨v',h1,h2,h3⟩:=h.ex
 exact⟨v',h1,h2,fun b hb'=>h3 b (hb b hb')⟩
theorem ChkAt.more {v1:PlanV} {q1:PlanL} {w2:World} (h2:PStep pb v v1 w w1) (h3:∀ b∈bs,w1.heap[b.1]? =some b.2∧Kept pb v1 w1 b.1) {v2:PlanV} (hM:PlanM B pb w2 sv s own v2 q1) (hs:PStep pb v1 v2 w1 w2):ChkAt B pb sv s own v w bs q1 w2:=
 ⟨v2,hM,h2.trans hs,fun b hb=>⟨(hs.block (h3 b hb).2).trans (h3 b hb).1,hs.kept (h3 b hb).2⟩⟩
theorem ChkAt.alloc (h:ChkAt B pb sv s own v w bs q w1) (o:Array Value) (t:TypeId):ChkAt B pb sv s own v w ((w1.heap.size,.cells o t (0,0)) :: bs) q (w1.alloc (.cells o t (0,0))):=by
 obtain⟨v',h1,h2,h3⟩:=h.ex
 refine⟨v',h1.alloc _,h2.trans (PStep.alloc v' w1 _),fun b hb=> ?_⟩
 rcases List.mem_cons.1 hb with rfl | hb
 ·exact⟨heap_alloc_new _ _,h1.kept_new _⟩
 ·exact⟨(heap_alloc_old w1 _ (h3 b hb).2.lt).trans (h3 b hb).1,(h3 b hb).2.alloc _⟩
theorem ChkAt.fail (h:ChkAt B pb sv s own v w bs q w1) (e:Int):Calls Try.prog 39 #[.pointer (some ⟨pb,0,none⟩),.int .i64 e] w1 fun x w2=>x=.returned (.tuple #[])∧ChkAt B pb sv s own v w bs (q.failIf true e) w2:=by
 obtain⟨v',h1,h2,h3⟩:=h.ex
 refine(fail_any e h1).mono ?_
 rintro x w2 ⟨rfl,hM,hs⟩
 exact⟨rfl,.more h2 h3 hM hs⟩
theorem ChkAt.define (h:ChkAt B pb sv s own v w bs q w1) (x:SymL) (tls:Bool) (e:Int) (hx:SymOk x) (hl:q.sz≤1000000) (hB:B≤w.heap.size):
  Calls Try.prog 40 #[.pointer (some ⟨pb,0,none⟩),.agg #[.string ⟨x.name.toArray⟩,.string ⟨x.version.toArray⟩,.bool x.old,.int .i64 x.kind,.bool x.weak,.int .i64 x.vis,.bool x.defined,.int .i64 x.value,.int .i64 x.size],.bool tls,.int .i64 e] w1 fun r w2=>r=.returned (.tuple #[])∧ChkAt B pb sv s own v w bs (q.define x tls e) w2:=by
 have hz:=h.size
 obtain⟨v',h1,h2,h3⟩:=h.ex
 refine(define_any x tls e h1 hx (by unfold PlanL.sz at hl;omega) (by omega)).mono ?_
 rintro r w2 ⟨v2,rfl,hM,hs⟩
 exact⟨rfl,.more h2 h3 hM hs⟩
theorem ChkAt.setOwn (h:ChkAt B pb sv s own v w bs q w1) (o:Int):ChkAt B pb sv s o v w bs q (w1.setCell ⟨pb,10,none⟩ (.int .i64 o)):=by
 obtain⟨v',h1,h2,h3⟩:=h.ex
 exact .more h2 h3 (h1.setOwn o) (PStep.set v' 10 _)
theorem ChkAt.c9 (h:ChkAt B pb sv s own v w bs q w1):∃ a c,w1.cell? ⟨pb,9,none⟩=some (.slice a q.syms.length c):=by
 obtain⟨v',h1,h2,h3⟩:=h.ex
 obtain⟨a,c,hf⟩:=h1.syms.form
 exact⟨a,c,by rw [h1.c9,hf]⟩
theorem ChkAt.c10 (h:ChkAt B pb sv s own v w bs q w1):w1.cell? ⟨pb,10,none⟩=some (.int .i64 own)∧w1.frozen? ⟨pb,10,none⟩=false:=by
 obtain⟨v',h1,h2,h3⟩:=h.ex
 exact⟨h1.c10,h1.frozen 10⟩
theorem ChkAt.needs {p:PlanL} (h:ChkAt B pb sv s own v w bs q w1) (hM:∃ o,PlanM B pb w sv s o v p) (hS:SpecM (·<B) w sv s) (hl:q.sz+9*s.lines.length≤999990) (hB:B≤w.heap.size):
  Calls Try.prog 41 #[.pointer (some ⟨pb,0,none⟩)] w1 fun r w2=>r=.returned (.tuple #[])∧ChkAt B pb sv s own v w bs (q.needs s) w2:=by
 obtain⟨o,hM⟩:=hM
 have hz:=h.size
 have hlow:=h.low hM hB
 obtain⟨v',h1,h2,h3⟩:=h.ex
 refine(needs_any h1 (hS.keeps (.of_below hlow)) hl (by omega)).mono ?_
 rintro r w2 ⟨v2,rfl,hM,hs⟩
 exact⟨rfl,.more h2 h3 hM hs⟩
theorem ChkAt.asked {p:PlanL} (h:ChkAt B pb sv s own v w bs q w1) (hM:∃ o,PlanM B pb w sv s o v p) (hS:SpecM (·<B) w sv s) (name ver:List UInt8) (e k0:Int) (ks:List Int) (t:TypeId) (hn:Small63 name) (hv:Small63 ver) (hk:In63 k0) (hks:ks.length≤100) (hl:q.sz≤999990) (hB:B≤w.heap.size):
  Calls Try.prog 42 #[.pointer (some ⟨pb,0,none⟩),.string ⟨name.toArray⟩,.string ⟨ver.toArray⟩,.int .i64 e,.slice (some ⟨w1.heap.size,0,none⟩) (k0 :: ks).length (k0 :: ks).length] (w1.alloc (.cells ((k0 :: ks).map (Value.int .i64)).toArray t (0,0))) fun r w2=>∃ i:Nat,r=.returned (.int .i64 i)∧ChkAt B pb sv s own v w bs (q.asked s.weak name ver e (k0 :: ks)).1 w2:=by
 obtain⟨o,hM⟩:=hM
 have hz:=h.size
 have hlow:=h.low hM hB
 have h':=(h.alloc ((k0 :: ks).map (Value.int .i64)).toArray t).sub (bs':=bs) (fun b hb=>List.mem_cons_of_mem _ hb)
 obtain⟨v',h1,h2,h3⟩:=h.ex
 have hst:=PStep.alloc (pb:=pb) v' w1 (.cells ((k0 :: ks).map (Value.int .i64)).toArray t (0,0))
 refine(asked_any name ver e k0 ks _ (h1.alloc _) (hS.keeps (.of_below (hlow.trans ((Below.refl B w1).alloc (by omega) _)))) (kinds_lb h1 t (k0 :: ks) (by simp;omega)) hn hv hk (by unfold PlanL.sz at hl;omega) (by simp;omega)).mono ?_
 rintro r w2 ⟨v2,rfl,hM,hs⟩
 exact⟨_,rfl,.more h2 h3 hM (hst.trans hs)⟩
end
def badLen (c:Nat):Bool:=decide (c<1)||decide (256<c)
theorem LAt.var12b {B:Nat} {w w1:World} {a:Option Addr} {b off:Nat} {l:List VarL} (h:LAt kVar (·<B) w l a b off) (hb:Below B w w1) (i:Nat) (x:VarL) (hx:l[i]? =some x):∃ c d,LB kInt (·<B) w c x.words∧LB kRef (·<B) w d x.refs∧SymOk x.sym∧w1.cell? ⟨b,off+i*12,none⟩=some (.string ⟨x.sym.name.toArray⟩)∧w1.cell? ⟨b,off+i*12+1,none⟩=some (.string ⟨x.sym.version.toArray⟩)∧
  w1.cell? ⟨b,off+i*12+2,none⟩=some (.bool x.sym.old)∧w1.cell? ⟨b,off+i*12+3,none⟩=some (.int .i64 x.sym.kind)∧w1.cell? ⟨b,off+i*12+4,none⟩=some (.bool x.sym.weak)∧w1.cell? ⟨b,off+i*12+5,none⟩=some (.int .i64 x.sym.vis)∧
  w1.cell? ⟨b,off+i*12+6,none⟩=some (.bool x.sym.defined)∧w1.cell? ⟨b,off+i*12+7,none⟩=some (.int .i64 x.sym.value)∧w1.cell? ⟨b,off+i*12+8,none⟩=some (.int .i64 x.sym.size)∧
  w1.cell? ⟨b,off+i*12+9,none⟩=some c∧w1.cell? ⟨b,off+i*12+10,none⟩=some d∧w1.cell? ⟨b,off+i*12+11,none⟩=some (.bool x.copied):=by
 have hbB:b<B:=h.inS (by have:=(List.getElem?_eq_some_iff.1 hx).1;omega)
 obtain⟨row,⟨c,d,h1,h1',h3,h4⟩,h2⟩:=h.row i x hx
 subst h1
 have h5:∀ j u,(symCells x.sym++[c,d,.bool x.copied])[j]? =some u→w1.cell? ⟨b,off+i*12+j,none⟩=some u:=fun j u hu=>(hb.cell (p:=⟨b,off+i*12+j,none⟩) hbB).trans (h2 j u hu)
 exact⟨c,d,h1',h3,h4,h5 0 _ rfl,h5 1 _ rfl,h5 2 _ rfl,h5 3 _ rfl,h5 4 _ rfl,h5 5 _ rfl,h5 6 _ rfl,h5 7 _ rfl,h5 8 _ rfl,h5 9 _ rfl,h5 10 _ rfl,h5 11 _ rfl⟩
theorem take_refs {l:List VarL} {k:Nat} {f:VarL} (h:l[k]? =some f):(l.take (k+1)).flatMap (·.refs)=(l.take k).flatMap (·.refs)++f.refs:=by
 rw [List.take_add_one,h,List.flatMap_append];simp
theorem take_refs_len (l:List VarL) (k:Nat):((l.take k).flatMap (·.refs)).length≤(l.flatMap (·.refs)).length:=by
 have h:l.flatMap (·.refs)=(l.take k).flatMap (·.refs)++(l.drop k).flatMap (·.refs):=by rw [← List.flatMap_append,List.take_append_drop]
 rw [h];simp
theorem refs_le {l:List VarL} {k:Nat} {f:VarL} (h:l[k]? =some f):f.refs.length≤(l.flatMap (·.refs)).length:=by
 have:=take_refs_len l (k+1)
 rw [take_refs h]at this;simp at this ⊢;omega
theorem refs_flat (weak:List (List UInt8)):∀ (l:List VarL) (p:PlanL),l.foldl (fun p v=>p.refs weak v) p=(l.flatMap (·.refs)).foldl (fun p (r:RefL)=>(p.asked weak r.name r.ver 102 [2,1]).1) p
 | [],_=>rfl
 | v :: l,p=>by rw [List.foldl_cons,refs_flat weak l,List.flatMap_cons,List.foldl_append];rfl
theorem and_one (f:Int):bits BinOp.and .i64 f 1=f%2:=by
 have h1:(BitVec.ofInt 64 f &&& BitVec.ofInt 64 1).toNat=(f%2).toNat:=by
  rw [BitVec.toNat_and]
  have h2:(BitVec.ofInt 64 1).toNat=1:=by decide
  rw [h2,Nat.and_one_is_mod,BitVec.toNat_ofInt]
  omega
 have h3:bits BinOp.and .i64 f 1=IntKind.i64.wrap ((BitVec.ofInt 64 f &&& BitVec.ofInt 64 1).toNat:Int):=rfl
 rw [h3,h1]
 have:f%2=0∨f%2=1:=by omega
 rcases this with h | h<;>rw [h]<;>decide
theorem odd_and {f:Int}:(bits BinOp.and .i64 f 1==0)= !oddB f:=by
 rw [and_one]
 unfold oddB
 have:f%2=0∨f%2=1:=by omega
 rcases this with h | h<;>rw [h]<;>decide
def badVar (flags:Int) (v:VarL):Bool:=decide (v.words.length<1)||decide (256<v.words.length)||decide (v.sym.kind=1)||(v.copied&&(!oddB flags|| !decide (v.sym.kind=2)||decide (0<v.refs.length)))
def badRef (v:VarL) (last:Int) (r:RefL):Bool:=decide (r.word≤last)||decide ((v.words.length:Int)≤r.word)|| !decide (v.sym.kind=2)
theorem var_eq (flags:Int) (v:VarL) (p:PlanL):p.var flags v=refsFrom v (-1) v.refs ((p.failIf (badVar flags v) 102).define v.sym (v.sym.kind==3) 100):=rfl
def lastOf:Int→List RefL→Int
 | z,[]=>z
 | _,r :: l=>lastOf r.word l
theorem lastOf_snoc (r:RefL):∀ (l:List RefL) (z:Int),lastOf z (l++[r])=r.word
 | [],_=>rfl
 | x :: l,_=>lastOf_snoc r l x.word
theorem refsFrom_snoc (v:VarL) (r:RefL):∀ (l:List RefL) (z:Int) (p:PlanL),refsFrom v z (l++[r]) p=(refsFrom v z l p).failIf (badRef v (lastOf z l) r) 102
 | [],_,_=>rfl
 | x :: l,z,p=>by
  show refsFrom v x.word (l++[r]) _=_
  rw [refsFrom_snoc v r l];rfl
theorem badLen_one {c:Nat} (h:c<1):badLen c=true:=by simp [badLen,h]
theorem badLen_many {c:Nat} (h:¬ c<1):badLen c=decide (256<c):=by simp [badLen,h]
def CheckPost (B pb:Nat) (sv:SpecV) (s:SpecL) (v:PlanV) (w:World) (r:Ending) (w':World):Prop:=∃ own v',r=.returned (.tuple #[])∧PlanM B pb w' sv s own v' (checkL s)∧PStep pb v v' w w'
theorem func_sz (p:PlanL) (f:FuncL):(p.func f).sz≤p.sz+1:=by unfold PlanL.func PlanL.define PlanL.sz;simp;omega
theorem refsFrom_sz (v:VarL):∀ (l:List RefL) (last:Int) (p:PlanL),(refsFrom v last l p).sz=p.sz
 | [],_,_=>rfl
 | r :: l,last,p=>by unfold refsFrom;rw [refsFrom_sz v l];unfold PlanL.sz;simp
theorem var_sz (p:PlanL) (flags:Int) (v:VarL):(p.var flags v).sz≤p.sz+1:=by unfold PlanL.var;rw [refsFrom_sz];unfold PlanL.define PlanL.sz;simp;omega
theorem asked_sz (weak:List (List UInt8)) (n v:List UInt8) (e:Int) (ks:List Int) (p:PlanL):(p.asked weak n v e ks).1.sz≤p.sz+1:=by
 have h1:=asked_cells weak n v e ks p
 have h2:=asked_jumps weak n v e ks p
 have h3:=asked_syms_len weak n v e ks p
 unfold PlanL.sz;rw [h1,h2];omega
theorem failIf_sz (b:Bool) (e:Int) (p:PlanL):(p.failIf b e).sz=p.sz:=by unfold PlanL.sz;simp
set_option maxHeartbeats 16000000 in
set_option maxRecDepth 100000 in
theorem check_any {B pb:Nat} {w:World} {sv:SpecV} {s:SpecL} {v:PlanV} (hM:PlanM B pb w sv s 0 v ⟨[],[],[],0⟩) (hS:SpecM (·<B) w sv s) (hB:B≤w.heap.size) (hf:s.funcs.length≤2000) (hv:s.vars.length≤2000) (hl:s.lines.length≤2000) (hr:(s.vars.flatMap (·.refs)).length≤2000):
  Calls Try.prog 15 #[.pointer (some ⟨pb,0,none⟩)] w (CheckPost B pb sv s v w):=by
 have HS:=Lib.hid hS
 have HM:=Lib.hid hM
 obtain⟨a2,n2,hv2⟩:=hS.needed.form
 obtain⟨a3,n3,hv3⟩:=hS.runPath.form
 obtain⟨a4,n4,hv4⟩:=hS.funcs.form
 obtain⟨a5,n5,hv5⟩:=hS.vars.form
 obtain⟨a6,n6,hv6⟩:=hS.weak.form
 obtain⟨a7,n7,hv7⟩:=hS.init.form
 obtain⟨a8,n8,hv8⟩:=hS.fini.form
 have HV2:=Lib.hid hv2
 have c0:=hM.c0
 have c1:=hM.c1
 have c2:=hM.c2
 have c3:=hM.c3
 have c4:=hM.c4
 have c5:=hM.c5
 have c6:=hM.c6
 have c7:=hM.c7
 have c8:=hM.c8
 rw [hv2]at c2
 rw [hv3]at c3
 rw [hv4]at c4
 rw [hv5]at c5
 rw [hv6]at c6
 rw [hv7]at c7
 rw [hv8]at c8
 have hspec:specCells sv s=[.string ⟨s.name.toArray⟩,.int .i64 s.flags,.slice a2 s.needed.length n2,.slice a3 s.runPath.length n3,.slice a4 s.funcs.length n4,.slice a5 s.vars.length n5,.slice a6 s.weak.length n6,.slice a7 s.init.length n7,.slice a8 s.fini.length n8]:=by
  unfold specCells;rw [hv2,hv3,hv4,hv5,hv6,hv7,hv8]
 have HSp:=Lib.hid hspec
 have HV4:=Lib.hid hv4
 have HV5:=Lib.hid hv5
 have HC0:=Lib.hid ((ChkAt.mk (bs:=[]) ⟨v,hM,PStep.refl pb v w,fun b hb=>by cases hb⟩:ChkAt B pb sv s 0 v w [] ⟨[],[],[],0⟩ w).alloc #[.string ⟨s.name.toArray⟩,.int .i64 s.flags,.slice a2 s.needed.length n2,.slice a3 s.runPath.length n3,.slice a4 s.funcs.length n4,.slice a5 s.vars.length n5,.slice a6 s.weak.length n6,.slice a7 s.init.length n7,.slice a8 s.fini.length n8] 28)
 have hfl:=hS.flags
 clear hM hS hspec hv2 hv3 hv4 hv5 hv6 hv7 hv8
 go_enter Try.func15,Try.ntmps15
 go_upto_region 1 with fail
 clear c0 c1 c2 c3 c4 c5 c6 c7 c8
 generalize w.alloc (.cells #[.string ⟨s.name.toArray⟩,.int .i64 s.flags,.slice a2 s.needed.length n2,.slice a3 s.runPath.length n3,.slice a4 s.funcs.length n4,.slice a5 s.vars.length n5,.slice a6 s.weak.length n6,.slice a7 s.init.length n7,.slice a8 s.fini.length n8] 28)=w1 at *
 have c1:w1.cell? ⟨w.heap.size,1,none⟩=some (.int .i64 s.flags):=HC0.out.box (List.mem_cons_self ..) 1 _ rfl
 go_cut [25] (fun v25 wx=>v25=.bool (decide (s.flags<0)||decide (15<s.flags))∧wx=w1)
 case first=>
  by_cases h1:s.flags<0
  ·have hd:=Lib.hid (show (decide (s.flags<0)||decide (15<s.flags))=true by simp [h1])
   go_wp2
   go_meet
   exact⟨by rw [hd.out],rfl⟩
  ·have hd:=Lib.hid (show (decide (s.flags<0)||decide (15<s.flags))=decide (15<s.flags) by simp [h1])
   go_wp2
   go_meet
   exact⟨by rw [hd.out],rfl⟩
 case rest=>
 obtain⟨rfl,rfl⟩:=hcut
 rename World=>w1
 obtain⟨bx,hbx⟩:∃ bx:List (Nat × Obj),bx=[(w.heap.size,.cells #[.string ⟨s.name.toArray⟩,.int .i64 s.flags,.slice a2 s.needed.length n2,.slice a3 s.runPath.length n3,.slice a4 s.funcs.length n4,.slice a5 s.vars.length n5,.slice a6 s.weak.length n6,.slice a7 s.init.length n7,.slice a8 s.fini.length n8] 28 (0,0))]:=⟨_,rfl⟩
 have Hbx:Hid ((w.heap.size,Obj.cells #[.string ⟨s.name.toArray⟩,.int .i64 s.flags,.slice a2 s.needed.length n2,.slice a3 s.runPath.length n3,.slice a4 s.funcs.length n4,.slice a5 s.vars.length n5,.slice a6 s.weak.length n6,.slice a7 s.init.length n7,.slice a8 s.fini.length n8] 28 (0,0))∈bx):=Lib.hid (by rw [hbx];exact List.mem_cons_self ..)
 rw [← hbx]at HC0
 clear hbx c1
 obtain⟨p1,hp1⟩:∃ p1,p1=(⟨[],[],[],0⟩:PlanL).failIf (decide (s.flags<0)||decide (15<s.flags)) 100:=⟨_,rfl⟩
 have HP1:=Lib.hid hp1
 go_upto_if 25 with fail
 go_cut [] (fun wx=>ChkAt B pb sv s 0 v w bx p1 wx)
 case first=>
  generalize (decide (s.flags<0)||decide (15<s.flags))=bad at *
  clear hp1
  rcases (by cases bad<;>simp:bad=true∨bad=false)with hbad | hbad
  ·subst hbad
   go_wp2_with fail
   refine(HC0.out.fail 100).mono ?_
   rintro x w2 ⟨rfl,h2⟩
   have H2:=Lib.hid h2
   clear h2
   go_wp2_with fail
   go_meet
   rw [HP1.out]
   exact H2.out
  ·subst hbad
   go_wp2_with fail
   go_meet
   rw [HP1.out]
   exact HC0.out
 case rest=>
 have HC1:=Lib.hid hcut
 rename World=>w2
 clear hcut HC0
 have c4:w2.cell? ⟨w.heap.size,4,none⟩=some (.slice a4 s.funcs.length n4):=HC1.out.box Hbx.out 4 _ rfl
 obtain⟨fn,hfn⟩:∃ fn,fn=s.funcs.length:=⟨_,rfl⟩
 have Hfn:=Lib.hid hfn
 rw [← hfn]at c4 hf
 clear hfn hp1
 go_upto_block 0 with fail
 obtain⟨p2,hp2⟩:∃ p2,p2=s.funcs.foldl (fun p f=>p.func f) p1:=⟨_,rfl⟩
 have HP2:=Lib.hid hp2
 clear hp2
 go_cut [] (fun wx=>ChkAt B pb sv s 0 v w bx p2 wx)
 case first=>
  go_wp2_with fail
  go_loopw [31] (fun i wr=>∃ k:Nat,i=.int .i64 k∧k≤fn∧ChkAt B pb sv s 0 v w bx ((s.funcs.take k).foldl (fun p f=>p.func f) p1) wr) (fun i _=>fn-(intOf i).toNat)
  case atStart=>exact⟨0,rfl,Nat.zero_le _,HC1.out⟩
  case round=>
   obtain⟨k,rfl,hk,hC⟩:=hrel
   have HC:=Lib.hid hC
   clear hC c4
   by_cases hlt:k<fn
   ·have HLo:=Lib.hid (HC.out.low HM.out hB)
    obtain⟨f,hf⟩:∃ f,s.funcs[k]? =some f:=⟨_,List.getElem?_eq_getElem (by rw [← Hfn.out];exact hlt)⟩
    obtain⟨fa,fb,foff,fcap,hff,-,-,hfat⟩:=HS.out.funcs.at
    obtain rfl:=hfat.addr (by rw [← Hfn.out];omega)
    obtain⟨rfl,rfl⟩:a4=some ⟨fb,foff,none⟩∧n4=fcap:=by have:=hff.symm.trans HV4.out;simp at this;exact⟨this.1.symm,this.2.symm⟩
    obtain⟨lv,hlv,hso,g0,g1,g2,g3,g4,g5,g6,g7,g8,g9⟩:=(hfat.below HLo.out).func10 k f hf
    obtain⟨la,lc,rfl⟩:=hlv.form
    have Hso:=Lib.hid hso
    have Hnx:=Lib.hid (foldl_take_next (F:=fun(p:PlanL) (f:FuncL)=>p.func f) hf p1)
    have Hqz:Hid (((s.funcs.take k).foldl (fun p f=>p.func f) p1).sz≤5000):=Lib.hid (by
     have h1:=foldl_sz (F:=fun(p:PlanL) (f:FuncL)=>p.func f) (c:=1) func_sz (s.funcs.take k) p1
     rw [List.length_take]at h1
     have h2:min k s.funcs.length≤k:=Nat.min_le_left _ _
     have h3:p1.sz=0:=by rw [HP1.out,failIf_sz];rfl
     omega)
    obtain⟨q,hq⟩:∃ q,q=(s.funcs.take k).foldl (fun p f=>p.func f) p1:=⟨_,rfl⟩
    rw [← hq]at HC Hnx Hqz
    clear hq hf hso hlv hff
    have HFat:=Lib.hid hfat
    clear hfat
    obtain⟨c,hc⟩:∃ c,c=f.lines.length:=⟨_,rfl⟩
    have Hc:=Lib.hid hc
    rw [← hc]at g9
    clear hc
    have hk2:(k:Int)<(fn:Int):=by omega
    have HCa:=Lib.hid (HC.out.alloc #[.string ⟨f.sym.name.toArray⟩,.string ⟨f.sym.version.toArray⟩,.bool f.sym.old,.int .i64 f.sym.kind,.bool f.sym.weak,.int .i64 f.sym.vis,.bool f.sym.defined,.int .i64 f.sym.value,.int .i64 f.sym.size,.slice la c lc] 68)
    go_upto_region 6 with fail
    clear g0 g1 g2 g3 g4 g5 g6 g7 g8 g9
    generalize wr.alloc (.cells #[.string ⟨f.sym.name.toArray⟩,.string ⟨f.sym.version.toArray⟩,.bool f.sym.old,.int .i64 f.sym.kind,.bool f.sym.weak,.int .i64 f.sym.vis,.bool f.sym.defined,.int .i64 f.sym.value,.int .i64 f.sym.size,.slice la c lc] 68)=wa at *
    obtain⟨by_,hby⟩:∃ by_:List (Nat × Obj),by_=(wr.heap.size,.cells #[.string ⟨f.sym.name.toArray⟩,.string ⟨f.sym.version.toArray⟩,.bool f.sym.old,.int .i64 f.sym.kind,.bool f.sym.weak,.int .i64 f.sym.vis,.bool f.sym.defined,.int .i64 f.sym.value,.int .i64 f.sym.size,.slice la c lc] 68 (0,0)) :: bx:=⟨_,rfl⟩
    have Hby:Hid ((wr.heap.size,Obj.cells #[.string ⟨f.sym.name.toArray⟩,.string ⟨f.sym.version.toArray⟩,.bool f.sym.old,.int .i64 f.sym.kind,.bool f.sym.weak,.int .i64 f.sym.vis,.bool f.sym.defined,.int .i64 f.sym.value,.int .i64 f.sym.size,.slice la c lc] 68 (0,0))∈by_):=Lib.hid (by rw [hby];exact List.mem_cons_self ..)
    have Hsub:Hid (∀ b∈bx,b∈by_):=Lib.hid (fun b hb=>by rw [hby];exact List.mem_cons_of_mem _ hb)
    rw [← hby]at HCa
    clear hby
    have l9:wa.cell? ⟨wr.heap.size,9,none⟩=some (.slice la c lc):=HCa.out.box Hby.out 9 _ rfl
    go_cut [44] (fun v44 wx=>v44=.bool (badLen c)∧wx=wa)
    case first=>
     by_cases h1:c<1
     ·have hd:=Lib.hid (badLen_one h1)
      go_wp2
      go_meet
      exact⟨by rw [hd.out];first | done | rfl | (simp;done) | (simp;omega),rfl⟩
     ·by_cases h2:256<c
      ·have hd:=Lib.hid (show badLen c=true by rw [badLen_many h1];simp [h2])
       go_wp2
       go_meet
       exact⟨by rw [hd.out];first | done | rfl | (simp;done) | (simp;omega),rfl⟩
      ·have hd:=Lib.hid (show badLen c=false by rw [badLen_many h1];simp [h2])
       go_wp2
       go_meet
       exact⟨by rw [hd.out];first | done | rfl | (simp;done) | (simp;omega),rfl⟩
    case rest=>
    obtain⟨rfl,rfl⟩:=hcut
    rename World=>wa
    clear l9
    generalize hbad:badLen c=bad at *
    have Hbad:=Lib.hid hbad
    clear hbad
    go_upto_if 44 with fail
    go_cut [] (fun wx=>ChkAt B pb sv s 0 v w by_ (q.failIf bad 101) wx)
    case first=>
     rcases (by cases bad<;>simp:bad=true∨bad=false)with hbad | hbad
     ·subst hbad
      go_wp2_with fail
      refine(HCa.out.fail 101).mono ?_
      rintro x w3 ⟨rfl,h3⟩
      have H3:=Lib.hid h3
      clear h3
      go_wp2_with fail
      go_meet
      exact H3.out
     ·subst hbad
      go_wp2_with fail
      go_meet
      exact HCa.out
    case rest=>
    have HCb:=Lib.hid hcut
    rename World=>w3
    clear hcut HCa
    have l3:w3.cell? ⟨wr.heap.size,3,none⟩=some (.int .i64 f.sym.kind):=HCb.out.box Hby.out 3 _ rfl
    obtain⟨kb,hkb⟩:∃ kb,kb= !decide (f.sym.kind=1):=⟨_,rfl⟩
    have Hkb:=Lib.hid hkb
    have hkk:(f.sym.kind != 1)=kb:=by rw [hkb];rfl
    have hkk':(f.sym.kind==1)= !kb:=by rw [hkb,Bool.not_not];rfl
    clear hkb
    go_upto_if 50 with fail
    clear hkk hkk' l3
    go_cut [] (fun wx=>ChkAt B pb sv s 0 v w by_ ((q.failIf bad 101).failIf kb 100) wx)
    case first=>
     rcases (by cases kb<;>simp:kb=true∨kb=false)with hbad | hbad
     ·subst hbad
      go_wp2_with fail
      refine(HCb.out.fail 100).mono ?_
      rintro x w3 ⟨rfl,h3⟩
      have H3:=Lib.hid h3
      clear h3
      go_wp2_with fail
      go_meet
      exact H3.out
     ·subst hbad
      go_wp2_with fail
      go_meet
      exact HCb.out
    case rest=>
    have HCc:=Lib.hid hcut
    rename World=>w4
    clear hcut HCb
    have l0:w4.cell? ⟨wr.heap.size,0,none⟩=some (.string ⟨f.sym.name.toArray⟩):=HCc.out.box Hby.out 0 _ rfl
    have l1:w4.cell? ⟨wr.heap.size,1,none⟩=some (.string ⟨f.sym.version.toArray⟩):=HCc.out.box Hby.out 1 _ rfl
    have l2:w4.cell? ⟨wr.heap.size,2,none⟩=some (.bool f.sym.old):=HCc.out.box Hby.out 2 _ rfl
    have l3:w4.cell? ⟨wr.heap.size,3,none⟩=some (.int .i64 f.sym.kind):=HCc.out.box Hby.out 3 _ rfl
    have l4:w4.cell? ⟨wr.heap.size,4,none⟩=some (.bool f.sym.weak):=HCc.out.box Hby.out 4 _ rfl
    have l5:w4.cell? ⟨wr.heap.size,5,none⟩=some (.int .i64 f.sym.vis):=HCc.out.box Hby.out 5 _ rfl
    have l6:w4.cell? ⟨wr.heap.size,6,none⟩=some (.bool f.sym.defined):=HCc.out.box Hby.out 6 _ rfl
    have l7:w4.cell? ⟨wr.heap.size,7,none⟩=some (.int .i64 f.sym.value):=HCc.out.box Hby.out 7 _ rfl
    have l8:w4.cell? ⟨wr.heap.size,8,none⟩=some (.int .i64 f.sym.size):=HCc.out.box Hby.out 8 _ rfl
    go_wp2_with fail
    refine(HCc.out.define f.sym false 100 Hso.out (by rw [failIf_sz,failIf_sz];have:=Hqz.out;omega) hB).mono ?_
    rintro x w5 ⟨rfl,h5⟩
    have H5:=Lib.hid (h5.sub Hsub.out)
    have HF:Hid (q.func f=((q.failIf bad 101).failIf kb 100).define f.sym false 100):=Lib.hid (by rw [← Hbad.out,Hkb.out,Hc.out];rfl)
    clear h5 l0 l1 l2 l3 l4 l5 l6 l7 l8
    go_wp2
    go_roundw
    case rel=>exact⟨k+1,by go_num,by omega,by rw [Hnx.out,HF.out];exact H5.out⟩
    case measure=>simp [intOf];omega
   ·have HE:Hid (ChkAt B pb sv s 0 v w bx p2 wr):=Lib.hid (by
     have h:=HC.out
     rw [List.take_of_length_le (by have:=Hfn.out;omega)]at h
     rw [HP2.out];exact h)
    go_wp2_with fail
    go_meet
    exact HE.out
 case rest=>
 have HC2:=Lib.hid hcut
 rename World=>w3
 clear hcut HC1
 have c5:w3.cell? ⟨w.heap.size,5,none⟩=some (.slice a5 s.vars.length n5):=HC2.out.box Hbx.out 5 _ rfl
 obtain⟨vn,hvn⟩:∃ vn,vn=s.vars.length:=⟨_,rfl⟩
 have Hvn:=Lib.hid hvn
 rw [← hvn]at c5 hv
 clear hvn
 have Hp2z:Hid (p2.sz≤2000):=Lib.hid (by
  have h1:=foldl_sz (F:=fun(p:PlanL) (f:FuncL)=>p.func f) (c:=1) func_sz s.funcs p1
  have h3:p1.sz=0:=by rw [HP1.out,failIf_sz];rfl
  have h4:=Hfn.out
  rw [HP2.out];omega)
 go_upto_block 2 with fail
 obtain⟨p3,hp3⟩:∃ p3,p3=s.vars.foldl (fun p x=>p.var s.flags x) p2:=⟨_,rfl⟩
 have HP3:=Lib.hid hp3
 clear hp3
 go_cut [] (fun wx=>ChkAt B pb sv s 0 v w bx p3 wx)
 case first=>
  go_wp2_with fail
  go_loopw [61] (fun i wr=>∃ k:Nat,i=.int .i64 k∧k≤vn∧ChkAt B pb sv s 0 v w bx ((s.vars.take k).foldl (fun p x=>p.var s.flags x) p2) wr) (fun i _=>vn-(intOf i).toNat)
  case atStart=>exact⟨0,rfl,Nat.zero_le _,HC2.out⟩
  case round=>
   obtain⟨k,rfl,hk,hC⟩:=hrel
   have HC:=Lib.hid hC
   clear hC c5
   by_cases hlt:k<vn
   ·have HLo:=Lib.hid (HC.out.low HM.out hB)
    obtain⟨x,hx⟩:∃ x,s.vars[k]? =some x:=⟨_,List.getElem?_eq_getElem (by rw [← Hvn.out];exact hlt)⟩
    obtain⟨va,vb,voff,vcap,hvf,-,-,hvat⟩:=HS.out.vars.at
    obtain rfl:=hvat.addr (by rw [← Hvn.out];omega)
    obtain⟨rfl,rfl⟩:a5=some ⟨vb,voff,none⟩∧n5=vcap:=by have:=hvf.symm.trans HV5.out;simp at this;exact⟨this.1.symm,this.2.symm⟩
    obtain⟨wv,rv,hwv,hrv,hso,g0,g1,g2,g3,g4,g5,g6,g7,g8,g9,g10,g11⟩:=hvat.var12b HLo.out k x hx
    obtain⟨wa_,wc,rfl⟩:=hwv.form
    obtain⟨ra,rbk,roff,rc,hrf,hrm,hrcap,hrat⟩:=hrv.at
    subst hrf
    have Hso:=Lib.hid hso
    have hrl:x.refs.length≤2000:=by have:=refs_le hx;omega
    have hwm:=hwv.max
    have Hnx:=Lib.hid (foldl_take_next (F:=fun(p:PlanL) (x:VarL)=>p.var s.flags x) hx p2)
    have Hqz:Hid (((s.vars.take k).foldl (fun p x=>p.var s.flags x) p2).sz≤5000):=Lib.hid (by
     have h1:=foldl_sz (F:=fun(p:PlanL) (x:VarL)=>p.var s.flags x) (c:=1) (fun p x=>var_sz p s.flags x) (s.vars.take k) p2
     rw [List.length_take]at h1
     have h2:min k s.vars.length≤k:=Nat.min_le_left _ _
     have h3:=Hp2z.out
     omega)
    obtain⟨q,hq⟩:∃ q,q=(s.vars.take k).foldl (fun p x=>p.var s.flags x) p2:=⟨_,rfl⟩
    rw [← hq]at HC Hnx Hqz
    clear hq hx hso hwv hrv hvf
    have hra:=hrat.addr
    have HRat:=Lib.hid hrat
    clear hvat hrat
    obtain⟨wn,hwn⟩:∃ wn,wn=x.words.length:=⟨_,rfl⟩
    have Hwn:=Lib.hid hwn
    rw [← hwn]at g9 hwm
    obtain⟨rn,hrn⟩:∃ rn,rn=x.refs.length:=⟨_,rfl⟩
    have Hrn:=Lib.hid hrn
    rw [← hrn]at g10 hra hrm hrcap hrl
    have HBV:Hid (badVar s.flags x=(decide (wn<1)||decide (256<wn)||decide (x.sym.kind=1)||(x.copied&&(!oddB s.flags|| !decide (x.sym.kind=2)||decide (0<rn))))):=Lib.hid (by rw [hwn,hrn];rfl)
    clear hwn hrn
    have hk2:(k:Int)<(vn:Int):=by omega
    have HCa:=Lib.hid (HC.out.alloc #[.string ⟨x.sym.name.toArray⟩,.string ⟨x.sym.version.toArray⟩,.bool x.sym.old,.int .i64 x.sym.kind,.bool x.sym.weak,.int .i64 x.sym.vis,.bool x.sym.defined,.int .i64 x.sym.value,.int .i64 x.sym.size,.slice wa_ wn wc,.slice ra rn rc,.bool x.copied] 71)
    go_upto_region 15 with fail
    clear g0 g1 g2 g3 g4 g5 g6 g7 g8 g9 g10 g11
    generalize wr.alloc (.cells #[.string ⟨x.sym.name.toArray⟩,.string ⟨x.sym.version.toArray⟩,.bool x.sym.old,.int .i64 x.sym.kind,.bool x.sym.weak,.int .i64 x.sym.vis,.bool x.sym.defined,.int .i64 x.sym.value,.int .i64 x.sym.size,.slice wa_ wn wc,.slice ra rn rc,.bool x.copied] 71)=wa at *
    obtain⟨by_,hby⟩:∃ by_:List (Nat × Obj),by_=(wr.heap.size,.cells #[.string ⟨x.sym.name.toArray⟩,.string ⟨x.sym.version.toArray⟩,.bool x.sym.old,.int .i64 x.sym.kind,.bool x.sym.weak,.int .i64 x.sym.vis,.bool x.sym.defined,.int .i64 x.sym.value,.int .i64 x.sym.size,.slice wa_ wn wc,.slice ra rn rc,.bool x.copied] 71 (0,0)) :: bx:=⟨_,rfl⟩
    have Hby:Hid ((wr.heap.size,Obj.cells #[.string ⟨x.sym.name.toArray⟩,.string ⟨x.sym.version.toArray⟩,.bool x.sym.old,.int .i64 x.sym.kind,.bool x.sym.weak,.int .i64 x.sym.vis,.bool x.sym.defined,.int .i64 x.sym.value,.int .i64 x.sym.size,.slice wa_ wn wc,.slice ra rn rc,.bool x.copied] 71 (0,0))∈by_):=Lib.hid (by rw [hby];exact List.mem_cons_self ..)
    have Hsub:Hid (∀ b∈bx,b∈by_):=Lib.hid (fun b hb=>by rw [hby];exact List.mem_cons_of_mem _ hb)
    rw [← hby]at HCa
    clear hby
    have l3:wa.cell? ⟨wr.heap.size,3,none⟩=some (.int .i64 x.sym.kind):=HCa.out.box Hby.out 3 _ rfl
    have l9:wa.cell? ⟨wr.heap.size,9,none⟩=some (.slice wa_ wn wc):=HCa.out.box Hby.out 9 _ rfl
    have l10:wa.cell? ⟨wr.heap.size,10,none⟩=some (.slice ra rn rc):=HCa.out.box Hby.out 10 _ rfl
    have l11:wa.cell? ⟨wr.heap.size,11,none⟩=some (.bool x.copied):=HCa.out.box Hby.out 11 _ rfl
    have f1:wa.cell? ⟨w.heap.size,1,none⟩=some (.int .i64 s.flags):=HCa.out.box (Hsub.out _ Hbx.out) 1 _ rfl
    go_cut [102] (fun v102 wx=>v102=.bool (badVar s.flags x)∧wx=wa)
    case first=>
     have hodd:=odd_and (f:=s.flags)
     by_cases h1:wn<1
     ·have hd:=Lib.hid (show badVar s.flags x=true by rw [HBV.out];simp [h1])
      clear hodd
      go_wp2
      go_meet
      exact⟨by rw [hd.out],rfl⟩
     by_cases h2:256<wn
     ·have hd:=Lib.hid (show badVar s.flags x=true by rw [HBV.out];simp [h2])
      clear hodd
      go_wp2
      go_meet
      exact⟨by rw [hd.out];first | done | rfl | (simp;done) | (simp;omega),rfl⟩
     have e1:decide ((wn:Int)<1)=false:=by simp;omega
     have e2:decide (256<(wn:Int))=false:=by simp;omega
     by_cases h3:x.sym.kind=1
     ·have hd:=Lib.hid (show badVar s.flags x=true by rw [HBV.out];simp [h3])
      have hb3:(x.sym.kind==1)=true:=by simp [h3]
      clear h3 hodd
      go_wp2
      go_meet
      exact⟨by rw [hd.out];first | done | rfl | (simp;done) | (simp;omega),rfl⟩
     have hb3:(x.sym.kind==1)=false:=by simp [h3]
     cases hc:x.copied with
     | false=>
      have hd:=Lib.hid (show badVar s.flags x=false by rw [HBV.out];simp [h3,hc];omega)
      rw [hc]at l11
      clear h3 hc hodd
      go_wp2
      go_meet
      exact⟨by rw [hd.out];first | done | rfl | (simp;done) | (simp;omega),rfl⟩
     | true=>
      rw [hc]at l11
      cases ho:oddB s.flags with
      | false=>
       have hd:=Lib.hid (show badVar s.flags x=true by rw [HBV.out];simp [hc,ho])
       rw [ho]at hodd
       clear h3 hc ho
       go_wp2
       go_meet
       exact⟨by rw [hd.out];first | done | rfl | (simp;done) | (simp;omega),rfl⟩
      | true=>
       rw [ho]at hodd
       by_cases h4:x.sym.kind=2
       ·have hb4:(x.sym.kind != 2)=false:=by simp [h4]
        have hb4':(x.sym.kind==2)=true:=by simp [h4]
        by_cases h5:0<rn
        ·have hd:=Lib.hid (show badVar s.flags x=true by rw [HBV.out];simp [hc,h5])
         have e5:decide (0<(rn:Int))=true:=by simp;omega
         clear h3 hc ho h4
         go_wp2
         go_meet
         exact⟨by rw [hd.out];first | done | rfl | (simp;done) | (simp;omega),rfl⟩
        ·have hd:=Lib.hid (show badVar s.flags x=false by rw [HBV.out];simp [h3,hc,ho,h4,h5];omega)
         have e5:decide (0<(rn:Int))=false:=by simp;omega
         clear h3 hc ho h4
         go_wp2
         go_meet
         exact⟨by rw [hd.out];first | done | rfl | (simp;done) | (simp;omega),rfl⟩
       ·have hd:=Lib.hid (show badVar s.flags x=true by rw [HBV.out];simp [hc,h4])
        have hb4:(x.sym.kind != 2)=true:=by simp [h4]
        have hb4':(x.sym.kind==2)=false:=by simp [h4]
        clear h3 hc ho h4
        go_wp2
        go_meet
        exact⟨by rw [hd.out];first | done | rfl | (simp;done) | (simp;omega),rfl⟩
    case rest=>
    obtain⟨rfl,rfl⟩:=hcut
    rename World=>wa
    clear l3 l9 l10 l11 f1
    generalize hbad:badVar s.flags x=bad at *
    have Hbad:=Lib.hid hbad
    clear hbad
    go_upto_if 102 with fail
    go_cut [] (fun wx=>ChkAt B pb sv s 0 v w by_ (q.failIf bad 102) wx)
    case first=>
     rcases (by cases bad<;>simp:bad=true∨bad=false)with hbad | hbad
     ·subst hbad
      go_wp2_with fail
      refine(HCa.out.fail 102).mono ?_
      rintro y w3 ⟨rfl,h3⟩
      have H3:=Lib.hid h3
      clear h3
      go_wp2_with fail
      go_meet
      exact H3.out
     ·subst hbad
      go_wp2_with fail
      go_meet
      exact HCa.out
    case rest=>
    have HCb:=Lib.hid hcut
    rename World=>w4
    clear hcut HCa
    have l0:w4.cell? ⟨wr.heap.size,0,none⟩=some (.string ⟨x.sym.name.toArray⟩):=HCb.out.box Hby.out 0 _ rfl
    have l1:w4.cell? ⟨wr.heap.size,1,none⟩=some (.string ⟨x.sym.version.toArray⟩):=HCb.out.box Hby.out 1 _ rfl
    have l2:w4.cell? ⟨wr.heap.size,2,none⟩=some (.bool x.sym.old):=HCb.out.box Hby.out 2 _ rfl
    have l3:w4.cell? ⟨wr.heap.size,3,none⟩=some (.int .i64 x.sym.kind):=HCb.out.box Hby.out 3 _ rfl
    have l4:w4.cell? ⟨wr.heap.size,4,none⟩=some (.bool x.sym.weak):=HCb.out.box Hby.out 4 _ rfl
    have l5:w4.cell? ⟨wr.heap.size,5,none⟩=some (.int .i64 x.sym.vis):=HCb.out.box Hby.out 5 _ rfl
    have l6:w4.cell? ⟨wr.heap.size,6,none⟩=some (.bool x.sym.defined):=HCb.out.box Hby.out 6 _ rfl
    have l7:w4.cell? ⟨wr.heap.size,7,none⟩=some (.int .i64 x.sym.value):=HCb.out.box Hby.out 7 _ rfl
    have l8:w4.cell? ⟨wr.heap.size,8,none⟩=some (.int .i64 x.sym.size):=HCb.out.box Hby.out 8 _ rfl
    go_wp2_with fail
    refine(HCb.out.define x.sym (x.sym.kind==3) 100 Hso.out (by rw [failIf_sz];have:=Hqz.out;omega) hB).mono ?_
    rintro y w5 ⟨rfl,h5⟩
    have H5:=Lib.hid h5
    have HF:Hid (q.var s.flags x=refsFrom x (-1) x.refs ((q.failIf bad 102).define x.sym (x.sym.kind==3) 100)):=Lib.hid (by rw [var_eq,Hbad.out])
    obtain⟨q2,hq2⟩:∃ q2,q2=(q.failIf bad 102).define x.sym (x.sym.kind==3) 100:=⟨_,rfl⟩
    rw [← hq2]at H5 HF
    clear h5 l0 l1 l2 l3 l4 l5 l6 l7 l8 hq2 HCb
    clear HC HLo
    generalize wr.heap.size=xb at *
    have l10:w5.cell? ⟨xb,10,none⟩=some (.slice ra rn rc):=H5.out.box Hby.out 10 _ rfl
    go_wp2_with fail
    clear l10
    go_loopw [7,116] (fun z i w6=>∃ j:Nat,i=.int .i64 j∧j≤rn∧z=.int .i64 (lastOf (-1) (x.refs.take j))∧ChkAt B pb sv s 0 v w by_ (refsFrom x (-1) (x.refs.take j) q2) w6) (fun _ i _=>rn-(intOf i).toNat)
    case atStart=>exact⟨0,rfl,Nat.zero_le _,rfl,H5.out⟩
    case round=>
     obtain⟨j,rfl,hj,rfl,hC6⟩:=hrel
     have HC6:=Lib.hid hC6
     have HLo6:=Lib.hid (hC6.low HM.out hB)
     have hz6:=hC6.size
     clear hC6
     by_cases hjt:j<rn
     ·obtain rfl:=hra (by omega)
      obtain⟨y,hy⟩:∃ y,x.refs[j]? =some y:=⟨_,List.getElem?_eq_getElem (by rw [← Hrn.out];exact hjt)⟩
      obtain⟨⟨hyw,-,-,-⟩,r0,r1,r2,r3⟩:=(HRat.out.below HLo6.out).ref4 j y hy
      have hyw1:=hyw.1
      have hyw2:=hyw.2
      have hj2:(j:Int)<(rn:Int):=by omega
      have Htk:Hid (x.refs.take (j+1)=x.refs.take j++[y]):=Lib.hid (by rw [List.take_add_one,hy];rfl)
      have HLst:Hid (lastOf (-1) (x.refs.take (j+1))=y.word):=Lib.hid (by rw [Htk.out,lastOf_snoc])
      have HStp:Hid (refsFrom x (-1) (x.refs.take (j+1)) q2=(refsFrom x (-1) (x.refs.take j) q2).failIf (badRef x (lastOf (-1) (x.refs.take j)) y) 102):=Lib.hid (by rw [Htk.out,refsFrom_snoc])
      obtain⟨q6,hq6⟩:∃ q6,q6=refsFrom x (-1) (x.refs.take j) q2:=⟨_,rfl⟩
      rw [← hq6]at HC6 HStp
      obtain⟨lst,hlst⟩:∃ lst,lst=lastOf (-1) (x.refs.take j):=⟨_,rfl⟩
      rw [← hlst]at HStp ⊢
      have HBR:Hid (badRef x lst y=(decide (y.word≤lst)||decide ((wn:Int)≤y.word)|| !decide (x.sym.kind=2))):=Lib.hid (by rw [Hwn.out];rfl)
      clear hq6 hlst hy hyw
      have HCr:=Lib.hid (HC6.out.alloc #[.int .i64 y.word,.string ⟨y.name.toArray⟩,.string ⟨y.ver.toArray⟩,.int .i64 y.add] 107)
      go_upto_region 22 with fail
      clear r0 r1 r2 r3
      generalize hws:wr.heap.size=rb at *
      clear hws
      generalize wr.alloc (.cells #[.int .i64 y.word,.string ⟨y.name.toArray⟩,.string ⟨y.ver.toArray⟩,.int .i64 y.add] 107)=wb at *
      obtain⟨bz,hbz⟩:∃ bz:List (Nat × Obj),bz=(rb,.cells #[.int .i64 y.word,.string ⟨y.name.toArray⟩,.string ⟨y.ver.toArray⟩,.int .i64 y.add] 107 (0,0)) :: by_:=⟨_,rfl⟩
      have Hbz:Hid ((rb,Obj.cells #[.int .i64 y.word,.string ⟨y.name.toArray⟩,.string ⟨y.ver.toArray⟩,.int .i64 y.add] 107 (0,0))∈bz):=Lib.hid (by rw [hbz];exact List.mem_cons_self ..)
      have Hsub2:Hid (∀ b∈by_,b∈bz):=Lib.hid (fun b hb=>by rw [hbz];exact List.mem_cons_of_mem _ hb)
      rw [← hbz]at HCr
      clear hbz
      have k0:wb.cell? ⟨rb,0,none⟩=some (.int .i64 y.word):=HCr.out.box Hbz.out 0 _ rfl
      have k3:wb.cell? ⟨xb,3,none⟩=some (.int .i64 x.sym.kind):=HCr.out.box (Hsub2.out _ Hby.out) 3 _ rfl
      have k9:wb.cell? ⟨xb,9,none⟩=some (.slice wa_ wn wc):=HCr.out.box (Hsub2.out _ Hby.out) 9 _ rfl
      go_cut [137] (fun v137 wx=>v137=.bool (badRef x lst y)∧wx=wb)
      case first=>
       by_cases h1:y.word≤lst
       ·have hd:=Lib.hid (show badRef x lst y=true by rw [HBR.out];simp [h1])
        go_wp2
        go_meet
        exact⟨by rw [hd.out];first | done | rfl | (simp;done) | (simp;omega),rfl⟩
       by_cases h2:(wn:Int)≤y.word
       ·have hd:=Lib.hid (show badRef x lst y=true by rw [HBR.out];simp [h2])
        go_wp2
        go_meet
        exact⟨by rw [hd.out];first | done | rfl | (simp;done) | (simp;omega),rfl⟩
       by_cases h3:x.sym.kind=2
       ·have hd:=Lib.hid (show badRef x lst y=false by rw [HBR.out];simp [h1,h2,h3])
        have hb3:(x.sym.kind != 2)=false:=by simp [h3]
        clear h3
        go_wp2
        go_meet
        exact⟨by rw [hd.out];first | done | rfl | (simp;done) | (simp;omega),rfl⟩
       ·have hd:=Lib.hid (show badRef x lst y=true by rw [HBR.out];simp [h3])
        have hb3:(x.sym.kind != 2)=true:=by simp [h3]
        clear h3
        go_wp2
        go_meet
        exact⟨by rw [hd.out];first | done | rfl | (simp;done) | (simp;omega),rfl⟩
      case rest=>
      obtain⟨rfl,rfl⟩:=hcut
      rename World=>wb
      clear k0 k3 k9
      generalize badRef x lst y=bad2 at *
      go_upto_if 137 with fail
      go_cut [] (fun wx=>ChkAt B pb sv s 0 v w bz (q6.failIf bad2 102) wx)
      case first=>
       rcases (by cases bad2<;>simp:bad2=true∨bad2=false)with hbad | hbad
       ·subst hbad
        go_wp2_with fail
        refine(HCr.out.fail 102).mono ?_
        rintro y w3 ⟨rfl,h3⟩
        have H3:=Lib.hid h3
        clear h3
        go_wp2_with fail
        go_meet
        exact H3.out
       ·subst hbad
        go_wp2_with fail
        go_meet
        exact HCr.out
      case rest=>
      have HCz:=Lib.hid hcut
      rename World=>wz
      clear hcut HCr
      have k0:wz.cell? ⟨rb,0,none⟩=some (.int .i64 y.word):=HCz.out.box Hbz.out 0 _ rfl
      have HCy:=Lib.hid (HCz.out.sub Hsub2.out)
      go_wp2
      go_roundw
      case rel=>exact⟨j+1,by go_num,by omega,by rw [HLst.out],by rw [HStp.out];exact HCy.out⟩
      case measure=>simp [intOf];omega
     ·have HE:Hid (ChkAt B pb sv s 0 v w bx (q.var s.flags x) wr):=Lib.hid (by
       have h:=HC6.out
       rw [List.take_of_length_le (by have:=Hrn.out;omega)]at h
       rw [HF.out];exact h.sub Hsub.out)
      go_wp2
      go_roundw
      case rel=>exact⟨k+1,by go_num,by omega,by rw [Hnx.out];exact HE.out⟩
      case measure=>simp [intOf];omega
   ·have HE:Hid (ChkAt B pb sv s 0 v w bx p3 wr):=Lib.hid (by
     have h:=HC.out
     rw [List.take_of_length_le (by have:=Hvn.out;omega)]at h
     rw [HP3.out];exact h)
    go_wp2_with fail
    go_meet
    exact HE.out
 case rest=>
 have HC3:=Lib.hid hcut
 rename World=>w4
 clear hcut HC2 c5
 obtain⟨sa,sc,c9⟩:=HC3.out.c9
 obtain⟨c10,f10⟩:=HC3.out.c10
 obtain⟨own,hown⟩:∃ own,own=p3.syms.length:=⟨_,rfl⟩
 rw [← hown]at c9
 have HC4:=Lib.hid (HC3.out.setOwn (own:Int))
 have Hp3z:Hid (p3.sz≤4000):=Lib.hid (by
  have h1:=foldl_sz (F:=fun(p:PlanL) (x:VarL)=>p.var s.flags x) (c:=1) (fun p x=>var_sz p s.flags x) s.vars p2
  have h2:=Hp2z.out
  have h3:=Hvn.out
  rw [HP3.out];omega)
 clear hown
 have HM':Hid (∃ o,PlanM B pb w sv s o v ⟨[],[],[],0⟩):=Lib.hid ⟨0,HM.out⟩
 go_wp2_with fail
 refine(HC4.out.needs HM'.out HS.out (by have:=Hp3z.out;omega) hB).mono ?_
 rintro y w5 ⟨rfl,h5⟩
 have HC5:=Lib.hid h5
 have Hp4z:Hid ((p3.needs s).sz≤22000):=Lib.hid (by
  have h1:=foldl_sz line_sz s.lines p3
  have h2:=foldl_sz (called_sz s.weak) s.lines (s.lines.foldl (fun p l=>p.line l) p3)
  have h3:=foldl_sz (addressed_sz s.weak) s.lines (s.lines.foldl (fun p l=>p.called s.weak l) (s.lines.foldl (fun p l=>p.line l) p3))
  have h4:=Hp3z.out
  unfold PlanL.needs;omega)
 clear h5 HC4 HC3 c9 c10 f10
 have HQE:Hid (checkL s=(s.vars.flatMap (·.refs)).foldl (fun p (r:RefL)=>(p.asked s.weak r.name r.ver 102 [2,1]).1) (p3.needs s)):=Lib.hid (by
  rw [checkL_eq,refs_flat,HP3.out]
  unfold check2 check1
  rw [HP2.out,HP1.out])
 generalize p3.needs s=p4 at *
 have c5:w5.cell? ⟨w.heap.size,5,none⟩=some (.slice a5 vn n5):=by rw [Hvn.out];exact HC5.out.box Hbx.out 5 _ rfl
 go_wp2_with fail
 go_loopw [157] (fun i wr=>∃ k:Nat,i=.int .i64 k∧k≤vn∧ChkAt B pb sv s own v w bx (((s.vars.take k).flatMap (·.refs)).foldl (fun p (r:RefL)=>(p.asked s.weak r.name r.ver 102 [2,1]).1) p4) wr) (fun i _=>vn-(intOf i).toNat)
 case atStart=>exact⟨0,rfl,Nat.zero_le _,by simpa using HC5.out⟩
 case round=>
  obtain⟨k,rfl,hk,hC⟩:=hrel
  have HC:=Lib.hid hC
  clear hC c5
  by_cases hlt:k<vn
  ·have HLo:=Lib.hid (HC.out.low HM.out hB)
   obtain⟨x,hx⟩:∃ x,s.vars[k]? =some x:=⟨_,List.getElem?_eq_getElem (by rw [← Hvn.out];exact hlt)⟩
   obtain⟨va,vb,voff,vcap,hvf,-,-,hvat⟩:=HS.out.vars.at
   obtain rfl:=hvat.addr (by rw [← Hvn.out];omega)
   obtain⟨rfl,rfl⟩:a5=some ⟨vb,voff,none⟩∧n5=vcap:=by have:=hvf.symm.trans HV5.out;simp at this;exact⟨this.1.symm,this.2.symm⟩
   obtain⟨wv,rv,hwv,hrv,hso,g0,g1,g2,g3,g4,g5,g6,g7,g8,g9,g10,g11⟩:=hvat.var12b HLo.out k x hx
   obtain⟨wa_,wc,rfl⟩:=hwv.form
   obtain⟨ra,rbk,roff,rc,hrf,hrm,hrcap,hrat⟩:=hrv.at
   subst hrf
   have hrl:x.refs.length≤2000:=by have:=refs_le hx;omega
   have Hnx:Hid (((s.vars.take (k+1)).flatMap (·.refs)).foldl (fun p (r:RefL)=>(p.asked s.weak r.name r.ver 102 [2,1]).1) p4=x.refs.foldl (fun p (r:RefL)=>(p.asked s.weak r.name r.ver 102 [2,1]).1) (((s.vars.take k).flatMap (·.refs)).foldl (fun p (r:RefL)=>(p.asked s.weak r.name r.ver 102 [2,1]).1) p4)):=Lib.hid (by rw [take_refs hx,List.foldl_append])
   have Hqz:Hid ((((s.vars.take k).flatMap (·.refs)).foldl (fun p (r:RefL)=>(p.asked s.weak r.name r.ver 102 [2,1]).1) p4).sz≤30000):=Lib.hid (by
    have h1:=foldl_sz (F:=fun p (r:RefL)=>(p.asked s.weak r.name r.ver 102 [2,1]).1) (c:=1) (fun p r=>asked_sz _ _ _ _ _ p) ((s.vars.take k).flatMap (·.refs)) p4
    have h2:=take_refs_len s.vars k
    have h3:=Hp4z.out
    omega)
   obtain⟨q,hq⟩:∃ q,q=((s.vars.take k).flatMap (·.refs)).foldl (fun p (r:RefL)=>(p.asked s.weak r.name r.ver 102 [2,1]).1) p4:=⟨_,rfl⟩
   rw [← hq]at HC Hnx Hqz
   have hra:=hrat.addr
   have HRat:=Lib.hid hrat
   clear hq hx hso hwv hrv hvf hvat hrat
   obtain⟨rn,hrn⟩:∃ rn,rn=x.refs.length:=⟨_,rfl⟩
   have Hrn:=Lib.hid hrn
   rw [← hrn]at g10 hra hrm hrcap hrl
   clear hrn
   have hk2:(k:Int)<(vn:Int):=by omega
   have HCa:=Lib.hid ((HC.out.alloc #[.string ⟨x.sym.name.toArray⟩,.string ⟨x.sym.version.toArray⟩,.bool x.sym.old,.int .i64 x.sym.kind,.bool x.sym.weak,.int .i64 x.sym.vis,.bool x.sym.defined,.int .i64 x.sym.value,.int .i64 x.sym.size,.slice wa_ x.words.length wc,.slice ra rn rc,.bool x.copied] 71).sub (bs':=bx) (fun b hb=>List.mem_cons_of_mem _ hb))
   go_wp2_with fail
   clear g0 g1 g2 g3 g4 g5 g6 g7 g8 g9 g10 g11 HLo HC
   generalize wr.alloc (.cells #[.string ⟨x.sym.name.toArray⟩,.string ⟨x.sym.version.toArray⟩,.bool x.sym.old,.int .i64 x.sym.kind,.bool x.sym.weak,.int .i64 x.sym.vis,.bool x.sym.defined,.int .i64 x.sym.value,.int .i64 x.sym.size,.slice wa_ x.words.length wc,.slice ra rn rc,.bool x.copied] 71)=wa at *
   generalize wr.heap.size=xb at *
   go_loopw [164] (fun i w6=>∃ j:Nat,i=.int .i64 j∧j≤rn∧ChkAt B pb sv s own v w bx ((x.refs.take j).foldl (fun p (r:RefL)=>(p.asked s.weak r.name r.ver 102 [2,1]).1) q) w6) (fun i _=>rn-(intOf i).toNat)
   case atStart=>exact⟨0,rfl,Nat.zero_le _,HCa.out⟩
   case round=>
    obtain⟨j,rfl,hj,hC6⟩:=hrel
    have HC6:=Lib.hid hC6
    have HLo6:=Lib.hid (hC6.low HM.out hB)
    have hz6:=hC6.size
    clear hC6
    by_cases hjt:j<rn
    ·obtain rfl:=hra (by omega)
     obtain⟨y,hy⟩:∃ y,x.refs[j]? =some y:=⟨_,List.getElem?_eq_getElem (by rw [← Hrn.out];exact hjt)⟩
     obtain⟨⟨-,-,hyn,hyv⟩,r0,r1,r2,r3⟩:=(HRat.out.below HLo6.out).ref4 j y hy
     have hj2:(j:Int)<(rn:Int):=by omega
     have Hstp:=Lib.hid (foldl_take_next (F:=fun(p:PlanL) (r:RefL)=>(p.asked s.weak r.name r.ver 102 [2,1]).1) hy q)
     have Hqz6:Hid (((x.refs.take j).foldl (fun p (r:RefL)=>(p.asked s.weak r.name r.ver 102 [2,1]).1) q).sz≤40000):=Lib.hid (by
      have h1:=foldl_sz (F:=fun p (r:RefL)=>(p.asked s.weak r.name r.ver 102 [2,1]).1) (c:=1) (fun p r=>asked_sz _ _ _ _ _ p) (x.refs.take j) q
      rw [List.length_take]at h1
      have h2:min j x.refs.length≤j:=Nat.min_le_left _ _
      have h3:=Hqz.out
      omega)
     obtain⟨q6,hq6⟩:∃ q6,q6=(x.refs.take j).foldl (fun p (r:RefL)=>(p.asked s.weak r.name r.ver 102 [2,1]).1) q:=⟨_,rfl⟩
     rw [← hq6]at HC6 Hstp Hqz6
     have HCr:=Lib.hid (HC6.out.alloc #[.int .i64 y.word,.string ⟨y.name.toArray⟩,.string ⟨y.ver.toArray⟩,.int .i64 y.add] 107)
     go_upto_region 35 with fail
     clear hq6 hy r0 r1 r2 r3
     generalize hws:wr.heap.size=rb at *
     clear hws
     generalize wr.alloc (.cells #[.int .i64 y.word,.string ⟨y.name.toArray⟩,.string ⟨y.ver.toArray⟩,.int .i64 y.add] 107)=wb at *
     have k1:wb.cell? ⟨rb,1,none⟩=some (.string ⟨y.name.toArray⟩):=HCr.out.box (List.mem_cons_self ..) 1 _ rfl
     have k2:wb.cell? ⟨rb,2,none⟩=some (.string ⟨y.ver.toArray⟩):=HCr.out.box (List.mem_cons_self ..) 2 _ rfl
     have HAsk:Hid (Calls Try.prog 42 #[.pointer (some ⟨pb,0,none⟩),.string ⟨y.name.toArray⟩,.string ⟨y.ver.toArray⟩,.int .i64 102,.slice (some ⟨wb.heap.size,0,none⟩) 2 2] (wb.alloc (.cells #[.int .i64 2,.int .i64 1] 49)) fun r w2=>∃ i:Nat,r=.returned (.int .i64 i)∧ChkAt B pb sv s own v w bx (q6.asked s.weak y.name y.ver 102 [2,1]).1 w2):=Lib.hid ((HCr.out.sub (bs':=bx) (fun b hb=>List.mem_cons_of_mem _ hb)).asked HM'.out HS.out y.name y.ver 102 2 [1] 49 hyn hyv (by decide) (by decide) (by have:=Hqz6.out;omega) hB)
     clear hyn hyv
     go_wp2_with fail
     refine HAsk.out.mono ?_
     rintro e w7 ⟨i7,rfl,h7⟩
     have H7:=Lib.hid h7
     clear h7 k1 k2 HAsk HCr
     go_wp2
     go_roundw
     case rel=>exact⟨j+1,by go_num,by omega,by rw [Hstp.out];exact H7.out⟩
     case measure=>simp [intOf];omega
    ·have HE:Hid (ChkAt B pb sv s own v w bx (x.refs.foldl (fun p (r:RefL)=>(p.asked s.weak r.name r.ver 102 [2,1]).1) q) wr):=Lib.hid (by
      have h:=HC6.out
      rwa [List.take_of_length_le (by have:=Hrn.out;omega)]at h)
     go_wp2
     go_roundw
     case rel=>exact⟨k+1,by go_num,by omega,by rw [Hnx.out];exact HE.out⟩
     case measure=>simp [intOf];omega
  ·have HE:Hid (∃ own v',PlanM B pb wr sv s own v' (checkL s)∧PStep pb v v' w wr):=Lib.hid (by
    have h:=HC.out
    rw [List.take_of_length_le (by have:=Hvn.out;omega),← HQE.out]at h
    obtain⟨v',h1,h2,-⟩:=h.ex
    exact⟨own,v',h1,h2⟩)
   go_wp2
   go_end0
   obtain⟨own',v',h1,h2⟩:=HE.out
   exact⟨own',v',rfl,h1,h2⟩
end Go.Proofs.Ytpomdoliblilfaa
