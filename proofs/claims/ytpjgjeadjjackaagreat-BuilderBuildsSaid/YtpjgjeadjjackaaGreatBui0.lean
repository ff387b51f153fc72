/- Lemmas. -/
import Derived.OrdersHeld
import Derived.Below
import Derived.Lib.Hide
import Derived.Deep.RegionHeld
import Derived.WalkKit
import Derived.OneCell
import Derived.WalkSmall
import Derived.Deep.OwnRows
import Derived.Deep.AppendLies
import Derived.Laws.AppendOwn
import Derived.Laws.IdiomStrings
import Derived.BigQuiet
import Derived.KernelRfl
import Derived.StillTail
import Derived.Laws.AppendOwnNone
import Derived.Maps.AppendAt
import Derived.Deep.QuietTactic
import Derived.Deep.RegionHeld3
import Derived.Lib.Bytealg
import Derived.Laws.Externs
import Derived.Deep.DeepCutAuto
import Derived.Deep.CutBlock
import Derived.Lib.SlBytesConst
import Derived.IntWalk
import Derived.Deep.RegionLaw
import Derived.StillTactics
import Derived.Laws.BitsAllLaws
import Derived.OwnWalk
import Derived.Maps.OwnSet
import Derived.Outline
import Derived.Laws.Rows
import Derived.Lib.AppendStr
import Derived.ProofKit
import Derived.OpenShut
import Derived.Carry
import Derived.Deep.Matrix
import Derived.Deep.Slices
import Derived.Laws.Tables
import Derived.Laws.ResultCell
import Derived.WalkSpells
import Derived.StillTailTactics
import Derived.Laws.BytesArg
namespace Go.RowKit
theorem Hid.af {p : Prop} (h : Hid p) : p := h
end Go.RowKit
namespace Go
theorem Shut.af {p : Prop} (h : Shut p) : p := h
end Go
namespace Go.Proofs.YtpjgjeadjjackaaGreat
open Go.RowKit
theorem aj {p:Prop} (h:p):Hid p:=h
theorem bV:(∀ (l:List Value) (i:Nat) (h:i<l.toArray.size),l.toArray[i]=l[i]'(by simpa using h))∧(∀ (l:List Oper) (i:Nat) (h:i<l.toArray.size),l.toArray[i]=l[i]'(by simpa using h))∧(∀ (a:Oper) (l:List Oper),(a::l)[0]=a)∧(∀ (a:Oper) (l:List Oper) (i:Nat) (h:i+1<(a::l).length),(a::l)[i+1]=l[i]'(by simpa using h))∧(∀ (a:Value) (l:List Value),(a::l)[0]=a)∧(∀ (a:Value) (l:List Value) (i:Nat) (h:i+1<(a::l).length),(a::l)[i+1]=l[i]'(by simpa using h))∧(∀ (a:Act) (n:Nat) (v:Value),Act.put a (some n) v={a with tmps:=a.tmps.setIfInBounds n v})∧(∀ (a:Act) (v:Value),Act.put a none v=a)∧(∀ (l:List Value) (i:Nat) (v:Value),l.toArray.setIfInBounds i v=(l.set i v).toArray)∧(∀ (a v:Value) (l:List Value),(a::l).set 0 v=v::l)∧(∀ (a v:Value) (l:List Value) (i:Nat),(a::l).set (i+1) v=a::l.set i v):=
 ⟨fun _ _ _=>by simp,fun _ _ _=>by simp,fun _ _=>rfl,fun _ _ _ _=>rfl,fun _ _=>rfl,fun _ _ _ _=>rfl,fun _ _ _=>rfl,fun _ _=>rfl,fun _ _ _=>by simp,fun _ _ _=>rfl,fun _ _ _ _=>rfl⟩
theorem bP:(∀ (a:Act) (n:Nat) (v:Value),Act.put a (some n) v={a with tmps:=a.tmps.setIfInBounds n v})∧(∀ (a:Act) (v:Value),Act.put a none v=a)∧(∀ (l:List Value) (i:Nat) (v:Value),l.toArray.setIfInBounds i v=(l.set i v).toArray)∧(∀ (a v:Value) (l:List Value),(a::l).set 0 v=v::l)∧(∀ (a v:Value) (l:List Value) (i:Nat),(a::l).set (i+1) v=a::l.set i v):=
 ⟨fun _ _ _=>rfl,fun _ _=>rfl,fun _ _ _=>by simp,fun _ _ _=>rfl,fun _ _ _ _=>rfl⟩
theorem ji:(∀ (a:Oper) (l:List Oper) (i:Nat),(a::l).take (i+1)=a::l.take i)∧(∀ (l:List Oper),l.take 0=[])∧(∀ (a:Oper) (l:List Oper) (i:Nat),(a::l).drop (i+1)=l.drop i)∧(∀ (l:List Oper),l.drop 0=l)∧(∀ i:Nat,([]:List Oper).take i=[])∧(∀ i:Nat,([]:List Oper).drop i=[]):=
 ⟨fun _ _ _=>rfl,fun _=>rfl,fun _ _ _=>rfl,fun _=>rfl,fun _=>by simp,fun _=>by simp⟩
theorem rz:(∀ (l:List Oper) (i:Nat) (h:i<l.toArray.size),l.toArray[i]=l[i]'(by simpa using h))∧(∀ (a:Oper) (l:List Oper),(a::l)[0]=a)∧(∀ (a:Oper) (l:List Oper) (i:Nat) (h:i+1<(a::l).length),(a::l)[i+1]=l[i]'(by simpa using h))∧(∀ (l:List Value) (i:Nat) (h:i<l.toArray.size),l.toArray[i]=l[i]'(by simpa using h))∧(∀ (a:Value) (l:List Value),(a::l)[0]=a)∧(∀ (a:Value) (l:List Value) (i:Nat) (h:i+1<(a::l).length),(a::l)[i+1]=l[i]'(by simpa using h)):=
 ⟨fun _ _ _=>by simp,fun _ _=>rfl,fun _ _ _ _=>rfl,fun _ _ _=>by simp,fun _ _=>rfl,fun _ _ _ _=>rfl⟩
abbrev ah (n:Int):Value:=.int .i64 n
abbrev ax (l:List UInt8):Value:=.string ⟨l.toArray⟩
abbrev aK:Value:=.string ⟨#[]⟩
abbrev au:Value:=.slice none 0 0
abbrev aQ (b:Nat):Value:=.pointer (some ⟨b,0,none⟩)
abbrev ak (b i:Nat):Addr:=⟨b,i,none⟩
abbrev aB (l:Array Value) (t:TypeId):Obj:=.cells l t (0,0)
theorem wP {p:Prop} (h:p:=by omega):p:=h
theorem TA {p:Prop} (h:p:=by kernel_rfl):p:=h
theorem arH {p:Prop} (h:p:=by go_num):p:=h
theorem abD {p:Prop} (h:p:=by decide):p:=h
theorem arG {p:Prop} (h:p:=by simp):p:=h
theorem arI {p:Prop} [Decidable p]:(decide p=true)=p:=decide_eq_true_eq
theorem arN {p:Prop} [Decidable p]:(decide p=false)↔¬p:=decide_eq_false_iff_not
theorem arM {α:Type} [BEq α] [LawfulBEq α] {a b:α}:(a==b)=false↔a≠b:=beq_eq_false_iff_ne
theorem aiG {α} (a:α):∃x,x=a:=⟨a,rfl⟩
instance ar0:CoeOut World Nat:=⟨fun w=>w.heap.size⟩
section
variable {P:Program} {ops:Array Oper} {Q:Exit→Act→World→Prop} {md:Region.Mode} {S:World→Prop} {fuel:Nat} {listed:Array Bool} {a:Act} {w:World}
theorem cO (i:Nat) {o:Oper} (h:∀ K':Act→World→Prop,Shut (∀ a w,S w→(S w→wpAnyH P md ops Q S fuel (listed.setIfInBounds i true) a w)→K' a w)→if Region.wanted o (yielded ops a.tmps)=true then Oper.wp P o a w K' Q else K' (a.put o.dst undef) w) (hr:Region.ready md ops listed=[i]:=by kernel_rfl) (ho:ops[i]? =some o:=by exact rfl):wpAnyH P md ops Q S (fuel+1) listed a w:=
 wpAnyH_ready hr (by simp) (AllReadyH.cons ho h AllReadyH.nil)
theorem asr (h:wpAnyH P md ops Q S fuel listed a w.drew):wpAnyH P md ops Q S fuel listed a {w with drawn:=w.drawn+1}:=h
theorem arP {o:Oper} {v:Value} {R:Value→Prop} (h:R v) (h1:Region.wanted o (yielded ops a.tmps)=true:=by rfl) (h2:∀ w,S w→(execOp a.eval o).run P w=.ok (.value v) w:=by intro w hSw;(try dsimp only at hSw);go_simp;try with_reducible rfl):∃v,YieldsIf P ops S o v a∧R v:=⟨v,.inl ⟨h1,h2⟩,h⟩
theorem arS (i:Nat) {o:Oper} {v:Value} (hS:S w) (h:wpAnyH P md ops Q S fuel (listed.setIfInBounds i true) (a.put o.dst v) w) (hi:ops[i]? =some o:=by exact rfl) (hs:Region.noSelect ops=true:=by kernel_rfl) (hf:Region.free md ops listed i=true:=by kernel_rfl) (hr:(Region.ready md ops listed).contains i=true:=by kernel_rfl) (hQ:∀ c a w,Q (.panic c) (a.put o.dst v) w→Q (.panic c) a w:=by exact fun _ _ _ h=>h) (h1:Region.wanted o (yielded ops a.tmps)=true:=by rfl) (h2:∀ w,S w→(execOp a.eval o).run P w=.ok (.value v) w:=by intro w hSw;(try dsimp only at hSw);go_simp;try with_reducible rfl):wpAnyH P md ops Q S (fuel+1) listed a w:=wpAnyH_take hi hs hf hr hQ (.inl ⟨h1,h2⟩) hS h
theorem dB {o:Obj} {p:Addr} {v:Value} (h:w.cell? p=some v):(w.alloc o).cell? p=some v:=(World.cell?_alloc_lt _ _ _ (World.block_lt_of_cell? _ _ h)).trans h
theorem iq {w':World} {p:Addr} {v:Value} (b:Below w.heap.size w w') (h:w.cell? p=some v):w'.cell? p=some v:=(b.cell (p:=p) (World.block_lt_of_cell? _ _ h)).trans h
theorem aL {b i:Nat} {cs:Array Value} {t:TypeId} {f:Nat×Nat} {v:Value} (h:w.heap[b]? =some (.cells cs t f)) (e:cs[i]? =some v):w.cell? ⟨b,i,none⟩=some v:=by rw [Lib.cell_of_heap h];exact e
end
end Go.Proofs.YtpjgjeadjjackaaGreat
