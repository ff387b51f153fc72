/- Lemmas. -/
import Derived.Test.YtfchpchabdhcgaaGreatDec1
import Derived.Test.YtfchpchabdhcgaaGreatChecked
import Derived.WalkKit
import Derived.Lib.Hide
import Derived.OneCell
import Derived.Below
import Derived.WalkSmall
import Derived.Deep.OwnRows
import Derived.Deep.AppendLies
import Derived.Laws.AppendOwn
set_option linter.unusedVariables false
set_option linter.unusedSimpArgs false
set_option maxHeartbeats 64000000
set_option maxRecDepth 100000
namespace Go.Proofs.YtfchpchabdhcgaaGreat
open Go.RowKit
theorem size_mk (l:List UInt8):ByteArray.size ⟨l.toArray⟩=l.length:=by simp [ByteArray.size]
def Keeps (S:Nat→Prop) (w w':World):Prop:=∀ b,S b→w'.heap[b]? =w.heap[b]?
theorem Keeps.of_below {B:Nat} {w w':World} (h:Below B w w'):Keeps (·<B) w w':=fun b hb=>h.block b hb
structure Kind (α:Type) where
 k:Nat
 R:(Nat→Prop)→World→α→List Value→Prop
 len:∀ {S w x r},R S w x r→r.length=k
 keeps:∀ {S w w' x r},R S w x r→Keeps S w w'→R S w' x r
 imp:∀ {S S':Nat→Prop} {w x r},R S w x r→(∀ b,S b→S' b)→R S' w x r
def LB {α:Type} (K:Kind α) (S:Nat→Prop) (w:World) (v:Value) (l:List α):Prop:=
 ∃ (a:Option Addr) (b off cap:Nat),v=.slice a l.length cap∧l.length≤9223372036854775807∧(0<l.length→a=some ⟨b,off,none⟩)∧(l.length≤cap∧(a=none→cap=0))∧(0<l.length→S b)∧
  ∀ i x,l[i]? =some x→∃ row,K.R S w x row∧∀ j u,row[j]? =some u→w.cell? ⟨b,off+i*K.k+j,none⟩=some u
theorem LB.keeps {α:Type} {K:Kind α} {S:Nat→Prop} {w w':World} {v:Value} {l:List α} (h:LB K S w v l) (hk:Keeps S w w'):LB K S w' v l:=by
 obtain⟨a,b,off,cap,hv,hm,ha,hcap,hS,hc⟩:=h
 refine⟨a,b,off,cap,hv,hm,ha,hcap,hS,fun i x hx=> ?_⟩
 obtain⟨row,h1,h2⟩:=hc i x hx
 have hi:i<l.length:=(List.getElem?_eq_some_iff.1 hx).1
 exact⟨row,K.keeps h1 hk,fun j u hu=>by rw [World.cell?_of_block (a:=⟨b,off+i*K.k+j,none⟩) (hk b (hS (by omega)))];exact h2 j u hu⟩
theorem LB.imp {α:Type} {K:Kind α} {S S':Nat→Prop} {w:World} {v:Value} {l:List α} (h:LB K S w v l) (hi:∀ b,S b→S' b):LB K S' w v l:=by
 obtain⟨a,b,off,cap,hv,hm,ha,hcap,hS,hc⟩:=h
 refine⟨a,b,off,cap,hv,hm,ha,hcap,fun h0=>hi b (hS h0),fun i x hx=> ?_⟩
 obtain⟨row,h1,h2⟩:=hc i x hx
 exact⟨row,K.imp h1 hi,h2⟩
theorem LB.nil {α:Type} (K:Kind α) (S:Nat→Prop) (w:World):LB K S w (.slice none 0 0) []:=
 ⟨none,0,0,0,rfl,by simp,fun h=>absurd h (by simp),by simp,fun h=>absurd h (by simp),fun i x hx=>by simp at hx⟩
theorem LB.form {α:Type} {K:Kind α} {S:Nat→Prop} {w:World} {v:Value} {l:List α} (h:LB K S w v l):∃ a c,v=.slice a l.length c:=by
 obtain⟨a,b,off,cap,hv,_⟩:=h
 exact⟨a,cap,hv⟩
theorem LB.max {α:Type} {K:Kind α} {S:Nat→Prop} {w:World} {v:Value} {l:List α} (h:LB K S w v l):l.length≤9223372036854775807:=by
 obtain⟨_,_,_,_,_,hm,_⟩:=h
 exact hm
theorem LB.below {α:Type} {K:Kind α} {B:Nat} {w w':World} {v:Value} {l:List α} (h:LB K (·<B) w v l) (hb:Below B w w'):LB K (·<B) w' v l:=h.keeps (.of_below hb)
theorem LB.mono {α:Type} {K:Kind α} {B B':Nat} {w:World} {v:Value} {l:List α} (h:LB K (·<B) w v l) (hB:B≤B'):LB K (·<B') w v l:=h.imp fun _ hb=>Nat.lt_of_lt_of_le hb hB
structure LAt {α:Type} (K:Kind α) (S:Nat→Prop) (w:World) (l:List α) (a:Option Addr) (b off:Nat):Prop where
 addr:0<l.length→a=some ⟨b,off,none⟩
 inS:0<l.length→S b
 row:∀ i x,l[i]? =some x→∃ row,K.R S w x row∧∀ j u,row[j]? =some u→w.cell? ⟨b,off+i*K.k+j,none⟩=some u
theorem LB.at {α:Type} {K:Kind α} {S:Nat→Prop} {w:World} {v:Value} {l:List α} (h:LB K S w v l):∃ a b off cap,v=.slice a l.length cap∧l.length≤9223372036854775807∧l.length≤cap∧LAt K S w l a b off:=by
 obtain⟨a,b,off,cap,hv,hm,ha,hcap,hS,hc⟩:=h
 exact⟨a,b,off,cap,hv,hm,hcap.1,⟨ha,hS,hc⟩⟩
theorem LAt.keeps {α:Type} {K:Kind α} {S:Nat→Prop} {w w':World} {l:List α} {a:Option Addr} {b off:Nat} (h:LAt K S w l a b off) (hk:Keeps S w w'):LAt K S w' l a b off:=
 ⟨h.addr,h.inS,fun i x hx=>by
  obtain⟨row,h1,h2⟩:=h.row i x hx
  have hi:i<l.length:=(List.getElem?_eq_some_iff.1 hx).1
  exact⟨row,K.keeps h1 hk,fun j u hu=>by rw [World.cell?_of_block (a:=⟨b,off+i*K.k+j,none⟩) (hk b (h.inS (by omega)))];exact h2 j u hu⟩⟩
theorem LAt.below {α:Type} {K:Kind α} {B:Nat} {w w':World} {l:List α} {a:Option Addr} {b off:Nat} (h:LAt K (·<B) w l a b off) (hb:Below B w w'):LAt K (·<B) w' l a b off:=h.keeps (.of_below hb)
def kInt:Kind Int:={k:=1,R:=fun _ _ x r=>r=[.int .i64 x],len:=fun h=>by rw [h];rfl,keeps:=fun h _=>h,imp:=fun h _=>h }
def kByte:Kind UInt8:={k:=1,R:=fun _ _ x r=>r=[.int .u8 x.toNat],len:=fun h=>by rw [h];rfl,keeps:=fun h _=>h,imp:=fun h _=>h }
def kStr:Kind (List UInt8):={k:=1,R:=fun _ _ x r=>r=[.string ⟨x.toArray⟩]∧x.length≤9223372036854775807,len:=fun h=>by rw [h.1];rfl,keeps:=fun h _=>h,imp:=fun h _=>h }
def kWord:Kind Int:={k:=1,R:=fun _ _ x r=>r=[.int .u64 x],len:=fun h=>by rw [h];rfl,keeps:=fun h _=>h,imp:=fun h _=>h }
def kHash:Kind Int:={k:=1,R:=fun _ _ x r=>r=[.int .u32 x],len:=fun h=>by rw [h];rfl,keeps:=fun h _=>h,imp:=fun h _=>h }
def kInts:Kind (List Int):={k:=1,R:=fun S w x r=>∃ c,r=[c]∧LB kInt S w c x,len:=fun⟨_,h,_⟩=>by rw [h];rfl,keeps:=fun⟨c,h,h'⟩ hk=>⟨c,h,h'.keeps hk⟩,imp:=fun⟨c,h,h'⟩ hi=>⟨c,h,h'.imp hi⟩}
def kSeg:Kind SegL:={k:=4,R:=fun S w x r=>∃ c,r=[.int .i64 x.at_,.int .i64 x.size,c,.int .i64 x.perm]∧LB kByte S w c x.bytes,len:=fun⟨_,h,_⟩=>by rw [h];rfl,keeps:=fun⟨c,h,h'⟩ hk=>⟨c,h,h'.keeps hk⟩,imp:=fun⟨c,h,h'⟩ hi=>⟨c,h,h'.imp hi⟩}
def kNeed:Kind NeedL:={k:=2,R:=fun S w x r=>∃ c,r=[.string ⟨x.name.toArray⟩,c]∧LB kStr S w c x.versions∧x.name.length≤9223372036854775807,len:=fun⟨_,h,_⟩=>by rw [h];rfl,keeps:=fun⟨c,h,h',h3⟩ hk=>⟨c,h,h'.keeps hk,h3⟩,imp:=fun⟨c,h,h',h3⟩ hi=>⟨c,h,h'.imp hi,h3⟩}
def symCells (x:SymL):List Value:=[.string ⟨x.name.toArray⟩,.string ⟨x.version.toArray⟩,.bool x.old,.int .i64 x.kind,.bool x.weak,.int .i64 x.vis,.bool x.defined,.int .i64 x.value,.int .i64 x.size]
structure SymOk (x:SymL):Prop where
 name:x.name.length≤9223372036854775807
 version:x.version.length≤9223372036854775807
 kind: -9223372036854775808≤x.kind∧x.kind≤9223372036854775807
 vis: -9223372036854775808≤x.vis∧x.vis≤9223372036854775807
 value: -9223372036854775808≤x.value∧x.value≤9223372036854775807
 size: -9223372036854775808≤x.size∧x.size≤9223372036854775807
def kSym:Kind SymL:={k:=9,R:=fun _ _ x r=>r=symCells x∧SymOk x,len:=fun h=>by rw [h.1];rfl,keeps:=fun h _=>h,imp:=fun h _=>h }
def relCells (x:RelL):List Value:=[.int .i64 x.at_,.int .i64 x.kind,.int .i64 x.sym,.int .i64 x.add]
def kRel:Kind RelL:={k:=4,R:=fun _ _ x r=>r=relCells x,len:=fun h=>by rw [h];rfl,keeps:=fun h _=>h,imp:=fun h _=>h }
def slotCells (x:SlotL):List Value:=[.int .i64 x.at_,.int .i64 x.sym,.int .i64 x.stub]
def kSlot:Kind SlotL:={k:=3,R:=fun _ _ x r=>r=slotCells x,len:=fun h=>by rw [h];rfl,keeps:=fun h _=>h,imp:=fun h _=>h }
section
variable {S : Nat → Prop} {w : World} {a : Option Addr} {b off : Nat}
theorem LAt.int1 {l:List Int} (h:LAt kInt S w l a b off) (i:Nat) (x:Int) (hx:l[i]? =some x):w.cell? ⟨b,off+i,none⟩=some (.int .i64 x):=by
 obtain⟨row,h1,h2⟩:=h.row i x hx
 have:=h2 0 (.int .i64 x) (by rw [h1];rfl)
 simpa [kInt] using this
theorem LAt.word1 {l:List Int} (h:LAt kWord S w l a b off) (i:Nat) (x:Int) (hx:l[i]? =some x):w.cell? ⟨b,off+i,none⟩=some (.int .u64 x):=by
 obtain⟨row,h1,h2⟩:=h.row i x hx
 have:=h2 0 (.int .u64 x) (by rw [h1];rfl)
 simpa [kWord] using this
theorem LAt.byte1 {l:List UInt8} (h:LAt kByte S w l a b off) (i:Nat) (x:UInt8) (hx:l[i]? =some x):w.cell? ⟨b,off+i,none⟩=some (.int .u8 x.toNat):=by
 obtain⟨row,h1,h2⟩:=h.row i x hx
 have:=h2 0 (.int .u8 x.toNat) (by rw [h1];rfl)
 simpa [kByte] using this
theorem LAt.str1 {l:List (List UInt8)} (h:LAt kStr S w l a b off) (i:Nat) (x:List UInt8) (hx:l[i]? =some x):w.cell? ⟨b,off+i,none⟩=some (.string ⟨x.toArray⟩)∧x.length≤9223372036854775807:=by
 obtain⟨row,⟨h1,h3⟩,h2⟩:=h.row i x hx
 have:=h2 0 (.string ⟨x.toArray⟩) (by rw [h1];rfl)
 exact⟨by simpa [kStr] using this,h3⟩
theorem LAt.ints1 {l:List (List Int)} (h:LAt kInts S w l a b off) (i:Nat) (x:List Int) (hx:l[i]? =some x):∃ c,w.cell? ⟨b,off+i,none⟩=some c∧LB kInt S w c x:=by
 obtain⟨row,⟨c,h1,h1'⟩,h2⟩:=h.row i x hx
 have:=h2 0 c (by rw [h1];rfl)
 exact⟨c,by simpa [kInts] using this,h1'⟩
theorem LAt.seg4 {l:List SegL} (h:LAt kSeg S w l a b off) (i:Nat) (x:SegL) (hx:l[i]? =some x):∃ c,w.cell? ⟨b,off+i*4,none⟩=some (.int .i64 x.at_)∧w.cell? ⟨b,off+i*4+1,none⟩=some (.int .i64 x.size)∧
  w.cell? ⟨b,off+i*4+2,none⟩=some c∧w.cell? ⟨b,off+i*4+3,none⟩=some (.int .i64 x.perm)∧LB kByte S w c x.bytes:=by
 obtain⟨row,⟨c,h1,h1'⟩,h2⟩:=h.row i x hx
 subst h1
 exact⟨c,h2 0 _ rfl,h2 1 _ rfl,h2 2 _ rfl,h2 3 _ rfl,h1'⟩
theorem LAt.need2 {l:List NeedL} (h:LAt kNeed S w l a b off) (i:Nat) (x:NeedL) (hx:l[i]? =some x):∃ c,w.cell? ⟨b,off+i*2,none⟩=some (.string ⟨x.name.toArray⟩)∧w.cell? ⟨b,off+i*2+1,none⟩=some c∧LB kStr S w c x.versions∧x.name.length≤9223372036854775807:=by
 obtain⟨row,⟨c,h1,h1',h3⟩,h2⟩:=h.row i x hx
 subst h1
 exact⟨c,h2 0 _ rfl,h2 1 _ rfl,h1',h3⟩
theorem LAt.sym9 {l:List SymL} (h:LAt kSym S w l a b off) (i:Nat) (x:SymL) (hx:l[i]? =some x):SymOk x∧w.cell? ⟨b,off+i*9,none⟩=some (.string ⟨x.name.toArray⟩)∧w.cell? ⟨b,off+i*9+1,none⟩=some (.string ⟨x.version.toArray⟩)∧
  w.cell? ⟨b,off+i*9+2,none⟩=some (.bool x.old)∧w.cell? ⟨b,off+i*9+3,none⟩=some (.int .i64 x.kind)∧w.cell? ⟨b,off+i*9+4,none⟩=some (.bool x.weak)∧w.cell? ⟨b,off+i*9+5,none⟩=some (.int .i64 x.vis)∧
  w.cell? ⟨b,off+i*9+6,none⟩=some (.bool x.defined)∧w.cell? ⟨b,off+i*9+7,none⟩=some (.int .i64 x.value)∧w.cell? ⟨b,off+i*9+8,none⟩=some (.int .i64 x.size):=by
 obtain⟨row,⟨h1,h1'⟩,h2⟩:=h.row i x hx
 subst h1
 exact⟨h1',h2 0 _ rfl,h2 1 _ rfl,h2 2 _ rfl,h2 3 _ rfl,h2 4 _ rfl,h2 5 _ rfl,h2 6 _ rfl,h2 7 _ rfl,h2 8 _ rfl⟩
theorem LAt.rel4 {l:List RelL} (h:LAt kRel S w l a b off) (i:Nat) (x:RelL) (hx:l[i]? =some x):w.cell? ⟨b,off+i*4,none⟩=some (.int .i64 x.at_)∧w.cell? ⟨b,off+i*4+1,none⟩=some (.int .i64 x.kind)∧
  w.cell? ⟨b,off+i*4+2,none⟩=some (.int .i64 x.sym)∧w.cell? ⟨b,off+i*4+3,none⟩=some (.int .i64 x.add):=by
 obtain⟨row,h1,h2⟩:=h.row i x hx
 subst h1
 exact⟨h2 0 _ rfl,h2 1 _ rfl,h2 2 _ rfl,h2 3 _ rfl⟩
theorem LAt.slot3 {l:List SlotL} (h:LAt kSlot S w l a b off) (i:Nat) (x:SlotL) (hx:l[i]? =some x):w.cell? ⟨b,off+i*3,none⟩=some (.int .i64 x.at_)∧w.cell? ⟨b,off+i*3+1,none⟩=some (.int .i64 x.sym)∧
  w.cell? ⟨b,off+i*3+2,none⟩=some (.int .i64 x.stub):=by
 obtain⟨row,h1,h2⟩:=h.row i x hx
 subst h1
 exact⟨h2 0 _ rfl,h2 1 _ rfl,h2 2 _ rfl⟩
end
end Go.Proofs.YtfchpchabdhcgaaGreat
