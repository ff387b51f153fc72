/- Lemmas. -/
import Derived.Test.YtpomdoliblilfaaChecked
import Derived.WalkKit
import Derived.Lib.Hide
import Derived.OneCell
import Derived.Below
import Derived.WalkSmall
import Derived.Deep.OwnRows
import Derived.Deep.AppendLies
import Derived.Laws.AppendOwn
namespace Go.Proofs.Ytpomdoliblilfaa
set_option linter.unusedVariables false
set_option linter.unusedSimpArgs false
structure SegL where
  at_:Int
  size:Int
  bytes:List UInt8
  perm:Int
structure SymL where
  name:List UInt8
  version:List UInt8
  old:Bool
  kind:Int
  weak:Bool
  vis:Int
  defined:Bool
  value:Int
  size:Int
structure RelL where
  at_:Int
  kind:Int
  sym:Int
  add:Int
structure SlotL where
  at_:Int
  sym:Int
  stub:Int
structure NeedL where
  name:List UInt8
  versions:List (List UInt8)
structure ImgL where
  name:List UInt8
  flags:Int
  segs:List SegL
  needed:List NeedL
  runPath:List (List UInt8)
  syms:List SymL
  buckets:List (List Int)
  words:List Int
  shift:Int
  relocs:List RelL
  slots:List SlotL
  init:List Int
  fini:List Int
  tls:List UInt8
  tlsSize:Int
def nameN (n:Int):Bool:=(decide (97≤n)&&decide (n≤122))||(decide (65≤n)&&decide (n≤90))||(decide (48≤n)&&decide (n≤57))||(n==95)||(n==46)
def nameC (c:UInt8):Bool:=nameN c.toNat
def nameB (s:List UInt8):Bool:=s.all nameC&&decide (1≤s.length)&&decide (s.length≤64)
def sizedB (s:List UInt8):Bool:=decide (1≤s.length)&&decide (s.length≤200)
def needB (n:NeedL):Bool:=sizedB n.name&&decide (n.versions.length≤16)&&n.versions.all nameB
def headB (im:ImgL):Bool:=
  (decide (im.name=[])||nameB im.name)&&decide (0≤im.flags)&&decide (im.flags<16)&&decide (im.needed.length≤16)&&decide (im.runPath.length≤16)&&im.needed.all needB&&im.runPath.all sizedB
def upL (n:Int):Int:=(n+63)/64*64
def segB (s:SegL):Bool:=
  decide (0≤s.at_)&&decide (s.at_≤65536)&&decide (s.at_%64=0)&&decide (1≤s.size)&&decide (s.at_+s.size≤65536)&&decide ((s.bytes.length:Int)≤s.size)&&decide (0≤s.perm)&&decide (s.perm≤7)
def segsFrom:Int→List SegL→Bool
  | _,[]=>true
  | e,s :: l=>decide (e≤s.at_)&&segB s&&segsFrom (upL (s.at_+s.size)) l
def segsB (l:List SegL):Bool:=decide (1≤l.length)&&decide (l.length≤8)&&segsFrom 0 l
def permB (p q:Int):Bool:=(p.toNat &&& q.toNat)==q.toNat
def holdsB (l:List SegL) (at_ n p:Int):Bool:=l.any fun s=>decide (s.at_≤at_)&&decide (n≤s.size)&&decide (at_-s.at_≤s.size-n)&&permB s.perm p
def symRightB (s:SymL):Bool:=
  nameB s.name&&(decide (s.version=[])||nameB s.version)&&decide (1≤s.kind)&&decide (s.kind≤3)&&decide (0≤s.vis)&&decide (s.vis≤2)&&decide (0≤s.value)&&decide (0≤s.size)&&
  (s.defined||(!s.old&&decide (s.vis=0)&&decide (s.value=0)&&decide (s.size=0)))&& !(s.old&&decide (s.version=[]))
def clashB (s t:SymL):Bool:=s.defined&&t.defined&&decide (s.name=t.name)&&(decide (s.version=t.version)||(!s.old&& !t.old))
def symB (segs:List SegL) (tls:Int) (s:SymL):Bool:=
  symRightB s&&(!s.defined||(if s.kind=3 then decide (s.size≤tls)&&decide (s.value≤tls-s.size) else holdsB segs s.value s.size 0))
def symsFrom (segs:List SegL) (tls:Int):List SymL→List SymL→Bool
  | _,[]=>true
  | done,s :: l=>symB segs tls s&&(done.all fun t=> !clashB s t)&&symsFrom segs tls (done++[s]) l
def symsB (im:ImgL):Bool:=decide (im.syms.length≤512)&&symsFrom im.segs im.tlsSize [] im.syms
def hashL:Int→List UInt8→Int
  | h,[]=>h
  | h,c :: l=>hashL ((33*h+c.toNat)%4294967296) l
def hashB (s:List UInt8):Int:=hashL 5381 s
def seenB (s:SymL):Bool:=s.defined&&decide (s.vis≠2)
def sieveB (words:List Int) (shift:Int):Bool:=(decide (words.length=1)||decide (words.length=2)||decide (words.length=4)||decide (words.length=8)||decide (words.length=16)||decide (words.length=32)||decide (words.length=64))&&decide (1≤shift)&&decide (shift≤31)
def bitB (w:Int) (k:Nat):Bool:=(w.toNat/2 ^ k)%2==1
def lacksB (words:List Int) (shift:Int) (h:Int):Bool:=
  let w:=words.getD ((h.toNat/64)%words.length) 0
  !(bitB w (h.toNat%64)&&bitB w ((h.toNat/2 ^ shift.toNat)%64))
def homeL (name:List UInt8) (many:Nat):Nat:=(hashB name).toNat%many
def chainB (syms:List SymL) (words:List Int) (shift:Int) (many b:Nat):Int→List Int→Bool
  | _,[]=>true
  | last,i :: l=>decide (last<i)&&(match (if i<0 then none else syms[i.toNat]?)with
    | some s=>seenB s&&decide (homeL s.name many=b)&& !lacksB words shift (hashB s.name)
    | none=>false)&&chainB syms words shift many b i l
def chainsB (syms:List SymL) (words:List Int) (shift:Int) (many:Nat):Nat→List (List Int)→Bool
  | _,[]=>true
  | b,c :: l=>chainB syms words shift many b (-1) c&&chainsB syms words shift many (b+1) l
def tableB (im:ImgL):Bool:=
  decide (im.syms.length≤512)&&decide (1≤im.buckets.length)&&decide (im.buckets.length≤512)&&sieveB im.words im.shift&&chainsB im.syms im.words im.shift im.buckets.length 0 im.buckets&&
  decide ((im.buckets.map List.length).sum=(im.syms.filter seenB).length)
def symAt (im:ImgL) (i:Int):Option SymL:=if i<0 then none else im.syms[i.toNat]?
def wideL (im:ImgL) (r:RelL):Int:=
  match symAt im r.sym with
  | some s=>if r.kind=2 then s.size else 8
  | none=>8
def relocB (im:ImgL) (r:RelL):Bool:=
  if r.kind=1 then decide (r.sym= -1)&&decide (0≤r.add)&&decide (r.add≤65536)&&holdsB im.segs r.at_ 8 0
  else match symAt im r.sym with
    | none=>false
    | some s=>decide (-4294967296≤r.add)&&decide (r.add≤4294967296)&&
      (if r.kind=0∨r.kind=6 then decide (s.kind≠3)&&holdsB im.segs r.at_ 8 0
       else if r.kind=7 then decide (r.add=0)&&holdsB im.segs r.at_ 8 0
       else if r.kind=3 then decide (s.kind=3)&&decide (r.add=0)&&holdsB im.segs r.at_ 8 0
       else if r.kind=4∨r.kind=5 then decide (s.kind=3)&&holdsB im.segs r.at_ 8 0
       else if r.kind=2 then decide (s.kind=2)&&s.defined&&decide (1≤s.size)&&decide (s.value=r.at_)&&decide (im.flags%2=1)&&decide (r.add=0)&&holdsB im.segs r.at_ s.size 2
       else false)
def relocsFrom (im:ImgL):Int→List RelL→Bool
  | _,[]=>true
  | e,r :: l=>decide (e≤r.at_)&&relocB im r&&relocsFrom im (r.at_+wideL im r) l
def relocsB (im:ImgL):Bool:=decide (im.relocs.length≤512)&&relocsFrom im 0 im.relocs
def slotB (im:ImgL) (s:SlotL):Bool:=
  (match symAt im s.sym with
   | some x=>decide (x.kind=1)
   | none=>false)&&holdsB im.segs s.at_ 8 0&&holdsB im.segs s.stub 8 4&&im.relocs.all fun r=> !(decide (r.at_<s.at_+8)&&decide (s.at_<r.at_+wideL im r))
def slotsFrom (im:ImgL):Int→List SlotL→Bool
  | _,[]=>true
  | e,s :: l=>decide (e≤s.at_)&&slotB im s&&slotsFrom im (s.at_+8) l
def slotsB (im:ImgL):Bool:=decide (im.slots.length≤128)&&slotsFrom im 0 im.slots
def runB (im:ImgL) (l:List Int):Bool:=decide (l.length≤8)&&l.all fun a=>holdsB im.segs a 8 4
def tlsB (im:ImgL):Bool:=decide (0≤im.tlsSize)&&decide (im.tlsSize≤4096)&&decide ((im.tls.length:Int)≤im.tlsSize)
def mayL (im:ImgL):Int:=
  if headB im=false then 90
  else if segsB im.segs=false then 91
  else if tlsB im=false then 96
  else if symsB im=false then 92
  else if tableB im=false then 93
  else if relocsB im=false then 94
  else if slotsB im=false then 95
  else if (runB im im.init&&runB im im.fini)=false then 97
  else 0
def digitsL (size:Nat) (n:Int):List UInt8:=(List.range size).map fun i=>UInt8.ofNat ((n%18446744073709551616).toNat/256 ^ i)
end Go.Proofs.Ytpomdoliblilfaa
namespace Go.Proofs.Ytpomdoliblilfaa
set_option linter.unusedVariables false
set_option linter.unusedSimpArgs false
open Go.RowKit
theorem size_mk (l:List UInt8):ByteArray.size ⟨l.toArray⟩=l.length:=by simp [ByteArray.size]
def Keeps (S:Nat→Prop) (w w':World):Prop:=∀ b,S b→w'.heap[b]? =w.heap[b]?
theorem Keeps.of_below {B:Nat} {w w':World} (h:Below B w w'):Keeps (·<B) w w':=fun b hb=>h.block b hb
structure Kind (α:Type) where
 k:Nat
 R:(Nat→Prop)→World→α→List Value→Prop
 len:∀ {S w x r},R S w x r→r.length=k
 keeps:∀ {S w w' x r},R S w x r→Keeps S w w'→R S w' x r
 imp:∀ {S S':Nat→Prop} {w x r},R S w x r→(∀ b,S b→S' b)→R S' w x r
def LB {α:Type} (K:Kind α) (S:Nat→Prop) (w:World) (v:Value) (l:List α):Prop:=
 ∃ (a:Option Addr) (b off cap:Nat),v=.slice a l.length cap∧l.length≤9223372036854775807∧(0<l.length→a=some ⟨b,off,none⟩)∧(l.length≤cap∧(a=none→cap=0))∧(0<l.length→S b)∧
  ∀ i x,l[i]? =some x→∃ row,K.R S w x row∧∀ j u,row[j]? =some u→w.cell? ⟨b,off+i*K.k+j,none⟩=some u
theorem LB.keeps {α:Type} {K:Kind α} {S:Nat→Prop} {w w':World} {v:Value} {l:List α} (h:LB K S w v l) (hk:Keeps S w w'):LB K S w' v l:=by
 obtain⟨a,b,off,cap,hv,hm,ha,hcap,hS,hc⟩:=h
 refine⟨a,b,off,cap,hv,hm,ha,hcap,hS,fun i x hx=> ?_⟩
 obtain⟨row,h1,h2⟩:=hc i x hx
 have hi:i<l.length:=(List.getElem?_eq_some_iff.1 hx).1
 exact⟨row,K.keeps h1 hk,fun j u hu=>by rw [World.cell?_of_block (a:=⟨b,off+i*K.k+j,none⟩) (hk b (hS (by omega)))];exact h2 j u hu⟩
theorem LB.imp {α:Type} {K:Kind α} {S S':Nat→Prop} {w:World} {v:Value} {l:List α} (h:LB K S w v l) (hi:∀ b,S b→S' b):LB K S' w v l:=by
 obtain⟨a,b,off,cap,hv,hm,ha,hcap,hS,hc⟩:=h
 refine⟨a,b,off,cap,hv,hm,ha,hcap,fun h0=>hi b (hS h0),fun i x hx=> ?_⟩
 obtain⟨row,h1,h2⟩:=hc i x hx
 exact⟨row,K.imp h1 hi,h2⟩
theorem LB.nil {α:Type} (K:Kind α) (S:Nat→Prop) (w:World):LB K S w (.slice none 0 0) []:=
 ⟨none,0,0,0,rfl,by simp,fun h=>absurd h (by simp),by simp,fun h=>absurd h (by simp),fun i x hx=>by simp at hx⟩
theorem LB.form {α:Type} {K:Kind α} {S:Nat→Prop} {w:World} {v:Value} {l:List α} (h:LB K S w v l):∃ a c,v=.slice a l.length c:=by
 obtain⟨a,b,off,cap,hv,_⟩:=h
 exact⟨a,cap,hv⟩
theorem LB.max {α:Type} {K:Kind α} {S:Nat→Prop} {w:World} {v:Value} {l:List α} (h:LB K S w v l):l.length≤9223372036854775807:=by
 obtain⟨_,_,_,_,_,hm,_⟩:=h
 exact hm
theorem LB.below {α:Type} {K:Kind α} {B:Nat} {w w':World} {v:Value} {l:List α} (h:LB K (·<B) w v l) (hb:Below B w w'):LB K (·<B) w' v l:=h.keeps (.of_below hb)
theorem LB.mono {α:Type} {K:Kind α} {B B':Nat} {w:World} {v:Value} {l:List α} (h:LB K (·<B) w v l) (hB:B≤B'):LB K (·<B') w v l:=h.imp fun _ hb=>Nat.lt_of_lt_of_le hb hB
structure LAt {α:Type} (K:Kind α) (S:Nat→Prop) (w:World) (l:List α) (a:Option Addr) (b off:Nat):Prop where
 addr:0<l.length→a=some ⟨b,off,none⟩
 inS:0<l.length→S b
 row:∀ i x,l[i]? =some x→∃ row,K.R S w x row∧∀ j u,row[j]? =some u→w.cell? ⟨b,off+i*K.k+j,none⟩=some u
theorem LB.at {α:Type} {K:Kind α} {S:Nat→Prop} {w:World} {v:Value} {l:List α} (h:LB K S w v l):∃ a b off cap,v=.slice a l.length cap∧l.length≤9223372036854775807∧l.length≤cap∧LAt K S w l a b off:=by
 obtain⟨a,b,off,cap,hv,hm,ha,hcap,hS,hc⟩:=h
 exact⟨a,b,off,cap,hv,hm,hcap.1,⟨ha,hS,hc⟩⟩
theorem LAt.keeps {α:Type} {K:Kind α} {S:Nat→Prop} {w w':World} {l:List α} {a:Option Addr} {b off:Nat} (h:LAt K S w l a b off) (hk:Keeps S w w'):LAt K S w' l a b off:=
 ⟨h.addr,h.inS,fun i x hx=>by
  obtain⟨row,h1,h2⟩:=h.row i x hx
  have hi:i<l.length:=(List.getElem?_eq_some_iff.1 hx).1
  exact⟨row,K.keeps h1 hk,fun j u hu=>by rw [World.cell?_of_block (a:=⟨b,off+i*K.k+j,none⟩) (hk b (h.inS (by omega)))];exact h2 j u hu⟩⟩
theorem LAt.below {α:Type} {K:Kind α} {B:Nat} {w w':World} {l:List α} {a:Option Addr} {b off:Nat} (h:LAt K (·<B) w l a b off) (hb:Below B w w'):LAt K (·<B) w' l a b off:=h.keeps (.of_below hb)
def kInt:Kind Int:={k:=1,R:=fun _ _ x r=>r=[.int .i64 x],len:=fun h=>by rw [h];rfl,keeps:=fun h _=>h,imp:=fun h _=>h }
def kByte:Kind UInt8:={k:=1,R:=fun _ _ x r=>r=[.int .u8 x.toNat],len:=fun h=>by rw [h];rfl,keeps:=fun h _=>h,imp:=fun h _=>h }
def kStr:Kind (List UInt8):={k:=1,R:=fun _ _ x r=>r=[.string ⟨x.toArray⟩]∧x.length≤9223372036854775807,len:=fun h=>by rw [h.1];rfl,keeps:=fun h _=>h,imp:=fun h _=>h }
def kWord:Kind Int:={k:=1,R:=fun _ _ x r=>r=[.int .u64 x],len:=fun h=>by rw [h];rfl,keeps:=fun h _=>h,imp:=fun h _=>h }
def kHash:Kind Int:={k:=1,R:=fun _ _ x r=>r=[.int .u32 x],len:=fun h=>by rw [h];rfl,keeps:=fun h _=>h,imp:=fun h _=>h }
def kInts:Kind (List Int):={k:=1,R:=fun S w x r=>∃ c,r=[c]∧LB kInt S w c x,len:=fun⟨_,h,_⟩=>by rw [h];rfl,keeps:=fun⟨c,h,h'⟩ hk=>⟨c,h,h'.keeps hk⟩,imp:=fun⟨c,h,h'⟩ hi=>⟨c,h,h'.imp hi⟩}
def kSeg:Kind SegL:={k:=4,R:=fun S w x r=>∃ c,r=[.int .i64 x.at_,.int .i64 x.size,c,.int .i64 x.perm]∧LB kByte S w c x.bytes,len:=fun⟨_,h,_⟩=>by rw [h];rfl,keeps:=fun⟨c,h,h'⟩ hk=>⟨c,h,h'.keeps hk⟩,imp:=fun⟨c,h,h'⟩ hi=>⟨c,h,h'.imp hi⟩}
def kNeed:Kind NeedL:={k:=2,R:=fun S w x r=>∃ c,r=[.string ⟨x.name.toArray⟩,c]∧LB kStr S w c x.versions∧x.name.length≤9223372036854775807,len:=fun⟨_,h,_⟩=>by rw [h];rfl,keeps:=fun⟨c,h,h',h3⟩ hk=>⟨c,h,h'.keeps hk,h3⟩,imp:=fun⟨c,h,h',h3⟩ hi=>⟨c,h,h'.imp hi,h3⟩}
def symCells (x:SymL):List Value:=[.string ⟨x.name.toArray⟩,.string ⟨x.version.toArray⟩,.bool x.old,.int .i64 x.kind,.bool x.weak,.int .i64 x.vis,.bool x.defined,.int .i64 x.value,.int .i64 x.size]
structure SymOk (x:SymL):Prop where
 name:x.name.length≤9223372036854775807
 version:x.version.length≤9223372036854775807
 kind: -9223372036854775808≤x.kind∧x.kind≤9223372036854775807
 vis: -9223372036854775808≤x.vis∧x.vis≤9223372036854775807
 value: -9223372036854775808≤x.value∧x.value≤9223372036854775807
 size: -9223372036854775808≤x.size∧x.size≤9223372036854775807
def kSym:Kind SymL:={k:=9,R:=fun _ _ x r=>r=symCells x∧SymOk x,len:=fun h=>by rw [h.1];rfl,keeps:=fun h _=>h,imp:=fun h _=>h }
def relCells (x:RelL):List Value:=[.int .i64 x.at_,.int .i64 x.kind,.int .i64 x.sym,.int .i64 x.add]
def kRel:Kind RelL:={k:=4,R:=fun _ _ x r=>r=relCells x,len:=fun h=>by rw [h];rfl,keeps:=fun h _=>h,imp:=fun h _=>h }
def slotCells (x:SlotL):List Value:=[.int .i64 x.at_,.int .i64 x.sym,.int .i64 x.stub]
def kSlot:Kind SlotL:={k:=3,R:=fun _ _ x r=>r=slotCells x,len:=fun h=>by rw [h];rfl,keeps:=fun h _=>h,imp:=fun h _=>h }
section
variable {S : Nat → Prop} {w : World} {a : Option Addr} {b off : Nat}
theorem LAt.int1 {l:List Int} (h:LAt kInt S w l a b off) (i:Nat) (x:Int) (hx:l[i]? =some x):w.cell? ⟨b,off+i,none⟩=some (.int .i64 x):=by
 obtain⟨row,h1,h2⟩:=h.row i x hx
 have:=h2 0 (.int .i64 x) (by rw [h1];rfl)
 simpa [kInt] using this
theorem LAt.word1 {l:List Int} (h:LAt kWord S w l a b off) (i:Nat) (x:Int) (hx:l[i]? =some x):w.cell? ⟨b,off+i,none⟩=some (.int .u64 x):=by
 obtain⟨row,h1,h2⟩:=h.row i x hx
 have:=h2 0 (.int .u64 x) (by rw [h1];rfl)
 simpa [kWord] using this
theorem LAt.str1 {l:List (List UInt8)} (h:LAt kStr S w l a b off) (i:Nat) (x:List UInt8) (hx:l[i]? =some x):w.cell? ⟨b,off+i,none⟩=some (.string ⟨x.toArray⟩)∧x.length≤9223372036854775807:=by
 obtain⟨row,⟨h1,h3⟩,h2⟩:=h.row i x hx
 have:=h2 0 (.string ⟨x.toArray⟩) (by rw [h1];rfl)
 exact⟨by simpa [kStr] using this,h3⟩
theorem LAt.ints1 {l:List (List Int)} (h:LAt kInts S w l a b off) (i:Nat) (x:List Int) (hx:l[i]? =some x):∃ c,w.cell? ⟨b,off+i,none⟩=some c∧LB kInt S w c x:=by
 obtain⟨row,⟨c,h1,h1'⟩,h2⟩:=h.row i x hx
 have:=h2 0 c (by rw [h1];rfl)
 exact⟨c,by simpa [kInts] using this,h1'⟩
theorem LAt.seg4 {l:List SegL} (h:LAt kSeg S w l a b off) (i:Nat) (x:SegL) (hx:l[i]? =some x):∃ c,w.cell? ⟨b,off+i*4,none⟩=some (.int .i64 x.at_)∧w.cell? ⟨b,off+i*4+1,none⟩=some (.int .i64 x.size)∧
  w.cell? ⟨b,off+i*4+2,none⟩=some c∧w.cell? ⟨b,off+i*4+3,none⟩=some (.int .i64 x.perm)∧LB kByte S w c x.bytes:=by
 obtain⟨row,⟨c,h1,h1'⟩,h2⟩:=h.row i x hx
 subst h1
 exact⟨c,h2 0 _ rfl,h2 1 _ rfl,h2 2 _ rfl,h2 3 _ rfl,h1'⟩
theorem LAt.need2 {l:List NeedL} (h:LAt kNeed S w l a b off) (i:Nat) (x:NeedL) (hx:l[i]? =some x):∃ c,w.cell? ⟨b,off+i*2,none⟩=some (.string ⟨x.name.toArray⟩)∧w.cell? ⟨b,off+i*2+1,none⟩=some c∧LB kStr S w c x.versions∧x.name.length≤9223372036854775807:=by
 obtain⟨row,⟨c,h1,h1',h3⟩,h2⟩:=h.row i x hx
 subst h1
 exact⟨c,h2 0 _ rfl,h2 1 _ rfl,h1',h3⟩
theorem LAt.sym9 {l:List SymL} (h:LAt kSym S w l a b off) (i:Nat) (x:SymL) (hx:l[i]? =some x):SymOk x∧w.cell? ⟨b,off+i*9,none⟩=some (.string ⟨x.name.toArray⟩)∧w.cell? ⟨b,off+i*9+1,none⟩=some (.string ⟨x.version.toArray⟩)∧
  w.cell? ⟨b,off+i*9+2,none⟩=some (.bool x.old)∧w.cell? ⟨b,off+i*9+3,none⟩=some (.int .i64 x.kind)∧w.cell? ⟨b,off+i*9+4,none⟩=some (.bool x.weak)∧w.cell? ⟨b,off+i*9+5,none⟩=some (.int .i64 x.vis)∧
  w.cell? ⟨b,off+i*9+6,none⟩=some (.bool x.defined)∧w.cell? ⟨b,off+i*9+7,none⟩=some (.int .i64 x.value)∧w.cell? ⟨b,off+i*9+8,none⟩=some (.int .i64 x.size):=by
 obtain⟨row,⟨h1,h1'⟩,h2⟩:=h.row i x hx
 subst h1
 exact⟨h1',h2 0 _ rfl,h2 1 _ rfl,h2 2 _ rfl,h2 3 _ rfl,h2 4 _ rfl,h2 5 _ rfl,h2 6 _ rfl,h2 7 _ rfl,h2 8 _ rfl⟩
theorem LAt.rel4 {l:List RelL} (h:LAt kRel S w l a b off) (i:Nat) (x:RelL) (hx:l[i]? =some x):w.cell? ⟨b,off+i*4,none⟩=some (.int .i64 x.at_)∧w.cell? ⟨b,off+i*4+1,none⟩=some (.int .i64 x.kind)∧
  w.cell? ⟨b,off+i*4+2,none⟩=some (.int .i64 x.sym)∧w.cell? ⟨b,off+i*4+3,none⟩=some (.int .i64 x.add):=by
 obtain⟨row,h1,h2⟩:=h.row i x hx
 subst h1
 exact⟨h2 0 _ rfl,h2 1 _ rfl,h2 2 _ rfl,h2 3 _ rfl⟩
theorem LAt.slot3 {l:List SlotL} (h:LAt kSlot S w l a b off) (i:Nat) (x:SlotL) (hx:l[i]? =some x):w.cell? ⟨b,off+i*3,none⟩=some (.int .i64 x.at_)∧w.cell? ⟨b,off+i*3+1,none⟩=some (.int .i64 x.sym)∧
  w.cell? ⟨b,off+i*3+2,none⟩=some (.int .i64 x.stub):=by
 obtain⟨row,h1,h2⟩:=h.row i x hx
 subst h1
 exact⟨h2 0 _ rfl,h2 1 _ rfl,h2 2 _ rfl⟩
end
end Go.Proofs.Ytpomdoliblilfaa
