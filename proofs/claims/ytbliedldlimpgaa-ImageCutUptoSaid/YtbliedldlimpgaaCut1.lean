/- Lemmas that the claim is proved from: what calls of functions of the program come to (contracts), and plain laws. Each lemma bears its own conditions. -/
import Derived.Test.YtbliedldlimpgaaChecked
import Derived.WalkKit
import Derived.Lib.Hide
import Derived.OneCell
import Derived.Below
import Derived.WalkSmall
import Derived.Deep.OwnRows
import Derived.Deep.AppendLies
import Derived.Laws.AppendOwn
import Derived.Laws.IdiomStrings
import Derived.BigQuiet
import Derived.Deep.DeepCutAuto
import Derived.Deep.CutBlock

/- An image as plain data, whether it may be, and its bytes: plain Lean, no program in sight. -/
namespace Go.Proofs.Ytbliedldlimpgaa
set_option linter.unusedVariables false
set_option linter.unusedSimpArgs false

structure SegL where
  at_ : Int
  size : Int
  bytes : List UInt8
  perm : Int
structure SymL where
  name : List UInt8
  version : List UInt8
  old : Bool
  kind : Int
  weak : Bool
  vis : Int
  defined : Bool
  value : Int
  size : Int
structure RelL where
  at_ : Int
  kind : Int
  sym : Int
  add : Int
structure SlotL where
  at_ : Int
  sym : Int
  stub : Int
structure NeedL where
  name : List UInt8
  versions : List (List UInt8)
structure ImgL where
  name : List UInt8
  flags : Int
  segs : List SegL
  needed : List NeedL
  runPath : List (List UInt8)
  syms : List SymL
  buckets : List (List Int)
  words : List Int
  shift : Int
  relocs : List RelL
  slots : List SlotL
  init : List Int
  fini : List Int
  tls : List UInt8
  tlsSize : Int

/-- may a byte stand in a name? -/
def nameN (n : Int) : Bool := (decide (97 ≤ n) && decide (n ≤ 122)) || (decide (65 ≤ n) && decide (n ≤ 90)) || (decide (48 ≤ n) && decide (n ≤ 57)) || (n == 95) || (n == 46)
def nameC (c : UInt8) : Bool := nameN c.toNat
def nameB (s : List UInt8) : Bool := s.all nameC && decide (1 ≤ s.length) && decide (s.length ≤ 64)
def sizedB (s : List UInt8) : Bool := decide (1 ≤ s.length) && decide (s.length ≤ 200)

def needB (n : NeedL) : Bool := sizedB n.name && decide (n.versions.length ≤ 16) && n.versions.all nameB
def headB (im : ImgL) : Bool :=
  (decide (im.name = []) || nameB im.name) && decide (0 ≤ im.flags) && decide (im.flags < 16) && decide (im.needed.length ≤ 16) && decide (im.runPath.length ≤ 16) && im.needed.all needB && im.runPath.all sizedB

/-- a number, rounded up to a multiple of 64 -/
def upL (n : Int) : Int := (n + 63) / 64 * 64
def segB (s : SegL) : Bool :=
  decide (0 ≤ s.at_) && decide (s.at_ ≤ 65536) && decide (s.at_ % 64 = 0) && decide (1 ≤ s.size) && decide (s.at_ + s.size ≤ 65536) && decide ((s.bytes.length : Int) ≤ s.size) && decide (0 ≤ s.perm) && decide (s.perm ≤ 7)
def segsFrom : Int → List SegL → Bool
  | _, [] => true
  | e, s :: l => decide (e ≤ s.at_) && segB s && segsFrom (upL (s.at_ + s.size)) l
def segsB (l : List SegL) : Bool := decide (1 ≤ l.length) && decide (l.length ≤ 8) && segsFrom 0 l

/-- has a permission all bits of another one? (of 0 to 7) -/
def permB (p q : Int) : Bool := (p.toNat &&& q.toNat) == q.toNat
/-- does a range lie in one segment that may be used so? -/
def holdsB (l : List SegL) (at_ n p : Int) : Bool := l.any fun s => decide (s.at_ ≤ at_) && decide (n ≤ s.size) && decide (at_ - s.at_ ≤ s.size - n) && permB s.perm p

def symRightB (s : SymL) : Bool :=
  nameB s.name && (decide (s.version = []) || nameB s.version) && decide (1 ≤ s.kind) && decide (s.kind ≤ 3) && decide (0 ≤ s.vis) && decide (s.vis ≤ 2) && decide (0 ≤ s.value) && decide (0 ≤ s.size) &&
  (s.defined || (!s.old && decide (s.vis = 0) && decide (s.value = 0) && decide (s.size = 0))) && !(s.old && decide (s.version = []))
/-- do two definitions bear one name, so that they may not both be? -/
def clashB (s t : SymL) : Bool := s.defined && t.defined && decide (s.name = t.name) && (decide (s.version = t.version) || (!s.old && !t.old))
def symB (segs : List SegL) (tls : Int) (s : SymL) : Bool :=
  symRightB s && (!s.defined || (if s.kind = 3 then decide (s.size ≤ tls) && decide (s.value ≤ tls - s.size) else holdsB segs s.value s.size 0))
def symsFrom (segs : List SegL) (tls : Int) : List SymL → List SymL → Bool
  | _, [] => true
  | done, s :: l => symB segs tls s && (done.all fun t => !clashB s t) && symsFrom segs tls (done ++ [s]) l
def symsB (im : ImgL) : Bool := decide (im.syms.length ≤ 512) && symsFrom im.segs im.tlsSize [] im.syms

/-- a name's hash -/
def hashL : Int → List UInt8 → Int
  | h, [] => h
  | h, c :: l => hashL ((33 * h + c.toNat) % 4294967296) l
def hashB (s : List UInt8) : Int := hashL 5381 s
def seenB (s : SymL) : Bool := s.defined && decide (s.vis ≠ 2)
/-- is a filter right? -/
def sieveB (words : List Int) (shift : Int) : Bool := (decide (words.length = 1) || decide (words.length = 2) || decide (words.length = 4) || decide (words.length = 8) || decide (words.length = 16) || decide (words.length = 32) || decide (words.length = 64)) && decide (1 ≤ shift) && decide (shift ≤ 31)
def bitB (w : Int) (k : Nat) : Bool := (w.toNat / 2 ^ k) % 2 == 1
/-- does a filter lack a hash? -/
def lacksB (words : List Int) (shift : Int) (h : Int) : Bool :=
  let w := words.getD ((h.toNat / 64) % words.length) 0
  !(bitB w (h.toNat % 64) && bitB w ((h.toNat / 2 ^ shift.toNat) % 64))
def homeL (name : List UInt8) (many : Nat) : Nat := (hashB name).toNat % many
/-- the places of a bucket: rising, each of a symbol that is seen and at home there, and that the filter does not lack -/
def chainB (syms : List SymL) (words : List Int) (shift : Int) (many b : Nat) : Int → List Int → Bool
  | _, [] => true
  | last, i :: l => decide (last < i) && (match (if i < 0 then none else syms[i.toNat]?) with
    | some s => seenB s && decide (homeL s.name many = b) && !lacksB words shift (hashB s.name)
    | none => false) && chainB syms words shift many b i l
def chainsB (syms : List SymL) (words : List Int) (shift : Int) (many : Nat) : Nat → List (List Int) → Bool
  | _, [] => true
  | b, c :: l => chainB syms words shift many b (-1) c && chainsB syms words shift many (b + 1) l
def tableB (im : ImgL) : Bool :=
  decide (im.syms.length ≤ 512) && decide (1 ≤ im.buckets.length) && decide (im.buckets.length ≤ 512) && sieveB im.words im.shift && chainsB im.syms im.words im.shift im.buckets.length 0 im.buckets &&
  decide ((im.buckets.map List.length).sum = (im.syms.filter seenB).length)

def symAt (im : ImgL) (i : Int) : Option SymL := if i < 0 then none else im.syms[i.toNat]?
/-- how many bytes a relocation fills in -/
def wideL (im : ImgL) (r : RelL) : Int :=
  match symAt im r.sym with
  | some s => if r.kind = 2 then s.size else 8
  | none => 8
def relocB (im : ImgL) (r : RelL) : Bool :=
  if r.kind = 1 then decide (r.sym = -1) && decide (0 ≤ r.add) && decide (r.add ≤ 65536) && holdsB im.segs r.at_ 8 0
  else match symAt im r.sym with
    | none => false
    | some s => decide (-4294967296 ≤ r.add) && decide (r.add ≤ 4294967296) &&
      (if r.kind = 0 ∨ r.kind = 6 then decide (s.kind ≠ 3) && holdsB im.segs r.at_ 8 0
       else if r.kind = 7 then decide (r.add = 0) && holdsB im.segs r.at_ 8 0
       else if r.kind = 3 then decide (s.kind = 3) && decide (r.add = 0) && holdsB im.segs r.at_ 8 0
       else if r.kind = 4 ∨ r.kind = 5 then decide (s.kind = 3) && holdsB im.segs r.at_ 8 0
       else if r.kind = 2 then decide (s.kind = 2) && s.defined && decide (1 ≤ s.size) && decide (s.value = r.at_) && decide (im.flags % 2 = 1) && decide (r.add = 0) && holdsB im.segs r.at_ s.size 2
       else false)
def relocsFrom (im : ImgL) : Int → List RelL → Bool
  | _, [] => true
  | e, r :: l => decide (e ≤ r.at_) && relocB im r && relocsFrom im (r.at_ + wideL im r) l
def relocsB (im : ImgL) : Bool := decide (im.relocs.length ≤ 512) && relocsFrom im 0 im.relocs

def slotB (im : ImgL) (s : SlotL) : Bool :=
  (match symAt im s.sym with
   | some x => decide (x.kind = 1)
   | none => false) && holdsB im.segs s.at_ 8 0 && holdsB im.segs s.stub 8 4 && im.relocs.all fun r => !(decide (r.at_ < s.at_ + 8) && decide (s.at_ < r.at_ + wideL im r))
def slotsFrom (im : ImgL) : Int → List SlotL → Bool
  | _, [] => true
  | e, s :: l => decide (e ≤ s.at_) && slotB im s && slotsFrom im (s.at_ + 8) l
def slotsB (im : ImgL) : Bool := decide (im.slots.length ≤ 128) && slotsFrom im 0 im.slots
def runB (im : ImgL) (l : List Int) : Bool := decide (l.length ≤ 8) && l.all fun a => holdsB im.segs a 8 4
def tlsB (im : ImgL) : Bool := decide (0 ≤ im.tlsSize) && decide (im.tlsSize ≤ 4096) && decide ((im.tls.length : Int) ≤ im.tlsSize)
/-- the first thing that is wrong with an image -/
def mayL (im : ImgL) : Int :=
  if headB im = false then 90
  else if segsB im.segs = false then 91
  else if tlsB im = false then 96
  else if symsB im = false then 92
  else if tableB im = false then 93
  else if relocsB im = false then 94
  else if slotsB im = false then 95
  else if (runB im im.init && runB im im.fini) = false then 97
  else 0

/-- a number's bytes, the lowest first -/
def digitsL (size : Nat) (n : Int) : List UInt8 := (List.range size).map fun i => UInt8.ofNat ((n % 18446744073709551616).toNat / 256 ^ i)
def textL' (s : List UInt8) : List UInt8 := digitsL 2 s.length ++ s
def blockL (s : List UInt8) : List UInt8 := digitsL 4 s.length ++ s
def numsL (size : Nat) (l : List Int) : List UInt8 := (l.map (digitsL size)).flatten
def textsL (l : List (List UInt8)) : List UInt8 := (l.map textL').flatten
def oneL (b : Bool) : Int := if b then 1 else 0
def segF (s : SegL) : List UInt8 := digitsL 4 s.at_ ++ digitsL 4 s.size ++ digitsL 1 s.perm ++ blockL s.bytes
def needF (n : NeedL) : List UInt8 := textL' n.name ++ digitsL 1 n.versions.length ++ textsL n.versions
def symF (s : SymL) : List UInt8 := textL' s.name ++ textL' s.version ++ digitsL 1 s.kind ++ digitsL 1 s.vis ++ digitsL 1 (oneL s.old) ++ digitsL 1 (oneL s.weak) ++ digitsL 1 (oneL s.defined) ++ digitsL 8 s.value ++ digitsL 8 s.size
def chainF (c : List Int) : List UInt8 := digitsL 2 c.length ++ numsL 2 c
def relF (r : RelL) : List UInt8 := digitsL 1 r.kind ++ digitsL 8 r.at_ ++ digitsL 8 r.sym ++ digitsL 8 r.add
def slotF (s : SlotL) : List UInt8 := digitsL 4 s.at_ ++ digitsL 4 s.sym ++ digitsL 4 s.stub
def magicL : List UInt8 := [99, 108, 101, 118, 105, 115, 49]
/-- an image's bytes -/
def formL (im : ImgL) : List UInt8 :=
  textL' magicL ++ textL' im.name ++ digitsL 1 im.flags ++ digitsL 1 im.segs.length ++ (im.segs.map segF).flatten ++
  digitsL 1 im.needed.length ++ (im.needed.map needF).flatten ++ digitsL 1 im.runPath.length ++ textsL im.runPath ++
  digitsL 2 im.syms.length ++ (im.syms.map symF).flatten ++ digitsL 2 im.buckets.length ++ (im.buckets.map chainF).flatten ++
  digitsL 1 im.shift ++ digitsL 1 im.words.length ++ numsL 8 im.words ++ digitsL 2 im.relocs.length ++ (im.relocs.map relF).flatten ++
  digitsL 2 im.slots.length ++ (im.slots.map slotF).flatten ++ digitsL 1 im.init.length ++ numsL 4 im.init ++ digitsL 1 im.fini.length ++ numsL 4 im.fini ++
  digitsL 2 im.tlsSize ++ blockL im.tls

end Go.Proofs.Ytbliedldlimpgaa

/- Lists in memory: a slice whose elements are rows of cells, each of which reads as a datum; whatever the element's kind. -/
namespace Go.Proofs.Ytbliedldlimpgaa
set_option linter.unusedVariables false
set_option linter.unusedSimpArgs false
open Go.RowKit

theorem size_mk (l : List UInt8) : ByteArray.size ⟨l.toArray⟩ = l.length := by simp [ByteArray.size]
/-- the blocks for which S holds are as they were -/
def Keeps (S : Nat → Prop) (w w' : World) : Prop := ∀ b, S b → w'.heap[b]? = w.heap[b]?
theorem Keeps.of_below {B : Nat} {w w' : World} (h : Below B w w') : Keeps (· < B) w w' := fun b hb => h.block b hb

/-- a kind of element: its cells, and what a row of cells reads as, in the blocks for which S holds -/
structure Kind (α : Type) where
  k : Nat
  R : (Nat → Prop) → World → α → List Value → Prop
  len : ∀ {S w x r}, R S w x r → r.length = k
  keeps : ∀ {S w w' x r}, R S w x r → Keeps S w w' → R S w' x r
  imp : ∀ {S S' : Nat → Prop} {w x r}, R S w x r → (∀ b, S b → S' b) → R S' w x r

/-- v is a slice that reads as l, its cells in blocks for which S holds -/
def LB {α : Type} (K : Kind α) (S : Nat → Prop) (w : World) (v : Value) (l : List α) : Prop :=
  ∃ (a : Option Addr) (b off cap : Nat), v = .slice a l.length cap ∧ l.length ≤ 9223372036854775807 ∧ (0 < l.length → a = some ⟨b, off, none⟩) ∧ (l.length ≤ cap ∧ (a = none → cap = 0)) ∧ (0 < l.length → S b) ∧
    ∀ i x, l[i]? = some x → ∃ row, K.R S w x row ∧ ∀ j u, row[j]? = some u → w.cell? ⟨b, off + i * K.k + j, none⟩ = some u
theorem LB.keeps {α : Type} {K : Kind α} {S : Nat → Prop} {w w' : World} {v : Value} {l : List α} (h : LB K S w v l) (hk : Keeps S w w') : LB K S w' v l := by
  obtain ⟨a, b, off, cap, hv, hm, ha, hcap, hS, hc⟩ := h
  refine ⟨a, b, off, cap, hv, hm, ha, hcap, hS, fun i x hx => ?_⟩
  obtain ⟨row, h1, h2⟩ := hc i x hx
  have hi : i < l.length := (List.getElem?_eq_some_iff.1 hx).1
  exact ⟨row, K.keeps h1 hk, fun j u hu => by rw [World.cell?_of_block (a := ⟨b, off + i * K.k + j, none⟩) (hk b (hS (by omega)))]; exact h2 j u hu⟩
theorem LB.imp {α : Type} {K : Kind α} {S S' : Nat → Prop} {w : World} {v : Value} {l : List α} (h : LB K S w v l) (hi : ∀ b, S b → S' b) : LB K S' w v l := by
  obtain ⟨a, b, off, cap, hv, hm, ha, hcap, hS, hc⟩ := h
  refine ⟨a, b, off, cap, hv, hm, ha, hcap, fun h0 => hi b (hS h0), fun i x hx => ?_⟩
  obtain ⟨row, h1, h2⟩ := hc i x hx
  exact ⟨row, K.imp h1 hi, h2⟩
theorem LB.nil {α : Type} (K : Kind α) (S : Nat → Prop) (w : World) : LB K S w (.slice none 0 0) [] :=
  ⟨none, 0, 0, 0, rfl, by simp, fun h => absurd h (by simp), by simp, fun h => absurd h (by simp), fun i x hx => by simp at hx⟩
theorem LB.form {α : Type} {K : Kind α} {S : Nat → Prop} {w : World} {v : Value} {l : List α} (h : LB K S w v l) : ∃ a c, v = .slice a l.length c := by
  obtain ⟨a, b, off, cap, hv, _⟩ := h
  exact ⟨a, cap, hv⟩
theorem LB.max {α : Type} {K : Kind α} {S : Nat → Prop} {w : World} {v : Value} {l : List α} (h : LB K S w v l) : l.length ≤ 9223372036854775807 := by
  obtain ⟨_, _, _, _, _, hm, _⟩ := h
  exact hm
/-- below a block -/
abbrev LBelow {α : Type} (K : Kind α) (B : Nat) (w : World) (v : Value) (l : List α) : Prop := LB K (· < B) w v l
theorem LB.below {α : Type} {K : Kind α} {B : Nat} {w w' : World} {v : Value} {l : List α} (h : LB K (· < B) w v l) (hb : Below B w w') : LB K (· < B) w' v l := h.keeps (.of_below hb)
theorem LB.mono {α : Type} {K : Kind α} {B B' : Nat} {w : World} {v : Value} {l : List α} (h : LB K (· < B) w v l) (hB : B ≤ B') : LB K (· < B') w v l := h.imp fun _ hb => Nat.lt_of_lt_of_le hb hB

/-- what a loop over a list lays open: where it lies, and the cells of each element -/
structure LAt {α : Type} (K : Kind α) (S : Nat → Prop) (w : World) (l : List α) (a : Option Addr) (b off : Nat) : Prop where
  addr : 0 < l.length → a = some ⟨b, off, none⟩
  inS : 0 < l.length → S b
  row : ∀ i x, l[i]? = some x → ∃ row, K.R S w x row ∧ ∀ j u, row[j]? = some u → w.cell? ⟨b, off + i * K.k + j, none⟩ = some u
theorem LB.at {α : Type} {K : Kind α} {S : Nat → Prop} {w : World} {v : Value} {l : List α} (h : LB K S w v l) : ∃ a b off cap, v = .slice a l.length cap ∧ l.length ≤ 9223372036854775807 ∧ l.length ≤ cap ∧ LAt K S w l a b off := by
  obtain ⟨a, b, off, cap, hv, hm, ha, hcap, hS, hc⟩ := h
  exact ⟨a, b, off, cap, hv, hm, hcap.1, ⟨ha, hS, hc⟩⟩
theorem LAt.keeps {α : Type} {K : Kind α} {S : Nat → Prop} {w w' : World} {l : List α} {a : Option Addr} {b off : Nat} (h : LAt K S w l a b off) (hk : Keeps S w w') : LAt K S w' l a b off :=
  ⟨h.addr, h.inS, fun i x hx => by
    obtain ⟨row, h1, h2⟩ := h.row i x hx
    have hi : i < l.length := (List.getElem?_eq_some_iff.1 hx).1
    exact ⟨row, K.keeps h1 hk, fun j u hu => by rw [World.cell?_of_block (a := ⟨b, off + i * K.k + j, none⟩) (hk b (h.inS (by omega)))]; exact h2 j u hu⟩⟩
theorem LAt.below {α : Type} {K : Kind α} {B : Nat} {w w' : World} {l : List α} {a : Option Addr} {b off : Nat} (h : LAt K (· < B) w l a b off) (hb : Below B w w') : LAt K (· < B) w' l a b off := h.keeps (.of_below hb)

/-! ### the kinds -/
def kInt : Kind Int := { k := 1, R := fun _ _ x r => r = [.int .i64 x], len := fun h => by rw [h]; rfl, keeps := fun h _ => h, imp := fun h _ => h }
def kByte : Kind UInt8 := { k := 1, R := fun _ _ x r => r = [.int .u8 x.toNat], len := fun h => by rw [h]; rfl, keeps := fun h _ => h, imp := fun h _ => h }
def kStr : Kind (List UInt8) := { k := 1, R := fun _ _ x r => r = [.string ⟨x.toArray⟩] ∧ x.length ≤ 9223372036854775807, len := fun h => by rw [h.1]; rfl, keeps := fun h _ => h, imp := fun h _ => h }
def kWord : Kind Int := { k := 1, R := fun _ _ x r => r = [.int .u64 x], len := fun h => by rw [h]; rfl, keeps := fun h _ => h, imp := fun h _ => h }
def kHash : Kind Int := { k := 1, R := fun _ _ x r => r = [.int .u32 x], len := fun h => by rw [h]; rfl, keeps := fun h _ => h, imp := fun h _ => h }
def kInts : Kind (List Int) := { k := 1, R := fun S w x r => ∃ c, r = [c] ∧ LB kInt S w c x, len := fun ⟨_, h, _⟩ => by rw [h]; rfl, keeps := fun ⟨c, h, h'⟩ hk => ⟨c, h, h'.keeps hk⟩, imp := fun ⟨c, h, h'⟩ hi => ⟨c, h, h'.imp hi⟩ }
def kSeg : Kind SegL := { k := 4, R := fun S w x r => ∃ c, r = [.int .i64 x.at_, .int .i64 x.size, c, .int .i64 x.perm] ∧ LB kByte S w c x.bytes, len := fun ⟨_, h, _⟩ => by rw [h]; rfl, keeps := fun ⟨c, h, h'⟩ hk => ⟨c, h, h'.keeps hk⟩, imp := fun ⟨c, h, h'⟩ hi => ⟨c, h, h'.imp hi⟩ }
def kNeed : Kind NeedL := { k := 2, R := fun S w x r => ∃ c, r = [.string ⟨x.name.toArray⟩, c] ∧ LB kStr S w c x.versions ∧ x.name.length ≤ 9223372036854775807, len := fun ⟨_, h, _⟩ => by rw [h]; rfl, keeps := fun ⟨c, h, h', h3⟩ hk => ⟨c, h, h'.keeps hk, h3⟩, imp := fun ⟨c, h, h', h3⟩ hi => ⟨c, h, h'.imp hi, h3⟩ }
/-- a symbol's cells -/
def symCells (x : SymL) : List Value := [.string ⟨x.name.toArray⟩, .string ⟨x.version.toArray⟩, .bool x.old, .int .i64 x.kind, .bool x.weak, .int .i64 x.vis, .bool x.defined, .int .i64 x.value, .int .i64 x.size]
/-- what a symbol's numbers and texts are as Go's -/
structure SymOk (x : SymL) : Prop where
  name : x.name.length ≤ 9223372036854775807
  version : x.version.length ≤ 9223372036854775807
  kind : -9223372036854775808 ≤ x.kind ∧ x.kind ≤ 9223372036854775807
  vis : -9223372036854775808 ≤ x.vis ∧ x.vis ≤ 9223372036854775807
  value : -9223372036854775808 ≤ x.value ∧ x.value ≤ 9223372036854775807
  size : -9223372036854775808 ≤ x.size ∧ x.size ≤ 9223372036854775807
def kSym : Kind SymL := { k := 9, R := fun _ _ x r => r = symCells x ∧ SymOk x, len := fun h => by rw [h.1]; rfl, keeps := fun h _ => h, imp := fun h _ => h }
def relCells (x : RelL) : List Value := [.int .i64 x.at_, .int .i64 x.kind, .int .i64 x.sym, .int .i64 x.add]
def kRel : Kind RelL := { k := 4, R := fun _ _ x r => r = relCells x, len := fun h => by rw [h]; rfl, keeps := fun h _ => h, imp := fun h _ => h }
def slotCells (x : SlotL) : List Value := [.int .i64 x.at_, .int .i64 x.sym, .int .i64 x.stub]
def kSlot : Kind SlotL := { k := 3, R := fun _ _ x r => r = slotCells x, len := fun h => by rw [h]; rfl, keeps := fun h _ => h, imp := fun h _ => h }

section
variable {S : Nat → Prop} {w : World} {a : Option Addr} {b off : Nat}
theorem LAt.int1 {l : List Int} (h : LAt kInt S w l a b off) (i : Nat) (x : Int) (hx : l[i]? = some x) : w.cell? ⟨b, off + i, none⟩ = some (.int .i64 x) := by
  obtain ⟨row, h1, h2⟩ := h.row i x hx
  have := h2 0 (.int .i64 x) (by rw [h1]; rfl)
  simpa [kInt] using this
theorem LAt.word1 {l : List Int} (h : LAt kWord S w l a b off) (i : Nat) (x : Int) (hx : l[i]? = some x) : w.cell? ⟨b, off + i, none⟩ = some (.int .u64 x) := by
  obtain ⟨row, h1, h2⟩ := h.row i x hx
  have := h2 0 (.int .u64 x) (by rw [h1]; rfl)
  simpa [kWord] using this
theorem LAt.byte1 {l : List UInt8} (h : LAt kByte S w l a b off) (i : Nat) (x : UInt8) (hx : l[i]? = some x) : w.cell? ⟨b, off + i, none⟩ = some (.int .u8 x.toNat) := by
  obtain ⟨row, h1, h2⟩ := h.row i x hx
  have := h2 0 (.int .u8 x.toNat) (by rw [h1]; rfl)
  simpa [kByte] using this
theorem LAt.str1 {l : List (List UInt8)} (h : LAt kStr S w l a b off) (i : Nat) (x : List UInt8) (hx : l[i]? = some x) : w.cell? ⟨b, off + i, none⟩ = some (.string ⟨x.toArray⟩) ∧ x.length ≤ 9223372036854775807 := by
  obtain ⟨row, ⟨h1, h3⟩, h2⟩ := h.row i x hx
  have := h2 0 (.string ⟨x.toArray⟩) (by rw [h1]; rfl)
  exact ⟨by simpa [kStr] using this, h3⟩
theorem LAt.ints1 {l : List (List Int)} (h : LAt kInts S w l a b off) (i : Nat) (x : List Int) (hx : l[i]? = some x) : ∃ c, w.cell? ⟨b, off + i, none⟩ = some c ∧ LB kInt S w c x := by
  obtain ⟨row, ⟨c, h1, h1'⟩, h2⟩ := h.row i x hx
  have := h2 0 c (by rw [h1]; rfl)
  exact ⟨c, by simpa [kInts] using this, h1'⟩
theorem LAt.seg4 {l : List SegL} (h : LAt kSeg S w l a b off) (i : Nat) (x : SegL) (hx : l[i]? = some x) : ∃ c, w.cell? ⟨b, off + i * 4, none⟩ = some (.int .i64 x.at_) ∧ w.cell? ⟨b, off + i * 4 + 1, none⟩ = some (.int .i64 x.size) ∧
    w.cell? ⟨b, off + i * 4 + 2, none⟩ = some c ∧ w.cell? ⟨b, off + i * 4 + 3, none⟩ = some (.int .i64 x.perm) ∧ LB kByte S w c x.bytes := by
  obtain ⟨row, ⟨c, h1, h1'⟩, h2⟩ := h.row i x hx
  subst h1
  exact ⟨c, h2 0 _ rfl, h2 1 _ rfl, h2 2 _ rfl, h2 3 _ rfl, h1'⟩
theorem LAt.need2 {l : List NeedL} (h : LAt kNeed S w l a b off) (i : Nat) (x : NeedL) (hx : l[i]? = some x) : ∃ c, w.cell? ⟨b, off + i * 2, none⟩ = some (.string ⟨x.name.toArray⟩) ∧ w.cell? ⟨b, off + i * 2 + 1, none⟩ = some c ∧ LB kStr S w c x.versions ∧ x.name.length ≤ 9223372036854775807 := by
  obtain ⟨row, ⟨c, h1, h1', h3⟩, h2⟩ := h.row i x hx
  subst h1
  exact ⟨c, h2 0 _ rfl, h2 1 _ rfl, h1', h3⟩
theorem LAt.sym9 {l : List SymL} (h : LAt kSym S w l a b off) (i : Nat) (x : SymL) (hx : l[i]? = some x) : SymOk x ∧ w.cell? ⟨b, off + i * 9, none⟩ = some (.string ⟨x.name.toArray⟩) ∧ w.cell? ⟨b, off + i * 9 + 1, none⟩ = some (.string ⟨x.version.toArray⟩) ∧
    w.cell? ⟨b, off + i * 9 + 2, none⟩ = some (.bool x.old) ∧ w.cell? ⟨b, off + i * 9 + 3, none⟩ = some (.int .i64 x.kind) ∧ w.cell? ⟨b, off + i * 9 + 4, none⟩ = some (.bool x.weak) ∧ w.cell? ⟨b, off + i * 9 + 5, none⟩ = some (.int .i64 x.vis) ∧
    w.cell? ⟨b, off + i * 9 + 6, none⟩ = some (.bool x.defined) ∧ w.cell? ⟨b, off + i * 9 + 7, none⟩ = some (.int .i64 x.value) ∧ w.cell? ⟨b, off + i * 9 + 8, none⟩ = some (.int .i64 x.size) := by
  obtain ⟨row, ⟨h1, h1'⟩, h2⟩ := h.row i x hx
  subst h1
  exact ⟨h1', h2 0 _ rfl, h2 1 _ rfl, h2 2 _ rfl, h2 3 _ rfl, h2 4 _ rfl, h2 5 _ rfl, h2 6 _ rfl, h2 7 _ rfl, h2 8 _ rfl⟩
theorem LAt.rel4 {l : List RelL} (h : LAt kRel S w l a b off) (i : Nat) (x : RelL) (hx : l[i]? = some x) : w.cell? ⟨b, off + i * 4, none⟩ = some (.int .i64 x.at_) ∧ w.cell? ⟨b, off + i * 4 + 1, none⟩ = some (.int .i64 x.kind) ∧
    w.cell? ⟨b, off + i * 4 + 2, none⟩ = some (.int .i64 x.sym) ∧ w.cell? ⟨b, off + i * 4 + 3, none⟩ = some (.int .i64 x.add) := by
  obtain ⟨row, h1, h2⟩ := h.row i x hx
  subst h1
  exact ⟨h2 0 _ rfl, h2 1 _ rfl, h2 2 _ rfl, h2 3 _ rfl⟩
theorem LAt.slot3 {l : List SlotL} (h : LAt kSlot S w l a b off) (i : Nat) (x : SlotL) (hx : l[i]? = some x) : w.cell? ⟨b, off + i * 3, none⟩ = some (.int .i64 x.at_) ∧ w.cell? ⟨b, off + i * 3 + 1, none⟩ = some (.int .i64 x.sym) ∧
    w.cell? ⟨b, off + i * 3 + 2, none⟩ = some (.int .i64 x.stub) := by
  obtain ⟨row, h1, h2⟩ := h.row i x hx
  subst h1
  exact ⟨h2 0 _ rfl, h2 1 _ rfl, h2 2 _ rfl⟩
end

end Go.Proofs.Ytbliedldlimpgaa

namespace Go.Proofs.Ytbliedldlimpgaa
set_option linter.unusedVariables false
set_option linter.unusedSimpArgs false
open Go.RowKit

theorem nall_take_succ (p : List UInt8) (k : Nat) (h : k < p.length) (ha : (p.take k).all nameC = true) (hc : nameC p[k] = true) : (p.take (k + 1)).all nameC = true := by
  rw [List.take_succ_eq_append_getElem h, List.all_append, ha]
  simp [hc]
theorem nname_no (p : List UInt8) (k : Nat) (h : k < p.length) (hc : nameC p[k] = false) : nameB p = false := by
  have : p.all nameC = false := by
    rw [List.all_eq_false]
    exact ⟨p[k], List.getElem_mem h, by simp [hc]⟩
  simp [nameB, this]

set_option maxHeartbeats 4000000 in
set_option maxRecDepth 100000 in
theorem vname_any (w : World) (p : List UInt8) (hp : p.length ≤ 9223372036854775807) :
    Calls Try.prog 57 #[.string ⟨p.toArray⟩] w fun e w' => e = .returned (.bool (nameB p)) ∧ Below w.heap.size w w' := by
  have hsz := size_mk p
  have hconv := run_bytes_of_string (P := Try.prog) w 9 36 5 ⟨p.toArray⟩ Try.underlying9 Try.underlying36 Try.underlying5
  rw [hsz] at hconv
  have Hcells : Hid (∀ k (h : k < p.length), (w.drew.alloc (.cells (bytesRow ⟨p.toArray⟩ (grownCap w p.length 0 5)) 5 ((bytesRow ⟨p.toArray⟩ (grownCap w p.length 0 5)).size, (bytesRow ⟨p.toArray⟩ (grownCap w p.length 0 5)).size + 1))).cell? ⟨w.heap.size, k, none⟩ = some (.int .u8 p[k].toNat)) := Lib.hid (by
    intro k h
    have hh : (w.drew.alloc (.cells (bytesRow ⟨p.toArray⟩ (grownCap w p.length 0 5)) 5 ((bytesRow ⟨p.toArray⟩ (grownCap w p.length 0 5)).size, (bytesRow ⟨p.toArray⟩ (grownCap w p.length 0 5)).size + 1))).heap[w.heap.size]? = _ := heap_alloc_new w.drew _
    simp only [World.cell?, hh]
    exact bytesRow_at ⟨p.toArray⟩ _ k (by simpa using h))
  have Hbel : Hid (Below w.heap.size w (w.drew.alloc (.cells (bytesRow ⟨p.toArray⟩ (grownCap w p.length 0 5)) 5 ((bytesRow ⟨p.toArray⟩ (grownCap w p.length 0 5)).size, (bytesRow ⟨p.toArray⟩ (grownCap w p.length 0 5)).size + 1)))) := Lib.hid (((Below.refl _ w).drew).alloc (Nat.le_refl _) _)
  generalize (w.drew.alloc (.cells (bytesRow ⟨p.toArray⟩ (grownCap w p.length 0 5)) 5 ((bytesRow ⟨p.toArray⟩ (grownCap w p.length 0 5)).size, (bytesRow ⟨p.toArray⟩ (grownCap w p.length 0 5)).size + 1))) = w1 at *
  generalize grownCap w p.length 0 5 = gc at *
  go_enter Try.func57, Try.ntmps57
  go_wp2_with fail
  go_loop [8] (fun i => ∃ k : Nat, k ≤ p.length ∧ i = .int .i64 k ∧ (p.take k).all nameC = true) (fun i => p.length - (intOf i).toNat)
  case atStart => exact ⟨0, Nat.zero_le _, rfl, by simp⟩
  case round =>
    obtain ⟨k, hk, rfl, hall⟩ := hrel
    have Hall := Lib.hid hall
    clear hall hconv
    by_cases hlt : k < p.length
    · have g := Hcells.out k hlt
      obtain ⟨c, hcx⟩ : ∃ c, p[k] = c := ⟨_, rfl⟩
      rw [hcx] at g
      have Hyes : Hid (nameC c = true → (p.take (k + 1)).all nameC = true) := Lib.hid (fun h => nall_take_succ p k hlt Hall.out (by rw [hcx]; exact h))
      have Hno : Hid (nameC c = false → nameB p = false) := Lib.hid (fun h => nname_no p k hlt (by rw [hcx]; exact h))
      have Hdef : Hid (nameC c = nameN c.toNat) := Lib.hid rfl
      clear hcx
      generalize (c.toNat : Int) = n at *
      generalize nameC c = bl at *
      cases bl with
      | true =>
        have Hy := Lib.hid (Hyes.out rfl)
        clear Hyes Hno
        go_wp2
        all_goals try (exfalso; have := Hdef.out; simp [nameN] at this; (try simp only [beq_eq_false_iff_ne, bne_eq_false_iff_eq, bne_iff_ne, beq_iff_eq, ne_eq] at *); omega)
        all_goals go_round
        all_goals first | exact ⟨k + 1, by omega, by go_num, Hy.out⟩ | (simp [intOf]; done) | (simp [intOf]; omega)
      | false =>
        have Hn := Lib.hid (Hno.out rfl)
        clear Hyes Hno
        go_wp2
        all_goals try (exfalso; have := Hdef.out; simp [nameN] at this; (try simp only [beq_eq_false_iff_ne, bne_eq_false_iff_eq, bne_iff_ne, beq_iff_eq, ne_eq] at *); omega)
        all_goals go_ret
        all_goals exact ⟨by rw [Hn.out]; rfl, Hbel.out⟩
    · have hall : p.all nameC = true := by have := Hall.out; rw [List.take_of_length_le (by omega)] at this; exact this
      have hr : nameB p = (decide (1 ≤ p.length) && decide (p.length ≤ 64)) := by simp [nameB, hall]
      have Hr := Lib.hid hr
      clear hr hall
      by_cases h1 : 1 ≤ p.length
      · have hd1 : decide (1 ≤ (p.length : Int)) = true := by rw [decide_eq_true_eq]; omega
        by_cases h2 : p.length ≤ 64
        · have hd2 : decide ((p.length : Int) ≤ 64) = true := by rw [decide_eq_true_eq]; omega
          have Hr2 : Hid (nameB p = true) := Lib.hid (by rw [Hr.out]; simp [h1, h2])
          go_wp2
          go_ret
          exact ⟨by rw [Hr2.out]; rfl, Hbel.out⟩
        · have hd2 : decide ((p.length : Int) ≤ 64) = false := by rw [decide_eq_false_iff_not]; omega
          have Hr2 : Hid (nameB p = false) := Lib.hid (by rw [Hr.out]; simp [h2])
          go_wp2
          go_ret
          exact ⟨by rw [Hr2.out]; rfl, Hbel.out⟩
      · have hd1 : decide (1 ≤ (p.length : Int)) = false := by rw [decide_eq_false_iff_not]; omega
        have Hr2 : Hid (nameB p = false) := Lib.hid (by rw [Hr.out]; simp [h1])
        go_wp2
        go_ret
        exact ⟨by rw [Hr2.out]; rfl, Hbel.out⟩

set_option maxHeartbeats 4000000 in
set_option maxRecDepth 100000 in
theorem jname_any (w : World) (p : List UInt8) (hp : p.length ≤ 9223372036854775807) :
    Calls Try.prog 70 #[.string ⟨p.toArray⟩] w fun e w' => e = .returned (.bool (nameB p)) ∧ w' = w := by
  have hsz := size_mk p
  by_cases h1 : 1 ≤ p.length
  case neg =>
    have Hr : Hid (nameB p = false) := Lib.hid (by simp [nameB, h1])
    go_enter Try.func70, Try.ntmps70
    go_wp2
    go_ret
    exact ⟨by rw [Hr.out]; rfl, rfl⟩
  by_cases h2 : p.length ≤ 64
  case neg =>
    have Hr : Hid (nameB p = false) := Lib.hid (by simp [nameB, h2])
    go_enter Try.func70, Try.ntmps70
    go_wp2
    go_ret
    exact ⟨by rw [Hr.out]; rfl, rfl⟩
  have hg2 : ¬ 64 < p.length := by omega
  have hg1 : ¬ p.length < 1 := by omega
  go_enter Try.func70, Try.ntmps70
  go_wp2
  go_loop [3] (fun i => ∃ k : Nat, k ≤ p.length ∧ i = .int .i64 k ∧ (p.take k).all nameC = true) (fun i => p.length - (intOf i).toNat)
  case atStart => exact ⟨0, Nat.zero_le _, rfl, by simp⟩
  case round =>
    obtain ⟨k, hk, rfl, hall⟩ := hrel
    have Hall := Lib.hid hall
    clear hall
    by_cases hlt : k < p.length
    · obtain ⟨c, hcx⟩ : ∃ c, p[k] = c := ⟨_, rfl⟩
      have hx : (⟨p.toArray⟩ : ByteArray)[k]'(by omega) = c := hcx
      have Hyes : Hid (nameC c = true → (p.take (k + 1)).all nameC = true) := Lib.hid (fun h => nall_take_succ p k hlt Hall.out (by rw [hcx]; exact h))
      have Hno : Hid (nameC c = false → nameB p = false) := Lib.hid (fun h => nname_no p k hlt (by rw [hcx]; exact h))
      have Hdef : Hid (nameC c = nameN c.toNat) := Lib.hid rfl
      clear hcx
      generalize nameC c = bl at *
      cases bl with
      | true =>
        have Hy := Lib.hid (Hyes.out rfl)
        clear Hyes Hno
        go_wp2
        all_goals try (exfalso; have := Hdef.out; simp [nameN] at this; (try simp only [beq_eq_false_iff_ne, bne_eq_false_iff_eq, bne_iff_ne, beq_iff_eq, ne_eq] at *); omega)
        all_goals go_round
        all_goals first | exact ⟨k + 1, by omega, by go_num, Hy.out⟩ | (simp [intOf]; done) | (simp [intOf]; omega)
      | false =>
        have Hn := Lib.hid (Hno.out rfl)
        clear Hyes Hno
        go_wp2
        all_goals try (exfalso; have := Hdef.out; simp [nameN] at this; (try simp only [beq_eq_false_iff_ne, bne_eq_false_iff_eq, bne_iff_ne, beq_iff_eq, ne_eq] at *); omega)
        all_goals go_ret
        all_goals exact ⟨by rw [Hn.out]; rfl, rfl⟩
    · have hall : p.all nameC = true := by have := Hall.out; rw [List.take_of_length_le (by omega)] at this; exact this
      have Hr : Hid (nameB p = true) := Lib.hid (by simp [nameB, hall, h1, h2])
      go_wp2
      go_ret
      exact ⟨by rw [Hr.out]; rfl, rfl⟩

end Go.Proofs.Ytbliedldlimpgaa

namespace Go.Proofs.Ytbliedldlimpgaa
set_option linter.unusedVariables false
set_option linter.unusedSimpArgs false
open Go.RowKit

theorem ret_bool' {a b : Bool} (h : a = b) : Ending.returned (.bool a) = .returned (.bool b) := by rw [h]
theorem ret_int' {k : IntKind} {a b : Int} (h : a = b) : Ending.returned (.int k a) = .returned (.int k b) := by rw [h]

/-- what symver answers of a symbol -/
def rightErr (s : SymL) : Int := if symRightB s = true then 0 else 70
theorem rightErr_bad {s : SymL} (h : symRightB s = false) : rightErr s = 70 := by rw [rightErr, h]; rfl
theorem rightErr_ok {s : SymL} (h : symRightB s = true) : rightErr s = 0 := by rw [rightErr, h]; rfl

/-- a symbol's cells in a block -/
theorem sym_cells {x : World} {b : Nat} {s : SymL} (h : x.heap[b]? = some (.cells #[.string ⟨s.name.toArray⟩, .string ⟨s.version.toArray⟩, .bool s.old, .int .i64 s.kind, .bool s.weak, .int .i64 s.vis, .bool s.defined, .int .i64 s.value, .int .i64 s.size] 54 (0, 0))) :
    x.cell? ⟨b, 0, none⟩ = some (.string ⟨s.name.toArray⟩) ∧ x.cell? ⟨b, 1, none⟩ = some (.string ⟨s.version.toArray⟩) ∧ x.cell? ⟨b, 2, none⟩ = some (.bool s.old) ∧ x.cell? ⟨b, 3, none⟩ = some (.int .i64 s.kind) ∧ x.cell? ⟨b, 4, none⟩ = some (.bool s.weak) ∧
    x.cell? ⟨b, 5, none⟩ = some (.int .i64 s.vis) ∧ x.cell? ⟨b, 6, none⟩ = some (.bool s.defined) ∧ x.cell? ⟨b, 7, none⟩ = some (.int .i64 s.value) ∧ x.cell? ⟨b, 8, none⟩ = some (.int .i64 s.size) := by
  refine ⟨?_, ?_, ?_, ?_, ?_, ?_, ?_, ?_, ?_⟩ <;> (rw [Lib.cell_of_heap h]; rfl)

set_option maxHeartbeats 1000000 in
set_option maxRecDepth 100000 in
theorem vseen_any (w : World) (s : SymL) :
    Calls Try.prog 61 #[.agg #[.string ⟨s.name.toArray⟩, .string ⟨s.version.toArray⟩, .bool s.old, .int .i64 s.kind, .bool s.weak, .int .i64 s.vis, .bool s.defined, .int .i64 s.value, .int .i64 s.size]] w fun e w' => e = .returned (.bool (seenB s)) ∧ Below w.heap.size w w' := by
  obtain ⟨name, version, old, kind, weak, vis, defined, value, size⟩ := s
  have Hr : Hid (seenB ⟨name, version, old, kind, weak, vis, defined, value, size⟩ = (defined && (vis != 2))) := Lib.hid (by
    simp only [seenB]
    by_cases h : vis = 2 <;> simp [h])
  cases defined
  all_goals
    go_enter Try.func61, Try.ntmps61
    go_wp2
    all_goals go_ret
    all_goals exact ⟨by rw [Hr.out]; rfl, (Below.refl _ _).alloc (Nat.le_refl _) _⟩
set_option maxHeartbeats 1000000 in
set_option maxRecDepth 100000 in
theorem jseen_any (w : World) (s : SymL) :
    Calls Try.prog 97 #[.agg #[.string ⟨s.name.toArray⟩, .string ⟨s.version.toArray⟩, .bool s.old, .int .i64 s.kind, .bool s.weak, .int .i64 s.vis, .bool s.defined, .int .i64 s.value, .int .i64 s.size]] w fun e w' => e = .returned (.bool (seenB s)) ∧ Below w.heap.size w w' := by
  obtain ⟨name, version, old, kind, weak, vis, defined, value, size⟩ := s
  have Hr : Hid (seenB ⟨name, version, old, kind, weak, vis, defined, value, size⟩ = (defined && (vis != 2))) := Lib.hid (by
    simp only [seenB]
    by_cases h : vis = 2 <;> simp [h])
  cases defined
  all_goals
    go_enter Try.func97, Try.ntmps97
    go_wp2
    all_goals go_ret
    all_goals exact ⟨by rw [Hr.out]; rfl, (Below.refl _ _).alloc (Nat.le_refl _) _⟩
set_option maxHeartbeats 1000000 in
theorem jsized_any (w : World) (s : List UInt8) :
    Calls Try.prog 71 #[.string ⟨s.toArray⟩] w fun e w' => e = .returned (.bool (sizedB s)) ∧ w' = w := by
  have hsz := size_mk s
  by_cases h1 : 1 ≤ s.length
  · have hd1 : decide (1 ≤ (s.length : Int)) = true := by rw [decide_eq_true_eq]; omega
    have Hr : Hid (sizedB s = decide ((s.length : Int) ≤ 200)) := Lib.hid (by rw [sizedB, Bool.eq_iff_iff]; simp; omega)
    go_enter Try.func71, Try.ntmps71
    go_wp2
    go_ret
    exact ⟨by rw [Hr.out]; rfl, rfl⟩
  · have hd1 : decide (1 ≤ (s.length : Int)) = false := by rw [decide_eq_false_iff_not]; omega
    have Hr : Hid (sizedB s = false) := Lib.hid (by rw [sizedB]; simp [h1])
    go_enter Try.func71, Try.ntmps71
    go_wp2
    go_ret
    exact ⟨by rw [Hr.out]; rfl, rfl⟩

set_option maxHeartbeats 8000000 in
set_option maxRecDepth 100000 in
theorem vright_any (w : World) (s : SymL) (hs : SymOk s) :
    Calls Try.prog 58 #[.agg #[.string ⟨s.name.toArray⟩, .string ⟨s.version.toArray⟩, .bool s.old, .int .i64 s.kind, .bool s.weak, .int .i64 s.vis, .bool s.defined, .int .i64 s.value, .int .i64 s.size]] w fun e w' => e = .returned (.int .i64 (rightErr s)) ∧ Below w.heap.size w w' := by
  have hz1 := hs.name
  have hz2 := hs.version
  have hsz1 := size_mk s.name
  have hsz2 := size_mk s.version
  have F1 := Lib.hid (heap_alloc_new w (.cells #[.string ⟨s.name.toArray⟩, .string ⟨s.version.toArray⟩, .bool s.old, .int .i64 s.kind, .bool s.weak, .int .i64 s.vis, .bool s.defined, .int .i64 s.value, .int .i64 s.size] 54 (0, 0)))
  have B1 := Lib.hid ((Below.refl w.heap.size w).alloc (Nat.le_refl _) (.cells #[.string ⟨s.name.toArray⟩, .string ⟨s.version.toArray⟩, .bool s.old, .int .i64 s.kind, .bool s.weak, .int .i64 s.vis, .bool s.defined, .int .i64 s.value, .int .i64 s.size] 54 (0, 0)))
  go_enter Try.func58, Try.ntmps58
  go_wp2_with fail
  refine (vname_any _ s.name hz1).mono ?_
  rintro e w2 ⟨rfl, hb2⟩
  have F2 := Lib.hid ((hb2.block w.heap.size (by simp)).trans F1.out)
  have B2 := Lib.hid (B1.out.trans (hb2.mono (by simp)))
  obtain ⟨c0, c1, c2, c3, c4, c5, c6, c7, c8⟩ := sym_cells F2.out
  clear hb2
  cases hn : nameB s.name with
  | false =>
    have Hr : Hid (rightErr s = 70) := Lib.hid (rightErr_bad (by simp [symRightB, hn]))
    cases hd : s.defined
    all_goals
      rw [hd] at c6
      go_wp2
      all_goals go_ret
      all_goals exact ⟨by rw [Hr.out]; rfl, B2.out⟩
  | true =>
    have Hb : Hid (symRightB s = false → rightErr s = 70) := Lib.hid rightErr_bad
    have Ho : Hid (symRightB s = true → rightErr s = 0) := Lib.hid rightErr_ok
    cases hq : s.version.isEmpty with
    | true =>
      have hv : s.version = [] := List.isEmpty_iff.1 hq
      have Hv := Lib.hid hv
      have Hn := Lib.hid hn
      clear hv
      cases hd : s.defined
      all_goals
        have Hd := Lib.hid hd
        rw [hd] at c6
        cases ho : s.old
        all_goals
          have Ho2 := Lib.hid ho
          rw [ho] at c2
          clear ho
          go_wp2
          all_goals go_ret
          all_goals (try simp only [beq_eq_false_iff_ne, bne_eq_false_iff_eq, bne_iff_ne, beq_iff_eq, ne_eq] at *)
          all_goals first
            | (refine ⟨ret_int' (Ho.out ?_).symm, B2.out⟩; simp [symRightB, Hn.out, Hv.out, Hd.out, Ho2.out]; done)
            | (refine ⟨ret_int' (Ho.out ?_).symm, B2.out⟩; simp [symRightB, Hn.out, Hv.out, Hd.out, Ho2.out]; omega)
            | (refine ⟨ret_int' (Hb.out ?_).symm, B2.out⟩; simp [symRightB, Hn.out, Hv.out, Hd.out, Ho2.out]; done)
            | (refine ⟨ret_int' (Hb.out ?_).symm, B2.out⟩; simp [symRightB, Hn.out, Hv.out, Hd.out, Ho2.out]; intros; omega)
    | false =>
      have Hv : Hid (decide (s.version = []) = false) := Lib.hid (by rw [decide_eq_false_iff_not]; intro e; rw [e] at hq; simp at hq)
      have Hn := Lib.hid hn
      go_wp2_with fail
      refine (vname_any _ s.version hz2).mono ?_
      rintro e w3 ⟨rfl, hb3⟩
      have F3 := Lib.hid ((hb3.block w.heap.size (by have := B2.out.size; have := World.block_lt_of_cell? _ _ c0; omega)).trans F2.out)
      have B3 := Lib.hid (B2.out.trans (hb3.mono B2.out.size))
      clear hb3 c0 c1 c2 c3 c4 c5 c6 c7 c8
      obtain ⟨c0, c1, c2, c3, c4, c5, c6, c7, c8⟩ := sym_cells F3.out
      cases hv2 : nameB s.version with
      | false =>
        have Hr : Hid (rightErr s = 70) := Lib.hid (rightErr_bad (by simp [symRightB, Hv.out, hv2]))
        cases hd : s.defined
        all_goals
          rw [hd] at c6
          go_wp2
          all_goals go_ret
          all_goals exact ⟨by rw [Hr.out]; rfl, B3.out⟩
      | true =>
        have Hv2 := Lib.hid hv2
        cases hd : s.defined
        all_goals
          have Hd := Lib.hid hd
          rw [hd] at c6
          cases ho : s.old
          all_goals
            have Ho2 := Lib.hid ho
            rw [ho] at c2
            clear ho
            go_wp2
            all_goals go_ret
            all_goals (try simp only [beq_eq_false_iff_ne, bne_eq_false_iff_eq, bne_iff_ne, beq_iff_eq, ne_eq] at *)
            all_goals first
              | (refine ⟨ret_int' (Ho.out ?_).symm, B3.out⟩; simp [symRightB, Hn.out, Hv.out, Hv2.out, Hd.out, Ho2.out]; done)
              | (refine ⟨ret_int' (Ho.out ?_).symm, B3.out⟩; simp [symRightB, Hn.out, Hv.out, Hv2.out, Hd.out, Ho2.out]; omega)
              | (refine ⟨ret_int' (Hb.out ?_).symm, B3.out⟩; simp [symRightB, Hn.out, Hv.out, Hv2.out, Hd.out, Ho2.out]; done)
              | (refine ⟨ret_int' (Hb.out ?_).symm, B3.out⟩; simp [symRightB, Hn.out, Hv.out, Hv2.out, Hd.out, Ho2.out]; intros; omega)

end Go.Proofs.Ytbliedldlimpgaa

namespace Go.Proofs.Ytbliedldlimpgaa
set_option linter.unusedVariables false
set_option linter.unusedSimpArgs false
open Go.RowKit

/-- what an image's value is, and what it reads as -/
structure ImgV where
  segs : Value
  needed : Value
  runPath : Value
  syms : Value
  buckets : Value
  words : Value
  relocs : Value
  slots : Value
  init : Value
  fini : Value
  tls : Value
/-- an image's fifteen cells -/
def imgCells (v : ImgV) (im : ImgL) : Array Value :=
  #[.string ⟨im.name.toArray⟩, .int .i64 im.flags, v.segs, v.needed, v.runPath, v.syms, v.buckets, v.words, .int .i64 im.shift, v.relocs, v.slots, v.init, v.fini, v.tls, .int .i64 im.tlsSize]

theorem any_take_succ {α : Type} (f : α → Bool) (l : List α) (k : Nat) (x : α) (hx : l[k]? = some x) (ha : (l.take k).any f = false) (hf : f x = false) : (l.take (k + 1)).any f = false := by
  obtain ⟨h, rfl⟩ := List.getElem?_eq_some_iff.1 hx
  rw [List.take_succ_eq_append_getElem h, List.any_append, ha]
  simp [hf]
theorem any_hit {α : Type} (f : α → Bool) (l : List α) (k : Nat) (x : α) (hx : l[k]? = some x) (hf : f x = true) : l.any f = true :=
  List.any_eq_true.2 ⟨x, List.mem_of_getElem? hx, hf⟩

/-- a segment that may be asked: its numbers are small -/
def SegOk (s : SegL) : Prop := 0 ≤ s.at_ ∧ s.at_ ≤ 65536 ∧ 1 ≤ s.size ∧ s.size ≤ 65536 ∧ 0 ≤ s.perm ∧ s.perm ≤ 7
def holdB (s : SegL) (at_ n p : Int) : Bool := decide (s.at_ ≤ at_) && decide (n ≤ s.size) && decide (at_ - s.at_ ≤ s.size - n) && permB s.perm p
theorem holdsB_any (l : List SegL) (at_ n p : Int) : holdsB l at_ n p = l.any fun s => holdB s at_ n p := rfl
theorem permB_bits (p q : Int) (h0 : 0 ≤ p) (h1 : p ≤ 7) (hq : q = 0 ∨ q = 2 ∨ q = 4) : (bits BinOp.and .i64 p q == q) = permB p q := by
  obtain ⟨n, rfl⟩ : ∃ n : Nat, p = n := ⟨p.toNat, by omega⟩
  have hn : n ≤ 7 := by omega
  have h : ∀ m : Nat, m ≤ 7 → (bits BinOp.and .i64 ((m : Nat) : Int) 0 == 0) = permB ((m : Nat) : Int) 0 ∧ (bits BinOp.and .i64 ((m : Nat) : Int) 2 == 2) = permB ((m : Nat) : Int) 2 ∧ (bits BinOp.and .i64 ((m : Nat) : Int) 4 == 4) = permB ((m : Nat) : Int) 4 := by decide +kernel
  rcases hq with rfl | rfl | rfl
  · exact (h n hn).1
  · exact (h n hn).2.1
  · exact (h n hn).2.2

set_option maxHeartbeats 8000000 in
set_option maxRecDepth 100000 in
theorem holds_any (w : World) (v : ImgV) (im : ImgL) (at_ n p : Int) (hs : LB kSeg (· < w.heap.size) w v.segs im.segs) (hok : ∀ s ∈ im.segs, SegOk s)
    (ha : -9223372036854775808 ≤ at_ ∧ at_ ≤ 9223372036854775807) (hn : 0 ≤ n ∧ n ≤ 9223372036854775807) (hp : p = 0 ∨ p = 2 ∨ p = 4) :
    Calls Try.prog 59 #[.agg (imgCells v im), .agg #[.int .i64 at_, .int .i64 n, .int .i64 p]] w fun e w' => e = .returned (.bool (holdsB im.segs at_ n p)) ∧ Below w.heap.size w w' := by
  rw [holdsB_any]
  unfold imgCells
  obtain ⟨sa, sb, soff, scap, hsv, hsm, hsc, hat⟩ := hs.at
  rw [hsv]
  have Hat := Lib.hid hat
  have Hok := Lib.hid hok
  have Hp := Lib.hid hp
  clear hs hat hok hp hsv
  go_enter Try.func59, Try.ntmps59
  go_wp2
  go_loopw [10] (fun i wr => ∃ (k : Nat), i = .int .i64 k ∧ k ≤ im.segs.length ∧ (im.segs.take k).any (fun s => holdB s at_ n p) = false ∧ Below w.heap.size w wr ∧ wr.heap[w.heap.size + 1]? = some (.cells #[.int .i64 at_, .int .i64 n, .int .i64 p] 111 (0, 0))) (fun i _ => im.segs.length - (intOf i).toNat)
  case atStart => exact ⟨0, rfl, Nat.zero_le _, rfl, ((Below.refl _ _).alloc (Nat.le_refl _) _).alloc (by simp) _, by simpa only [World.size_alloc] using heap_alloc_new (w.alloc _) _⟩
  case round =>
    obtain ⟨k, rfl, hk, hno, hbel, hq⟩ := hrel
    have Hno := Lib.hid hno
    have Hbel := Lib.hid hbel
    have Hq := Lib.hid hq
    have hBr := hbel.size
    by_cases hlt : k < im.segs.length
    · obtain rfl := Hat.out.addr (by omega)
      obtain ⟨s, hx⟩ : ∃ s, im.segs[k]? = some s := ⟨_, List.getElem?_eq_getElem hlt⟩
      obtain ⟨c, g0, g1, g2, g3, hc⟩ := (Hat.out.below hbel).seg4 k s hx
      obtain ⟨ca, cc, rfl⟩ := hc.form
      clear hc
      obtain ⟨o1, o2, o3, o4, o5, o6⟩ := Hok.out s (List.mem_of_getElem? hx)
      have q0 : wr.cell? ⟨w.heap.size + 1, 0, none⟩ = some (.int .i64 at_) := by rw [Lib.cell_of_heap hq]; rfl
      have q1 : wr.cell? ⟨w.heap.size + 1, 1, none⟩ = some (.int .i64 n) := by rw [Lib.cell_of_heap hq]; rfl
      have q2 : wr.cell? ⟨w.heap.size + 1, 2, none⟩ = some (.int .i64 p) := by rw [Lib.cell_of_heap hq]; rfl
      have hpb := permB_bits s.perm p o5 o6 Hp.out
      have Hhit : Hid (holdB s at_ n p = true → im.segs.any (fun s => holdB s at_ n p) = true) := Lib.hid (any_hit (fun s => holdB s at_ n p) _ k s hx)
      have Hmiss : Hid (holdB s at_ n p = false → (im.segs.take (k + 1)).any (fun s => holdB s at_ n p) = false) := Lib.hid (any_take_succ (fun s => holdB s at_ n p) _ k s hx Hno.out)
      have Hd : Hid (holdB s at_ n p = (decide (s.at_ ≤ at_) && decide (n ≤ s.size) && decide (at_ - s.at_ ≤ s.size - n) && permB s.perm p)) := Lib.hid rfl
      have hzq : w.heap.size + 1 < wr.heap.size := by
        rcases Nat.lt_or_ge (w.heap.size + 1) wr.heap.size with h' | h'
        · exact h'
        · rw [Array.getElem?_eq_none h'] at hq; cases hq
      clear hno hbel hq hx
      generalize holdB s at_ n p = hb at *
      generalize s.at_ = sat at *
      generalize s.size = ssz at *
      generalize s.perm = spm at *
      generalize permB spm p = pb at *
      by_cases h1 : sat ≤ at_
      · by_cases h2 : n ≤ ssz
        · by_cases h3 : at_ - sat ≤ ssz - n
          · cases pb with
            | true =>
              have Hh := Lib.hid (Hhit.out (by rw [Hd.out]; simp [h1, h2, h3]))
              go_wp2
              go_ret
              exact ⟨by rw [Hh.out]; rfl, Hbel.out.alloc hBr _⟩
            | false =>
              have Hm := Lib.hid (Hmiss.out (by rw [Hd.out]; simp))
              go_wp2
              go_roundw
              case rel => exact ⟨k + 1, by go_num, by omega, Hm.out, Hbel.out.alloc hBr _, by rw [Lib.alloc_old _ _ _ hzq]; exact Hq.out⟩
              case measure => simp [intOf]; omega
          · have Hm := Lib.hid (Hmiss.out (by rw [Hd.out]; simp [h3]))
            go_wp2
            go_roundw
            case rel => exact ⟨k + 1, by go_num, by omega, Hm.out, Hbel.out.alloc hBr _, by rw [Lib.alloc_old _ _ _ hzq]; exact Hq.out⟩
            case measure => simp [intOf]; omega
        · have Hm := Lib.hid (Hmiss.out (by rw [Hd.out]; simp [h2]))
          go_wp2
          go_roundw
          case rel => exact ⟨k + 1, by go_num, by omega, Hm.out, Hbel.out.alloc hBr _, by rw [Lib.alloc_old _ _ _ hzq]; exact Hq.out⟩
          case measure => simp [intOf]; omega
      · have Hm := Lib.hid (Hmiss.out (by rw [Hd.out]; simp [h1]))
        go_wp2
        go_roundw
        case rel => exact ⟨k + 1, by go_num, by omega, Hm.out, Hbel.out.alloc hBr _, by rw [Lib.alloc_old _ _ _ hzq]; exact Hq.out⟩
        case measure => simp [intOf]; omega
    · have Hn2 : Hid (im.segs.any (fun s => holdB s at_ n p) = false) := Lib.hid (by have := Hno.out; rw [List.take_of_length_le (by omega)] at this; exact this)
      clear hno hbel hq
      go_wp2
      go_ret
      exact ⟨by rw [Hn2.out]; rfl, Hbel.out⟩

end Go.Proofs.Ytbliedldlimpgaa

namespace Go.Proofs.Ytbliedldlimpgaa
set_option linter.unusedVariables false
set_option linter.unusedSimpArgs false
open Go.RowKit

set_option maxHeartbeats 8000000 in
set_option maxRecDepth 100000 in
theorem jstands_any (w : World) (v : ImgV) (im : ImgL) (at_ n p : Int) (hs : LB kSeg (· < w.heap.size) w v.segs im.segs) (hok : ∀ s ∈ im.segs, SegOk s)
    (ha : -9223372036854775808 ≤ at_ ∧ at_ ≤ 9223372036854775807) (hn : 0 ≤ n ∧ n ≤ 9223372036854775807) (hp : p = 0 ∨ p = 2 ∨ p = 4) :
    Calls Try.prog 17 #[.agg (imgCells v im), .int .i64 at_, .int .i64 n, .int .i64 p] w fun e w' => e = .returned (.bool (holdsB im.segs at_ n p)) ∧ Below w.heap.size w w' := by
  rw [holdsB_any]
  unfold imgCells
  obtain ⟨sa, sb, soff, scap, hsv, hsm, hsc, hat⟩ := hs.at
  rw [hsv]
  have Hat := Lib.hid hat
  have Hok := Lib.hid hok
  have Hp := Lib.hid hp
  clear hs hat hok hp hsv
  go_enter Try.func17, Try.ntmps17
  go_wp2
  go_loopw [9] (fun i wr => ∃ (k : Nat), i = .int .i64 k ∧ k ≤ im.segs.length ∧ (im.segs.take k).any (fun s => holdB s at_ n p) = false ∧ Below w.heap.size w wr ∧ wr.cell? ⟨w.heap.size, 2, none⟩ = some (.slice sa im.segs.length scap) ∧ w.heap.size < wr.heap.size) (fun i _ => im.segs.length - (intOf i).toNat)
  case atStart => exact ⟨0, rfl, Nat.zero_le _, rfl, (Below.refl _ _).alloc (Nat.le_refl _) _, by simp, by simp⟩
  case round =>
    obtain ⟨k, rfl, hk, hno, hbel, hq, hzq⟩ := hrel
    have Hno := Lib.hid hno
    have Hbel := Lib.hid hbel
    have Hq := Lib.hid hq
    have hBr := hbel.size
    by_cases hlt : k < im.segs.length
    · obtain rfl := Hat.out.addr (by omega)
      obtain ⟨s, hx⟩ : ∃ s, im.segs[k]? = some s := ⟨_, List.getElem?_eq_getElem hlt⟩
      obtain ⟨c, g0, g1, g2, g3, hc⟩ := (Hat.out.below hbel).seg4 k s hx
      obtain ⟨ca, cc, rfl⟩ := hc.form
      clear hc
      obtain ⟨o1, o2, o3, o4, o5, o6⟩ := Hok.out s (List.mem_of_getElem? hx)
      have hpb := permB_bits s.perm p o5 o6 Hp.out
      have Hhit : Hid (holdB s at_ n p = true → im.segs.any (fun s => holdB s at_ n p) = true) := Lib.hid (any_hit (fun s => holdB s at_ n p) _ k s hx)
      have Hmiss : Hid (holdB s at_ n p = false → (im.segs.take (k + 1)).any (fun s => holdB s at_ n p) = false) := Lib.hid (any_take_succ (fun s => holdB s at_ n p) _ k s hx Hno.out)
      have Hd : Hid (holdB s at_ n p = (decide (s.at_ ≤ at_) && decide (n ≤ s.size) && decide (at_ - s.at_ ≤ s.size - n) && permB s.perm p)) := Lib.hid rfl
      clear hno hbel hx
      generalize holdB s at_ n p = hb at *
      generalize s.at_ = sat at *
      generalize s.size = ssz at *
      generalize s.perm = spm at *
      generalize permB spm p = pb at *
      cases pb with
      | false =>
        have Hm := Lib.hid (Hmiss.out (by rw [Hd.out]; simp))
        go_wp2
        go_roundw
        case rel => exact ⟨k + 1, by go_num, by omega, Hm.out, Hbel.out.alloc hBr _, by rw [World.cell?_alloc_lt _ _ _ hzq]; exact Hq.out, by simp; omega⟩
        case measure => simp [intOf]; omega
      | true =>
        by_cases h1 : sat ≤ at_
        case neg =>
          have Hm := Lib.hid (Hmiss.out (by rw [Hd.out]; simp [h1]))
          go_wp2
          go_roundw
          case rel => exact ⟨k + 1, by go_num, by omega, Hm.out, Hbel.out.alloc hBr _, by rw [World.cell?_alloc_lt _ _ _ hzq]; exact Hq.out, by simp; omega⟩
          case measure => simp [intOf]; omega
        by_cases h2 : n ≤ ssz
        case neg =>
          have Hm := Lib.hid (Hmiss.out (by rw [Hd.out]; simp [h2]))
          go_wp2
          go_roundw
          case rel => exact ⟨k + 1, by go_num, by omega, Hm.out, Hbel.out.alloc hBr _, by rw [World.cell?_alloc_lt _ _ _ hzq]; exact Hq.out, by simp; omega⟩
          case measure => simp [intOf]; omega
        by_cases h3 : at_ ≤ sat + ssz - n
        · have Hh := Lib.hid (Hhit.out (by rw [Hd.out]; simp [h1, h2]; omega))
          go_wp2
          go_ret
          exact ⟨by rw [Hh.out]; rfl, Hbel.out.alloc hBr _⟩
        · have Hm := Lib.hid (Hmiss.out (by rw [Hd.out]; simp [h1, h2]; omega))
          go_wp2
          go_roundw
          case rel => exact ⟨k + 1, by go_num, by omega, Hm.out, Hbel.out.alloc hBr _, by rw [World.cell?_alloc_lt _ _ _ hzq]; exact Hq.out, by simp; omega⟩
          case measure => simp [intOf]; omega
    · have Hn2 : Hid (im.segs.any (fun s => holdB s at_ n p) = false) := Lib.hid (by have := Hno.out; rw [List.take_of_length_le (by omega)] at this; exact this)
      clear hno hbel
      go_wp2
      go_ret
      exact ⟨by rw [Hn2.out]; rfl, Hbel.out⟩

end Go.Proofs.Ytbliedldlimpgaa

namespace Go.Proofs.Ytbliedldlimpgaa
set_option linter.unusedVariables false
set_option linter.unusedSimpArgs false
open Go.RowKit

theorem symAt_neg (im : ImgL) (i : Int) (h : i < 0) : symAt im i = none := by rw [symAt, if_pos h]
theorem symAt_far (im : ImgL) (i : Int) (h : (im.syms.length : Int) ≤ i) : symAt im i = none := by
  rw [symAt, if_neg (by omega)]
  exact List.getElem?_eq_none (by omega)
theorem symAt_in (im : ImgL) (k : Nat) (s : SymL) (h : im.syms[k]? = some s) : symAt im k = some s := by
  rw [symAt, if_neg (by omega), Int.toNat_natCast]; exact h
/-- no symbol at all -/
def noSym : SymL := ⟨[], [], false, 0, false, 0, false, 0, 0⟩
def symD (im : ImgL) (i : Int) : SymL := (symAt im i).getD noSym
/-- what sym answers -/
def symV (im : ImgL) (i : Int) : Value := .tuple #[.agg (symCells (symD im i)).toArray, .bool (symAt im i).isSome]

set_option maxHeartbeats 4000000 in
set_option maxRecDepth 100000 in
theorem isym_any (w : World) (v : ImgV) (im : ImgL) (i : Int) (hs : LB kSym (· < w.heap.size) w v.syms im.syms) (hi : -9223372036854775808 ≤ i ∧ i ≤ 9223372036854775807) :
    Calls Try.prog 69 #[.agg (imgCells v im), .int .i64 i] w fun e w' => e = .returned (symV im i) ∧ Below w.heap.size w w' := by
  unfold imgCells
  obtain ⟨sa, sb, soff, scap, hsv, hsm, hsc, hat⟩ := hs.at
  rw [hsv]
  have Hat := Lib.hid hat
  clear hs hat hsv
  by_cases h1 : i < 0
  · have Hv : Hid (symV im i = .tuple #[.agg #[.string ⟨#[]⟩, .string ⟨#[]⟩, .bool false, .int .i64 0, .bool false, .int .i64 0, .bool false, .int .i64 0, .int .i64 0], .bool false]) := Lib.hid (by rw [symV, symD, symAt_neg im i h1]; rfl)
    go_enter Try.func69, Try.ntmps69
    go_wp2
    refine bodyPost_ret (v := .tuple #[.agg #[.string ⟨#[]⟩, .string ⟨#[]⟩, .bool false, .int .i64 0, .bool false, .int .i64 0, .bool false, .int .i64 0, .int .i64 0], .bool false]) (by simp [results, Try.results69, go_sem]) rfl ⟨by rw [Hv.out], ((Below.refl _ _).alloc (Nat.le_refl _) _).alloc (by simp) _⟩
  by_cases h2 : (im.syms.length : Int) ≤ i
  · have Hv : Hid (symV im i = .tuple #[.agg #[.string ⟨#[]⟩, .string ⟨#[]⟩, .bool false, .int .i64 0, .bool false, .int .i64 0, .bool false, .int .i64 0, .int .i64 0], .bool false]) := Lib.hid (by rw [symV, symD, symAt_far im i h2]; rfl)
    go_enter Try.func69, Try.ntmps69
    go_wp2
    refine bodyPost_ret (v := .tuple #[.agg #[.string ⟨#[]⟩, .string ⟨#[]⟩, .bool false, .int .i64 0, .bool false, .int .i64 0, .bool false, .int .i64 0, .int .i64 0], .bool false]) (by simp [results, Try.results69, go_sem]) rfl ⟨by rw [Hv.out], ((Below.refl _ _).alloc (Nat.le_refl _) _).alloc (by simp) _⟩
  · obtain ⟨k, rfl⟩ : ∃ k : Nat, i = k := ⟨i.toNat, by omega⟩
    have hlt : k < im.syms.length := by omega
    obtain rfl := Hat.out.addr (by omega)
    obtain ⟨s, hx⟩ : ∃ s, im.syms[k]? = some s := ⟨_, List.getElem?_eq_getElem hlt⟩
    obtain ⟨_, g0, g1, g2, g3, g4, g5, g6, g7, g8⟩ := Hat.out.sym9 k s hx
    have Hv : Hid (symV im (k : Int) = .tuple #[.agg #[.string ⟨s.name.toArray⟩, .string ⟨s.version.toArray⟩, .bool s.old, .int .i64 s.kind, .bool s.weak, .int .i64 s.vis, .bool s.defined, .int .i64 s.value, .int .i64 s.size], .bool true]) := Lib.hid (by rw [symV, symD, symAt_in im k s hx]; rfl)
    have hsb := World.block_lt_of_cell? _ _ g0
    clear hx h1 h2
    obtain ⟨name, version, old, kind, weak, vis, defined, value, size⟩ := s
    simp only at *
    go_enter Try.func69, Try.ntmps69
    go_wp2
    refine bodyPost_ret (v := .tuple #[.agg #[.string ⟨name.toArray⟩, .string ⟨version.toArray⟩, .bool old, .int .i64 kind, .bool weak, .int .i64 vis, .bool defined, .int .i64 value, .int .i64 size], .bool true]) (by simp [results, Try.results69, go_sem]) rfl ⟨by rw [Hv.out], ((Below.refl _ _).alloc (Nat.le_refl _) _).alloc (by simp) _⟩

set_option maxHeartbeats 1000000 in
theorem ismall_any (w : World) (n : Int) :
    Calls Try.prog 66 #[.int .i64 n] w fun e w' => e = .returned (.bool (decide (-4294967296 ≤ n) && decide (n ≤ 4294967296))) ∧ w' = w := by
  by_cases h1 : -4294967296 ≤ n
  · have hd1 : decide (-4294967296 ≤ n) = true := by rw [decide_eq_true_eq]; exact h1
    go_enter Try.func66, Try.ntmps66
    go_wp2
    go_ret
    exact ⟨ret_bool' (by simp [h1]), rfl⟩
  · have hd1 : decide (-4294967296 ≤ n) = false := by rw [decide_eq_false_iff_not]; exact h1
    go_enter Try.func66, Try.ntmps66
    go_wp2
    go_ret
    exact ⟨ret_bool' (by simp [h1]), rfl⟩

theorem upL_same (n : Int) (h0 : 0 ≤ n) (h : n % 64 = 0) : upL n = n := by unfold upL; omega
theorem upL_next (n : Int) (h0 : 0 ≤ n) (h : n % 64 ≠ 0) : upL n = n - n % 64 + 64 := by unfold upL; omega
set_option maxHeartbeats 1000000 in
theorem jup_any (w : World) (n : Int) (h0 : 0 ≤ n) (h1 : n ≤ 1000000) :
    Calls Try.prog 72 #[.int .i64 n] w fun e w' => e = .returned (.int .i64 (upL n)) ∧ w' = w := by
  by_cases h : n % 64 = 0
  · have hb : (n % 64 == 0) = true := by rw [beq_iff_eq]; exact h
    have Hr := Lib.hid (upL_same n h0 h)
    clear h
    go_enter Try.func72, Try.ntmps72
    go_wp2
    go_ret
    exact ⟨by rw [Hr.out]; rfl, rfl⟩
  · have hb : (n % 64 == 0) = false := by rw [beq_eq_false_iff_ne]; exact h
    have Hr := Lib.hid (upL_next n h0 h)
    clear h
    go_enter Try.func72, Try.ntmps72
    go_wp2
    go_ret
    exact ⟨by rw [Hr.out]; rfl, rfl⟩

end Go.Proofs.Ytbliedldlimpgaa

namespace Go.Proofs.Ytbliedldlimpgaa
set_option linter.unusedVariables false
set_option linter.unusedSimpArgs false
open Go.RowKit

/-- an image's cells in a block -/
theorem img_cells {x : World} {b : Nat} {c0 c1 c2 c3 c4 c5 c6 c7 c8 c9 c10 c11 c12 c13 c14 : Value} (h : x.heap[b]? = some (.cells #[c0, c1, c2, c3, c4, c5, c6, c7, c8, c9, c10, c11, c12, c13, c14] 38 (0, 0))) :
    x.cell? ⟨b, 0, none⟩ = some c0 ∧ x.cell? ⟨b, 1, none⟩ = some c1 ∧ x.cell? ⟨b, 2, none⟩ = some c2 ∧ x.cell? ⟨b, 3, none⟩ = some c3 ∧ x.cell? ⟨b, 4, none⟩ = some c4 ∧ x.cell? ⟨b, 5, none⟩ = some c5 ∧ x.cell? ⟨b, 6, none⟩ = some c6 ∧ x.cell? ⟨b, 7, none⟩ = some c7 ∧
    x.cell? ⟨b, 8, none⟩ = some c8 ∧ x.cell? ⟨b, 9, none⟩ = some c9 ∧ x.cell? ⟨b, 10, none⟩ = some c10 ∧ x.cell? ⟨b, 11, none⟩ = some c11 ∧ x.cell? ⟨b, 12, none⟩ = some c12 ∧ x.cell? ⟨b, 13, none⟩ = some c13 ∧ x.cell? ⟨b, 14, none⟩ = some c14 := by
  refine ⟨?_, ?_, ?_, ?_, ?_, ?_, ?_, ?_, ?_, ?_, ?_, ?_, ?_, ?_, ?_⟩ <;> (rw [Lib.cell_of_heap h]; rfl)

theorem wideL_none {im : ImgL} {r : RelL} (h : symAt im r.sym = none) : wideL im r = 8 := by rw [wideL, h]
theorem wideL_some {im : ImgL} {r : RelL} {s : SymL} (h : symAt im r.sym = some s) : wideL im r = if r.kind = 2 then s.size else 8 := by rw [wideL, h]

set_option maxHeartbeats 4000000 in
set_option maxRecDepth 100000 in
theorem iwide_any (w : World) (v : ImgV) (im : ImgL) (r : RelL) (hs : LB kSym (· < w.heap.size) w v.syms im.syms) (hi : -9223372036854775808 ≤ r.sym ∧ r.sym ≤ 9223372036854775807) :
    Calls Try.prog 68 #[.agg (imgCells v im), .agg #[.int .i64 r.at_, .int .i64 r.kind, .int .i64 r.sym, .int .i64 r.add]] w fun e w' => e = .returned (.int .i64 (wideL im r)) ∧ Below w.heap.size w w' := by
  have B1 := Lib.hid (((Below.refl w.heap.size w).alloc (Nat.le_refl _) (.cells (imgCells v im) 38 (0, 0))).alloc (by simp) (.cells #[.int .i64 r.at_, .int .i64 r.kind, .int .i64 r.sym, .int .i64 r.add] 57 (0, 0)))
  have hsv := hs.form
  have HS := Lib.hid (isym_any ((w.alloc (.cells (imgCells v im) 38 (0, 0))).alloc (.cells #[.int .i64 r.at_, .int .i64 r.kind, .int .i64 r.sym, .int .i64 r.add] 57 (0, 0))) v im r.sym ((hs.below B1.out).mono B1.out.size) hi)
  have F1 : ((w.alloc (.cells (imgCells v im) 38 (0, 0))).alloc (.cells #[.int .i64 r.at_, .int .i64 r.kind, .int .i64 r.sym, .int .i64 r.add] 57 (0, 0))).heap[w.heap.size + 1]? = some (.cells #[.int .i64 r.at_, .int .i64 r.kind, .int .i64 r.sym, .int .i64 r.add] 57 (0, 0)) := by
    simpa only [World.size_alloc] using heap_alloc_new (w.alloc (.cells (imgCells v im) 38 (0, 0))) _
  have HF1 := Lib.hid F1
  have Hn : Hid (symAt im r.sym = none → wideL im r = 8) := Lib.hid wideL_none
  have Hsm : Hid (∀ s, symAt im r.sym = some s → wideL im r = if r.kind = 2 then s.size else 8) := Lib.hid (fun s h => wideL_some h)
  clear hs F1
  unfold imgCells at *
  go_enter Try.func68, Try.ntmps68
  go_wp2_with fail
  refine HS.out.mono ?_
  rintro e w2 ⟨rfl, hb2⟩
  have F2 := (hb2.block (w.heap.size + 1) (by simp)).trans HF1.out
  have B2 := Lib.hid (B1.out.trans (hb2.mono (by simp; omega)))
  have q1 : w2.cell? ⟨w.heap.size + 1, 1, none⟩ = some (.int .i64 r.kind) := by rw [Lib.cell_of_heap F2]; rfl
  have hB2 := B2.out.size
  have hzq : w.heap.size + 1 < w2.heap.size := World.block_lt_of_cell? _ _ q1
  clear hb2 F2 HS
  cases hsa : symAt im r.sym with
  | none =>
    have Hw := Lib.hid (Hn.out hsa)
    have hv : symV im r.sym = .tuple #[.agg #[.string ⟨#[]⟩, .string ⟨#[]⟩, .bool false, .int .i64 0, .bool false, .int .i64 0, .bool false, .int .i64 0, .int .i64 0], .bool false] := by rw [symV, symD, hsa]; rfl
    rw [hv]
    clear hv hsa
    go_wp2
    go_ret
    exact ⟨by rw [Hw.out]; rfl, B2.out.alloc hB2 _⟩
  | some s =>
    have Hw := Lib.hid (Hsm.out s hsa)
    have hv : symV im r.sym = .tuple #[.agg #[.string ⟨s.name.toArray⟩, .string ⟨s.version.toArray⟩, .bool s.old, .int .i64 s.kind, .bool s.weak, .int .i64 s.vis, .bool s.defined, .int .i64 s.value, .int .i64 s.size], .bool true] := by rw [symV, symD, hsa]; rfl
    rw [hv]
    clear hv hsa
    by_cases hk : r.kind = 2
    · have Hw2 : Hid (wideL im r = s.size) := Lib.hid (by rw [Hw.out, if_pos hk])
      go_wp2
      go_ret
      exact ⟨by rw [Hw2.out]; rfl, B2.out.alloc hB2 _⟩
    · have Hw2 : Hid (wideL im r = 8) := Lib.hid (by rw [Hw.out, if_neg hk])
      have hkb : (r.kind == 2) = false := by rw [beq_eq_false_iff_ne]; exact hk
      go_wp2
      go_ret
      exact ⟨by rw [Hw2.out]; rfl, B2.out.alloc hB2 _⟩

set_option maxHeartbeats 4000000 in
set_option maxRecDepth 100000 in
theorem jwide_any (w : World) (v : ImgV) (im : ImgL) (r : RelL) (hs : LB kSym (· < w.heap.size) w v.syms im.syms) :
    Calls Try.prog 18 #[.agg (imgCells v im), .agg #[.int .i64 r.at_, .int .i64 r.kind, .int .i64 r.sym, .int .i64 r.add]] w fun e w' => e = .returned (.int .i64 (wideL im r)) ∧ Below w.heap.size w w' := by
  unfold imgCells
  obtain ⟨sa, sb, soff, scap, hsv, hsm, hsc, hat⟩ := hs.at
  rw [hsv]
  have Hat := Lib.hid hat
  clear hs hat hsv
  obtain ⟨rat, rkind, rsym, radd⟩ := r
  simp only
  by_cases hk : rkind = 2
  case neg =>
    have Hw : Hid (wideL im ⟨rat, rkind, rsym, radd⟩ = 8) := Lib.hid (by
      rw [wideL]; split
      · rw [if_neg hk]
      · rfl)
    have hkb : (rkind == 2) = false := by rw [beq_eq_false_iff_ne]; exact hk
    clear hk
    go_enter Try.func18, Try.ntmps18
    go_wp2
    go_ret
    exact ⟨by rw [Hw.out]; rfl, ((Below.refl _ _).alloc (Nat.le_refl _) _).alloc (by simp) _⟩
  case pos =>
    subst hk
    by_cases h1 : rsym < 0
    · have Hw : Hid (wideL im ⟨rat, 2, rsym, radd⟩ = 8) := Lib.hid (wideL_none (symAt_neg im rsym h1))
      go_enter Try.func18, Try.ntmps18
      go_wp2
      go_ret
      exact ⟨by rw [Hw.out]; rfl, ((Below.refl _ _).alloc (Nat.le_refl _) _).alloc (by simp) _⟩
    by_cases h2 : (im.syms.length : Int) ≤ rsym
    · have Hw : Hid (wideL im ⟨rat, 2, rsym, radd⟩ = 8) := Lib.hid (wideL_none (symAt_far im rsym h2))
      go_enter Try.func18, Try.ntmps18
      go_wp2
      go_ret
      exact ⟨by rw [Hw.out]; rfl, ((Below.refl _ _).alloc (Nat.le_refl _) _).alloc (by simp) _⟩
    · obtain ⟨k, rfl⟩ : ∃ k : Nat, rsym = k := ⟨rsym.toNat, by omega⟩
      have hlt : k < im.syms.length := by omega
      obtain rfl := Hat.out.addr (by omega)
      obtain ⟨s, hx⟩ : ∃ s, im.syms[k]? = some s := ⟨_, List.getElem?_eq_getElem hlt⟩
      obtain ⟨_, g0, g1, g2, g3, g4, g5, g6, g7, g8⟩ := Hat.out.sym9 k s hx
      have Hw : Hid (wideL im ⟨rat, 2, (k : Int), radd⟩ = s.size) := Lib.hid (by rw [wideL_some (symAt_in im k s hx)]; rfl)
      have hsb := World.block_lt_of_cell? _ _ g0
      clear hx h1 h2 g0 g1 g2 g3 g4 g5 g6 g7
      go_enter Try.func18, Try.ntmps18
      go_wp2
      go_ret
      exact ⟨by rw [Hw.out]; rfl, ((Below.refl _ _).alloc (Nat.le_refl _) _).alloc (by simp) _⟩

end Go.Proofs.Ytbliedldlimpgaa

namespace Go.Proofs.Ytbliedldlimpgaa
set_option linter.unusedVariables false
set_option linter.unusedSimpArgs false
open Go.RowKit

theorem val_bool {a b : Bool} (h : a = b) : Value.bool a = .bool b := by rw [h]
/-- the head's first tests -/
def head0 (im : ImgL) : Bool := (decide (im.name = []) || nameB im.name) && decide (0 ≤ im.flags) && decide (im.flags < 16) && decide (im.needed.length ≤ 16) && decide (im.runPath.length ≤ 16)
theorem headB_parts (im : ImgL) : headB im = (head0 im && im.needed.all needB && im.runPath.all sizedB) := rfl
def need0 (n : NeedL) : Bool := sizedB n.name && decide (n.versions.length ≤ 16)
theorem needB_parts (n : NeedL) : needB n = (need0 n && n.versions.all nameB) := rfl
theorem all_take_snoc {α : Type} (f : α → Bool) (l : List α) (k : Nat) (x : α) (hx : l[k]? = some x) : (l.take (k + 1)).all f = ((l.take k).all f && f x) := by
  obtain ⟨h, rfl⟩ := List.getElem?_eq_some_iff.1 hx
  rw [List.take_succ_eq_append_getElem h, List.all_append]
  simp

set_option maxHeartbeats 16000000 in
set_option maxRecDepth 100000 in
theorem ihead_any (w : World) (v : ImgV) (im : ImgL) (hne : LB kNeed (· < w.heap.size) w v.needed im.needed) (hrp : LB kStr (· < w.heap.size) w v.runPath im.runPath) (hz : im.name.length ≤ 9223372036854775807) :
    Calls Try.prog 20 #[.agg (imgCells v im)] w fun e w' => e = .returned (.bool (headB im)) ∧ Below w.heap.size w w' := by
  have hsn := size_mk im.name
  unfold imgCells
  obtain ⟨na, nb, noff, ncap, hnv, hnm, hnc, hnat⟩ := hne.at
  obtain ⟨ra, rb, roff, rcap, hrv, hrm, hrc, hrat⟩ := hrp.at
  rw [hnv, hrv]
  have B1 := Lib.hid ((Below.refl w.heap.size w).alloc (Nat.le_refl _) (.cells #[.string ⟨im.name.toArray⟩, .int .i64 im.flags, v.segs, .slice na im.needed.length ncap, .slice ra im.runPath.length rcap, v.syms, v.buckets, v.words, .int .i64 im.shift, v.relocs, v.slots, v.init, v.fini, v.tls, .int .i64 im.tlsSize] 38 (0, 0)))
  have F1 := Lib.hid (heap_alloc_new w (.cells #[.string ⟨im.name.toArray⟩, .int .i64 im.flags, v.segs, .slice na im.needed.length ncap, .slice ra im.runPath.length rcap, v.syms, v.buckets, v.words, .int .i64 im.shift, v.relocs, v.slots, v.init, v.fini, v.tls, .int .i64 im.tlsSize] 38 (0, 0)))
  have Hnat := Lib.hid hnat
  have Hrat := Lib.hid hrat
  have Hh : Hid (headB im = (head0 im && im.needed.all needB && im.runPath.all sizedB)) := Lib.hid rfl
  have H0 : Hid (head0 im = ((decide (im.name = []) || nameB im.name) && decide (0 ≤ im.flags) && decide (im.flags < 16) && decide (im.needed.length ≤ 16) && decide (im.runPath.length ≤ 16))) := Lib.hid rfl
  clear hne hrp hnat hrat hnv hrv
  go_enter Try.func20, Try.ntmps20
  go_upto_region 1 with fail
  go_cut [3] (fun s3 wx => s3 = .bool (head0 im) ∧ Below w.heap.size w wx ∧ wx.heap[w.heap.size]? = some (.cells #[.string ⟨im.name.toArray⟩, .int .i64 im.flags, v.segs, .slice na im.needed.length ncap, .slice ra im.runPath.length rcap, v.syms, v.buckets, v.words, .int .i64 im.shift, v.relocs, v.slots, v.init, v.fini, v.tls, .int .i64 im.tlsSize] 38 (0, 0)))
  case first =>
    cases hq : im.name.isEmpty with
    | true =>
      have Hv := Lib.hid (List.isEmpty_iff.1 hq)
      go_wp2_with fail
      all_goals go_meet
      all_goals first
        | (refine ⟨val_bool ?_, B1.out, F1.out⟩; rw [H0.out, Bool.eq_iff_iff]; simp [Hv.out]; done)
        | (refine ⟨val_bool ?_, B1.out, F1.out⟩; rw [H0.out, Bool.eq_iff_iff]; simp [Hv.out]; omega)
    | false =>
      have Hv : Hid (decide (im.name = []) = false) := Lib.hid (by rw [decide_eq_false_iff_not]; intro e; rw [e] at hq; simp at hq)
      go_wp2_with fail
      refine (vname_any _ im.name hz).mono ?_
      rintro e w2 ⟨rfl, hb2⟩
      have F2 := Lib.hid ((hb2.block w.heap.size (by simp)).trans F1.out)
      have B2 := Lib.hid (B1.out.trans (hb2.mono B1.out.size))
      clear hb2
      obtain ⟨c0, c1, c2, c3, c4, c5, c6, c7, c8, c9, c10, c11, c12, c13, c14⟩ := img_cells F2.out
      cases hn : nameB im.name
      all_goals
        have Hn := Lib.hid hn
        go_wp2_with fail
        all_goals go_meet
        all_goals first
          | (refine ⟨val_bool ?_, B2.out, F2.out⟩; rw [H0.out, Bool.eq_iff_iff]; simp [Hv.out, Hn.out]; done)
          | (refine ⟨val_bool ?_, B2.out, F2.out⟩; rw [H0.out, Bool.eq_iff_iff]; simp [Hv.out, Hn.out]; omega)
  case rest =>
    obtain ⟨rfl, hbw, hfw⟩ := hcut
    have Bw := Lib.hid hbw
    have Fw := Lib.hid hfw
    obtain ⟨c0, c1, c2, c3, c4, c5, c6, c7, c8, c9, c10, c11, c12, c13, c14⟩ := img_cells hfw
    clear hbw hfw c0 c1 c2 c5 c6 c7 c8 c9 c10 c11 c12 c13 c14 H0 B1 F1
    generalize head0 im = h0 at *
    go_wp2_with fail
    go_loopw [3, 43] (fun s3 i wr => ∃ k : Nat, i = .int .i64 k ∧ k ≤ im.needed.length ∧ s3 = .bool (h0 && (im.needed.take k).all needB) ∧ Below w.heap.size w wr ∧ wr.heap[w.heap.size]? = some (.cells #[.string ⟨im.name.toArray⟩, .int .i64 im.flags, v.segs, .slice na im.needed.length ncap, .slice ra im.runPath.length rcap, v.syms, v.buckets, v.words, .int .i64 im.shift, v.relocs, v.slots, v.init, v.fini, v.tls, .int .i64 im.tlsSize] 38 (0, 0))) (fun _ i _ => im.needed.length - (intOf i).toNat)
    case atStart => exact ⟨0, rfl, Nat.zero_le _, by simp, Bw.out, Fw.out⟩
    case round =>
      obtain ⟨k, rfl, hk, rfl, hbel, hf⟩ := hrel
      have Hbel := Lib.hid hbel
      have Hf := Lib.hid hf
      have hBr := hbel.size
      have hzq : w.heap.size < wr.heap.size := by
        rcases Nat.lt_or_ge w.heap.size wr.heap.size with h' | h'
        · exact h'
        · rw [Array.getElem?_eq_none h'] at hf; cases hf
      by_cases hlt : k < im.needed.length
      · obtain rfl := Hnat.out.addr (by omega)
        obtain ⟨n, hx⟩ : ∃ n, im.needed[k]? = some n := ⟨_, List.getElem?_eq_getElem hlt⟩
        have hnbS := Hnat.out.inS (by omega)
        obtain ⟨c, g0w, g1w, hver, hnz⟩ := Hnat.out.need2 k n hx
        have g0 := (hbel.cell (p := ⟨nb, noff + k * 2, none⟩) hnbS).trans g0w
        have g1 := (hbel.cell (p := ⟨nb, noff + k * 2 + 1, none⟩) hnbS).trans g1w
        clear g0w g1w
        obtain ⟨va, vb, voff, vcap, rfl, hvm, hvc, hvat⟩ := hver.at
        have Hvat := Lib.hid hvat
        have Hsn := Lib.hid (all_take_snoc needB im.needed k n hx)
        have hsz2 := size_mk n.name
        have Hn0 : Hid (need0 n = (decide (1 ≤ n.name.length) && decide (n.name.length ≤ 200) && decide (n.versions.length ≤ 16))) := Lib.hid rfl
        have Hnp : Hid (needB n = (need0 n && n.versions.all nameB)) := Lib.hid rfl
        clear hbel hf hver hvat hx
        generalize hok : (h0 && (im.needed.take k).all needB) = ok at *
        have Hok := Lib.hid hok
        clear hok
        go_upto_region 5 with fail
        go_cut [3] (fun s3 wx => s3 = .bool (ok && need0 n) ∧ wx = wr.alloc (.cells #[.string ⟨n.name.toArray⟩, .slice va n.versions.length vcap] 81 (0, 0)))
        case first =>
          cases ok with
          | false =>
            go_wp2_with fail
            go_meet
            exact ⟨rfl, rfl⟩
          | true =>
            go_wp2_with fail
            all_goals go_meet
            all_goals first
              | (refine ⟨val_bool ?_, rfl⟩; rw [Hn0.out, Bool.eq_iff_iff]; simp; done)
              | (refine ⟨val_bool ?_, rfl⟩; rw [Hn0.out, Bool.eq_iff_iff]; simp; omega)
        case rest =>
          obtain ⟨rfl, hwx⟩ := hcut
          have Bc : Hid (Below w.heap.size w wc) := Lib.hid (by rw [hwx]; exact Hbel.out.alloc hBr _)
          have Fc : Hid (wc.heap[w.heap.size]? = some (.cells #[.string ⟨im.name.toArray⟩, .int .i64 im.flags, v.segs, .slice (some ⟨nb, noff, none⟩) im.needed.length ncap, .slice ra im.runPath.length rcap, v.syms, v.buckets, v.words, .int .i64 im.shift, v.relocs, v.slots, v.init, v.fini, v.tls, .int .i64 im.tlsSize] 38 (0, 0))) := Lib.hid (by rw [hwx, Lib.alloc_old _ _ _ hzq]; exact Hf.out)
          have d1 : wc.cell? ⟨wr.heap.size, 1, none⟩ = some (.slice va n.versions.length vcap) := by
            rw [hwx, Lib.cell_of_heap (heap_alloc_new wr _)]; rfl
          clear hwx Hbel Hf hBr hzq g0 g1
          generalize wr.heap.size = b5 at *
          generalize hok2 : (ok && need0 n) = ok2 at *
          have Hok2 := Lib.hid hok2
          clear hok2
          go_wp2_with fail
          go_loopw [3, 69] (fun s3 j wi => ∃ q : Nat, j = .int .i64 q ∧ q ≤ n.versions.length ∧ s3 = .bool (ok2 && (n.versions.take q).all nameB) ∧ Below w.heap.size w wi ∧ wi.heap[w.heap.size]? = some (.cells #[.string ⟨im.name.toArray⟩, .int .i64 im.flags, v.segs, .slice (some ⟨nb, noff, none⟩) im.needed.length ncap, .slice ra im.runPath.length rcap, v.syms, v.buckets, v.words, .int .i64 im.shift, v.relocs, v.slots, v.init, v.fini, v.tls, .int .i64 im.tlsSize] 38 (0, 0))) (fun _ j _ => n.versions.length - (intOf j).toNat)
          case atStart => exact ⟨0, rfl, Nat.zero_le _, by simp, Bc.out, Fc.out⟩
          case round =>
            obtain ⟨q, rfl, hq, rfl, hbel, hf⟩ := hrel
            have Hbel := Lib.hid hbel
            have Hf := Lib.hid hf
            by_cases hlt2 : q < n.versions.length
            · obtain rfl := Hvat.out.addr (by omega)
              obtain ⟨y, hy⟩ : ∃ y, n.versions[q]? = some y := ⟨_, List.getElem?_eq_getElem hlt2⟩
              obtain ⟨hv2, hyz⟩ := (Hvat.out.below hbel).str1 q y hy
              have Hsy := Lib.hid (all_take_snoc nameB n.versions q y hy)
              clear hbel hf hy
              generalize hok3 : (ok2 && (n.versions.take q).all nameB) = ok3 at *
              have Hok3 := Lib.hid hok3
              clear hok3
              cases ok3 with
              | false =>
                go_wp2
                go_roundw
                case rel => exact ⟨q + 1, by go_num, by omega, val_bool (by rw [Hsy.out, ← Bool.and_assoc, Hok3.out]; rfl), Hbel.out, Hf.out⟩
                case measure => simp [intOf]; omega
              | true =>
                have hzi : w.heap.size ≤ wr.heap.size := Hbel.out.size
                have hzi2 : w.heap.size < wr.heap.size := by
                  rcases Nat.lt_or_ge w.heap.size wr.heap.size with h' | h'
                  · exact h'
                  · have := Hf.out; rw [Array.getElem?_eq_none h'] at this; cases this
                go_wp2_with fail
                refine (vname_any _ y hyz).mono ?_
                rintro e w5 ⟨rfl, hb5⟩
                have B5 := Lib.hid (Hbel.out.trans (hb5.mono hzi))
                have F5 := Lib.hid ((hb5.block w.heap.size hzi2).trans Hf.out)
                clear hb5
                go_wp2
                go_roundw
                case rel => exact ⟨q + 1, by go_num, by omega, val_bool (by rw [Hsy.out, ← Bool.and_assoc, Hok3.out]; rfl), B5.out, F5.out⟩
                case measure => simp [intOf]; omega
            · have Hall : Hid (n.versions.take q = n.versions) := Lib.hid (List.take_of_length_le (by omega))
              clear hbel hf
              go_wp2
              go_roundw
              case rel => exact ⟨k + 1, by go_num, by omega, val_bool (by rw [Hsn.out, Hnp.out, ← Hok2.out, ← Hok.out, Hall.out]; simp [Bool.and_assoc]), Hbel.out, Hf.out⟩
              case measure => simp [intOf]; omega
      · have hf2 := hf
        obtain ⟨c0, c1, c2, c3, c4, c5, c6, c7, c8, c9, c10, c11, c12, c13, c14⟩ := img_cells hf
        have Hall : Hid (im.needed.take k = im.needed) := Lib.hid (List.take_of_length_le (by omega))
        rw [Hall.out]
        generalize hok : (h0 && im.needed.all needB) = ok at *
        have Hok := Lib.hid hok
        clear hbel hf hf2 hok c0 c1 c2 c3 c5 c6 c7 c8 c9 c10 c11 c12 c13 c14
        go_wp2_with fail
        go_loop [3, 83] (fun s3 i => ∃ q : Nat, i = .int .i64 q ∧ q ≤ im.runPath.length ∧ s3 = .bool (ok && (im.runPath.take q).all sizedB)) (fun _ i => im.runPath.length - (intOf i).toNat)
        case atStart => exact ⟨0, rfl, Nat.zero_le _, by simp⟩
        case round =>
          obtain ⟨q, rfl, hq, rfl⟩ := hrel
          by_cases hlt2 : q < im.runPath.length
          · obtain rfl := Hrat.out.addr (by omega)
            obtain ⟨y, hy⟩ : ∃ y, im.runPath[q]? = some y := ⟨_, List.getElem?_eq_getElem hlt2⟩
            obtain ⟨hv2, hyz⟩ := (Hrat.out.below Hbel.out).str1 q y hy
            have Hsy := Lib.hid (all_take_snoc sizedB im.runPath q y hy)
            have hszy := size_mk y
            have Hsz : Hid (sizedB y = (decide (1 ≤ y.length) && decide (y.length ≤ 200))) := Lib.hid rfl
            clear hy
            generalize hok3 : (ok && (im.runPath.take q).all sizedB) = ok3 at *
            have Hok3 := Lib.hid hok3
            clear hok3
            cases ok3 with
            | false =>
              go_wp2
              go_round
              case rel => exact ⟨q + 1, by go_num, by omega, val_bool (by rw [Hsy.out, ← Bool.and_assoc, Hok3.out]; rfl)⟩
              case measure => simp [intOf]; omega
            | true =>
              by_cases hy1 : 1 ≤ y.length
              · have hd1 : decide (1 ≤ (y.length : Int)) = true := by rw [decide_eq_true_eq]; omega
                by_cases hy2 : y.length ≤ 200
                · have hd2 : decide ((y.length : Int) ≤ 200) = true := by rw [decide_eq_true_eq]; omega
                  go_wp2
                  go_round
                  case rel => exact ⟨q + 1, by go_num, by omega, val_bool (by rw [Hsy.out, ← Bool.and_assoc, Hok3.out, Hsz.out]; simp [hy1, hy2])⟩
                  case measure => simp [intOf]; omega
                · have hd2 : decide ((y.length : Int) ≤ 200) = false := by rw [decide_eq_false_iff_not]; omega
                  go_wp2
                  go_round
                  case rel => exact ⟨q + 1, by go_num, by omega, val_bool (by rw [Hsy.out, ← Bool.and_assoc, Hok3.out, Hsz.out]; simp [hy2])⟩
                  case measure => simp [intOf]; omega
              · have hd1 : decide (1 ≤ (y.length : Int)) = false := by rw [decide_eq_false_iff_not]; omega
                go_wp2
                go_round
                case rel => exact ⟨q + 1, by go_num, by omega, val_bool (by rw [Hsy.out, ← Bool.and_assoc, Hok3.out, Hsz.out]; simp [hy1])⟩
                case measure => simp [intOf]; omega
          · have Hall2 : Hid (im.runPath.take q = im.runPath) := Lib.hid (List.take_of_length_le (by omega))
            go_wp2
            go_ret
            exact ⟨ret_bool' (by rw [Hh.out, Hall2.out]), Hbel.out⟩

end Go.Proofs.Ytbliedldlimpgaa

namespace Go.Proofs.Ytbliedldlimpgaa
set_option linter.unusedVariables false
set_option linter.unusedSimpArgs false
open Go.RowKit

theorem drop_cons {α : Type} (l : List α) (k : Nat) (x : α) (hx : l[k]? = some x) : l.drop k = x :: l.drop (k + 1) := by
  obtain ⟨h, rfl⟩ := List.getElem?_eq_some_iff.1 hx
  exact List.drop_eq_getElem_cons h
/-- a segment that may be, as inequalities -/
def SegGood (e : Int) (s : SegL) : Prop :=
  e ≤ s.at_ ∧ 0 ≤ s.at_ ∧ s.at_ ≤ 65536 ∧ s.at_ % 64 = 0 ∧ 1 ≤ s.size ∧ s.at_ + s.size ≤ 65536 ∧ (s.bytes.length : Int) ≤ s.size ∧ 0 ≤ s.perm ∧ s.perm ≤ 7
theorem segsFrom_good {e : Int} {s : SegL} {l : List SegL} (h : SegGood e s) : segsFrom e (s :: l) = segsFrom (upL (s.at_ + s.size)) l := by
  obtain ⟨h1, h2, h3, h4, h5, h6, h7, h8, h9⟩ := h
  simp [segsFrom, segB, h1, h2, h3, h4, h5, h6, h7, h8, h9]
theorem segsFrom_bad {e : Int} {s : SegL} {l : List SegL} (h : ¬ SegGood e s) : segsFrom e (s :: l) = false := by
  rw [segsFrom]
  by_cases h1 : (decide (e ≤ s.at_) && segB s) = true
  · exfalso
    apply h
    simp [segB] at h1
    unfold SegGood
    omega
  · simp only [Bool.not_eq_true] at h1
    rw [h1]; rfl

set_option maxHeartbeats 16000000 in
set_option maxRecDepth 100000 in
theorem isegs_any (w : World) (v : ImgV) (im : ImgL) (hs : LB kSeg (· < w.heap.size) w v.segs im.segs) (hr : ∀ s ∈ im.segs, -9223372036854775808 ≤ s.at_ ∧ s.size ≤ 9223372036854775807) :
    Calls Try.prog 21 #[.agg (imgCells v im)] w fun e w' => e = .returned (.bool (segsB im.segs)) ∧ Below w.heap.size w w' := by
  unfold imgCells
  obtain ⟨sa, sb, soff, scap, hsv, hsm, hsc, hat⟩ := hs.at
  rw [hsv]
  have Hat := Lib.hid hat
  have Hr := Lib.hid hr
  have Hd : Hid (segsB im.segs = (decide (1 ≤ im.segs.length) && decide (im.segs.length ≤ 8) && segsFrom 0 im.segs)) := Lib.hid rfl
  clear hs hat hsv hr
  go_enter Try.func21, Try.ntmps21
  go_wp2
  go_loopw [3, 9] (fun s3 i wr => ∃ (k : Nat) (e : Int), i = .int .i64 k ∧ k ≤ im.segs.length ∧ s3 = .int .i64 e ∧ 0 ≤ e ∧ e ≤ 200000 ∧ segsFrom 0 im.segs = segsFrom e (im.segs.drop k) ∧ Below w.heap.size w wr ∧ wr.cell? ⟨w.heap.size, 2, none⟩ = some (.slice sa im.segs.length scap) ∧ w.heap.size < wr.heap.size) (fun _ i _ => im.segs.length - (intOf i).toNat)
  case atStart => exact ⟨0, 0, rfl, Nat.zero_le _, rfl, by omega, by omega, by simp, (Below.refl _ _).alloc (Nat.le_refl _) _, by simp, by simp⟩
  case round =>
    obtain ⟨k, e, rfl, hk, rfl, he0, he1, hse, hbel, hq, hzq⟩ := hrel
    have Hq := Lib.hid hq
    have Hse := Lib.hid hse
    have Hbel := Lib.hid hbel
    have hBr := hbel.size
    by_cases hlt : k < im.segs.length
    · obtain rfl := Hat.out.addr (by omega)
      obtain ⟨s, hx⟩ : ∃ s, im.segs[k]? = some s := ⟨_, List.getElem?_eq_getElem hlt⟩
      obtain ⟨c, g0, g1, g2, g3, hc⟩ := (Hat.out.below hbel).seg4 k s hx
      obtain ⟨ca, cc, rfl⟩ := hc.form
      have hr := Hr.out s (List.mem_of_getElem? hx)
      have Hdc := Lib.hid (drop_cons im.segs k s hx)
      have hcm := hc.max
      clear hbel hse hx hc hq
      by_cases hg : SegGood e s
      · have Hn : Hid (segsFrom 0 im.segs = segsFrom (upL (s.at_ + s.size)) (im.segs.drop (k + 1))) := Lib.hid (by rw [Hse.out, Hdc.out, segsFrom_good hg])
        obtain ⟨h1, h2, h3, h4, h5, h6, h7, h8, h9⟩ := hg
        have Hu : Hid (s.at_ + (s.size + 64 - 1) / 64 * 64 = upL (s.at_ + s.size)) := Lib.hid (by unfold upL; omega)
        have hu0 : 0 ≤ upL (s.at_ + s.size) := by unfold upL; omega
        have hu1 : upL (s.at_ + s.size) ≤ 200000 := by unfold upL; omega
        have hm : (s.at_ % 64 != 0) = false := by rw [bne_eq_false_iff_eq]; exact h4
        clear h4
        have Hu0 := Lib.hid hu0
        have Hu1 := Lib.hid hu1
        clear hu0 hu1
        generalize s.at_ = sat at *
        generalize s.size = ssz at *
        generalize s.perm = spm at *
        go_wp2
        go_roundw
        case rel => exact ⟨k + 1, _, by go_num, by omega, by rw [← Hu.out], Hu0.out, Hu1.out, Hn.out, Hbel.out.alloc hBr _, by rw [World.cell?_alloc_lt _ _ _ hzq]; exact Hq.out, by simp; omega⟩
        case measure => simp [intOf]; omega
      · have Hn : Hid (segsB im.segs = false) := Lib.hid (by rw [Hd.out, Hse.out, Hdc.out, segsFrom_bad hg]; simp)
        have Hg : Hid (¬ (e ≤ s.at_ ∧ 0 ≤ s.at_ ∧ s.at_ ≤ 65536 ∧ s.at_ % 64 = 0 ∧ 1 ≤ s.size ∧ s.at_ + s.size ≤ 65536 ∧ (s.bytes.length : Int) ≤ s.size ∧ 0 ≤ s.perm ∧ s.perm ≤ 7)) := Lib.hid hg
        clear hg
        generalize s.at_ = sat at *
        generalize s.size = ssz at *
        generalize s.perm = spm at *
        by_cases h1 : e ≤ sat
        · go_wp2
          all_goals first
            | (go_ret; exact ⟨by rw [Hn.out]; rfl, Hbel.out.alloc hBr _⟩)
            | (exfalso; have := Hg.out; (try simp only [beq_eq_false_iff_ne, bne_eq_false_iff_eq, bne_iff_ne, beq_iff_eq, ne_eq] at *); omega)
        · go_wp2
          go_ret
          exact ⟨by rw [Hn.out]; rfl, Hbel.out.alloc hBr _⟩
    · have Hn : Hid (segsFrom 0 im.segs = true) := Lib.hid (by rw [hse, List.drop_eq_nil_of_le (by omega)]; rfl)
      clear hse hbel
      by_cases h1 : 1 ≤ im.segs.length
      · have hd1 : decide (1 ≤ (im.segs.length : Int)) = true := by rw [decide_eq_true_eq]; omega
        go_wp2
        go_ret
        exact ⟨ret_bool' (by rw [Hd.out, Hn.out, Bool.eq_iff_iff]; simp [h1]; omega), Hbel.out⟩
      · have hd1 : decide (1 ≤ (im.segs.length : Int)) = false := by rw [decide_eq_false_iff_not]; omega
        go_wp2
        go_ret
        exact ⟨ret_bool' (by rw [Hd.out]; simp [h1]), Hbel.out⟩

end Go.Proofs.Ytbliedldlimpgaa

/- Plain laws of an image's table: bucket by bucket, or by all that are seen: the same. No program in sight. -/
namespace Go.Proofs.Ytbliedldlimpgaa
set_option linter.unusedVariables false
set_option linter.unusedSimpArgs false
theorem sum_add (l : List Nat) (f g : Nat → Nat) : (l.map fun k => f k + g k).sum = (l.map f).sum + (l.map g).sum := by
  induction l with
  | nil => rfl
  | cons a l ih => simp only [List.map_cons, List.sum_cons, ih]; omega
theorem sum_zero (l : List Nat) : (l.map fun _ => (0 : Nat)).sum = 0 := by
  induction l with
  | nil => rfl
  | cons a l ih => simp only [List.map_cons, List.sum_cons, ih]
theorem sum_congr (l : List Nat) (f g : Nat → Nat) (h : ∀ k ∈ l, f k = g k) : (l.map f).sum = (l.map g).sum := by
  rw [List.map_congr_left h]

section
variable (home : Nat → Nat)
/-- does a bucket's entry stand for one of S, at home in b? -/
def atHome (S : List Nat) (b : Nat) (i : Int) : Bool := S.any fun k => decide (i = (k : Int)) && decide (home k = b)
def onceAt (S : List Nat) (b : Nat) (c : List Int) : Nat := (S.map fun k => if home k = b then c.count (k : Int) else 0).sum
theorem atHome_sum (S : List Nat) (hS : S.Nodup) (b : Nat) (i : Int) : (if atHome home S b i then 1 else 0) = (S.map fun k => if home k = b then (if i = (k : Int) then 1 else 0) else 0).sum := by
  induction S with
  | nil => rfl
  | cons k S ih =>
    obtain ⟨hk, hS'⟩ := List.nodup_cons.1 hS
    simp only [List.map_cons, List.sum_cons]
    rw [← ih hS']
    by_cases h1 : i = (k : Int)
    · have h2 : atHome home S b i = false := by
        rw [atHome, List.any_eq_false]
        intro x hx
        have : x ≠ k := fun e => hk (e ▸ hx)
        simp; omega
      by_cases h3 : home k = b <;> simp [atHome, h1, h3] at h2 ⊢ <;> simpa using h2
    · by_cases h3 : home k = b <;> simp [atHome, h1, h3]
theorem countP_home (S : List Nat) (hS : S.Nodup) (b : Nat) (c : List Int) : c.countP (atHome home S b) = onceAt home S b c := by
  induction c with
  | nil => simp [onceAt, sum_zero]
  | cons i c ih =>
    rw [List.countP_cons, ih]
    have : onceAt home S b (i :: c) = onceAt home S b c + (S.map fun k => if home k = b then (if i = (k : Int) then 1 else 0) else 0).sum := by
      unfold onceAt
      rw [← sum_add]
      apply sum_congr
      intro k _
      rw [List.count_cons]
      by_cases h3 : home k = b <;> simp [h3]
    rw [this, ← atHome_sum home S hS]
/-- entries at home, in all buckets -/
def homes (S : List Nat) : Nat → List (List Int) → Nat
  | _, [] => 0
  | b, c :: l => c.countP (atHome home S b) + homes S (b + 1) l
theorem homes_sum (S : List Nat) (hS : S.Nodup) : ∀ (bs : List (List Int)) (b : Nat), homes home S b bs = (S.map fun k => if home k < b then 0 else (bs.getD (home k - b) []).count (k : Int)).sum
  | [], b => by
    refine (sum_zero S).symm.trans (sum_congr S _ _ (fun k _ => ?_))
    by_cases h : home k < b <;> simp [h]
  | c :: l, b => by
    rw [homes, homes_sum S hS l (b + 1), countP_home home S hS, onceAt, ← sum_add]
    apply sum_congr
    intro k _
    by_cases h : home k < b
    · simp [h, show home k < b + 1 by omega, show home k ≠ b by omega]
    · by_cases h2 : home k = b
      · simp [h2]
      · have : home k - b = (home k - (b + 1)) + 1 := by omega
        simp [h, h2, show ¬ home k < b + 1 by omega, this]
theorem homes_le (S : List Nat) : ∀ (bs : List (List Int)) (b : Nat), homes home S b bs ≤ (bs.map List.length).sum
  | [], _ => Nat.le_refl _
  | c :: l, b => by
    have := homes_le S l (b + 1)
    have h2 := List.countP_le_length (p := atHome home S b) (l := c)
    simp only [homes, List.map_cons, List.sum_cons]; omega
theorem homes_all (S : List Nat) : ∀ (bs : List (List Int)) (b : Nat), homes home S b bs = (bs.map List.length).sum ↔ ∀ j c, bs[j]? = some c → ∀ i ∈ c, atHome home S (b + j) i = true
  | [], _ => by simp [homes]
  | c :: l, b => by
    have h1 := homes_le home S l (b + 1)
    have h2 := List.countP_le_length (p := atHome home S b) (l := c)
    have ih := homes_all S l (b + 1)
    have h3 := List.countP_eq_length (p := atHome home S b) (l := c)
    simp only [homes, List.map_cons, List.sum_cons]
    constructor
    · intro h j d hj
      cases j with
      | zero => simp at hj; subst hj; exact h3.1 (by omega)
      | succ j =>
        have := ih.1 (by omega) j d (by simpa using hj)
        rwa [show b + 1 + j = b + (j + 1) by omega] at this
    · intro h
      have a1 := h3.2 (fun i hi => by simpa using h 0 c (by simp) i hi)
      have a2 := ih.2 (fun j d hj => by have := h (j + 1) d (by simpa using hj); rwa [show b + (j + 1) = b + 1 + j by omega] at this)
      omega
theorem sum_ones (S : List Nat) (f : Nat → Nat) (h : ∀ k ∈ S, f k ≤ 1) : (S.map f).sum = S.length ↔ ∀ k ∈ S, f k = 1 := by
  induction S with
  | nil => simp
  | cons a S ih =>
    have h1 := h a (by simp)
    have hle : (S.map f).sum ≤ S.length := by
      clear ih
      have h' : ∀ k ∈ S, f k ≤ 1 := fun k hk => h k (by simp [hk])
      clear h
      induction S with
      | nil => simp
      | cons b S ih2 =>
        have := h' b (by simp)
        have := ih2 (fun k hk => h' k (by simp [hk]))
        simp only [List.map_cons, List.sum_cons, List.length_cons]; omega
    have ih' := ih (fun k hk => h k (by simp [hk]))
    simp only [List.map_cons, List.sum_cons, List.length_cons, List.mem_cons, forall_eq_or_imp]
    rw [← ih']; omega
theorem count_le_one (c : List Int) (h : c.Pairwise (· < ·)) (i : Int) : c.count i ≤ 1 := by
  induction c with
  | nil => simp
  | cons a c ih =>
    obtain ⟨h1, h2⟩ := List.pairwise_cons.1 h
    rw [List.count_cons]
    by_cases e : a = i
    · have : c.count i = 0 := by
        rw [List.count_eq_zero]
        intro hi
        have := h1 i hi
        omega
      simp [e, this]
    · have := ih h2
      simp [e]; exact this
/-- THE LAW: where all buckets rise, and they have as many entries as S has, all entries are at home just if each of S stands once where it is at home -/
theorem home_iff (S : List Nat) (hS : S.Nodup) (bs : List (List Int)) (hb : ∀ c ∈ bs, c.Pairwise (· < ·)) (hn : (bs.map List.length).sum = S.length) :
    (∀ j c, bs[j]? = some c → ∀ i ∈ c, atHome home S j i = true) ↔ ∀ k ∈ S, (bs.getD (home k) []).count (k : Int) = 1 := by
  have h1 := homes_all home S bs 0
  have h2 := homes_sum home S hS bs 0
  simp only [Nat.not_lt_zero, if_false, Nat.sub_zero, Nat.zero_add] at h1 h2
  rw [← h1, h2, hn]
  refine sum_ones S _ (fun k _ => ?_)
  by_cases h : home k < bs.length
  · rw [List.getD_eq_getElem?_getD, List.getElem?_eq_getElem h]; exact count_le_one _ (hb _ (List.getElem_mem h)) _
  · simp [List.getD, List.getElem?_eq_none (Nat.le_of_not_lt h)]
end


/-! ### a table is right: bucket by bucket, or by all that are seen -/
def noSymL : SymL := ⟨[], [], false, 0, false, 0, false, 0, 0⟩
def symN (syms : List SymL) (k : Nat) : SymL := syms[k]?.getD noSymL
def seenK (syms : List SymL) (n : Nat) : List Nat := (List.range n).filter fun k => seenB (symN syms k)
/-- the places of those that are seen -/
def seenIx (syms : List SymL) : List Nat := seenK syms syms.length
theorem seenK_succ (syms : List SymL) (n : Nat) : seenK syms (n + 1) = seenK syms n ++ if seenB (symN syms n) then [n] else [] := by
  rw [seenK, List.range_succ, List.filter_append, List.filter_cons, List.filter_nil]; rfl
theorem seenIx_nodup (syms : List SymL) : (seenIx syms).Nodup := List.nodup_range.sublist List.filter_sublist
theorem seenK_mem (syms : List SymL) (n k : Nat) : k ∈ seenK syms n ↔ k < n ∧ seenB (symN syms k) = true := by
  rw [seenK, List.mem_filter, List.mem_range]
theorem seenK_length (syms : List SymL) : ∀ n, n ≤ syms.length → (seenK syms n).length = ((syms.take n).filter seenB).length
  | 0, _ => by simp [seenK]
  | n + 1, h => by
    rw [seenK_succ, List.length_append, seenK_length syms n (by omega), List.take_succ_eq_append_getElem (show n < syms.length by omega), List.filter_append, List.length_append]
    have : symN syms n = syms[n] := by rw [symN, List.getElem?_eq_getElem (show n < syms.length by omega)]; rfl
    rw [this]
    by_cases hs : seenB syms[n] = true <;> simp [hs]
theorem seenIx_length (syms : List SymL) : (seenIx syms).length = (syms.filter seenB).length := by
  rw [seenIx, seenK_length syms _ (Nat.le_refl _), List.take_length]
theorem seenK_le (syms : List SymL) (n : Nat) : (seenK syms n).length ≤ n := by
  have := List.length_filter_le (fun k => seenB (symN syms k)) (List.range n)
  rwa [List.length_range] at this
/-- rising -/
def risingB : List Int → Bool
  | a :: b :: l => decide (a < b) && risingB (b :: l)
  | _ => true
theorem rising_pairwise : ∀ l : List Int, risingB l = true ↔ l.Pairwise (· < ·)
  | [] => by simp [risingB]
  | [a] => by simp [risingB]
  | a :: b :: l => by
    have ih := rising_pairwise (b :: l)
    rw [risingB, Bool.and_eq_true, ih, List.pairwise_cons (a := a), decide_eq_true_eq]
    constructor
    · rintro ⟨h1, h2⟩
      refine ⟨fun c hc => ?_, h2⟩
      rcases List.mem_cons.1 hc with rfl | hc
      · exact h1
      · have := (List.pairwise_cons.1 h2).1 c hc; omega
    · rintro ⟨h1, h2⟩
      exact ⟨h1 b (by simp), h2⟩
def symHome (im : ImgL) (k : Nat) : Nat := homeL (symN im.syms k).name im.buckets.length
/-- what the reference asks of one that is seen -/
def standsB (im : ImgL) (k : Nat) : Bool := decide ((im.buckets.getD (symHome im k) []).count (k : Int) = 1) && !lacksB im.words im.shift (hashB (symN im.syms k).name)
def entryB (im : ImgL) (b : Nat) (i : Int) : Bool := match (if i < 0 then none else im.syms[i.toNat]?) with
    | some s => seenB s && decide (homeL s.name im.buckets.length = b) && !lacksB im.words im.shift (hashB s.name)
    | none => false
theorem chainB_iff (im : ImgL) (b : Nat) : ∀ (l : List Int) (last : Int), chainB im.syms im.words im.shift im.buckets.length b last l = true ↔ (∀ i ∈ l, last < i) ∧ l.Pairwise (· < ·) ∧ ∀ i ∈ l, entryB im b i = true
  | [], _ => by simp [chainB]
  | i :: l, last => by
    have ih := chainB_iff im b l i
    have e : chainB im.syms im.words im.shift im.buckets.length b last (i :: l) = (decide (last < i) && entryB im b i && chainB im.syms im.words im.shift im.buckets.length b i l) := by rw [chainB]; rfl
    rw [e, Bool.and_eq_true, Bool.and_eq_true, ih, decide_eq_true_eq, List.pairwise_cons]
    constructor
    · rintro ⟨⟨h1, h2⟩, h3, h4, h5⟩
      refine ⟨fun c hc => ?_, ⟨h3, h4⟩, fun c hc => ?_⟩
      · rcases List.mem_cons.1 hc with rfl | hc
        · exact h1
        · have := h3 c hc; omega
      · rcases List.mem_cons.1 hc with rfl | hc
        · exact h2
        · exact h5 c hc
    · rintro ⟨h1, ⟨h3, h4⟩, h5⟩
      exact ⟨⟨h1 i (by simp), h5 i (by simp)⟩, h3, h4, fun c hc => h5 c (by simp [hc])⟩
theorem entry_nonneg {im : ImgL} {b : Nat} {i : Int} (h : entryB im b i = true) : 0 ≤ i := by
  unfold entryB at h
  by_cases hi : i < 0
  · rw [if_pos hi] at h; cases h
  · omega
theorem entry_home {im : ImgL} {b : Nat} {i : Int} : entryB im b i = true ↔ ∃ k ∈ seenIx im.syms, i = (k : Int) ∧ symHome im k = b ∧ lacksB im.words im.shift (hashB (symN im.syms k).name) = false := by
  constructor
  · intro h
    have h0 := entry_nonneg h
    obtain ⟨k, rfl⟩ : ∃ k : Nat, i = k := ⟨i.toNat, by omega⟩
    unfold entryB at h
    rw [if_neg (by omega), Int.toNat_natCast] at h
    cases hs : im.syms[k]? with
    | none => rw [hs] at h; cases h
    | some s =>
      rw [hs] at h
      have hk := (List.getElem?_eq_some_iff.1 hs).1
      have hn : symN im.syms k = s := by rw [symN, hs]; rfl
      simp only [Bool.and_eq_true, decide_eq_true_eq, Bool.not_eq_true'] at h
      exact ⟨k, (seenK_mem _ _ _).2 ⟨hk, by rw [hn]; exact h.1.1⟩, rfl, by rw [symHome, hn]; exact h.1.2, by rw [hn]; exact h.2⟩
  · rintro ⟨k, hk, rfl, h1, h2⟩
    obtain ⟨hk1, hk2⟩ := (seenK_mem _ _ _).1 hk
    have hs : im.syms[k]? = some (symN im.syms k) := by rw [symN, List.getElem?_eq_getElem hk1]; rfl
    unfold entryB
    rw [if_neg (by omega), Int.toNat_natCast, hs]
    simp only [Bool.and_eq_true, decide_eq_true_eq, Bool.not_eq_true']
    exact ⟨⟨hk2, h1⟩, h2⟩
theorem chainsB_iff (im : ImgL) : ∀ (bs : List (List Int)) (b : Nat), chainsB im.syms im.words im.shift im.buckets.length b bs = true ↔ (∀ c ∈ bs, c.Pairwise (· < ·)) ∧ ∀ j c, bs[j]? = some c → ∀ i ∈ c, entryB im (b + j) i = true
  | [], _ => by simp [chainsB]
  | c :: l, b => by
    have ih := chainsB_iff im l (b + 1)
    rw [chainsB, Bool.and_eq_true, ih, chainB_iff]
    constructor
    · rintro ⟨⟨_, h2, h3⟩, h4, h5⟩
      refine ⟨fun d hd => ?_, fun j d hj => ?_⟩
      · rcases List.mem_cons.1 hd with rfl | hd
        · exact h2
        · exact h4 d hd
      · cases j with
        | zero => simp at hj; subst hj; exact h3
        | succ j => rw [show b + (j + 1) = b + 1 + j by omega]; exact h5 j d (by simpa using hj)
    · rintro ⟨h1, h2⟩
      have h0 := h2 0 c (by simp)
      refine ⟨⟨fun i hi => ?_, h1 c (by simp), h0⟩, fun d hd => h1 d (by simp [hd]), fun j d hj => ?_⟩
      · have := entry_nonneg (h0 i hi); omega
      · have := h2 (j + 1) d (by simpa using hj)
        rwa [show b + (j + 1) = b + 1 + j by omega] at this
/-- what the reference's table test comes to -/
def tableJ (im : ImgL) : Bool :=
  decide (im.syms.length ≤ 512) && decide (1 ≤ im.buckets.length) && decide (im.buckets.length ≤ 512) && sieveB im.words im.shift && im.buckets.all risingB &&
  decide ((im.buckets.map List.length).sum = (seenIx im.syms).length) && (seenIx im.syms).all (standsB im)
theorem tableJ_eq (im : ImgL) : tableJ im = tableB im := by
  rw [Bool.eq_iff_iff]
  unfold tableJ tableB
  simp only [Bool.and_eq_true, decide_eq_true_eq]
  rw [chainsB_iff, ← seenIx_length]
  simp only [Nat.zero_add]
  have hall : (im.buckets.all risingB = true) ↔ ∀ c ∈ im.buckets, c.Pairwise (· < ·) := by
    rw [List.all_eq_true]; exact ⟨fun h c hc => (rising_pairwise c).1 (h c hc), fun h c hc => (rising_pairwise c).2 (h c hc)⟩
  rw [hall]
  constructor
  · rintro ⟨⟨⟨h0, h1⟩, h2⟩, h3⟩
    refine ⟨⟨h0, h1, ?_⟩, h2⟩
    have hh := (home_iff (symHome im) (seenIx im.syms) (seenIx_nodup _) im.buckets h1 h2).2 (fun k hk => by
      have := List.all_eq_true.1 h3 k hk
      simp only [standsB, Bool.and_eq_true, decide_eq_true_eq] at this
      exact this.1)
    intro j c hj i hi
    have := hh j c hj i hi
    simp only [atHome, List.any_eq_true, Bool.and_eq_true, decide_eq_true_eq] at this
    obtain ⟨k, hk, h4, h5⟩ := this
    have h6 := List.all_eq_true.1 h3 k hk
    simp only [standsB, Bool.and_eq_true, decide_eq_true_eq, Bool.not_eq_true'] at h6
    exact entry_home.2 ⟨k, hk, h4, h5, h6.2⟩
  · rintro ⟨⟨h0, h1, h3⟩, h2⟩
    refine ⟨⟨⟨h0, h1⟩, h2⟩, ?_⟩
    have hh := (home_iff (symHome im) (seenIx im.syms) (seenIx_nodup _) im.buckets h1 h2).1 (fun j c hj i hi => by
      obtain ⟨k, hk, h4, h5, _⟩ := entry_home.1 (h3 j c hj i hi)
      simp only [atHome, List.any_eq_true, Bool.and_eq_true, decide_eq_true_eq]
      exact ⟨k, hk, h4, h5⟩)
    rw [List.all_eq_true]
    intro k hk
    have hc := hh k hk
    simp only [standsB, Bool.and_eq_true, decide_eq_true_eq, Bool.not_eq_true']
    refine ⟨hc, ?_⟩
    have hmem : (k : Int) ∈ im.buckets.getD (symHome im k) [] := List.count_pos_iff.1 (by omega)
    rw [List.getD_eq_getElem?_getD] at hmem
    cases hb : im.buckets[symHome im k]? with
    | none => rw [hb] at hmem; simp at hmem
    | some c =>
      rw [hb] at hmem
      obtain ⟨k', _, h4, _, h6⟩ := entry_home.1 (h3 _ c hb (k : Int) (by simpa using hmem))
      have : k' = k := by omega
      subst this
      exact h6

end Go.Proofs.Ytbliedldlimpgaa

/- The digits of a number and back: plain Lean. -/
namespace Go.Proofs.Ytbliedldlimpgaa
set_option linter.unusedVariables false
set_option linter.unusedSimpArgs false

def valL : List UInt8 → Nat
  | [] => 0
  | c :: l => c.toNat + 256 * valL l
theorem val_digits : ∀ (size m : Nat), m < 256 ^ size → valL ((List.range size).map fun i => UInt8.ofNat (m / 256 ^ i)) = m
  | 0, m, h => by simp at h; simp [valL, h]
  | size + 1, m, h => by
    rw [List.range_succ_eq_map, List.map_cons, List.map_map, valL]
    have e : ((fun i => UInt8.ofNat (m / 256 ^ i)) ∘ Nat.succ) = fun i => UInt8.ofNat (m / 256 / 256 ^ i) := by
      funext i
      simp only [Function.comp, Nat.succ_eq_add_one]
      rw [Nat.pow_succ, Nat.mul_comm, Nat.div_div_eq_div_mul]
    rw [e, val_digits size (m / 256) (by rw [Nat.pow_succ] at h; exact Nat.div_lt_of_lt_mul (by rw [Nat.mul_comm]; exact h))]
    simp
    omega
theorem digitsL_len (size : Nat) (n : Int) : (digitsL size n).length = size := by simp [digitsL]
theorem val_digitsL (size : Nat) (n : Int) (h0 : 0 ≤ n) (h1 : n < 18446744073709551616) (h : n.toNat < 256 ^ size) : (valL (digitsL size n) : Int) = n := by
  rw [digitsL, Int.emod_eq_of_lt h0 h1, val_digits size n.toNat h, Int.toNat_of_nonneg h0]

end Go.Proofs.Ytbliedldlimpgaa

/- Reading an image's bytes: what is read is what was written, and what was written is read. Plain Lean, no program in sight. -/
namespace Go.Proofs.Ytbliedldlimpgaa
set_option linter.unusedVariables false
set_option linter.unusedSimpArgs false

/-! ### reading bytes -/
def bindP {α β : Type} (p : List UInt8 → Option (α × List UInt8)) (k : α → List UInt8 → Option (β × List UInt8)) : List UInt8 → Option (β × List UInt8) := fun l => match p l with
  | none => none
  | some (x, t) => k x t
def sgnL (n : Nat) : Int := if n < 9223372036854775808 then (n : Int) else (n : Int) - 18446744073709551616
/-- a number of so many bytes -/
def numP (size : Nat) (l : List UInt8) : Option (Int × List UInt8) := if size ≤ l.length then some (if size = 8 then sgnL (valL (l.take size)) else (valL (l.take size) : Int), l.drop size) else none
def wordP (l : List UInt8) : Option (Int × List UInt8) := if 8 ≤ l.length then some ((valL (l.take 8) : Int), l.drop 8) else none
/-- bytes with their number ahead -/
def partP (size most : Nat) : List UInt8 → Option (List UInt8 × List UInt8) := bindP (numP size) fun n t => if n ≤ most ∧ n ≤ t.length then some (t.take n.toNat, t.drop n.toNat) else none
def textP : List UInt8 → Option (List UInt8 × List UInt8) := partP 2 4096
def blockP : List UInt8 → Option (List UInt8 × List UInt8) := partP 4 1048576
def manyP {α : Type} (p : List UInt8 → Option (α × List UInt8)) : Nat → List UInt8 → Option (List α × List UInt8)
  | 0 => fun l => some ([], l)
  | n + 1 => bindP p fun x => bindP (manyP p n) fun xs t => some (x :: xs, t)
def bitP : List UInt8 → Option (Bool × List UInt8) := bindP (numP 1) fun n t => if 1 < n then none else some (n == 1, t)
def segP : List UInt8 → Option (SegL × List UInt8) := bindP (numP 4) fun a => bindP (numP 4) fun s => bindP (numP 1) fun p => bindP blockP fun b t => some (⟨a, s, b, p⟩, t)
def textsP (n : Int) : List UInt8 → Option (List (List UInt8) × List UInt8) := manyP textP n.toNat
def needP : List UInt8 → Option (NeedL × List UInt8) := bindP textP fun n => bindP (numP 1) fun k => bindP (textsP k) fun v t => some (⟨n, v⟩, t)
def symP : List UInt8 → Option (SymL × List UInt8) := bindP textP fun n => bindP textP fun v => bindP (numP 1) fun k => bindP (numP 1) fun vis => bindP bitP fun old => bindP bitP fun weak => bindP bitP fun defined => bindP (numP 8) fun value => bindP (numP 8) fun size t => some (⟨n, v, old, k, weak, vis, defined, value, size⟩, t)
def chainP : List UInt8 → Option (List Int × List UInt8) := bindP (numP 2) fun n => manyP (numP 2) n.toNat
def relP : List UInt8 → Option (RelL × List UInt8) := bindP (numP 1) fun k => bindP (numP 8) fun a => bindP (numP 8) fun s => bindP (numP 8) fun d t => some (⟨a, k, s, d⟩, t)
def slotP : List UInt8 → Option (SlotL × List UInt8) := bindP (numP 4) fun a => bindP (numP 4) fun s => bindP (numP 4) fun d t => some (⟨a, s, d⟩, t)
/-- an image -/
def imgP : List UInt8 → Option (ImgL × List UInt8) :=
  bindP textP fun magic => if magic ≠ magicL then fun _ => none else
  bindP textP fun name => bindP (numP 1) fun flags =>
  bindP (numP 1) fun n1 => bindP (manyP segP n1.toNat) fun segs =>
  bindP (numP 1) fun n2 => bindP (manyP needP n2.toNat) fun needed =>
  bindP (numP 1) fun n3 => bindP (textsP n3) fun runPath =>
  bindP (numP 2) fun n4 => bindP (manyP symP n4.toNat) fun syms =>
  bindP (numP 2) fun n5 => bindP (manyP chainP n5.toNat) fun buckets =>
  bindP (numP 1) fun shift => bindP (numP 1) fun n6 => bindP (manyP wordP n6.toNat) fun words =>
  bindP (numP 2) fun n7 => bindP (manyP relP n7.toNat) fun relocs =>
  bindP (numP 2) fun n8 => bindP (manyP slotP n8.toNat) fun slots =>
  bindP (numP 1) fun n9 => bindP (manyP (numP 4) n9.toNat) fun init =>
  bindP (numP 1) fun n10 => bindP (manyP (numP 4) n10.toNat) fun fini =>
  bindP (numP 2) fun tlsSize => bindP blockP fun tls t =>
  some (⟨name, flags, segs, needed, runPath, syms, buckets, words, shift, relocs, slots, init, fini, tls, tlsSize⟩, t)

/-! ### what is read is what was written -/
structure Codec {α : Type} (p : List UInt8 → Option (α × List UInt8)) (f : α → List UInt8) (ok : α → Prop) : Prop where
  there : ∀ x t, ok x → p (f x ++ t) = some (x, t)
  back : ∀ l x t, p l = some (x, t) → ok x ∧ f x ++ t = l
theorem bindP_some {α β : Type} {p : List UInt8 → Option (α × List UInt8)} {k : α → List UInt8 → Option (β × List UInt8)} {l : List UInt8} {r : β × List UInt8} (h : bindP p k l = some r) : ∃ x t, p l = some (x, t) ∧ k x t = some r := by
  unfold bindP at h
  cases hp : p l with
  | none => rw [hp] at h; cases h
  | some q => obtain ⟨x, t⟩ := q; rw [hp] at h; exact ⟨x, t, rfl, h⟩
theorem bindP_at {α β : Type} {p : List UInt8 → Option (α × List UInt8)} {k : α → List UInt8 → Option (β × List UInt8)} {l : List UInt8} {x : α} {t : List UInt8} (h : p l = some (x, t)) : bindP p k l = k x t := by
  unfold bindP; rw [h]
def okN (size : Nat) (n : Int) : Prop := if size = 8 then -9223372036854775808 ≤ n ∧ n < 9223372036854775808 else 0 ≤ n ∧ n < 256 ^ size
theorem valL_lt : ∀ l : List UInt8, valL l < 256 ^ l.length
  | [] => by simp [valL]
  | c :: l => by
    have := valL_lt l
    have hc := c.toNat_lt
    rw [valL, List.length_cons, Nat.pow_succ]; omega
theorem digits_val : ∀ l : List UInt8, ((List.range l.length).map fun i => UInt8.ofNat (valL l / 256 ^ i)) = l
  | [] => rfl
  | c :: l => by
    have hc := c.toNat_lt
    rw [List.length_cons, List.range_succ_eq_map, List.map_cons, List.map_map]
    have e : ((fun i => UInt8.ofNat (valL (c :: l) / 256 ^ i)) ∘ Nat.succ) = fun i => UInt8.ofNat (valL l / 256 ^ i) := by
      funext i
      simp only [Function.comp, Nat.succ_eq_add_one, valL]
      rw [Nat.pow_succ, Nat.mul_comm (256 ^ i), ← Nat.div_div_eq_div_mul, show (c.toNat + 256 * valL l) / 256 = valL l by omega]
    rw [e, digits_val l]
    congr 1
    simp only [valL, Nat.pow_zero, Nat.div_one]
    have : UInt8.ofNat (c.toNat + 256 * valL l) = UInt8.ofNat c.toNat := by
      apply UInt8.toNat.inj
      simp
    rw [this]; simp
theorem digitsL_nat (size m : Nat) (h : m < 18446744073709551616) : digitsL size (m : Int) = (List.range size).map fun i => UInt8.ofNat (m / 256 ^ i) := by
  rw [digitsL]
  have : ((m : Int) % 18446744073709551616).toNat = m := by omega
  rw [this]
theorem digitsL_sgn (size m : Nat) (h : m < 18446744073709551616) : digitsL size (sgnL m) = digitsL size (m : Int) := by
  unfold digitsL sgnL
  split
  · rfl
  · rw [Int.sub_emod_right]
theorem pow8 {size : Nat} (h : size ≤ 8) : 256 ^ size ≤ 18446744073709551616 := Nat.le_trans (Nat.pow_le_pow_right (by decide) h) (by decide)
theorem num_codec (size : Nat) (hs : size ≤ 8) : Codec (numP size) (digitsL size) (okN size) where
  there x t hx := by
    have hl := digitsL_len size x
    have e1 : (digitsL size x ++ t).take size = digitsL size x := by rw [List.take_append_of_le_length (by omega), List.take_of_length_le (by omega)]
    have e2 : (digitsL size x ++ t).drop size = t := by rw [List.drop_append_of_le_length (by omega), List.drop_eq_nil_of_le (by omega)]; rfl
    rw [numP, if_pos (by simp [hl]), e1, e2]
    unfold okN at hx
    by_cases h8 : size = 8
    · subst h8
      rw [if_pos rfl] at hx
      rw [if_pos rfl]
      have hv : valL (digitsL 8 x) = (x % 18446744073709551616).toNat := by
        rw [digitsL, val_digits 8 _ (by omega)]
      rw [hv]
      congr 2
      unfold sgnL
      split <;> omega
    · rw [if_neg h8] at hx
      rw [if_neg h8]
      have hp := pow8 hs
      have hx2 : x.toNat < 256 ^ size := by
        have : ((x.toNat : Nat) : Int) < ((256 ^ size : Nat) : Int) := by rw [Int.toNat_of_nonneg hx.1, Int.natCast_pow]; exact hx.2
        omega
      rw [val_digitsL size x hx.1 (by omega) hx2]
  back l x t h := by
    unfold numP at h
    by_cases hl : size ≤ l.length
    · rw [if_pos hl] at h
      obtain ⟨rfl, rfl⟩ := Prod.mk.inj (Option.some.inj h)
      have hlen : (l.take size).length = size := by rw [List.length_take]; omega
      have hv := valL_lt (l.take size)
      rw [hlen] at hv
      have hp := pow8 hs
      have hd : digitsL size (valL (l.take size) : Int) = l.take size := by
        rw [digitsL_nat size _ (by omega)]
        have := digits_val (l.take size)
        rwa [hlen] at this
      by_cases h8 : size = 8
      · subst h8
        rw [if_pos rfl]
        refine ⟨?_, ?_⟩
        · unfold okN sgnL
          rw [if_pos rfl]
          have : (256 : Nat) ^ 8 = 18446744073709551616 := by decide
          split <;> omega
        · rw [digitsL_sgn 8 _ (by omega), hd, List.take_append_drop]
      · rw [if_neg h8]
        refine ⟨?_, by rw [hd, List.take_append_drop]⟩
        unfold okN
        rw [if_neg h8]
        refine ⟨by omega, ?_⟩
        have : ((valL (l.take size) : Nat) : Int) < ((256 ^ size : Nat) : Int) := by omega
        rwa [Int.natCast_pow] at this
    · rw [if_neg hl] at h; cases h
theorem word_codec : Codec wordP (digitsL 8) (fun n => 0 ≤ n ∧ n < 18446744073709551616) where
  there x t hx := by
    have hl := digitsL_len 8 x
    have e1 : (digitsL 8 x ++ t).take 8 = digitsL 8 x := by rw [List.take_append_of_le_length (by omega), List.take_of_length_le (by omega)]
    have e2 : (digitsL 8 x ++ t).drop 8 = t := by rw [List.drop_append_of_le_length (by omega), List.drop_eq_nil_of_le (by omega)]; rfl
    rw [wordP, if_pos (by simp [hl]), e1, e2, val_digitsL 8 x hx.1 hx.2 (by have : (256 : Nat) ^ 8 = 18446744073709551616 := by decide
                                                                            omega)]
  back l x t h := by
    unfold wordP at h
    by_cases hl : 8 ≤ l.length
    · rw [if_pos hl] at h
      obtain ⟨rfl, rfl⟩ := Prod.mk.inj (Option.some.inj h)
      have hlen : (l.take 8).length = 8 := by rw [List.length_take]; omega
      have hv := valL_lt (l.take 8)
      rw [hlen] at hv
      have : (256 : Nat) ^ 8 = 18446744073709551616 := by decide
      have hd : digitsL 8 (valL (l.take 8) : Int) = l.take 8 := by
        rw [digitsL_nat 8 _ (by omega)]
        have := digits_val (l.take 8)
        rwa [hlen] at this
      exact ⟨by omega, by rw [hd, List.take_append_drop]⟩
    · rw [if_neg hl] at h; cases h
theorem part_codec (size most : Nat) (hs : size ≤ 4) (hm : most < 256 ^ size) : Codec (partP size most) (fun s => digitsL size s.length ++ s) (fun s => s.length ≤ most) where
  there x t hx := by
    have hk : okN size (x.length : Int) := by
      unfold okN
      rw [if_neg (by omega)]
      refine ⟨by omega, ?_⟩
      have : ((x.length : Nat) : Int) < ((256 ^ size : Nat) : Int) := by omega
      rwa [Int.natCast_pow] at this
    rw [partP, List.append_assoc, bindP_at ((num_codec size (by omega)).there _ _ hk), if_pos ⟨by omega, by simp; omega⟩, Int.toNat_natCast,
      List.take_append_of_le_length (Nat.le_refl _), List.take_length, List.drop_append_of_le_length (Nat.le_refl _), List.drop_length]
    rfl
  back l x t h := by
    obtain ⟨n, u, h1, h2⟩ := bindP_some h
    obtain ⟨h3, h4⟩ := (num_codec size (by omega)).back _ _ _ h1
    by_cases hc : n ≤ (most : Int) ∧ n ≤ u.length
    · rw [if_pos hc] at h2
      obtain ⟨rfl, rfl⟩ := Prod.mk.inj (Option.some.inj h2)
      have hn0 : 0 ≤ n := by
        unfold okN at h3
        rw [if_neg (by omega)] at h3; exact h3.1
      have hlen : (u.take n.toNat).length = n.toNat := by rw [List.length_take]; omega
      refine ⟨by rw [hlen]; omega, ?_⟩
      rw [hlen, Int.toNat_of_nonneg hn0, List.append_assoc, List.take_append_drop, h4]
    · rw [if_neg hc] at h2; cases h2
theorem text_codec : Codec textP textL' (fun s => s.length ≤ 4096) := part_codec 2 4096 (by decide) (by decide)
theorem block_codec : Codec blockP blockL (fun s => s.length ≤ 1048576) := part_codec 4 1048576 (by decide) (by decide)
theorem many_codec {α : Type} {p : List UInt8 → Option (α × List UInt8)} {f : α → List UInt8} {ok : α → Prop} (c : Codec p f ok) : ∀ n, Codec (manyP p n) (fun l => (l.map f).flatten) (fun l => l.length = n ∧ ∀ x ∈ l, ok x)
  | 0 => { there := fun x t hx => by
             have : x = [] := List.length_eq_zero_iff.1 hx.1
             subst this; rfl
           back := fun l x t h => by
             obtain ⟨rfl, rfl⟩ := Prod.mk.inj (Option.some.inj h)
             exact ⟨⟨rfl, fun x hx => by cases hx⟩, rfl⟩ }
  | n + 1 => { there := fun x t hx => by
                 cases x with
                 | nil => exact absurd hx.1 (by simp)
                 | cons a x =>
                   have h1 := c.there a ((x.map f).flatten ++ t) (hx.2 a (by simp))
                   have h2 := (many_codec c n).there x t ⟨by simpa using hx.1, fun y hy => hx.2 y (by simp [hy])⟩
                   rw [manyP, List.map_cons, List.flatten_cons, List.append_assoc, bindP_at h1, bindP_at h2]
               back := fun l x t h => by
                 obtain ⟨a, u, h1, h2⟩ := bindP_some h
                 obtain ⟨xs, u2, h3, h4⟩ := bindP_some h2
                 obtain ⟨rfl, rfl⟩ := Prod.mk.inj (Option.some.inj h4)
                 obtain ⟨b1, b2⟩ := c.back _ _ _ h1
                 obtain ⟨⟨b3, b4⟩, b5⟩ := (many_codec c n).back _ _ _ h3
                 refine ⟨⟨by simp [b3], fun y hy => ?_⟩, ?_⟩
                 · rcases List.mem_cons.1 hy with rfl | hy
                   · exact b1
                   · exact b4 y hy
                 · rw [List.map_cons, List.flatten_cons, List.append_assoc, b5, b2] }
theorem bit_codec : Codec bitP (fun b => digitsL 1 (oneL b)) (fun _ => True) where
  there x t _ := by
    rw [bitP, bindP_at ((num_codec 1 (by decide)).there _ _ (by cases x <;> simp [okN, oneL]))]
    cases x <;> rfl
  back l x t h := by
    obtain ⟨n, u, h1, h2⟩ := bindP_some h
    obtain ⟨h3, h4⟩ := (num_codec 1 (by decide)).back _ _ _ h1
    simp [okN] at h3
    by_cases hc : 1 < n
    · rw [if_pos hc] at h2; cases h2
    · rw [if_neg hc] at h2
      obtain ⟨rfl, rfl⟩ := Prod.mk.inj (Option.some.inj h2)
      refine ⟨trivial, ?_⟩
      rw [← h4]
      have : n = 0 ∨ n = 1 := by omega
      rcases this with rfl | rfl <;> rfl

def okSeg (s : SegL) : Prop := okN 4 s.at_ ∧ okN 4 s.size ∧ okN 1 s.perm ∧ s.bytes.length ≤ 1048576
theorem seg_codec : Codec segP segF okSeg where
  there x t h := by
    obtain ⟨h1, h2, h3, h4⟩ := h
    have n4 := num_codec 4 (by decide)
    have n1 := num_codec 1 (by decide)
    unfold segP segF
    simp only [List.append_assoc]
    rw [bindP_at (n4.there _ _ h1), bindP_at (n4.there _ _ h2), bindP_at (n1.there _ _ h3), bindP_at (block_codec.there _ _ h4)]
  back l x t h := by
    have n4 := num_codec 4 (by decide)
    have n1 := num_codec 1 (by decide)
    obtain ⟨a1, t1, p1, h⟩ := bindP_some h
    obtain ⟨a2, t2, p2, h⟩ := bindP_some h
    obtain ⟨a3, t3, p3, h⟩ := bindP_some h
    obtain ⟨a4, t4, p4, h⟩ := bindP_some h
    obtain ⟨rfl, rfl⟩ := Prod.mk.inj (Option.some.inj h)
    obtain ⟨o1, q1⟩ := n4.back _ _ _ p1
    obtain ⟨o2, q2⟩ := n4.back _ _ _ p2
    obtain ⟨o3, q3⟩ := n1.back _ _ _ p3
    obtain ⟨o4, q4⟩ := block_codec.back _ _ _ p4
    refine ⟨⟨o1, o2, o3, o4⟩, ?_⟩
    unfold segF
    simp only [List.append_assoc]
    rw [q4, q3, q2, q1]
def okLen (size n : Nat) : Prop := n < 256 ^ size
theorem okLen_N {size n : Nat} (hs : size ≤ 4) (h : okLen size n) : okN size (n : Int) := by
  unfold okN; rw [if_neg (by omega)]
  refine ⟨by omega, ?_⟩
  have : ((n : Nat) : Int) < ((256 ^ size : Nat) : Int) := by unfold okLen at h; omega
  rwa [Int.natCast_pow] at this
theorem okN_nat {size : Nat} {n : Int} (hs : size ≤ 4) (h : okN size n) : n = (n.toNat : Int) ∧ okLen size n.toNat := by
  unfold okN at h; rw [if_neg (by omega)] at h
  refine ⟨by omega, ?_⟩
  unfold okLen
  have : ((n.toNat : Nat) : Int) < ((256 ^ size : Nat) : Int) := by rw [Int.toNat_of_nonneg h.1, Int.natCast_pow]; exact h.2
  omega
/-- a list with its number ahead -/
theorem list_codec {α : Type} {p : List UInt8 → Option (α × List UInt8)} {f : α → List UInt8} {ok : α → Prop} (c : Codec p f ok) (size : Nat) (hs : size ≤ 4) :
    Codec (bindP (numP size) fun n => manyP p n.toNat) (fun l => digitsL size l.length ++ (l.map f).flatten) (fun l => okLen size l.length ∧ ∀ x ∈ l, ok x) where
  there x t h := by
    rw [List.append_assoc, bindP_at ((num_codec size (by omega)).there _ _ (okLen_N hs h.1)), Int.toNat_natCast, (many_codec c x.length).there _ _ ⟨rfl, h.2⟩]
  back l x t h := by
    obtain ⟨n, u, h1, h2⟩ := bindP_some h
    obtain ⟨o1, q1⟩ := (num_codec size (by omega)).back _ _ _ h1
    obtain ⟨⟨o2, o3⟩, q2⟩ := (many_codec c n.toNat).back _ _ _ h2
    obtain ⟨e1, e2⟩ := okN_nat hs o1
    refine ⟨⟨by rw [o2]; exact e2, o3⟩, ?_⟩
    rw [o2, List.append_assoc, q2, ← e1, q1]
def okTexts (l : List (List UInt8)) : Prop := okLen 1 l.length ∧ ∀ x ∈ l, x.length ≤ 4096
theorem texts_codec : Codec (bindP (numP 1) textsP) (fun l => digitsL 1 l.length ++ textsL l) okTexts := list_codec text_codec 1 (by decide)
theorem chain_codec : Codec chainP chainF (fun l => okLen 2 l.length ∧ ∀ x ∈ l, okN 2 x) := list_codec (num_codec 2 (by decide)) 2 (by decide)
theorem assocP {α β γ : Type} (p : List UInt8 → Option (α × List UInt8)) (k : α → List UInt8 → Option (β × List UInt8)) (m : β → List UInt8 → Option (γ × List UInt8)) : (bindP p fun x => bindP (k x) m) = bindP (bindP p k) m := by
  funext l
  unfold bindP
  cases p l <;> rfl
def okNeed (n : NeedL) : Prop := n.name.length ≤ 4096 ∧ okTexts n.versions
theorem need_codec : Codec needP needF okNeed where
  there x t h := by
    obtain ⟨h1, h2⟩ := h
    unfold needP needF
    simp only [List.append_assoc]
    rw [bindP_at (text_codec.there _ _ h1), assocP, bindP_at (by have := texts_codec.there _ t h2; rwa [List.append_assoc] at this)]
  back l x t h := by
    unfold needP at h
    obtain ⟨a1, t1, p1, h⟩ := bindP_some h
    rw [assocP] at h
    obtain ⟨a2, t2, p2, h⟩ := bindP_some h
    obtain ⟨rfl, rfl⟩ := Prod.mk.inj (Option.some.inj h)
    obtain ⟨o1, q1⟩ := text_codec.back _ _ _ p1
    obtain ⟨o2, q2⟩ := texts_codec.back _ _ _ p2
    refine ⟨⟨o1, o2⟩, ?_⟩
    unfold needF
    simp only [List.append_assoc] at q2 ⊢
    rw [q2, q1]
def okSym (s : SymL) : Prop := s.name.length ≤ 4096 ∧ s.version.length ≤ 4096 ∧ okN 1 s.kind ∧ okN 1 s.vis ∧ okN 8 s.value ∧ okN 8 s.size
theorem sym_codec : Codec symP symF okSym where
  there x t h := by
    obtain ⟨h1, h2, h3, h4, h5, h6⟩ := h
    have n8 := num_codec 8 (by decide)
    have n1 := num_codec 1 (by decide)
    unfold symP symF
    simp only [List.append_assoc]
    rw [bindP_at (text_codec.there _ _ h1), bindP_at (text_codec.there _ _ h2), bindP_at (n1.there _ _ h3), bindP_at (n1.there _ _ h4), bindP_at (bit_codec.there _ _ trivial), bindP_at (bit_codec.there _ _ trivial),
      bindP_at (bit_codec.there _ _ trivial), bindP_at (n8.there _ _ h5), bindP_at (n8.there _ _ h6)]
  back l x t h := by
    have n8 := num_codec 8 (by decide)
    have n1 := num_codec 1 (by decide)
    obtain ⟨a1, t1, p1, h⟩ := bindP_some h
    obtain ⟨a2, t2, p2, h⟩ := bindP_some h
    obtain ⟨a3, t3, p3, h⟩ := bindP_some h
    obtain ⟨a4, t4, p4, h⟩ := bindP_some h
    obtain ⟨a5, t5, p5, h⟩ := bindP_some h
    obtain ⟨a6, t6, p6, h⟩ := bindP_some h
    obtain ⟨a7, t7, p7, h⟩ := bindP_some h
    obtain ⟨a8, t8, p8, h⟩ := bindP_some h
    obtain ⟨a9, t9, p9, h⟩ := bindP_some h
    obtain ⟨rfl, rfl⟩ := Prod.mk.inj (Option.some.inj h)
    obtain ⟨o1, q1⟩ := text_codec.back _ _ _ p1
    obtain ⟨o2, q2⟩ := text_codec.back _ _ _ p2
    obtain ⟨o3, q3⟩ := n1.back _ _ _ p3
    obtain ⟨o4, q4⟩ := n1.back _ _ _ p4
    obtain ⟨_, q5⟩ := bit_codec.back _ _ _ p5
    obtain ⟨_, q6⟩ := bit_codec.back _ _ _ p6
    obtain ⟨_, q7⟩ := bit_codec.back _ _ _ p7
    obtain ⟨o8, q8⟩ := n8.back _ _ _ p8
    obtain ⟨o9, q9⟩ := n8.back _ _ _ p9
    refine ⟨⟨o1, o2, o3, o4, o8, o9⟩, ?_⟩
    unfold symF
    simp only [List.append_assoc]
    rw [q9, q8, q7, q6, q5, q4, q3, q2, q1]
def okRel (r : RelL) : Prop := okN 1 r.kind ∧ okN 8 r.at_ ∧ okN 8 r.sym ∧ okN 8 r.add
theorem rel_codec : Codec relP relF okRel where
  there x t h := by
    obtain ⟨h1, h2, h3, h4⟩ := h
    have n8 := num_codec 8 (by decide)
    have n1 := num_codec 1 (by decide)
    unfold relP relF
    simp only [List.append_assoc]
    rw [bindP_at (n1.there _ _ h1), bindP_at (n8.there _ _ h2), bindP_at (n8.there _ _ h3), bindP_at (n8.there _ _ h4)]
  back l x t h := by
    have n8 := num_codec 8 (by decide)
    have n1 := num_codec 1 (by decide)
    obtain ⟨a1, t1, p1, h⟩ := bindP_some h
    obtain ⟨a2, t2, p2, h⟩ := bindP_some h
    obtain ⟨a3, t3, p3, h⟩ := bindP_some h
    obtain ⟨a4, t4, p4, h⟩ := bindP_some h
    obtain ⟨rfl, rfl⟩ := Prod.mk.inj (Option.some.inj h)
    obtain ⟨o1, q1⟩ := n1.back _ _ _ p1
    obtain ⟨o2, q2⟩ := n8.back _ _ _ p2
    obtain ⟨o3, q3⟩ := n8.back _ _ _ p3
    obtain ⟨o4, q4⟩ := n8.back _ _ _ p4
    refine ⟨⟨o1, o2, o3, o4⟩, ?_⟩
    unfold relF
    simp only [List.append_assoc]
    rw [q4, q3, q2, q1]
def okSlot (s : SlotL) : Prop := okN 4 s.at_ ∧ okN 4 s.sym ∧ okN 4 s.stub
theorem slot_codec : Codec slotP slotF okSlot where
  there x t h := by
    obtain ⟨h1, h2, h3⟩ := h
    have n4 := num_codec 4 (by decide)
    unfold slotP slotF
    simp only [List.append_assoc]
    rw [bindP_at (n4.there _ _ h1), bindP_at (n4.there _ _ h2), bindP_at (n4.there _ _ h3)]
  back l x t h := by
    have n4 := num_codec 4 (by decide)
    obtain ⟨a1, t1, p1, h⟩ := bindP_some h
    obtain ⟨a2, t2, p2, h⟩ := bindP_some h
    obtain ⟨a3, t3, p3, h⟩ := bindP_some h
    obtain ⟨rfl, rfl⟩ := Prod.mk.inj (Option.some.inj h)
    obtain ⟨o1, q1⟩ := n4.back _ _ _ p1
    obtain ⟨o2, q2⟩ := n4.back _ _ _ p2
    obtain ⟨o3, q3⟩ := n4.back _ _ _ p3
    refine ⟨⟨o1, o2, o3⟩, ?_⟩
    unfold slotF
    simp only [List.append_assoc]
    rw [q3, q2, q1]
/-- an image that has a form -/
structure OkImg (im : ImgL) : Prop where
  name : im.name.length ≤ 4096
  flags : okN 1 im.flags
  segs : okLen 1 im.segs.length ∧ ∀ s ∈ im.segs, okSeg s
  needed : okLen 1 im.needed.length ∧ ∀ n ∈ im.needed, okNeed n
  runPath : okTexts im.runPath
  syms : okLen 2 im.syms.length ∧ ∀ s ∈ im.syms, okSym s
  buckets : okLen 2 im.buckets.length ∧ ∀ c ∈ im.buckets, okLen 2 c.length ∧ ∀ x ∈ c, okN 2 x
  shift : okN 1 im.shift
  words : okLen 1 im.words.length ∧ ∀ x ∈ im.words, 0 ≤ x ∧ x < 18446744073709551616
  relocs : okLen 2 im.relocs.length ∧ ∀ r ∈ im.relocs, okRel r
  slots : okLen 2 im.slots.length ∧ ∀ s ∈ im.slots, okSlot s
  init : okLen 1 im.init.length ∧ ∀ x ∈ im.init, okN 4 x
  fini : okLen 1 im.fini.length ∧ ∀ x ∈ im.fini, okN 4 x
  tlsSize : okN 2 im.tlsSize
  tls : im.tls.length ≤ 1048576
def formR (im : ImgL) : List UInt8 :=
  textL' magicL ++ (textL' im.name ++ (digitsL 1 im.flags ++ ((digitsL 1 im.segs.length ++ (im.segs.map segF).flatten) ++
  ((digitsL 1 im.needed.length ++ (im.needed.map needF).flatten) ++ ((digitsL 1 im.runPath.length ++ textsL im.runPath) ++
  ((digitsL 2 im.syms.length ++ (im.syms.map symF).flatten) ++ ((digitsL 2 im.buckets.length ++ (im.buckets.map chainF).flatten) ++
  (digitsL 1 im.shift ++ ((digitsL 1 im.words.length ++ numsL 8 im.words) ++ ((digitsL 2 im.relocs.length ++ (im.relocs.map relF).flatten) ++
  ((digitsL 2 im.slots.length ++ (im.slots.map slotF).flatten) ++ ((digitsL 1 im.init.length ++ numsL 4 im.init) ++ ((digitsL 1 im.fini.length ++ numsL 4 im.fini) ++
  (digitsL 2 im.tlsSize ++ blockL im.tls))))))))))))))
theorem formR_eq (im : ImgL) : formR im = formL im := by
  unfold formR formL; simp only [List.append_assoc]
theorem img_codec : Codec imgP formL OkImg where
  there x t h := by
    have n2 := num_codec 2 (by decide)
    have n1 := num_codec 1 (by decide)
    rw [← formR_eq]
    unfold imgP formR numsL
    simp only [List.append_assoc (_ ++ _) _ t, List.append_assoc (textL' _) _ t, List.append_assoc (digitsL _ x.flags) _ t, List.append_assoc (digitsL _ x.shift) _ t, List.append_assoc (digitsL _ x.tlsSize) _ t]
    rw [bindP_at (text_codec.there _ _ (by decide)), if_neg (by simp), bindP_at (text_codec.there _ _ h.name), bindP_at (n1.there _ _ h.flags),
      assocP, bindP_at ((list_codec seg_codec 1 (by decide)).there _ _ h.segs),
      assocP, bindP_at ((list_codec need_codec 1 (by decide)).there _ _ h.needed),
      assocP, bindP_at (texts_codec.there _ _ h.runPath),
      assocP, bindP_at ((list_codec sym_codec 2 (by decide)).there _ _ h.syms),
      assocP, bindP_at ((list_codec chain_codec 2 (by decide)).there _ _ h.buckets),
      bindP_at (n1.there _ _ h.shift),
      assocP, bindP_at ((list_codec word_codec 1 (by decide)).there _ _ h.words),
      assocP, bindP_at ((list_codec rel_codec 2 (by decide)).there _ _ h.relocs),
      assocP, bindP_at ((list_codec slot_codec 2 (by decide)).there _ _ h.slots),
      assocP, bindP_at ((list_codec (num_codec 4 (by decide)) 1 (by decide)).there _ _ h.init),
      assocP, bindP_at ((list_codec (num_codec 4 (by decide)) 1 (by decide)).there _ _ h.fini),
      bindP_at (n2.there _ _ h.tlsSize), bindP_at (block_codec.there _ _ h.tls)]
  back l x t h := by
    have n2 := num_codec 2 (by decide)
    have n1 := num_codec 1 (by decide)
    unfold imgP at h
    obtain ⟨a0, t0, p0, h⟩ := bindP_some h
    by_cases hm : a0 = magicL
    case neg => rw [if_pos hm] at h; cases h
    rw [if_neg (by simpa using hm)] at h
    subst hm
    obtain ⟨a1, t1, p1, h⟩ := bindP_some h
    obtain ⟨a2, t2, p2, h⟩ := bindP_some h
    rw [assocP] at h; obtain ⟨a3, t3, p3, h⟩ := bindP_some h
    rw [assocP] at h; obtain ⟨a4, t4, p4, h⟩ := bindP_some h
    rw [assocP] at h; obtain ⟨a5, t5, p5, h⟩ := bindP_some h
    rw [assocP] at h; obtain ⟨a6, t6, p6, h⟩ := bindP_some h
    rw [assocP] at h; obtain ⟨a7, t7, p7, h⟩ := bindP_some h
    obtain ⟨a8, t8, p8, h⟩ := bindP_some h
    rw [assocP] at h; obtain ⟨a9, t9, p9, h⟩ := bindP_some h
    rw [assocP] at h; obtain ⟨a10, t10, p10, h⟩ := bindP_some h
    rw [assocP] at h; obtain ⟨a11, t11, p11, h⟩ := bindP_some h
    rw [assocP] at h; obtain ⟨a12, t12, p12, h⟩ := bindP_some h
    rw [assocP] at h; obtain ⟨a13, t13, p13, h⟩ := bindP_some h
    obtain ⟨a14, t14, p14, h⟩ := bindP_some h
    obtain ⟨a15, t15, p15, h⟩ := bindP_some h
    obtain ⟨rfl, rfl⟩ := Prod.mk.inj (Option.some.inj h)
    obtain ⟨_, q0⟩ := text_codec.back _ _ _ p0
    obtain ⟨o1, q1⟩ := text_codec.back _ _ _ p1
    obtain ⟨o2, q2⟩ := n1.back _ _ _ p2
    obtain ⟨o3, q3⟩ := (list_codec seg_codec 1 (by decide)).back _ _ _ p3
    obtain ⟨o4, q4⟩ := (list_codec need_codec 1 (by decide)).back _ _ _ p4
    obtain ⟨o5, q5⟩ := texts_codec.back _ _ _ p5
    obtain ⟨o6, q6⟩ := (list_codec sym_codec 2 (by decide)).back _ _ _ p6
    obtain ⟨o7, q7⟩ := (list_codec chain_codec 2 (by decide)).back _ _ _ p7
    obtain ⟨o8, q8⟩ := n1.back _ _ _ p8
    obtain ⟨o9, q9⟩ := (list_codec word_codec 1 (by decide)).back _ _ _ p9
    obtain ⟨o10, q10⟩ := (list_codec rel_codec 2 (by decide)).back _ _ _ p10
    obtain ⟨o11, q11⟩ := (list_codec slot_codec 2 (by decide)).back _ _ _ p11
    obtain ⟨o12, q12⟩ := (list_codec (num_codec 4 (by decide)) 1 (by decide)).back _ _ _ p12
    obtain ⟨o13, q13⟩ := (list_codec (num_codec 4 (by decide)) 1 (by decide)).back _ _ _ p13
    obtain ⟨o14, q14⟩ := n2.back _ _ _ p14
    obtain ⟨o15, q15⟩ := block_codec.back _ _ _ p15
    refine ⟨⟨o1, o2, o3, o4, o5, o6, o7, o8, o9, o10, o11, o12, o13, o14, o15⟩, ?_⟩
    rw [← formR_eq]
    unfold formR
    simp only [List.append_assoc (_ ++ _) _ t15, List.append_assoc (textL' _) _ t15, List.append_assoc (digitsL _ a2) _ t15, List.append_assoc (digitsL _ a8) _ t15, List.append_assoc (digitsL _ a14) _ t15]
    unfold numsL
    rw [q15, q14, q13, q12, q11, q10, q9, q8, q7, q6, q5, q4, q3, q2, q1, q0]

end Go.Proofs.Ytbliedldlimpgaa

/- Plain laws of an image that may be: it has a form, which is read back; nothing shorter or longer is read. Plain Lean, no program in sight. -/
namespace Go.Proofs.Ytbliedldlimpgaa
set_option linter.unusedVariables false
set_option linter.unusedSimpArgs false

theorem may_parts {im : ImgL} (h : mayL im = 0) : headB im = true ∧ segsB im.segs = true ∧ tlsB im = true ∧ symsB im = true ∧ tableB im = true ∧ relocsB im = true ∧ slotsB im = true ∧ runB im im.init = true ∧ runB im im.fini = true := by
  unfold mayL at h
  by_cases h1 : headB im = false
  · rw [if_pos h1] at h; cases h
  rw [if_neg h1] at h
  by_cases h2 : segsB im.segs = false
  · rw [if_pos h2] at h; cases h
  rw [if_neg h2] at h
  by_cases h3 : tlsB im = false
  · rw [if_pos h3] at h; cases h
  rw [if_neg h3] at h
  by_cases h4 : symsB im = false
  · rw [if_pos h4] at h; cases h
  rw [if_neg h4] at h
  by_cases h5 : tableB im = false
  · rw [if_pos h5] at h; cases h
  rw [if_neg h5] at h
  by_cases h6 : relocsB im = false
  · rw [if_pos h6] at h; cases h
  rw [if_neg h6] at h
  by_cases h7 : slotsB im = false
  · rw [if_pos h7] at h; cases h
  rw [if_neg h7] at h
  by_cases h8 : (runB im im.init && runB im im.fini) = false
  · rw [if_pos h8] at h; cases h
  simp only [Bool.not_eq_false, Bool.and_eq_true] at *
  exact ⟨h1, h2, h3, h4, h5, h6, h7, h8.1, h8.2⟩
theorem segsFrom_each : ∀ (l : List SegL) (e : Int), segsFrom e l = true → ∀ s ∈ l, segB s = true
  | [], _, _, s, hs => by cases hs
  | a :: l, e, h, s, hs => by
    simp only [segsFrom, Bool.and_eq_true] at h
    rcases List.mem_cons.1 hs with rfl | hs
    · exact h.1.2
    · exact segsFrom_each l _ h.2 s hs
theorem segB_good {s : SegL} (h : segB s = true) : 0 ≤ s.at_ ∧ s.at_ ≤ 65536 ∧ 1 ≤ s.size ∧ s.size ≤ 65536 ∧ 0 ≤ s.perm ∧ s.perm ≤ 7 ∧ s.at_ + s.size ≤ 65536 ∧ (s.bytes.length : Int) ≤ s.size := by
  simp only [segB, Bool.and_eq_true, decide_eq_true_eq] at h
  omega
theorem segs_good {im : ImgL} (h : segsB im.segs = true) : ∀ s ∈ im.segs, 0 ≤ s.at_ ∧ s.at_ ≤ 65536 ∧ 1 ≤ s.size ∧ s.size ≤ 65536 ∧ 0 ≤ s.perm ∧ s.perm ≤ 7 ∧ s.at_ + s.size ≤ 65536 ∧ (s.bytes.length : Int) ≤ s.size := fun s hs => by
  simp only [segsB, Bool.and_eq_true] at h
  exact segB_good (segsFrom_each _ _ h.2 s hs)
theorem holds_range {l : List SegL} {at_ n p : Int} (hl : ∀ s ∈ l, 0 ≤ s.at_ ∧ s.at_ ≤ 65536 ∧ 1 ≤ s.size ∧ s.size ≤ 65536 ∧ 0 ≤ s.perm ∧ s.perm ≤ 7 ∧ s.at_ + s.size ≤ 65536 ∧ (s.bytes.length : Int) ≤ s.size) (h : holdsB l at_ n p = true) : 0 ≤ at_ ∧ n ≤ 65536 ∧ at_ + n ≤ 65536 := by
  obtain ⟨s, hs, h2⟩ := List.any_eq_true.1 h
  have := hl s hs
  simp only [Bool.and_eq_true, decide_eq_true_eq] at h2
  omega
theorem symsFrom_each (segs : List SegL) (tls : Int) : ∀ (l done : List SymL), symsFrom segs tls done l = true → ∀ s ∈ l, symB segs tls s = true
  | [], _, _, s, hs => by cases hs
  | a :: l, done, h, s, hs => by
    simp only [symsFrom, Bool.and_eq_true] at h
    rcases List.mem_cons.1 hs with rfl | hs
    · exact h.1.1
    · exact symsFrom_each segs tls l _ h.2 s hs
theorem nameB_len {s : List UInt8} (h : nameB s = true) : 1 ≤ s.length ∧ s.length ≤ 64 := by
  simp only [nameB, Bool.and_eq_true, decide_eq_true_eq] at h; exact ⟨h.1.2, h.2⟩
theorem sizedB_len {s : List UInt8} (h : sizedB s = true) : 1 ≤ s.length ∧ s.length ≤ 200 := by
  simp only [sizedB, Bool.and_eq_true, decide_eq_true_eq] at h; exact h
theorem optB_len {s : List UInt8} (h : (decide (s = []) || nameB s) = true) : s.length ≤ 64 := by
  simp only [Bool.or_eq_true, decide_eq_true_eq] at h
  rcases h with h | h
  · rw [h]; decide
  · exact (nameB_len h).2
theorem sym_good {im : ImgL} (hg : segsB im.segs = true) (ht : tlsB im = true) {s : SymL} (h : symB im.segs im.tlsSize s = true) :
    (1 ≤ s.name.length ∧ s.name.length ≤ 64) ∧ s.version.length ≤ 64 ∧ (1 ≤ s.kind ∧ s.kind ≤ 3) ∧ (0 ≤ s.vis ∧ s.vis ≤ 2) ∧ (0 ≤ s.value ∧ s.value ≤ 65536) ∧ 0 ≤ s.size ∧ s.size ≤ 65536 := by
  simp only [symB, Bool.and_eq_true] at h
  obtain ⟨h1, h2⟩ := h
  simp only [symRightB, Bool.and_eq_true] at h1
  obtain ⟨⟨⟨⟨⟨⟨⟨⟨⟨a1, a2⟩, a3⟩, a4⟩, a5⟩, a6⟩, a7⟩, a8⟩, a9⟩, _⟩ := h1
  simp only [decide_eq_true_eq] at a3 a4 a5 a6 a7 a8
  refine ⟨nameB_len a1, optB_len a2, ⟨a3, a4⟩, ⟨a5, a6⟩, ?_⟩
  cases hd : s.defined with
  | false =>
    rw [hd] at a9
    simp at a9
    omega
  | true =>
    rw [hd] at h2
    simp only [Bool.not_true, Bool.false_or] at h2
    simp only [tlsB, Bool.and_eq_true, decide_eq_true_eq] at ht
    by_cases hk : s.kind = 3
    · rw [if_pos hk] at h2
      simp only [Bool.and_eq_true, decide_eq_true_eq] at h2
      omega
    · rw [if_neg hk] at h2
      have := holds_range (segs_good hg) h2
      omega
theorem relocsFrom_each (im : ImgL) : ∀ (l : List RelL) (e : Int), relocsFrom im e l = true → ∀ r ∈ l, relocB im r = true
  | [], _, _, s, hs => by cases hs
  | a :: l, e, h, s, hs => by
    simp only [relocsFrom, Bool.and_eq_true] at h
    rcases List.mem_cons.1 hs with rfl | hs
    · exact h.1.2
    · exact relocsFrom_each im l _ h.2 s hs
theorem slotsFrom_each (im : ImgL) : ∀ (l : List SlotL) (e : Int), slotsFrom im e l = true → ∀ r ∈ l, slotB im r = true
  | [], _, _, s, hs => by cases hs
  | a :: l, e, h, s, hs => by
    simp only [slotsFrom, Bool.and_eq_true] at h
    rcases List.mem_cons.1 hs with rfl | hs
    · exact h.1.2
    · exact slotsFrom_each im l _ h.2 s hs
theorem symAt_range {im : ImgL} {i : Int} {s : SymL} (h : symAt im i = some s) : 0 ≤ i ∧ i < im.syms.length ∧ s ∈ im.syms := by
  unfold symAt at h
  by_cases hi : i < 0
  · rw [if_pos hi] at h; cases h
  · rw [if_neg hi] at h
    have := (List.getElem?_eq_some_iff.1 h).1
    exact ⟨by omega, by omega, List.mem_of_getElem? h⟩
theorem reloc_good {im : ImgL} (hg : segsB im.segs = true) (hs : im.syms.length ≤ 512) {r : RelL} (h : relocB im r = true) :
    (0 ≤ r.at_ ∧ r.at_ + wideL im r ≤ 65536) ∧ (0 ≤ r.kind ∧ r.kind ≤ 7) ∧ (-1 ≤ r.sym ∧ r.sym ≤ 512) ∧ (-4294967296 ≤ r.add ∧ r.add ≤ 4294967296) := by
  unfold relocB at h
  by_cases hk : r.kind = 1
  · rw [if_pos hk] at h
    simp only [Bool.and_eq_true, decide_eq_true_eq] at h
    have := holds_range (segs_good hg) h.2
    have hw : wideL im r = 8 := by
      unfold wideL
      split
      · rw [if_neg (by omega)]
      · rfl
    omega
  · rw [if_neg hk] at h
    cases hsy : symAt im r.sym with
    | none => rw [hsy] at h; cases h
    | some s =>
      rw [hsy] at h
      have hr := symAt_range hsy
      simp only [Bool.and_eq_true, decide_eq_true_eq] at h
      obtain ⟨⟨h1, h2⟩, h3⟩ := h
      have hw : wideL im r = if r.kind = 2 then s.size else 8 := by rw [wideL, hsy]
      by_cases k1 : r.kind = 0 ∨ r.kind = 6
      · rw [if_pos k1] at h3
        simp only [Bool.and_eq_true] at h3
        have := holds_range (segs_good hg) h3.2
        rw [if_neg (by omega)] at hw
        omega
      rw [if_neg k1] at h3
      by_cases k2 : r.kind = 7
      · rw [if_pos k2] at h3
        simp only [Bool.and_eq_true] at h3
        have := holds_range (segs_good hg) h3.2
        rw [if_neg (by omega)] at hw
        omega
      rw [if_neg k2] at h3
      by_cases k3 : r.kind = 3
      · rw [if_pos k3] at h3
        simp only [Bool.and_eq_true] at h3
        have := holds_range (segs_good hg) h3.2
        rw [if_neg (by omega)] at hw
        omega
      rw [if_neg k3] at h3
      by_cases k4 : r.kind = 4 ∨ r.kind = 5
      · rw [if_pos k4] at h3
        simp only [Bool.and_eq_true] at h3
        have := holds_range (segs_good hg) h3.2
        rw [if_neg (by omega)] at hw
        omega
      rw [if_neg k4] at h3
      by_cases k5 : r.kind = 2
      · rw [if_pos k5] at h3
        simp only [Bool.and_eq_true] at h3
        have := holds_range (segs_good hg) h3.2
        rw [if_pos k5] at hw
        omega
      · rw [if_neg k5] at h3; cases h3
theorem slot_good {im : ImgL} (hg : segsB im.segs = true) (hs : im.syms.length ≤ 512) {s : SlotL} (h : slotB im s = true) :
    (0 ≤ s.at_ ∧ s.at_ ≤ 65536) ∧ (0 ≤ s.sym ∧ s.sym < im.syms.length) ∧ (0 ≤ s.stub ∧ s.stub ≤ 65536) := by
  simp only [slotB, Bool.and_eq_true] at h
  obtain ⟨⟨⟨h1, h2⟩, h3⟩, _⟩ := h
  have a := holds_range (segs_good hg) h2
  have b := holds_range (segs_good hg) h3
  cases hsy : symAt im s.sym with
  | none => rw [hsy] at h1; cases h1
  | some x =>
    have hr := symAt_range hsy
    omega
theorem chain_good {im : ImgL} (h : tableB im = true) : ∀ c ∈ im.buckets, c.length ≤ 512 ∧ ∀ i ∈ c, 0 ≤ i ∧ i < 512 := by
  have hd : ∀ c ∈ im.buckets, c.length ≤ (im.buckets.map List.length).sum := by
    intro c hc
    generalize im.buckets = bs at hc
    induction bs with
    | nil => cases hc
    | cons b bs ih =>
      simp only [List.map_cons, List.sum_cons]
      rcases List.mem_cons.1 hc with rfl | hc
      · omega
      · have := ih hc; omega
  simp only [tableB, Bool.and_eq_true, decide_eq_true_eq] at h
  obtain ⟨⟨⟨⟨⟨h1, _⟩, _⟩, _⟩, h5⟩, h6⟩ := h
  have hf := List.length_filter_le seenB im.syms
  have h7 := (chainsB_iff im im.buckets 0).1 h5
  intro c hc
  refine ⟨by have := hd c hc; omega, fun i hi => ?_⟩
  obtain ⟨j, hj⟩ := List.getElem?_of_mem hc
  obtain ⟨k, hk, rfl, _⟩ := entry_home.1 (h7.2 j c hj i hi)
  have := ((seenK_mem _ _ _).1 hk).1
  omega
theorem okN_small {size : Nat} {n : Int} (hs : size ≤ 4) (h0 : 0 ≤ n) (h1 : n < (256 : Int) ^ size) : okN size n := by
  unfold okN; rw [if_neg (by omega)]; exact ⟨h0, h1⟩
/-- an image that may be has a form -/
theorem may_ok {im : ImgL} (h : mayL im = 0) (hw : ∀ x ∈ im.words, 0 ≤ x ∧ x < 18446744073709551616) : OkImg im := by
  obtain ⟨hh, hg, ht, hs, htb, hr, hsl, hi, hf⟩ := may_parts h
  have p1 : (256 : Int) ^ 1 = 256 := by decide
  have p2 : (256 : Int) ^ 2 = 65536 := by decide
  have p4 : (256 : Int) ^ 4 = 4294967296 := by decide
  have q1 : 256 ^ 1 = 256 := by decide
  have q2 : 256 ^ 2 = 65536 := by decide
  have hch := chain_good htb
  have hgs := segs_good hg
  have run_good : ∀ l, runB im l = true → okLen 1 l.length ∧ ∀ x ∈ l, okN 4 x := by
    intro l hl
    simp only [runB, Bool.and_eq_true, decide_eq_true_eq] at hl
    refine ⟨by unfold okLen; omega, fun x hx => ?_⟩
    have := holds_range hgs (List.all_eq_true.1 hl.2 x hx)
    exact okN_small (by decide) this.1 (by omega)
  have hnames : ∀ l : List (List UInt8), l.length ≤ 16 → (∀ x ∈ l, x.length ≤ 4096) → okTexts l := fun l h1 h2 => ⟨by unfold okLen; omega, h2⟩
  have hh' := hh
  simp only [headB, Bool.and_eq_true] at hh
  obtain ⟨⟨⟨⟨⟨⟨a1, a2⟩, a3⟩, a4⟩, a5⟩, a6⟩, a7⟩ := hh
  simp only [decide_eq_true_eq] at a2 a3 a4 a5
  have hg' := hg
  simp only [segsB, Bool.and_eq_true, decide_eq_true_eq] at hg'
  have ht' := ht
  simp only [tlsB, Bool.and_eq_true, decide_eq_true_eq] at ht'
  have hs' := hs
  simp only [symsB, Bool.and_eq_true, decide_eq_true_eq] at hs'
  have htb' := htb
  simp only [tableB, Bool.and_eq_true, decide_eq_true_eq] at htb'
  obtain ⟨⟨⟨⟨⟨_, _⟩, b3⟩, b4⟩, _⟩, _⟩ := htb'
  simp only [sieveB, Bool.and_eq_true, decide_eq_true_eq] at b4
  obtain ⟨⟨b5, b6⟩, b7⟩ := b4
  have b8 : im.words.length ≤ 64 := by
    simp only [Bool.or_eq_true, decide_eq_true_eq] at b5; omega
  have hr' := hr
  simp only [relocsB, Bool.and_eq_true, decide_eq_true_eq] at hr'
  have hsl' := hsl
  simp only [slotsB, Bool.and_eq_true, decide_eq_true_eq] at hsl'
  refine ⟨by have := optB_len a1; omega, okN_small (by decide) a2 (by omega), ⟨by unfold okLen; omega, fun s hm => ?_⟩, ⟨by unfold okLen; omega, fun n hm => ?_⟩, hnames _ a5 (fun x hx => ?_), ⟨by unfold okLen; omega, fun s hm => ?_⟩,
    ⟨by unfold okLen; omega, fun c hc => ⟨by have := (hch c hc).1; unfold okLen; omega, fun x hx => ?_⟩⟩, okN_small (by decide) (by omega) (by omega), ⟨by unfold okLen; omega, hw⟩, ⟨by unfold okLen; omega, fun r hm => ?_⟩, ⟨by unfold okLen; omega, fun s hm => ?_⟩,
    run_good _ hi, run_good _ hf, okN_small (by decide) (by omega) (by omega), by omega⟩
  · have := hgs s hm
    exact ⟨okN_small (by decide) (by omega) (by omega), okN_small (by decide) (by omega) (by omega), okN_small (by decide) (by omega) (by omega), by omega⟩
  · have := List.all_eq_true.1 a6 n hm
    simp only [needB, Bool.and_eq_true, decide_eq_true_eq] at this
    obtain ⟨⟨c1, c2⟩, c3⟩ := this
    refine ⟨by have := sizedB_len c1; omega, hnames _ c2 (fun x hx => ?_)⟩
    have := nameB_len (List.all_eq_true.1 c3 x hx); omega
  · have := sizedB_len (List.all_eq_true.1 a7 x hx); omega
  · have := sym_good hg ht (symsFrom_each _ _ _ _ hs'.2 s hm)
    exact ⟨by omega, by omega, okN_small (by decide) (by omega) (by omega), okN_small (by decide) (by omega) (by omega), by unfold okN; rw [if_pos rfl]; omega, by unfold okN; rw [if_pos rfl]; omega⟩
  · have := (hch c hc).2 x hx
    exact okN_small (by decide) (by omega) (by omega)
  · have := reloc_good hg hs'.1 (relocsFrom_each _ _ _ hr'.2 r hm)
    have hat : r.at_ ≤ 9223372036854775807 := by
      have hw : 0 ≤ wideL im r := by
        unfold wideL
        split
        · rename_i s hsy
          have := sym_good hg ht (symsFrom_each _ _ _ _ hs'.2 s (symAt_range hsy).2.2)
          split <;> omega
        · omega
      omega
    exact ⟨okN_small (by decide) (by omega) (by omega), by unfold okN; rw [if_pos rfl]; omega, by unfold okN; rw [if_pos rfl]; omega, by unfold okN; rw [if_pos rfl]; omega⟩
  · have := slot_good hg hs'.1 (slotsFrom_each _ _ _ hsl'.2 s hm)
    exact ⟨okN_small (by decide) (by omega) (by omega), okN_small (by decide) (by omega) (by omega), okN_small (by decide) (by omega) (by omega)⟩
/-- bytes that are an image's, whole -/
def wholeP (b : List UInt8) : Option ImgL := match imgP b with
  | some (im, []) => some im
  | _ => none
theorem whole_form {im : ImgL} (h : OkImg im) : wholeP (formL im) = some im := by
  have := img_codec.there im [] h
  rw [List.append_nil] at this
  rw [wholeP, this]
theorem whole_back {b : List UInt8} {im : ImgL} (h : wholeP b = some im) : OkImg im ∧ formL im = b := by
  unfold wholeP at h
  cases hp : imgP b with
  | none => rw [hp] at h; cases h
  | some q =>
    obtain ⟨x, t⟩ := q
    rw [hp] at h
    cases t with
    | cons c t => cases h
    | nil =>
      cases Option.some.inj h
      have := img_codec.back _ _ _ hp
      rwa [List.append_nil] at this
theorem whole_more {im : ImgL} (h : OkImg im) {more : List UInt8} (hm : more ≠ []) : wholeP (formL im ++ more) = none := by
  rw [wholeP, img_codec.there im more h]
  cases more with
  | nil => exact absurd rfl hm
  | cons c t => rfl
theorem whole_cut {im : ImgL} (h : OkImg im) {n : Nat} (hn : n < (formL im).length) : wholeP ((formL im).take n) = none := by
  cases hw : wholeP ((formL im).take n) with
  | none => rfl
  | some x =>
    exfalso
    obtain ⟨h1, h2⟩ := whole_back hw
    have h3 := img_codec.there x ((formL im).drop n) h1
    rw [h2, List.take_append_drop] at h3
    have h4 := img_codec.there im [] h
    rw [List.append_nil, h3] at h4
    have h5 := (Prod.mk.inj (Option.some.inj h4)).2
    have : ((formL im).drop n).length = 0 := by rw [h5]; rfl
    rw [List.length_drop] at this
    omega
theorem form_inj {x y : ImgL} (hx : OkImg x) (hy : OkImg y) (h : formL x = formL y) : x = y := by
  have h1 := whole_form hx
  rw [h, whole_form hy] at h1
  exact (Option.some.inj h1).symm
theorem form_pos (im : ImgL) : 0 < (formL im).length := by
  rw [← formR_eq]
  simp [formR, textL', digitsL_len]
  omega

end Go.Proofs.Ytbliedldlimpgaa

namespace Go.Proofs.Ytbliedldlimpgaa
set_option linter.unusedVariables false
set_option linter.unusedSimpArgs false
open Go.RowKit

theorem symsFrom_bad {segs : List SegL} {tls : Int} {done : List SymL} {s : SymL} {l : List SymL} (h : symB segs tls s = false) : symsFrom segs tls done (s :: l) = false := by rw [symsFrom, h]; rfl
theorem symsFrom_clash {segs : List SegL} {tls : Int} {done : List SymL} {s : SymL} {l : List SymL} {q : Nat} {t : SymL} (ht : done[q]? = some t) (h : clashB s t = true) : symsFrom segs tls done (s :: l) = false := by
  have : (done.all fun t => !clashB s t) = false := by rw [List.all_eq_false]; exact ⟨t, List.mem_of_getElem? ht, by simp [h]⟩
  rw [symsFrom, this]; simp
theorem symsFrom_ok {segs : List SegL} {tls : Int} {done : List SymL} {s : SymL} {l : List SymL} (h : symB segs tls s = true) (h2 : (done.all fun t => !clashB s t) = true) : symsFrom segs tls done (s :: l) = symsFrom segs tls (done ++ [s]) l := by rw [symsFrom, h, h2]; rfl
theorem take_snoc {α : Type} (l : List α) (k : Nat) (x : α) (hx : l[k]? = some x) : l.take (k + 1) = l.take k ++ [x] := by
  obtain ⟨h, rfl⟩ := List.getElem?_eq_some_iff.1 hx
  rw [List.take_succ_eq_append_getElem h]
theorem symB_right {segs : List SegL} {tls : Int} {s : SymL} (h : symRightB s = false) : symB segs tls s = false := by rw [symB, h]; rfl
theorem symB_free {segs : List SegL} {tls : Int} {s : SymL} (h : symRightB s = true) (hd : s.defined = false) : symB segs tls s = true := by rw [symB, h, hd]; rfl
theorem symB_tls {segs : List SegL} {tls : Int} {s : SymL} (h : symRightB s = true) (hd : s.defined = true) (hk : s.kind = 3) : symB segs tls s = (decide (s.size ≤ tls) && decide (s.value ≤ tls - s.size)) := by rw [symB, h, hd, if_pos hk]; rfl
theorem symB_holds {segs : List SegL} {tls : Int} {s : SymL} (h : symRightB s = true) (hd : s.defined = true) (hk : s.kind ≠ 3) : symB segs tls s = holdsB segs s.value s.size 0 := by rw [symB, h, hd, if_neg hk]; rfl
theorem right_nums {s : SymL} (h : symRightB s = true) : 0 ≤ s.value ∧ 0 ≤ s.size := by
  simp only [symRightB, Bool.and_eq_true, decide_eq_true_eq] at h; omega
/-- the cells of a symbol that was loaded into a variable -/
abbrev symArr (s : SymL) : Array Value := #[.string ⟨s.name.toArray⟩, .string ⟨s.version.toArray⟩, .bool s.old, .int .i64 s.kind, .bool s.weak, .int .i64 s.vis, .bool s.defined, .int .i64 s.value, .int .i64 s.size]
set_option maxHeartbeats 16000000 in
set_option maxRecDepth 100000 in
theorem isyms_any (w : World) (v : ImgV) (im : ImgL) (hs : LB kSeg (· < w.heap.size) w v.segs im.segs) (hok : ∀ s ∈ im.segs, SegOk s) (hy : LB kSym (· < w.heap.size) w v.syms im.syms) (ht : 0 ≤ im.tlsSize ∧ im.tlsSize ≤ 4096) :
    Calls Try.prog 22 #[.agg (imgCells v im)] w fun e w' => e = .returned (.bool (symsB im)) ∧ Below w.heap.size w w' := by
  obtain ⟨sa, sb, soff, scap, hsv, hsm, hsc, hat⟩ := hy.at
  obtain ⟨vsegs, vneeded, vrunPath, vsyms, vbuckets, vwords, vrelocs, vslots, vinit, vfini, vtls⟩ := v
  simp only at hsv
  subst hsv
  have HH : Hid (∀ (w' : World) (x n : Int), Below w.heap.size w w' → (-9223372036854775808 ≤ x ∧ x ≤ 9223372036854775807) → (0 ≤ n ∧ n ≤ 9223372036854775807) →
    Calls Try.prog 59 #[.agg (imgCells ⟨vsegs, vneeded, vrunPath, .slice sa im.syms.length scap, vbuckets, vwords, vrelocs, vslots, vinit, vfini, vtls⟩ im), .agg #[.int .i64 x, .int .i64 n, .int .i64 0]] w' fun e w'' => e = .returned (.bool (holdsB im.segs x n 0)) ∧ Below w'.heap.size w' w'') := Lib.hid (fun w' x n hb hx hn => holds_any w' _ im x n 0 ((hs.below hb).mono hb.size) hok hx hn (by decide))
  unfold imgCells at *
  have Hat := Lib.hid hat
  have HD : Hid (symsB im = (decide (im.syms.length ≤ 512) && symsFrom im.segs im.tlsSize [] im.syms)) := Lib.hid rfl
  clear hs hok hat hy
  generalize hI : (Array.mk [.string ⟨im.name.toArray⟩, .int .i64 im.flags, vsegs, vneeded, vrunPath, .slice sa im.syms.length scap, vbuckets, vwords, .int .i64 im.shift, vrelocs, vslots, vinit, vfini, vtls, .int .i64 im.tlsSize] : Array Value) = I at HH
  have F0 := Lib.hid (heap_alloc_new w (.cells I 38 (0, 0)))
  have B1 := Lib.hid ((Below.refl w.heap.size w).alloc (Nat.le_refl _) (.cells I 38 (0, 0)))
  subst hI
  by_cases h5 : im.syms.length ≤ 512
  case neg =>
    have Hn : Hid (symsB im = false) := Lib.hid (by rw [HD.out, decide_eq_false (p := im.syms.length ≤ 512) h5]; rfl)
    have h6 : 512 < im.syms.length := by omega
    go_enter Try.func22, Try.ntmps22
    go_wp2
    go_ret
    exact ⟨by rw [Hn.out]; rfl, B1.out⟩
  have h6 : ¬ 512 < im.syms.length := by omega
  have Hse : Hid (symsB im = symsFrom im.segs im.tlsSize [] im.syms) := Lib.hid (by rw [HD.out, decide_eq_true (p := im.syms.length ≤ 512) h5]; rfl)
  clear HD
  go_enter Try.func22, Try.ntmps22
  go_wp2_with fail
  go_loopw [14] (fun i wr => ∃ (k : Nat), i = .int .i64 k ∧ k ≤ im.syms.length ∧ symsB im = symsFrom im.segs im.tlsSize (im.syms.take k) (im.syms.drop k) ∧ Below w.heap.size w wr ∧
    wr.heap[w.heap.size]? = some (.cells #[.string ⟨im.name.toArray⟩, .int .i64 im.flags, vsegs, vneeded, vrunPath, .slice sa im.syms.length scap, vbuckets, vwords, .int .i64 im.shift, vrelocs, vslots, vinit, vfini, vtls, .int .i64 im.tlsSize] 38 (0, 0)) ∧ w.heap.size < wr.heap.size) (fun i _ => im.syms.length - (intOf i).toNat)
  case atStart => exact ⟨0, rfl, Nat.zero_le _, by rw [Hse.out]; simp, B1.out, F0.out, by simp⟩
  case round =>
    obtain ⟨k, rfl, hk, hse, hbel, hF, hzq⟩ := hrel
    have Hse2 := Lib.hid hse
    have Hbel := Lib.hid hbel
    have HF := Lib.hid hF
    have hBr := hbel.size
    clear hse Hse
    by_cases hlt : k < im.syms.length
    · obtain rfl := Hat.out.addr (by omega)
      obtain ⟨s, hx⟩ : ∃ s, im.syms[k]? = some s := ⟨_, List.getElem?_eq_getElem hlt⟩
      obtain ⟨hso, g0, g1, g2, g3, g4, g5, g6, g7, g8⟩ := (Hat.out.below hbel).sym9 k s hx
      have Hdc := Lib.hid (drop_cons im.syms k s hx)
      have Htk := Lib.hid (take_snoc im.syms k s hx)
      have Hso := Lib.hid hso
      have hsb := World.block_lt_of_cell? _ _ g0
      have HRt := Lib.hid (fun w => vright_any w s hso)
      have HBs := Lib.hid (Hbel.out.alloc hBr (.cells (symArr s) 54 (0, 0)))
      have HFs := Lib.hid (heap_alloc_new wr (.cells (symArr s) 54 (0, 0)))
      have HFi := Lib.hid ((heap_alloc_old wr (.cells (symArr s) 54 (0, 0)) hzq).trans hF)
      unfold symArr at *
      clear hx hso hbel hF HF Hbel
      go_upto_block 2 with fail
      have hz1 : (wr.alloc (.cells #[.string ⟨s.name.toArray⟩, .string ⟨s.version.toArray⟩, .bool s.old, .int .i64 s.kind, .bool s.weak, .int .i64 s.vis, .bool s.defined, .int .i64 s.value, .int .i64 s.size] 54 (0, 0))).heap.size = wr.heap.size + 1 := by simp
      generalize wr.alloc (.cells #[.string ⟨s.name.toArray⟩, .string ⟨s.version.toArray⟩, .bool s.old, .int .i64 s.kind, .bool s.weak, .int .i64 s.vis, .bool s.defined, .int .i64 s.value, .int .i64 s.size] 54 (0, 0)) = w1 at *
      clear g0 g1 g2 g3 g4 g5 g6 g7 g8
      go_cut [3] (fun s3 wx => s3 = .int .i64 k ∧ symB im.segs im.tlsSize s = true ∧ Below w1.heap.size w1 wx)
      case first =>
        obtain ⟨c0, c1, c2, c3, c4, c5, c6, c7, c8⟩ := sym_cells HFs.out
        go_wp2_with fail
        refine (HRt.out w1).mono ?_
        rintro e w2 ⟨rfl, hb2⟩
        have hz2 := hb2.size
        have HFs2 := Lib.hid ((hb2.block wr.heap.size (by omega)).trans HFs.out)
        have HFi2 := Lib.hid ((hb2.block w.heap.size (by omega)).trans HFi.out)
        have HBs2 := Lib.hid (HBs.out.trans (hb2.mono (by omega)))
        have Hb2 := Lib.hid hb2
        clear hb2 c0 c1 c2 c3 c4 c5 c6 c7 c8 HRt
        cases hrt : symRightB s with
        | false =>
          have Hn : Hid (symsB im = false) := Lib.hid (by rw [Hse2.out, Hdc.out, symsFrom_bad (symB_right hrt)])
          rw [rightErr_bad hrt]
          clear hrt
          go_wp2
          go_ret
          exact ⟨by rw [Hn.out]; rfl, HBs2.out⟩
        | true =>
          have hnum := right_nums hrt
          have Hrt := Lib.hid hrt
          rw [rightErr_ok hrt]
          clear hrt
          obtain ⟨c0, c1, c2, c3, c4, c5, c6, c7, c8⟩ := sym_cells HFs2.out
          cases hd : s.defined with
          | false =>
            rw [hd] at c6
            have Hy := Lib.hid (symB_free (segs := im.segs) (tls := im.tlsSize) Hrt.out hd)
            clear hd
            go_wp2_with fail
            go_meet
            exact ⟨rfl, Hy.out, Hb2.out⟩
          | true =>
            rw [hd] at c6
            have Hdd := Lib.hid hd
            clear hd
            by_cases hk3 : s.kind = 3
            · have Hy := Lib.hid (symB_tls (segs := im.segs) (tls := im.tlsSize) Hrt.out Hdd.out hk3)
              obtain ⟨i0, i1, i2, i3, i4, i5, i6, i7, i8, i9, i10, i11, i12, i13, i14⟩ := img_cells HFi2.out
              have hbk : (s.kind == 3) = true := by rw [beq_iff_eq]; exact hk3
              have hso1 := Hso.out.value
              have hso2 := Hso.out.size
              clear i0 i1 i2 i3 i4 i5 i6 i7 i8 i9 i10 i11 i12 i13 hk3
              by_cases hA : s.size ≤ im.tlsSize
              · by_cases hB : s.value ≤ im.tlsSize - s.size
                · have Hy2 : Hid (symB im.segs im.tlsSize s = true) := Lib.hid (by rw [Hy.out]; simp [hA, hB])
                  have hA2 : ¬ im.tlsSize < s.size := by omega
                  have hB2 : ¬ im.tlsSize - s.size < s.value := by omega
                  go_wp2_with fail
                  go_meet
                  exact ⟨rfl, Hy2.out, Hb2.out⟩
                · have Hn : Hid (symsB im = false) := Lib.hid (by rw [Hse2.out, Hdc.out, symsFrom_bad (by rw [Hy.out]; simp [hB])])
                  have hA2 : ¬ im.tlsSize < s.size := by omega
                  have hB2 : im.tlsSize - s.size < s.value := by omega
                  go_wp2
                  go_ret
                  exact ⟨by rw [Hn.out]; rfl, HBs2.out⟩
              · have Hn : Hid (symsB im = false) := Lib.hid (by rw [Hse2.out, Hdc.out, symsFrom_bad (by rw [Hy.out]; simp [hA])])
                have hA2 : im.tlsSize < s.size := by omega
                go_wp2
                go_ret
                exact ⟨by rw [Hn.out]; rfl, HBs2.out⟩
            · have Hy := Lib.hid (symB_holds (segs := im.segs) (tls := im.tlsSize) Hrt.out Hdd.out hk3)
              obtain ⟨i0, i1, i2, i3, i4, i5, i6, i7, i8, i9, i10, i11, i12, i13, i14⟩ := img_cells HFi2.out
              have hbk : (s.kind == 3) = false := by rw [beq_eq_false_iff_ne]; exact hk3
              have HHx := Lib.hid (HH.out w2 s.value s.size (HBs2.out) Hso.out.value ⟨hnum.2, Hso.out.size.2⟩)
              go_wp2_with fail
              refine HHx.out.mono ?_
              rintro e w3 ⟨rfl, hb3⟩
              have Hb3 := Lib.hid hb3
              clear hb3 i0 i1 i2 i3 i4 i5 i6 i7 i8 i9 i10 i11 i12 i13 i14 HHx
              cases hh : holdsB im.segs s.value s.size 0 with
              | true =>
                have Hy2 : Hid (symB im.segs im.tlsSize s = true) := Lib.hid (by rw [Hy.out, hh])
                clear hh
                go_wp2_with fail
                go_meet
                exact ⟨rfl, Hy2.out, Hb2.out.trans (Hb3.out.mono (by omega))⟩
              | false =>
                have Hn : Hid (symsB im = false) := Lib.hid (by rw [Hse2.out, Hdc.out, symsFrom_bad (by rw [Hy.out, hh])])
                clear hh
                go_wp2
                go_ret
                exact ⟨by rw [Hn.out]; rfl, HBs2.out.trans (Hb3.out.mono (by omega))⟩
      case rest =>
        obtain ⟨rfl, hyb, hbc⟩ := hcut
        have Hyb := Lib.hid hyb
        have hzc := hbc.size
        have hFic := (hbc.block w.heap.size (by omega)).trans HFi.out
        obtain ⟨i0, i1, i2, i3, i4, i5, i6, i7, i8, i9, i10, i11, i12, i13, i14⟩ := img_cells hFic
        have Hbc := Lib.hid hbc
        clear hyb hbc hFic i0 i1 i2 i3 i4 i6 i7 i8 i9 i10 i11 i12 i13 i14 HRt
        generalize wr.heap.size = zr at *
        go_wp2_with fail
        go_loopw [60] (fun i wi => ∃ (q : Nat), i = .int .i64 q ∧ q ≤ k ∧ (im.syms.take q).all (fun t => !clashB s t) = true ∧ Below w1.heap.size w1 wi) (fun i _ => k - (intOf i).toNat)
        case atStart => exact ⟨0, rfl, Nat.zero_le _, rfl, Hbc.out⟩
        case round =>
          obtain ⟨q, rfl, hq, hall, hbi⟩ := hrel
          have Hall := Lib.hid hall
          have Hbi := Lib.hid hbi
          have hzi := hbi.size
          clear hall
          by_cases hlt2 : q < k
          · obtain ⟨t, hxt⟩ : ∃ t, im.syms[q]? = some t := ⟨_, List.getElem?_eq_getElem (by omega)⟩
            obtain ⟨_, g0, g1, g2, g3, g4, g5, g6, g7, g8⟩ := (Hat.out.below (HBs.out.trans (hbi.mono (by omega)))).sym9 q t hxt
            have Hsq := Lib.hid (all_take_snoc (fun t => !clashB s t) im.syms q t hxt)
            have Hcl := Lib.hid (fun h => symsFrom_clash (segs := im.segs) (tls := im.tlsSize) (done := im.syms.take k) (s := s) (l := im.syms.drop (k + 1)) (q := q) (t := t) (by rw [List.getElem?_take]; simp [hlt2, hxt]) h)
            obtain ⟨c0, c1, c2, c3, c4, c5, c6, c7, c8⟩ := sym_cells ((hbi.block zr (by omega)).trans HFs.out)
            have hsbw := World.block_lt_of_cell? _ _ g0
            have hsw := World.block_lt_of_cell? _ _ c0
            have Hbt := Lib.hid (hbi.alloc hzi (.cells #[.string ⟨t.name.toArray⟩, .string ⟨t.version.toArray⟩, .bool t.old, .int .i64 t.kind, .bool t.weak, .int .i64 t.vis, .bool t.defined, .int .i64 t.value, .int .i64 t.size] 54 (0, 0)))
            have cs0 := (World.cell?_alloc_lt wr (.cells #[.string ⟨t.name.toArray⟩, .string ⟨t.version.toArray⟩, .bool t.old, .int .i64 t.kind, .bool t.weak, .int .i64 t.vis, .bool t.defined, .int .i64 t.value, .int .i64 t.size] 54 (0, 0)) ⟨zr, 0, none⟩ hsw).trans c0
            have cs1 := (World.cell?_alloc_lt wr (.cells #[.string ⟨t.name.toArray⟩, .string ⟨t.version.toArray⟩, .bool t.old, .int .i64 t.kind, .bool t.weak, .int .i64 t.vis, .bool t.defined, .int .i64 t.value, .int .i64 t.size] 54 (0, 0)) ⟨zr, 1, none⟩ hsw).trans c1
            have cs2 := (World.cell?_alloc_lt wr (.cells #[.string ⟨t.name.toArray⟩, .string ⟨t.version.toArray⟩, .bool t.old, .int .i64 t.kind, .bool t.weak, .int .i64 t.vis, .bool t.defined, .int .i64 t.value, .int .i64 t.size] 54 (0, 0)) ⟨zr, 2, none⟩ hsw).trans c2
            have cs6 := (World.cell?_alloc_lt wr (.cells #[.string ⟨t.name.toArray⟩, .string ⟨t.version.toArray⟩, .bool t.old, .int .i64 t.kind, .bool t.weak, .int .i64 t.vis, .bool t.defined, .int .i64 t.value, .int .i64 t.size] 54 (0, 0)) ⟨zr, 6, none⟩ hsw).trans c6
            clear hxt hbi Hbi c0 c1 c2 c3 c4 c5 c6 c7 c8
            go_upto_region 17 with fail
            have HFt := heap_alloc_new wr (.cells #[.string ⟨t.name.toArray⟩, .string ⟨t.version.toArray⟩, .bool t.old, .int .i64 t.kind, .bool t.weak, .int .i64 t.vis, .bool t.defined, .int .i64 t.value, .int .i64 t.size] 54 (0, 0))
            generalize wr.alloc (.cells #[.string ⟨t.name.toArray⟩, .string ⟨t.version.toArray⟩, .bool t.old, .int .i64 t.kind, .bool t.weak, .int .i64 t.vis, .bool t.defined, .int .i64 t.value, .int .i64 t.size] 54 (0, 0)) = w5 at *
            obtain ⟨d0, d1, d2, d3, d4, d5, d6, d7, d8⟩ := sym_cells HFt
            clear HFt
            cases e1 : s.defined with
            | false =>
              rw [e1] at cs6
              have Hm : Hid (clashB s t = false) := Lib.hid (by unfold clashB; rw [e1]; rfl)
              have Hall2 : Hid ((im.syms.take (q + 1)).all (fun t => !clashB s t) = true) := Lib.hid (by rw [Hsq.out, Hall.out, Hm.out]; rfl)
              go_wp2
              go_roundw
              case rel => exact ⟨q + 1, by go_num, by omega, Hall2.out, Hbt.out⟩
              case measure => simp [intOf]; omega
            | true =>
            rw [e1] at cs6
            cases e2 : t.defined with
            | false =>
              rw [e2] at d6
              have Hm : Hid (clashB s t = false) := Lib.hid (by unfold clashB; rw [e1, e2]; rfl)
              have Hall2 : Hid ((im.syms.take (q + 1)).all (fun t => !clashB s t) = true) := Lib.hid (by rw [Hsq.out, Hall.out, Hm.out]; rfl)
              go_wp2
              go_roundw
              case rel => exact ⟨q + 1, by go_num, by omega, Hall2.out, Hbt.out⟩
              case measure => simp [intOf]; omega
            | true =>
            rw [e2] at d6
            by_cases e3 : s.name = t.name
            case neg =>
              have b3 : (s.name == t.name) = false := by rw [beq_eq_false_iff_ne]; exact e3
              have Hm : Hid (clashB s t = false) := Lib.hid (by unfold clashB; rw [decide_eq_false (p := s.name = t.name) e3]; simp)
              have Hall2 : Hid ((im.syms.take (q + 1)).all (fun t => !clashB s t) = true) := Lib.hid (by rw [Hsq.out, Hall.out, Hm.out]; rfl)
              go_wp2
              go_roundw
              case rel => exact ⟨q + 1, by go_num, by omega, Hall2.out, Hbt.out⟩
              case measure => simp [intOf]; omega
            have b3 : (s.name == t.name) = true := by rw [beq_iff_eq]; exact e3
            by_cases e4 : s.version = t.version
            case pos =>
              have b4 : (s.version == t.version) = true := by rw [beq_iff_eq]; exact e4
              have Hm : Hid (clashB s t = true) := Lib.hid (by unfold clashB; rw [e1, e2, decide_eq_true (p := s.name = t.name) e3, decide_eq_true (p := s.version = t.version) e4]; rfl)
              have Hn : Hid (symsB im = false) := Lib.hid (by rw [Hse2.out, Hdc.out, Hcl.out Hm.out])
              go_wp2
              go_ret
              exact ⟨by rw [Hn.out]; rfl, HBs.out.trans (Hbt.out.mono (by omega))⟩
            have b4 : (s.version == t.version) = false := by rw [beq_eq_false_iff_ne]; exact e4
            cases e5 : s.old with
            | true =>
              rw [e5] at cs2
              have Hm : Hid (clashB s t = false) := Lib.hid (by unfold clashB; rw [decide_eq_false (p := s.version = t.version) e4, e5]; simp)
              have Hall2 : Hid ((im.syms.take (q + 1)).all (fun t => !clashB s t) = true) := Lib.hid (by rw [Hsq.out, Hall.out, Hm.out]; rfl)
              go_wp2
              go_roundw
              case rel => exact ⟨q + 1, by go_num, by omega, Hall2.out, Hbt.out⟩
              case measure => simp [intOf]; omega
            | false =>
            rw [e5] at cs2
            cases e6 : t.old with
            | true =>
              rw [e6] at d2
              have Hm : Hid (clashB s t = false) := Lib.hid (by unfold clashB; rw [decide_eq_false (p := s.version = t.version) e4, e5, e6]; simp)
              have Hall2 : Hid ((im.syms.take (q + 1)).all (fun t => !clashB s t) = true) := Lib.hid (by rw [Hsq.out, Hall.out, Hm.out]; rfl)
              go_wp2
              go_roundw
              case rel => exact ⟨q + 1, by go_num, by omega, Hall2.out, Hbt.out⟩
              case measure => simp [intOf]; omega
            | false =>
              rw [e6] at d2
              have Hm : Hid (clashB s t = true) := Lib.hid (by unfold clashB; rw [e1, e2, decide_eq_true (p := s.name = t.name) e3, e5, e6]; simp)
              have Hn : Hid (symsB im = false) := Lib.hid (by rw [Hse2.out, Hdc.out, Hcl.out Hm.out])
              go_wp2
              go_ret
              exact ⟨by rw [Hn.out]; rfl, HBs.out.trans (Hbt.out.mono (by omega))⟩
          · have Hall2 : Hid ((im.syms.take k).all (fun t => !clashB s t) = true) := Lib.hid (by have := Hall.out; rwa [show q = k by omega] at this)
            have Hse3 : Hid (symsB im = symsFrom im.segs im.tlsSize (im.syms.take (k + 1)) (im.syms.drop (k + 1))) := Lib.hid (by rw [Hse2.out, Hdc.out, symsFrom_ok Hyb.out Hall2.out, Htk.out])
            have hFi3 := (hbi.block w.heap.size (by omega)).trans HFi.out
            clear hbi
            go_wp2
            go_roundw
            case rel => exact ⟨k + 1, by go_num, by omega, Hse3.out, HBs.out.trans (Hbi.out.mono (by omega)), hFi3, by omega⟩
            case measure => simp [intOf]; omega
    · have hd : Hid (symsB im = true) := Lib.hid (by rw [Hse2.out, List.drop_eq_nil_of_le (by omega)]; rfl)
      clear hbel hF
      go_wp2
      go_ret
      exact ⟨by rw [hd.out]; rfl, Hbel.out⟩

end Go.Proofs.Ytbliedldlimpgaa
