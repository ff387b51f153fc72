/- Lists that the call makes, of whatever kind of element; what an append leaves; worlds that keep a set of blocks. -/
import Derived.Test.YtbliedldlimpgaaChecked
import Derived.WalkKit
import Derived.Lib.Hide
import Derived.OneCell
import Derived.Below
import Derived.WalkSmall
import Derived.Deep.OwnRows
import Derived.Deep.AppendLies
import Derived.Laws.AppendOwn

/- An image as plain data, whether it may be, and its bytes: plain Lean, no program in sight. -/
namespace Go.Proofs.Ytbliedldlimpgaa
set_option linter.unusedVariables false
set_option linter.unusedSimpArgs false

structure SegL where
  at_ : Int
  size : Int
  bytes : List UInt8
  perm : Int
structure SymL where
  name : List UInt8
  version : List UInt8
  old : Bool
  kind : Int
  weak : Bool
  vis : Int
  defined : Bool
  value : Int
  size : Int
structure RelL where
  at_ : Int
  kind : Int
  sym : Int
  add : Int
structure SlotL where
  at_ : Int
  sym : Int
  stub : Int
structure NeedL where
  name : List UInt8
  versions : List (List UInt8)
structure ImgL where
  name : List UInt8
  flags : Int
  segs : List SegL
  needed : List NeedL
  runPath : List (List UInt8)
  syms : List SymL
  buckets : List (List Int)
  words : List Int
  shift : Int
  relocs : List RelL
  slots : List SlotL
  init : List Int
  fini : List Int
  tls : List UInt8
  tlsSize : Int

/-- may a byte stand in a name? -/
def nameN (n : Int) : Bool := (decide (97 ≤ n) && decide (n ≤ 122)) || (decide (65 ≤ n) && decide (n ≤ 90)) || (decide (48 ≤ n) && decide (n ≤ 57)) || (n == 95) || (n == 46)
def nameC (c : UInt8) : Bool := nameN c.toNat
def nameB (s : List UInt8) : Bool := s.all nameC && decide (1 ≤ s.length) && decide (s.length ≤ 64)
def sizedB (s : List UInt8) : Bool := decide (1 ≤ s.length) && decide (s.length ≤ 200)

def needB (n : NeedL) : Bool := sizedB n.name && decide (n.versions.length ≤ 16) && n.versions.all nameB
def headB (im : ImgL) : Bool :=
  (decide (im.name = []) || nameB im.name) && decide (0 ≤ im.flags) && decide (im.flags < 16) && decide (im.needed.length ≤ 16) && decide (im.runPath.length ≤ 16) && im.needed.all needB && im.runPath.all sizedB

/-- a number, rounded up to a multiple of 64 -/
def upL (n : Int) : Int := (n + 63) / 64 * 64
def segB (s : SegL) : Bool :=
  decide (0 ≤ s.at_) && decide (s.at_ ≤ 65536) && decide (s.at_ % 64 = 0) && decide (1 ≤ s.size) && decide (s.at_ + s.size ≤ 65536) && decide ((s.bytes.length : Int) ≤ s.size) && decide (0 ≤ s.perm) && decide (s.perm ≤ 7)
def segsFrom : Int → List SegL → Bool
  | _, [] => true
  | e, s :: l => decide (e ≤ s.at_) && segB s && segsFrom (upL (s.at_ + s.size)) l
def segsB (l : List SegL) : Bool := decide (1 ≤ l.length) && decide (l.length ≤ 8) && segsFrom 0 l

/-- has a permission all bits of another one? (of 0 to 7) -/
def permB (p q : Int) : Bool := (p.toNat &&& q.toNat) == q.toNat
/-- does a range lie in one segment that may be used so? -/
def holdsB (l : List SegL) (at_ n p : Int) : Bool := l.any fun s => decide (s.at_ ≤ at_) && decide (n ≤ s.size) && decide (at_ - s.at_ ≤ s.size - n) && permB s.perm p

def symRightB (s : SymL) : Bool :=
  nameB s.name && (decide (s.version = []) || nameB s.version) && decide (1 ≤ s.kind) && decide (s.kind ≤ 3) && decide (0 ≤ s.vis) && decide (s.vis ≤ 2) && decide (0 ≤ s.value) && decide (0 ≤ s.size) &&
  (s.defined || (!s.old && decide (s.vis = 0) && decide (s.value = 0) && decide (s.size = 0))) && !(s.old && decide (s.version = []))
/-- do two definitions bear one name, so that they may not both be? -/
def clashB (s t : SymL) : Bool := s.defined && t.defined && decide (s.name = t.name) && (decide (s.version = t.version) || (!s.old && !t.old))
def symB (segs : List SegL) (tls : Int) (s : SymL) : Bool :=
  symRightB s && (!s.defined || (if s.kind = 3 then decide (s.size ≤ tls) && decide (s.value ≤ tls - s.size) else holdsB segs s.value s.size 0))
def symsFrom (segs : List SegL) (tls : Int) : List SymL → List SymL → Bool
  | _, [] => true
  | done, s :: l => symB segs tls s && (done.all fun t => !clashB s t) && symsFrom segs tls (done ++ [s]) l
def symsB (im : ImgL) : Bool := decide (im.syms.length ≤ 512) && symsFrom im.segs im.tlsSize [] im.syms

/-- a name's hash -/
def hashL : Int → List UInt8 → Int
  | h, [] => h
  | h, c :: l => hashL ((33 * h + c.toNat) % 4294967296) l
def hashB (s : List UInt8) : Int := hashL 5381 s
def seenB (s : SymL) : Bool := s.defined && decide (s.vis ≠ 2)
/-- is a filter right? -/
def sieveB (words : List Int) (shift : Int) : Bool := (decide (words.length = 1) || decide (words.length = 2) || decide (words.length = 4) || decide (words.length = 8) || decide (words.length = 16) || decide (words.length = 32) || decide (words.length = 64)) && decide (1 ≤ shift) && decide (shift ≤ 31)
def bitB (w : Int) (k : Nat) : Bool := (w.toNat / 2 ^ k) % 2 == 1
/-- does a filter lack a hash? -/
def lacksB (words : List Int) (shift : Int) (h : Int) : Bool :=
  let w := words.getD ((h.toNat / 64) % words.length) 0
  !(bitB w (h.toNat % 64) && bitB w ((h.toNat / 2 ^ shift.toNat) % 64))
def homeL (name : List UInt8) (many : Nat) : Nat := (hashB name).toNat % many
/-- the places of a bucket: rising, each of a symbol that is seen and at home there, and that the filter does not lack -/
def chainB (syms : List SymL) (words : List Int) (shift : Int) (many b : Nat) : Int → List Int → Bool
  | _, [] => true
  | last, i :: l => decide (last < i) && (match (if i < 0 then none else syms[i.toNat]?) with
    | some s => seenB s && decide (homeL s.name many = b) && !lacksB words shift (hashB s.name)
    | none => false) && chainB syms words shift many b i l
def chainsB (syms : List SymL) (words : List Int) (shift : Int) (many : Nat) : Nat → List (List Int) → Bool
  | _, [] => true
  | b, c :: l => chainB syms words shift many b (-1) c && chainsB syms words shift many (b + 1) l
def tableB (im : ImgL) : Bool :=
  decide (im.syms.length ≤ 512) && decide (1 ≤ im.buckets.length) && decide (im.buckets.length ≤ 512) && sieveB im.words im.shift && chainsB im.syms im.words im.shift im.buckets.length 0 im.buckets &&
  decide ((im.buckets.map List.length).sum = (im.syms.filter seenB).length)

def symAt (im : ImgL) (i : Int) : Option SymL := if i < 0 then none else im.syms[i.toNat]?
/-- how many bytes a relocation fills in -/
def wideL (im : ImgL) (r : RelL) : Int :=
  match symAt im r.sym with
  | some s => if r.kind = 2 then s.size else 8
  | none => 8
def relocB (im : ImgL) (r : RelL) : Bool :=
  if r.kind = 1 then decide (r.sym = -1) && decide (0 ≤ r.add) && decide (r.add ≤ 65536) && holdsB im.segs r.at_ 8 0
  else match symAt im r.sym with
    | none => false
    | some s => decide (-4294967296 ≤ r.add) && decide (r.add ≤ 4294967296) &&
      (if r.kind = 0 ∨ r.kind = 6 then decide (s.kind ≠ 3) && holdsB im.segs r.at_ 8 0
       else if r.kind = 7 then decide (r.add = 0) && holdsB im.segs r.at_ 8 0
       else if r.kind = 3 then decide (s.kind = 3) && decide (r.add = 0) && holdsB im.segs r.at_ 8 0
       else if r.kind = 4 ∨ r.kind = 5 then decide (s.kind = 3) && holdsB im.segs r.at_ 8 0
       else if r.kind = 2 then decide (s.kind = 2) && s.defined && decide (1 ≤ s.size) && decide (s.value = r.at_) && decide (im.flags % 2 = 1) && decide (r.add = 0) && holdsB im.segs r.at_ s.size 2
       else false)
def relocsFrom (im : ImgL) : Int → List RelL → Bool
  | _, [] => true
  | e, r :: l => decide (e ≤ r.at_) && relocB im r && relocsFrom im (r.at_ + wideL im r) l
def relocsB (im : ImgL) : Bool := decide (im.relocs.length ≤ 512) && relocsFrom im 0 im.relocs

def slotB (im : ImgL) (s : SlotL) : Bool :=
  (match symAt im s.sym with
   | some x => decide (x.kind = 1)
   | none => false) && holdsB im.segs s.at_ 8 0 && holdsB im.segs s.stub 8 4 && im.relocs.all fun r => !(decide (r.at_ < s.at_ + 8) && decide (s.at_ < r.at_ + wideL im r))
def slotsFrom (im : ImgL) : Int → List SlotL → Bool
  | _, [] => true
  | e, s :: l => decide (e ≤ s.at_) && slotB im s && slotsFrom im (s.at_ + 8) l
def slotsB (im : ImgL) : Bool := decide (im.slots.length ≤ 128) && slotsFrom im 0 im.slots
def runB (im : ImgL) (l : List Int) : Bool := decide (l.length ≤ 8) && l.all fun a => holdsB im.segs a 8 4
def tlsB (im : ImgL) : Bool := decide (0 ≤ im.tlsSize) && decide (im.tlsSize ≤ 4096) && decide ((im.tls.length : Int) ≤ im.tlsSize)
/-- the first thing that is wrong with an image -/
def mayL (im : ImgL) : Int :=
  if headB im = false then 90
  else if segsB im.segs = false then 91
  else if tlsB im = false then 96
  else if symsB im = false then 92
  else if tableB im = false then 93
  else if relocsB im = false then 94
  else if slotsB im = false then 95
  else if (runB im im.init && runB im im.fini) = false then 97
  else 0

/-- a number's bytes, the lowest first -/
def digitsL (size : Nat) (n : Int) : List UInt8 := (List.range size).map fun i => UInt8.ofNat ((n % 18446744073709551616).toNat / 256 ^ i)
def textL' (s : List UInt8) : List UInt8 := digitsL 2 s.length ++ s
def blockL (s : List UInt8) : List UInt8 := digitsL 4 s.length ++ s
def numsL (size : Nat) (l : List Int) : List UInt8 := (l.map (digitsL size)).flatten
def textsL (l : List (List UInt8)) : List UInt8 := (l.map textL').flatten
def oneL (b : Bool) : Int := if b then 1 else 0
def segF (s : SegL) : List UInt8 := digitsL 4 s.at_ ++ digitsL 4 s.size ++ digitsL 1 s.perm ++ blockL s.bytes
def needF (n : NeedL) : List UInt8 := textL' n.name ++ digitsL 1 n.versions.length ++ textsL n.versions
def symF (s : SymL) : List UInt8 := textL' s.name ++ textL' s.version ++ digitsL 1 s.kind ++ digitsL 1 s.vis ++ digitsL 1 (oneL s.old) ++ digitsL 1 (oneL s.weak) ++ digitsL 1 (oneL s.defined) ++ digitsL 8 s.value ++ digitsL 8 s.size
def chainF (c : List Int) : List UInt8 := digitsL 2 c.length ++ numsL 2 c
def relF (r : RelL) : List UInt8 := digitsL 1 r.kind ++ digitsL 8 r.at_ ++ digitsL 8 r.sym ++ digitsL 8 r.add
def slotF (s : SlotL) : List UInt8 := digitsL 4 s.at_ ++ digitsL 4 s.sym ++ digitsL 4 s.stub
def magicL : List UInt8 := [99, 108, 101, 118, 105, 115, 49]
/-- an image's bytes -/
def formL (im : ImgL) : List UInt8 :=
  textL' magicL ++ textL' im.name ++ digitsL 1 im.flags ++ digitsL 1 im.segs.length ++ (im.segs.map segF).flatten ++
  digitsL 1 im.needed.length ++ (im.needed.map needF).flatten ++ digitsL 1 im.runPath.length ++ textsL im.runPath ++
  digitsL 2 im.syms.length ++ (im.syms.map symF).flatten ++ digitsL 2 im.buckets.length ++ (im.buckets.map chainF).flatten ++
  digitsL 1 im.shift ++ digitsL 1 im.words.length ++ numsL 8 im.words ++ digitsL 2 im.relocs.length ++ (im.relocs.map relF).flatten ++
  digitsL 2 im.slots.length ++ (im.slots.map slotF).flatten ++ digitsL 1 im.init.length ++ numsL 4 im.init ++ digitsL 1 im.fini.length ++ numsL 4 im.fini ++
  digitsL 2 im.tlsSize ++ blockL im.tls

end Go.Proofs.Ytbliedldlimpgaa

/- Lists in memory: a slice whose elements are rows of cells, each of which reads as a datum; whatever the element's kind. -/
namespace Go.Proofs.Ytbliedldlimpgaa
set_option linter.unusedVariables false
set_option linter.unusedSimpArgs false
open Go.RowKit

theorem size_mk (l : List UInt8) : ByteArray.size ⟨l.toArray⟩ = l.length := by simp [ByteArray.size]
/-- the blocks for which S holds are as they were -/
def Keeps (S : Nat → Prop) (w w' : World) : Prop := ∀ b, S b → w'.heap[b]? = w.heap[b]?
theorem Keeps.of_below {B : Nat} {w w' : World} (h : Below B w w') : Keeps (· < B) w w' := fun b hb => h.block b hb

/-- a kind of element: its cells, and what a row of cells reads as, in the blocks for which S holds -/
structure Kind (α : Type) where
  k : Nat
  R : (Nat → Prop) → World → α → List Value → Prop
  len : ∀ {S w x r}, R S w x r → r.length = k
  keeps : ∀ {S w w' x r}, R S w x r → Keeps S w w' → R S w' x r
  imp : ∀ {S S' : Nat → Prop} {w x r}, R S w x r → (∀ b, S b → S' b) → R S' w x r

/-- v is a slice that reads as l, its cells in blocks for which S holds -/
def LB {α : Type} (K : Kind α) (S : Nat → Prop) (w : World) (v : Value) (l : List α) : Prop :=
  ∃ (a : Option Addr) (b off cap : Nat), v = .slice a l.length cap ∧ l.length ≤ 9223372036854775807 ∧ (0 < l.length → a = some ⟨b, off, none⟩) ∧ (l.length ≤ cap ∧ (a = none → cap = 0)) ∧ (0 < l.length → S b) ∧
    ∀ i x, l[i]? = some x → ∃ row, K.R S w x row ∧ ∀ j u, row[j]? = some u → w.cell? ⟨b, off + i * K.k + j, none⟩ = some u
theorem LB.keeps {α : Type} {K : Kind α} {S : Nat → Prop} {w w' : World} {v : Value} {l : List α} (h : LB K S w v l) (hk : Keeps S w w') : LB K S w' v l := by
  obtain ⟨a, b, off, cap, hv, hm, ha, hcap, hS, hc⟩ := h
  refine ⟨a, b, off, cap, hv, hm, ha, hcap, hS, fun i x hx => ?_⟩
  obtain ⟨row, h1, h2⟩ := hc i x hx
  have hi : i < l.length := (List.getElem?_eq_some_iff.1 hx).1
  exact ⟨row, K.keeps h1 hk, fun j u hu => by rw [World.cell?_of_block (a := ⟨b, off + i * K.k + j, none⟩) (hk b (hS (by omega)))]; exact h2 j u hu⟩
theorem LB.imp {α : Type} {K : Kind α} {S S' : Nat → Prop} {w : World} {v : Value} {l : List α} (h : LB K S w v l) (hi : ∀ b, S b → S' b) : LB K S' w v l := by
  obtain ⟨a, b, off, cap, hv, hm, ha, hcap, hS, hc⟩ := h
  refine ⟨a, b, off, cap, hv, hm, ha, hcap, fun h0 => hi b (hS h0), fun i x hx => ?_⟩
  obtain ⟨row, h1, h2⟩ := hc i x hx
  exact ⟨row, K.imp h1 hi, h2⟩
theorem LB.nil {α : Type} (K : Kind α) (S : Nat → Prop) (w : World) : LB K S w (.slice none 0 0) [] :=
  ⟨none, 0, 0, 0, rfl, by simp, fun h => absurd h (by simp), by simp, fun h => absurd h (by simp), fun i x hx => by simp at hx⟩
theorem LB.form {α : Type} {K : Kind α} {S : Nat → Prop} {w : World} {v : Value} {l : List α} (h : LB K S w v l) : ∃ a c, v = .slice a l.length c := by
  obtain ⟨a, b, off, cap, hv, _⟩ := h
  exact ⟨a, cap, hv⟩
theorem LB.max {α : Type} {K : Kind α} {S : Nat → Prop} {w : World} {v : Value} {l : List α} (h : LB K S w v l) : l.length ≤ 9223372036854775807 := by
  obtain ⟨_, _, _, _, _, hm, _⟩ := h
  exact hm
/-- below a block -/
abbrev LBelow {α : Type} (K : Kind α) (B : Nat) (w : World) (v : Value) (l : List α) : Prop := LB K (· < B) w v l
theorem LB.below {α : Type} {K : Kind α} {B : Nat} {w w' : World} {v : Value} {l : List α} (h : LB K (· < B) w v l) (hb : Below B w w') : LB K (· < B) w' v l := h.keeps (.of_below hb)
theorem LB.mono {α : Type} {K : Kind α} {B B' : Nat} {w : World} {v : Value} {l : List α} (h : LB K (· < B) w v l) (hB : B ≤ B') : LB K (· < B') w v l := h.imp fun _ hb => Nat.lt_of_lt_of_le hb hB

/-- what a loop over a list lays open: where it lies, and the cells of each element -/
structure LAt {α : Type} (K : Kind α) (S : Nat → Prop) (w : World) (l : List α) (a : Option Addr) (b off : Nat) : Prop where
  addr : 0 < l.length → a = some ⟨b, off, none⟩
  inS : 0 < l.length → S b
  row : ∀ i x, l[i]? = some x → ∃ row, K.R S w x row ∧ ∀ j u, row[j]? = some u → w.cell? ⟨b, off + i * K.k + j, none⟩ = some u
theorem LB.at {α : Type} {K : Kind α} {S : Nat → Prop} {w : World} {v : Value} {l : List α} (h : LB K S w v l) : ∃ a b off cap, v = .slice a l.length cap ∧ l.length ≤ 9223372036854775807 ∧ l.length ≤ cap ∧ LAt K S w l a b off := by
  obtain ⟨a, b, off, cap, hv, hm, ha, hcap, hS, hc⟩ := h
  exact ⟨a, b, off, cap, hv, hm, hcap.1, ⟨ha, hS, hc⟩⟩
theorem LAt.keeps {α : Type} {K : Kind α} {S : Nat → Prop} {w w' : World} {l : List α} {a : Option Addr} {b off : Nat} (h : LAt K S w l a b off) (hk : Keeps S w w') : LAt K S w' l a b off :=
  ⟨h.addr, h.inS, fun i x hx => by
    obtain ⟨row, h1, h2⟩ := h.row i x hx
    have hi : i < l.length := (List.getElem?_eq_some_iff.1 hx).1
    exact ⟨row, K.keeps h1 hk, fun j u hu => by rw [World.cell?_of_block (a := ⟨b, off + i * K.k + j, none⟩) (hk b (h.inS (by omega)))]; exact h2 j u hu⟩⟩
theorem LAt.below {α : Type} {K : Kind α} {B : Nat} {w w' : World} {l : List α} {a : Option Addr} {b off : Nat} (h : LAt K (· < B) w l a b off) (hb : Below B w w') : LAt K (· < B) w' l a b off := h.keeps (.of_below hb)

/-! ### the kinds -/
def kInt : Kind Int := { k := 1, R := fun _ _ x r => r = [.int .i64 x], len := fun h => by rw [h]; rfl, keeps := fun h _ => h, imp := fun h _ => h }
def kByte : Kind UInt8 := { k := 1, R := fun _ _ x r => r = [.int .u8 x.toNat], len := fun h => by rw [h]; rfl, keeps := fun h _ => h, imp := fun h _ => h }
def kStr : Kind (List UInt8) := { k := 1, R := fun _ _ x r => r = [.string ⟨x.toArray⟩] ∧ x.length ≤ 9223372036854775807, len := fun h => by rw [h.1]; rfl, keeps := fun h _ => h, imp := fun h _ => h }
def kWord : Kind Int := { k := 1, R := fun _ _ x r => r = [.int .u64 x], len := fun h => by rw [h]; rfl, keeps := fun h _ => h, imp := fun h _ => h }
def kHash : Kind Int := { k := 1, R := fun _ _ x r => r = [.int .u32 x], len := fun h => by rw [h]; rfl, keeps := fun h _ => h, imp := fun h _ => h }
def kInts : Kind (List Int) := { k := 1, R := fun S w x r => ∃ c, r = [c] ∧ LB kInt S w c x, len := fun ⟨_, h, _⟩ => by rw [h]; rfl, keeps := fun ⟨c, h, h'⟩ hk => ⟨c, h, h'.keeps hk⟩, imp := fun ⟨c, h, h'⟩ hi => ⟨c, h, h'.imp hi⟩ }
def kSeg : Kind SegL := { k := 4, R := fun S w x r => ∃ c, r = [.int .i64 x.at_, .int .i64 x.size, c, .int .i64 x.perm] ∧ LB kByte S w c x.bytes, len := fun ⟨_, h, _⟩ => by rw [h]; rfl, keeps := fun ⟨c, h, h'⟩ hk => ⟨c, h, h'.keeps hk⟩, imp := fun ⟨c, h, h'⟩ hi => ⟨c, h, h'.imp hi⟩ }
def kNeed : Kind NeedL := { k := 2, R := fun S w x r => ∃ c, r = [.string ⟨x.name.toArray⟩, c] ∧ LB kStr S w c x.versions ∧ x.name.length ≤ 9223372036854775807, len := fun ⟨_, h, _⟩ => by rw [h]; rfl, keeps := fun ⟨c, h, h', h3⟩ hk => ⟨c, h, h'.keeps hk, h3⟩, imp := fun ⟨c, h, h', h3⟩ hi => ⟨c, h, h'.imp hi, h3⟩ }
/-- a symbol's cells -/
def symCells (x : SymL) : List Value := [.string ⟨x.name.toArray⟩, .string ⟨x.version.toArray⟩, .bool x.old, .int .i64 x.kind, .bool x.weak, .int .i64 x.vis, .bool x.defined, .int .i64 x.value, .int .i64 x.size]
/-- what a symbol's numbers and texts are as Go's -/
structure SymOk (x : SymL) : Prop where
  name : x.name.length ≤ 9223372036854775807
  version : x.version.length ≤ 9223372036854775807
  kind : -9223372036854775808 ≤ x.kind ∧ x.kind ≤ 9223372036854775807
  vis : -9223372036854775808 ≤ x.vis ∧ x.vis ≤ 9223372036854775807
  value : -9223372036854775808 ≤ x.value ∧ x.value ≤ 9223372036854775807
  size : -9223372036854775808 ≤ x.size ∧ x.size ≤ 9223372036854775807
def kSym : Kind SymL := { k := 9, R := fun _ _ x r => r = symCells x ∧ SymOk x, len := fun h => by rw [h.1]; rfl, keeps := fun h _ => h, imp := fun h _ => h }
def relCells (x : RelL) : List Value := [.int .i64 x.at_, .int .i64 x.kind, .int .i64 x.sym, .int .i64 x.add]
def kRel : Kind RelL := { k := 4, R := fun _ _ x r => r = relCells x, len := fun h => by rw [h]; rfl, keeps := fun h _ => h, imp := fun h _ => h }
def slotCells (x : SlotL) : List Value := [.int .i64 x.at_, .int .i64 x.sym, .int .i64 x.stub]
def kSlot : Kind SlotL := { k := 3, R := fun _ _ x r => r = slotCells x, len := fun h => by rw [h]; rfl, keeps := fun h _ => h, imp := fun h _ => h }

section
variable {S : Nat → Prop} {w : World} {a : Option Addr} {b off : Nat}
theorem LAt.int1 {l : List Int} (h : LAt kInt S w l a b off) (i : Nat) (x : Int) (hx : l[i]? = some x) : w.cell? ⟨b, off + i, none⟩ = some (.int .i64 x) := by
  obtain ⟨row, h1, h2⟩ := h.row i x hx
  have := h2 0 (.int .i64 x) (by rw [h1]; rfl)
  simpa [kInt] using this
theorem LAt.word1 {l : List Int} (h : LAt kWord S w l a b off) (i : Nat) (x : Int) (hx : l[i]? = some x) : w.cell? ⟨b, off + i, none⟩ = some (.int .u64 x) := by
  obtain ⟨row, h1, h2⟩ := h.row i x hx
  have := h2 0 (.int .u64 x) (by rw [h1]; rfl)
  simpa [kWord] using this
theorem LAt.byte1 {l : List UInt8} (h : LAt kByte S w l a b off) (i : Nat) (x : UInt8) (hx : l[i]? = some x) : w.cell? ⟨b, off + i, none⟩ = some (.int .u8 x.toNat) := by
  obtain ⟨row, h1, h2⟩ := h.row i x hx
  have := h2 0 (.int .u8 x.toNat) (by rw [h1]; rfl)
  simpa [kByte] using this
theorem LAt.str1 {l : List (List UInt8)} (h : LAt kStr S w l a b off) (i : Nat) (x : List UInt8) (hx : l[i]? = some x) : w.cell? ⟨b, off + i, none⟩ = some (.string ⟨x.toArray⟩) ∧ x.length ≤ 9223372036854775807 := by
  obtain ⟨row, ⟨h1, h3⟩, h2⟩ := h.row i x hx
  have := h2 0 (.string ⟨x.toArray⟩) (by rw [h1]; rfl)
  exact ⟨by simpa [kStr] using this, h3⟩
theorem LAt.ints1 {l : List (List Int)} (h : LAt kInts S w l a b off) (i : Nat) (x : List Int) (hx : l[i]? = some x) : ∃ c, w.cell? ⟨b, off + i, none⟩ = some c ∧ LB kInt S w c x := by
  obtain ⟨row, ⟨c, h1, h1'⟩, h2⟩ := h.row i x hx
  have := h2 0 c (by rw [h1]; rfl)
  exact ⟨c, by simpa [kInts] using this, h1'⟩
theorem LAt.seg4 {l : List SegL} (h : LAt kSeg S w l a b off) (i : Nat) (x : SegL) (hx : l[i]? = some x) : ∃ c, w.cell? ⟨b, off + i * 4, none⟩ = some (.int .i64 x.at_) ∧ w.cell? ⟨b, off + i * 4 + 1, none⟩ = some (.int .i64 x.size) ∧
    w.cell? ⟨b, off + i * 4 + 2, none⟩ = some c ∧ w.cell? ⟨b, off + i * 4 + 3, none⟩ = some (.int .i64 x.perm) ∧ LB kByte S w c x.bytes := by
  obtain ⟨row, ⟨c, h1, h1'⟩, h2⟩ := h.row i x hx
  subst h1
  exact ⟨c, h2 0 _ rfl, h2 1 _ rfl, h2 2 _ rfl, h2 3 _ rfl, h1'⟩
theorem LAt.need2 {l : List NeedL} (h : LAt kNeed S w l a b off) (i : Nat) (x : NeedL) (hx : l[i]? = some x) : ∃ c, w.cell? ⟨b, off + i * 2, none⟩ = some (.string ⟨x.name.toArray⟩) ∧ w.cell? ⟨b, off + i * 2 + 1, none⟩ = some c ∧ LB kStr S w c x.versions ∧ x.name.length ≤ 9223372036854775807 := by
  obtain ⟨row, ⟨c, h1, h1', h3⟩, h2⟩ := h.row i x hx
  subst h1
  exact ⟨c, h2 0 _ rfl, h2 1 _ rfl, h1', h3⟩
theorem LAt.sym9 {l : List SymL} (h : LAt kSym S w l a b off) (i : Nat) (x : SymL) (hx : l[i]? = some x) : SymOk x ∧ w.cell? ⟨b, off + i * 9, none⟩ = some (.string ⟨x.name.toArray⟩) ∧ w.cell? ⟨b, off + i * 9 + 1, none⟩ = some (.string ⟨x.version.toArray⟩) ∧
    w.cell? ⟨b, off + i * 9 + 2, none⟩ = some (.bool x.old) ∧ w.cell? ⟨b, off + i * 9 + 3, none⟩ = some (.int .i64 x.kind) ∧ w.cell? ⟨b, off + i * 9 + 4, none⟩ = some (.bool x.weak) ∧ w.cell? ⟨b, off + i * 9 + 5, none⟩ = some (.int .i64 x.vis) ∧
    w.cell? ⟨b, off + i * 9 + 6, none⟩ = some (.bool x.defined) ∧ w.cell? ⟨b, off + i * 9 + 7, none⟩ = some (.int .i64 x.value) ∧ w.cell? ⟨b, off + i * 9 + 8, none⟩ = some (.int .i64 x.size) := by
  obtain ⟨row, ⟨h1, h1'⟩, h2⟩ := h.row i x hx
  subst h1
  exact ⟨h1', h2 0 _ rfl, h2 1 _ rfl, h2 2 _ rfl, h2 3 _ rfl, h2 4 _ rfl, h2 5 _ rfl, h2 6 _ rfl, h2 7 _ rfl, h2 8 _ rfl⟩
theorem LAt.rel4 {l : List RelL} (h : LAt kRel S w l a b off) (i : Nat) (x : RelL) (hx : l[i]? = some x) : w.cell? ⟨b, off + i * 4, none⟩ = some (.int .i64 x.at_) ∧ w.cell? ⟨b, off + i * 4 + 1, none⟩ = some (.int .i64 x.kind) ∧
    w.cell? ⟨b, off + i * 4 + 2, none⟩ = some (.int .i64 x.sym) ∧ w.cell? ⟨b, off + i * 4 + 3, none⟩ = some (.int .i64 x.add) := by
  obtain ⟨row, h1, h2⟩ := h.row i x hx
  subst h1
  exact ⟨h2 0 _ rfl, h2 1 _ rfl, h2 2 _ rfl, h2 3 _ rfl⟩
theorem LAt.slot3 {l : List SlotL} (h : LAt kSlot S w l a b off) (i : Nat) (x : SlotL) (hx : l[i]? = some x) : w.cell? ⟨b, off + i * 3, none⟩ = some (.int .i64 x.at_) ∧ w.cell? ⟨b, off + i * 3 + 1, none⟩ = some (.int .i64 x.sym) ∧
    w.cell? ⟨b, off + i * 3 + 2, none⟩ = some (.int .i64 x.stub) := by
  obtain ⟨row, h1, h2⟩ := h.row i x hx
  subst h1
  exact ⟨h2 0 _ rfl, h2 1 _ rfl, h2 2 _ rfl⟩
end

end Go.Proofs.Ytbliedldlimpgaa

/- Lists that the call makes, of whatever kind of element; what an append leaves; worlds that keep a set of blocks. -/
namespace Go.Proofs.Ytbliedldlimpgaa
set_option linter.unusedVariables false
set_option linter.unusedSimpArgs false
open Go.RowKit

/-- the blocks for which S holds are as they were, and the rest of the world but for the heap -/
structure Step (S : Nat → Prop) (w w' : World) : Prop where
  os : w'.os = w.os
  tape : w'.tape = w.tape
  output : w'.output = w.output
  size : w.heap.size ≤ w'.heap.size
  block : ∀ b, S b → w'.heap[b]? = w.heap[b]?
theorem Step.refl (S : Nat → Prop) (w : World) : Step S w w := ⟨rfl, rfl, rfl, Nat.le_refl _, fun _ _ => rfl⟩
theorem Step.trans {S : Nat → Prop} {a b c : World} (h : Step S a b) (k : Step S b c) : Step S a c := ⟨k.os.trans h.os, k.tape.trans h.tape, k.output.trans h.output, Nat.le_trans h.size k.size, fun i hi => (k.block i hi).trans (h.block i hi)⟩
theorem Step.imp {S S' : Nat → Prop} {w w' : World} (h : Step S w w') (hi : ∀ b, S' b → S b) : Step S' w w' := ⟨h.os, h.tape, h.output, h.size, fun b hb => h.block b (hi b hb)⟩
theorem Step.drew {S : Nat → Prop} {a w : World} (h : Step S a w) : Step S a w.drew := ⟨h.os, h.tape, h.output, h.size, h.block⟩
theorem Step.drewN {S : Nat → Prop} {a w : World} (h : Step S a w) (n : Nat) : Step S a (w.drewN n) := ⟨h.os, h.tape, h.output, h.size, h.block⟩
theorem Step.alloc {S : Nat → Prop} {a w : World} (h : Step S a w) (hS : ∀ b, S b → b < w.heap.size) (o : Obj) : Step S a (w.alloc o) :=
  ⟨h.os, h.tape, h.output, Nat.le_trans h.size (by simp), fun b hb => (Below.heap_alloc w o b (hS b hb)).trans (h.block b hb)⟩
theorem Step.setCell {S : Nat → Prop} {a w : World} (h : Step S a w) {p : Addr} (hp : ¬ S p.block) (u : Value) : Step S a (w.setCell p u) :=
  ⟨h.os, h.tape, h.output, by simpa using h.size, fun b hb => (Below.heap_setCell w p u b (fun e => hp (e ▸ hb))).trans (h.block b hb)⟩
theorem Step.of_below {B : Nat} {w w' : World} (h : Below B w w') : Step (· < B) w w' := ⟨h.os, h.tape, h.output, h.size, h.block⟩
theorem Step.below {B : Nat} {w w' : World} (h : Step (· < B) w w') : Below B w w' := ⟨h.os, h.tape, h.output, h.size, h.block⟩
theorem Step.of_grown {S : Nat → Prop} {w w' : World} {row : Option Nat} (h : w.grownBy w' row) (hS : ∀ b, S b → b < w.heap.size ∧ row ≠ some b) : Step S w w' :=
  ⟨h.os, h.tape, h.output, h.size, fun b hb => h.block b (hS b hb).1 (fun e => (hS b hb).2 e.symm)⟩
theorem Step.keeps {S : Nat → Prop} {w w' : World} (h : Step S w w') : Keeps S w w' := h.block
theorem Step.cell {S : Nat → Prop} {w w' : World} (h : Step S w w') {p : Addr} (hp : S p.block) : w'.cell? p = w.cell? p := World.cell?_of_block (h.block p.block hp)
theorem LB.step {α : Type} {K : Kind α} {S : Nat → Prop} {w w' : World} {v : Value} {l : List α} (h : LB K S w v l) (hs : Step S w w') : LB K S w' v l := h.keeps hs.keeps

/-- the cells of a list of elements, one behind the other -/
def RowsOf {α : Type} (K : Kind α) (S : Nat → Prop) (w : World) : List α → List Value → Prop
  | [], xs => xs = []
  | x :: l, xs => ∃ r ys, xs = r ++ ys ∧ K.R S w x r ∧ RowsOf K S w l ys
section
variable {α : Type} {K : Kind α} {S S' : Nat → Prop} {w w' : World}
theorem RowsOf.keeps : ∀ {l : List α} {xs : List Value}, RowsOf K S w l xs → Keeps S w w' → RowsOf K S w' l xs
  | [], _, h, _ => h
  | _ :: _, _, ⟨r, ys, e, h1, h2⟩, hk => ⟨r, ys, e, K.keeps h1 hk, RowsOf.keeps h2 hk⟩
theorem RowsOf.imp : ∀ {l : List α} {xs : List Value}, RowsOf K S w l xs → (∀ b, S b → S' b) → RowsOf K S' w l xs
  | [], _, h, _ => h
  | _ :: _, _, ⟨r, ys, e, h1, h2⟩, hi => ⟨r, ys, e, K.imp h1 hi, RowsOf.imp h2 hi⟩
theorem RowsOf.snoc : ∀ {l : List α} {xs : List Value} {y : α} {r : List Value}, RowsOf K S w l xs → K.R S w y r → RowsOf K S w (l ++ [y]) (xs ++ r)
  | [], xs, y, r, h, hr => by
    have : xs = [] := h
    subst this
    exact ⟨r, [], by simp, hr, rfl⟩
  | _ :: _, _, y, r, ⟨r0, ys, e, h1, h2⟩, hr => ⟨r0, ys ++ r, by rw [e, List.append_assoc], h1, RowsOf.snoc h2 hr⟩
theorem RowsOf.app : ∀ {l m : List α} {xs ys : List Value}, RowsOf K S w l xs → RowsOf K S w m ys → RowsOf K S w (l ++ m) (xs ++ ys)
  | [], m, xs, ys, h, hm => by
    have : xs = [] := h
    subst this
    exact hm
  | _ :: _, m, _, ys, ⟨r0, zs, e, h1, h2⟩, hm => ⟨r0, zs ++ ys, by rw [e, List.append_assoc], h1, RowsOf.app h2 hm⟩
theorem RowsOf.length : ∀ {l : List α} {xs : List Value}, RowsOf K S w l xs → xs.length = l.length * K.k
  | [], xs, h => by
    have : xs = [] := h
    subst this; simp
  | _ :: l, _, ⟨r, ys, e, h1, h2⟩ => by
    rw [e, List.length_append, K.len h1, RowsOf.length h2, List.length_cons, Nat.succ_mul, Nat.add_comm]
theorem RowsOf.get : ∀ {l : List α} {xs : List Value}, RowsOf K S w l xs → ∀ i x, l[i]? = some x → ∃ r, K.R S w x r ∧ ∀ j u, r[j]? = some u → xs[i * K.k + j]? = some u
  | [], _, _, i, x, hx => by simp at hx
  | y :: l, _, ⟨r, ys, e, h1, h2⟩, i, x, hx => by
    have hl := K.len h1
    cases i with
    | zero =>
      simp at hx; subst hx
      refine ⟨r, h1, fun j u hu => ?_⟩
      rw [e, Nat.zero_mul, Nat.zero_add, List.getElem?_append_left (List.getElem?_eq_some_iff.1 hu).1]; exact hu
    | succ i =>
      obtain ⟨r', h3, h4⟩ := RowsOf.get h2 i x (by simpa using hx)
      refine ⟨r', h3, fun j u hu => ?_⟩
      rw [e, List.getElem?_append_right (by rw [hl, Nat.succ_mul]; omega), hl, Nat.succ_mul]
      rw [show i * K.k + K.k + j - K.k = i * K.k + j by omega]
      exact h4 j u hu
end

/-- v is a slice that the call made (its row is a block from B on, none of E's), and reads as l; what its elements lead to lies neither in E's blocks nor in its row -/
def OwnK {α : Type} (e : TypeId) (K : Kind α) (B : Nat) (E : Nat → Prop) (w : World) (v : Value) (l : List α) : Prop :=
  ∃ xs, w.ownsRow B e K.k v l.length xs ∧ RowsOf K (fun b => b < w.heap.size ∧ ¬ E b ∧ v.ownBlock ≠ some b) w l xs ∧ ∀ g, v.ownBlock = some g → ¬ E g
section
variable {α : Type} {e : TypeId} {K : Kind α} {B : Nat} {E : Nat → Prop} {w w' : World} {v : Value} {l : List α}
theorem OwnK.nil (e : TypeId) (K : Kind α) (B : Nat) (E : Nat → Prop) (w : World) : OwnK e K B E w (.slice none 0 0) [] :=
  ⟨[], World.ownsRow_nil w B e K.k, rfl, fun g h => by simp [Value.ownBlock] at h⟩
theorem OwnK.lt (h : OwnK e K B E w v l) : ∀ k, v.ownBlock = some k → B ≤ k ∧ k < w.heap.size := by
  obtain ⟨xs, h1, _⟩ := h; exact World.ownsRow.lt h1
theorem OwnK.notE (h : OwnK e K B E w v l) : ∀ k, v.ownBlock = some k → ¬ E k := by
  obtain ⟨xs, _, _, h3⟩ := h; exact h3
theorem OwnK.form (h : OwnK e K B E w v l) : ∃ a c, v = .slice a l.length c := by
  obtain ⟨xs, h1, _⟩ := h
  rcases h1.2 with ⟨rfl, h0⟩ | ⟨g, cap, cur, rfl, _⟩
  · exact ⟨none, 0, by rw [h0]⟩
  · exact ⟨_, _, rfl⟩
theorem OwnK.step {S : Nat → Prop} (h : OwnK e K B E w v l) (hs : Step S w w') (hS : ∀ b, b < w.heap.size → ¬ E b → S b) : OwnK e K B E w' v l := by
  obtain ⟨xs, h1, h2, h3⟩ := h
  have hlt := World.ownsRow.lt h1
  have hsz := hs.size
  refine ⟨xs, ⟨h1.1, ?_⟩, ?_, h3⟩
  · rcases h1.2 with h0 | ⟨g, cap, cur, hv, hg, hh, r⟩
    · exact Or.inl h0
    · refine Or.inr ⟨g, cap, cur, hv, hg, ?_, r⟩
      have ho : v.ownBlock = some g := by rw [hv]; rfl
      rw [hs.block g (hS g (hlt g ho).2 (h3 g ho))]; exact hh
  · exact (h2.keeps (fun b hb => hs.block b (hS b hb.1 hb.2.1))).imp (fun b hb => ⟨by omega, hb.2⟩)
theorem OwnK.below (h : OwnK e K B E w v l) (hb : Below w.heap.size w w') : OwnK e K B E w' v l := h.step (.of_below hb) fun _ h _ => h
theorem OwnK.alloc (h : OwnK e K B E w v l) (o : Obj) : OwnK e K B E (w.alloc o) v l := h.below ((Below.refl _ w).alloc (Nat.le_refl _) o)
theorem OwnK.drewN (h : OwnK e K B E w v l) (n : Nat) : OwnK e K B E (w.drewN n) v l := h.step ((Step.refl (fun _ => True) w).drewN n) fun _ _ _ => trivial
theorem OwnK.drew (h : OwnK e K B E w v l) : OwnK e K B E w.drew v l := h.step ((Step.refl (fun _ => True) w).drew) fun _ _ _ => trivial
theorem OwnK.mono {B' : Nat} (h : OwnK e K B E w v l) (hB : B' ≤ B) : OwnK e K B' E w v l := by
  obtain ⟨xs, h1, h2, h3⟩ := h
  refine ⟨xs, ⟨h1.1, ?_⟩, h2, h3⟩
  rcases h1.2 with h0 | ⟨g, cap, cur, hv, hg, r⟩
  · exact Or.inl h0
  · exact Or.inr ⟨g, cap, cur, hv, Nat.le_trans hB hg, r⟩
theorem OwnK.less {E' : Nat → Prop} (h : OwnK e K B E w v l) (hE : ∀ b, E' b → E b) : OwnK e K B E' w v l := by
  obtain ⟨xs, h1, h2, h3⟩ := h
  exact ⟨xs, h1, h2.imp fun b hb => ⟨hb.1, fun h => hb.2.1 (hE b h), hb.2.2⟩, fun g hg h => h3 g hg (hE g h)⟩
theorem OwnK.lb (h : OwnK e K B E w v l) : LB K (fun b => b < w.heap.size ∧ ¬ E b) w v l := by
  obtain ⟨xs, h1, h2, h3⟩ := h
  have h1' := h1
  have h2' := h2.imp (S' := fun b => b < w.heap.size ∧ ¬ E b) fun b hb => ⟨hb.1, hb.2.1⟩
  have hlt := World.ownsRow.lt h1
  rcases h1.2 with ⟨rfl, h0⟩ | ⟨g, cap, cur, rfl, hg, hh, hle, hcap, hs, ht⟩
  · obtain rfl : l = [] := List.eq_nil_of_length_eq_zero h0
    exact LB.nil _ _ _
  · refine ⟨some ⟨g, 0, none⟩, g, 0, cap, rfl, by unfold maxLen at hcap; omega, fun _ => rfl, ⟨hle, fun h => by cases h⟩, fun _ => ⟨(hlt g rfl).2, h3 g rfl⟩, fun i x hx => ?_⟩
    obtain ⟨r, hr, hc⟩ := h2'.get i x hx
    refine ⟨r, hr, fun j u hu => ?_⟩
    have := World.ownsRow.cells h1' (g := g) rfl _ _ (hc j u hu)
    simpa [Addr.add_lit, Nat.add_assoc] using this
theorem OwnK.len_le (h : OwnK e K B E w v l) : l.length ≤ 9223372036854775807 := h.lb.max

/-- append of one element to a list that the call has made; the cells of the element stand in a block -/
theorem wpList_appendK {ops : Array Oper} {rest : List Oper} {o : Oper} {a : Act} {Q : Exit → Act → World → Prop} (t : TypeId) (z : Value) (bytes : Nat) (ht : Try.prog.underlying t = some (.slice e)) (hinfo : (Try.prog.info? e).map (fun i => (i.zero, i.size, i.bytes)) = some (some z, K.k, bytes))
    (hzs : z.cells.size = K.k) (hk : 0 < K.k) (hgd : o.guard = none) (s x : Operand)
    (ho : o.op = .call { callee := .builtin .append, args := #[s, x], argTypes := #[t, t] })
    (n : Nat) (hn : l.length = n) (hs : a.eval s = v) (hown : OwnK e K B E w v l) (hE : ∀ b, E b → b < w.heap.size) (nb : Nat) (y : α) (row : List Value) (hx : a.eval x = .slice (some ⟨nb, 0, none⟩) 1 1)
    (hcell : ∀ j u, row[j]? = some u → w.cell? ⟨nb, j, none⟩ = some u) (hone : ∀ u ∈ row, u.oneCell' = true) (hrow : K.R (fun b => b < w.heap.size ∧ ¬ E b ∧ v.ownBlock ≠ some b) w y row)
    (hlen : (l.length + 1) * bytes ≤ 140737488355328) (hl63 : l.length < 1099511627776) (hB : B ≤ w.heap.size)
    (h : ∀ g c w', OwnK e K B E w' (.slice (some ⟨g, 0, none⟩) (n + 1) c) (l ++ [y]) → Step (fun b => b < w.heap.size ∧ v.ownBlock ≠ some b) w w' → g < w'.heap.size →
      wpList Try.prog ops Q rest (a.put o.dst (.slice (some ⟨g, 0, none⟩) (n + 1) c)) w') : wpList Try.prog ops Q (o :: rest) a w := by
  subst hn
  obtain ⟨i0, hi, hz0, hz1, hz2⟩ := info_parts hinfo
  obtain ⟨xs, h1, h2, h3⟩ := hown
  have hlt := World.ownsRow.lt h1
  refine wpList_append_lies w hgd s x t ho B e i0 z K.k bytes ht hi hz0 hz1 hz2 hzs hk v l.length xs hs h1 ⟨nb, 0, none⟩ 1 1 row hx (by rw [K.len hrow, Nat.one_mul]) ?_ hone (by decide) ?_ hlen hB _ rfl ?_
  · intro j u hj
    have := hcell j u hj
    simpa [Addr.add_lit] using this
  · unfold maxLen; omega
  · intro g c w' g1 g2 g3 g4
    have hst : Step (fun b => b < w.heap.size ∧ v.ownBlock ≠ some b) w w' := Step.of_grown g2 (fun b hb => ⟨hb.1, hb.2⟩)
    have hsz := hst.size
    have hgne : ∀ b, b < w.heap.size → v.ownBlock ≠ some b → b ≠ g := by
      intro b hb hne e
      subst e
      rcases g3 with h' | h'
      · exact hne h'
      · omega
    refine h g c w' ⟨xs ++ row, by simpa using g1, ?_, ?_⟩ hst g4
    · have hr := (h2.keeps (fun b hb => hst.block b ⟨hb.1, hb.2.2⟩)).snoc (K.keeps hrow (fun b hb => hst.block b ⟨hb.1, hb.2.2⟩))
      exact hr.imp fun b hb => ⟨by omega, hb.2.1, fun e => hgne b hb.1 hb.2.2 (by simpa [Value.ownBlock] using e.symm)⟩
    · intro g' hg' hEg
      have : g' = g := by simpa [Value.ownBlock] using hg'.symm
      subst this
      rcases g3 with h' | h'
      · exact h3 _ h' hEg
      · have := hE _ hEg; omega
end

end Go.Proofs.Ytbliedldlimpgaa
