/- Lemmas that the claim is proved from: what calls of functions of the program come to (contracts), and plain laws. Each lemma bears its own conditions. -/
import Derived.Test.YtbliedldlimpgaaChecked
import Derived.WalkKit
import Derived.Lib.Hide
import Derived.OneCell
import Derived.Below
import Derived.WalkSmall
import Derived.Deep.OwnRows
import Derived.Deep.AppendLies
import Derived.Laws.AppendOwn
import Derived.StillTail
import Derived.KernelRfl
import Derived.Laws.AppendOwnNone
import Derived.Maps.AppendAt
import Derived.Deep.RegionHeld
import Derived.IntWalk
import Derived.BigQuiet
import Derived.Laws.IdiomStrings
import Derived.Laws.BytesString
import Derived.Laws.BitsAllLaws

/- An image as plain data, whether it may be, and its bytes: plain Lean, no program in sight. -/
namespace Go.Proofs.Ytbliedldlimpgaa
set_option linter.unusedVariables false
set_option linter.unusedSimpArgs false

structure SegL where
  at_ : Int
  size : Int
  bytes : List UInt8
  perm : Int
structure SymL where
  name : List UInt8
  version : List UInt8
  old : Bool
  kind : Int
  weak : Bool
  vis : Int
  defined : Bool
  value : Int
  size : Int
structure RelL where
  at_ : Int
  kind : Int
  sym : Int
  add : Int
structure SlotL where
  at_ : Int
  sym : Int
  stub : Int
structure NeedL where
  name : List UInt8
  versions : List (List UInt8)
structure ImgL where
  name : List UInt8
  flags : Int
  segs : List SegL
  needed : List NeedL
  runPath : List (List UInt8)
  syms : List SymL
  buckets : List (List Int)
  words : List Int
  shift : Int
  relocs : List RelL
  slots : List SlotL
  init : List Int
  fini : List Int
  tls : List UInt8
  tlsSize : Int

/-- may a byte stand in a name? -/
def nameN (n : Int) : Bool := (decide (97 ≤ n) && decide (n ≤ 122)) || (decide (65 ≤ n) && decide (n ≤ 90)) || (decide (48 ≤ n) && decide (n ≤ 57)) || (n == 95) || (n == 46)
def nameC (c : UInt8) : Bool := nameN c.toNat
def nameB (s : List UInt8) : Bool := s.all nameC && decide (1 ≤ s.length) && decide (s.length ≤ 64)
def sizedB (s : List UInt8) : Bool := decide (1 ≤ s.length) && decide (s.length ≤ 200)

def needB (n : NeedL) : Bool := sizedB n.name && decide (n.versions.length ≤ 16) && n.versions.all nameB
def headB (im : ImgL) : Bool :=
  (decide (im.name = []) || nameB im.name) && decide (0 ≤ im.flags) && decide (im.flags < 16) && decide (im.needed.length ≤ 16) && decide (im.runPath.length ≤ 16) && im.needed.all needB && im.runPath.all sizedB

/-- a number, rounded up to a multiple of 64 -/
def upL (n : Int) : Int := (n + 63) / 64 * 64
def segB (s : SegL) : Bool :=
  decide (0 ≤ s.at_) && decide (s.at_ ≤ 65536) && decide (s.at_ % 64 = 0) && decide (1 ≤ s.size) && decide (s.at_ + s.size ≤ 65536) && decide ((s.bytes.length : Int) ≤ s.size) && decide (0 ≤ s.perm) && decide (s.perm ≤ 7)
def segsFrom : Int → List SegL → Bool
  | _, [] => true
  | e, s :: l => decide (e ≤ s.at_) && segB s && segsFrom (upL (s.at_ + s.size)) l
def segsB (l : List SegL) : Bool := decide (1 ≤ l.length) && decide (l.length ≤ 8) && segsFrom 0 l

/-- has a permission all bits of another one? (of 0 to 7) -/
def permB (p q : Int) : Bool := (p.toNat &&& q.toNat) == q.toNat
/-- does a range lie in one segment that may be used so? -/
def holdsB (l : List SegL) (at_ n p : Int) : Bool := l.any fun s => decide (s.at_ ≤ at_) && decide (n ≤ s.size) && decide (at_ - s.at_ ≤ s.size - n) && permB s.perm p

def symRightB (s : SymL) : Bool :=
  nameB s.name && (decide (s.version = []) || nameB s.version) && decide (1 ≤ s.kind) && decide (s.kind ≤ 3) && decide (0 ≤ s.vis) && decide (s.vis ≤ 2) && decide (0 ≤ s.value) && decide (0 ≤ s.size) &&
  (s.defined || (!s.old && decide (s.vis = 0) && decide (s.value = 0) && decide (s.size = 0))) && !(s.old && decide (s.version = []))
/-- do two definitions bear one name, so that they may not both be? -/
def clashB (s t : SymL) : Bool := s.defined && t.defined && decide (s.name = t.name) && (decide (s.version = t.version) || (!s.old && !t.old))
def symB (segs : List SegL) (tls : Int) (s : SymL) : Bool :=
  symRightB s && (!s.defined || (if s.kind = 3 then decide (s.size ≤ tls) && decide (s.value ≤ tls - s.size) else holdsB segs s.value s.size 0))
def symsFrom (segs : List SegL) (tls : Int) : List SymL → List SymL → Bool
  | _, [] => true
  | done, s :: l => symB segs tls s && (done.all fun t => !clashB s t) && symsFrom segs tls (done ++ [s]) l
def symsB (im : ImgL) : Bool := decide (im.syms.length ≤ 512) && symsFrom im.segs im.tlsSize [] im.syms

/-- a name's hash -/
def hashL : Int → List UInt8 → Int
  | h, [] => h
  | h, c :: l => hashL ((33 * h + c.toNat) % 4294967296) l
def hashB (s : List UInt8) : Int := hashL 5381 s
def seenB (s : SymL) : Bool := s.defined && decide (s.vis ≠ 2)
/-- is a filter right? -/
def sieveB (words : List Int) (shift : Int) : Bool := (decide (words.length = 1) || decide (words.length = 2) || decide (words.length = 4) || decide (words.length = 8) || decide (words.length = 16) || decide (words.length = 32) || decide (words.length = 64)) && decide (1 ≤ shift) && decide (shift ≤ 31)
def bitB (w : Int) (k : Nat) : Bool := (w.toNat / 2 ^ k) % 2 == 1
/-- does a filter lack a hash? -/
def lacksB (words : List Int) (shift : Int) (h : Int) : Bool :=
  let w := words.getD ((h.toNat / 64) % words.length) 0
  !(bitB w (h.toNat % 64) && bitB w ((h.toNat / 2 ^ shift.toNat) % 64))
def homeL (name : List UInt8) (many : Nat) : Nat := (hashB name).toNat % many
/-- the places of a bucket: rising, each of a symbol that is seen and at home there, and that the filter does not lack -/
def chainB (syms : List SymL) (words : List Int) (shift : Int) (many b : Nat) : Int → List Int → Bool
  | _, [] => true
  | last, i :: l => decide (last < i) && (match (if i < 0 then none else syms[i.toNat]?) with
    | some s => seenB s && decide (homeL s.name many = b) && !lacksB words shift (hashB s.name)
    | none => false) && chainB syms words shift many b i l
def chainsB (syms : List SymL) (words : List Int) (shift : Int) (many : Nat) : Nat → List (List Int) → Bool
  | _, [] => true
  | b, c :: l => chainB syms words shift many b (-1) c && chainsB syms words shift many (b + 1) l
def tableB (im : ImgL) : Bool :=
  decide (im.syms.length ≤ 512) && decide (1 ≤ im.buckets.length) && decide (im.buckets.length ≤ 512) && sieveB im.words im.shift && chainsB im.syms im.words im.shift im.buckets.length 0 im.buckets &&
  decide ((im.buckets.map List.length).sum = (im.syms.filter seenB).length)

def symAt (im : ImgL) (i : Int) : Option SymL := if i < 0 then none else im.syms[i.toNat]?
/-- how many bytes a relocation fills in -/
def wideL (im : ImgL) (r : RelL) : Int :=
  match symAt im r.sym with
  | some s => if r.kind = 2 then s.size else 8
  | none => 8
def relocB (im : ImgL) (r : RelL) : Bool :=
  if r.kind = 1 then decide (r.sym = -1) && decide (0 ≤ r.add) && decide (r.add ≤ 65536) && holdsB im.segs r.at_ 8 0
  else match symAt im r.sym with
    | none => false
    | some s => decide (-4294967296 ≤ r.add) && decide (r.add ≤ 4294967296) &&
      (if r.kind = 0 ∨ r.kind = 6 then decide (s.kind ≠ 3) && holdsB im.segs r.at_ 8 0
       else if r.kind = 7 then decide (r.add = 0) && holdsB im.segs r.at_ 8 0
       else if r.kind = 3 then decide (s.kind = 3) && decide (r.add = 0) && holdsB im.segs r.at_ 8 0
       else if r.kind = 4 ∨ r.kind = 5 then decide (s.kind = 3) && holdsB im.segs r.at_ 8 0
       else if r.kind = 2 then decide (s.kind = 2) && s.defined && decide (1 ≤ s.size) && decide (s.value = r.at_) && decide (im.flags % 2 = 1) && decide (r.add = 0) && holdsB im.segs r.at_ s.size 2
       else false)
def relocsFrom (im : ImgL) : Int → List RelL → Bool
  | _, [] => true
  | e, r :: l => decide (e ≤ r.at_) && relocB im r && relocsFrom im (r.at_ + wideL im r) l
def relocsB (im : ImgL) : Bool := decide (im.relocs.length ≤ 512) && relocsFrom im 0 im.relocs

def slotB (im : ImgL) (s : SlotL) : Bool :=
  (match symAt im s.sym with
   | some x => decide (x.kind = 1)
   | none => false) && holdsB im.segs s.at_ 8 0 && holdsB im.segs s.stub 8 4 && im.relocs.all fun r => !(decide (r.at_ < s.at_ + 8) && decide (s.at_ < r.at_ + wideL im r))
def slotsFrom (im : ImgL) : Int → List SlotL → Bool
  | _, [] => true
  | e, s :: l => decide (e ≤ s.at_) && slotB im s && slotsFrom im (s.at_ + 8) l
def slotsB (im : ImgL) : Bool := decide (im.slots.length ≤ 128) && slotsFrom im 0 im.slots
def runB (im : ImgL) (l : List Int) : Bool := decide (l.length ≤ 8) && l.all fun a => holdsB im.segs a 8 4
def tlsB (im : ImgL) : Bool := decide (0 ≤ im.tlsSize) && decide (im.tlsSize ≤ 4096) && decide ((im.tls.length : Int) ≤ im.tlsSize)
/-- the first thing that is wrong with an image -/
def mayL (im : ImgL) : Int :=
  if headB im = false then 90
  else if segsB im.segs = false then 91
  else if tlsB im = false then 96
  else if symsB im = false then 92
  else if tableB im = false then 93
  else if relocsB im = false then 94
  else if slotsB im = false then 95
  else if (runB im im.init && runB im im.fini) = false then 97
  else 0

/-- a number's bytes, the lowest first -/
def digitsL (size : Nat) (n : Int) : List UInt8 := (List.range size).map fun i => UInt8.ofNat ((n % 18446744073709551616).toNat / 256 ^ i)
def textL' (s : List UInt8) : List UInt8 := digitsL 2 s.length ++ s
def blockL (s : List UInt8) : List UInt8 := digitsL 4 s.length ++ s
def numsL (size : Nat) (l : List Int) : List UInt8 := (l.map (digitsL size)).flatten
def textsL (l : List (List UInt8)) : List UInt8 := (l.map textL').flatten
def oneL (b : Bool) : Int := if b then 1 else 0
def segF (s : SegL) : List UInt8 := digitsL 4 s.at_ ++ digitsL 4 s.size ++ digitsL 1 s.perm ++ blockL s.bytes
def needF (n : NeedL) : List UInt8 := textL' n.name ++ digitsL 1 n.versions.length ++ textsL n.versions
def symF (s : SymL) : List UInt8 := textL' s.name ++ textL' s.version ++ digitsL 1 s.kind ++ digitsL 1 s.vis ++ digitsL 1 (oneL s.old) ++ digitsL 1 (oneL s.weak) ++ digitsL 1 (oneL s.defined) ++ digitsL 8 s.value ++ digitsL 8 s.size
def chainF (c : List Int) : List UInt8 := digitsL 2 c.length ++ numsL 2 c
def relF (r : RelL) : List UInt8 := digitsL 1 r.kind ++ digitsL 8 r.at_ ++ digitsL 8 r.sym ++ digitsL 8 r.add
def slotF (s : SlotL) : List UInt8 := digitsL 4 s.at_ ++ digitsL 4 s.sym ++ digitsL 4 s.stub
def magicL : List UInt8 := [99, 108, 101, 118, 105, 115, 49]
/-- an image's bytes -/
def formL (im : ImgL) : List UInt8 :=
  textL' magicL ++ textL' im.name ++ digitsL 1 im.flags ++ digitsL 1 im.segs.length ++ (im.segs.map segF).flatten ++
  digitsL 1 im.needed.length ++ (im.needed.map needF).flatten ++ digitsL 1 im.runPath.length ++ textsL im.runPath ++
  digitsL 2 im.syms.length ++ (im.syms.map symF).flatten ++ digitsL 2 im.buckets.length ++ (im.buckets.map chainF).flatten ++
  digitsL 1 im.shift ++ digitsL 1 im.words.length ++ numsL 8 im.words ++ digitsL 2 im.relocs.length ++ (im.relocs.map relF).flatten ++
  digitsL 2 im.slots.length ++ (im.slots.map slotF).flatten ++ digitsL 1 im.init.length ++ numsL 4 im.init ++ digitsL 1 im.fini.length ++ numsL 4 im.fini ++
  digitsL 2 im.tlsSize ++ blockL im.tls

end Go.Proofs.Ytbliedldlimpgaa

/- Lists in memory: a slice whose elements are rows of cells, each of which reads as a datum; whatever the element's kind. -/
namespace Go.Proofs.Ytbliedldlimpgaa
set_option linter.unusedVariables false
set_option linter.unusedSimpArgs false
open Go.RowKit

theorem size_mk (l : List UInt8) : ByteArray.size ⟨l.toArray⟩ = l.length := by simp [ByteArray.size]
/-- the blocks for which S holds are as they were -/
def Keeps (S : Nat → Prop) (w w' : World) : Prop := ∀ b, S b → w'.heap[b]? = w.heap[b]?
theorem Keeps.of_below {B : Nat} {w w' : World} (h : Below B w w') : Keeps (· < B) w w' := fun b hb => h.block b hb

/-- a kind of element: its cells, and what a row of cells reads as, in the blocks for which S holds -/
structure Kind (α : Type) where
  k : Nat
  R : (Nat → Prop) → World → α → List Value → Prop
  len : ∀ {S w x r}, R S w x r → r.length = k
  keeps : ∀ {S w w' x r}, R S w x r → Keeps S w w' → R S w' x r
  imp : ∀ {S S' : Nat → Prop} {w x r}, R S w x r → (∀ b, S b → S' b) → R S' w x r

/-- v is a slice that reads as l, its cells in blocks for which S holds -/
def LB {α : Type} (K : Kind α) (S : Nat → Prop) (w : World) (v : Value) (l : List α) : Prop :=
  ∃ (a : Option Addr) (b off cap : Nat), v = .slice a l.length cap ∧ l.length ≤ 9223372036854775807 ∧ (0 < l.length → a = some ⟨b, off, none⟩) ∧ (l.length ≤ cap ∧ (a = none → cap = 0)) ∧ (0 < l.length → S b) ∧
    ∀ i x, l[i]? = some x → ∃ row, K.R S w x row ∧ ∀ j u, row[j]? = some u → w.cell? ⟨b, off + i * K.k + j, none⟩ = some u
theorem LB.keeps {α : Type} {K : Kind α} {S : Nat → Prop} {w w' : World} {v : Value} {l : List α} (h : LB K S w v l) (hk : Keeps S w w') : LB K S w' v l := by
  obtain ⟨a, b, off, cap, hv, hm, ha, hcap, hS, hc⟩ := h
  refine ⟨a, b, off, cap, hv, hm, ha, hcap, hS, fun i x hx => ?_⟩
  obtain ⟨row, h1, h2⟩ := hc i x hx
  have hi : i < l.length := (List.getElem?_eq_some_iff.1 hx).1
  exact ⟨row, K.keeps h1 hk, fun j u hu => by rw [World.cell?_of_block (a := ⟨b, off + i * K.k + j, none⟩) (hk b (hS (by omega)))]; exact h2 j u hu⟩
theorem LB.imp {α : Type} {K : Kind α} {S S' : Nat → Prop} {w : World} {v : Value} {l : List α} (h : LB K S w v l) (hi : ∀ b, S b → S' b) : LB K S' w v l := by
  obtain ⟨a, b, off, cap, hv, hm, ha, hcap, hS, hc⟩ := h
  refine ⟨a, b, off, cap, hv, hm, ha, hcap, fun h0 => hi b (hS h0), fun i x hx => ?_⟩
  obtain ⟨row, h1, h2⟩ := hc i x hx
  exact ⟨row, K.imp h1 hi, h2⟩
theorem LB.nil {α : Type} (K : Kind α) (S : Nat → Prop) (w : World) : LB K S w (.slice none 0 0) [] :=
  ⟨none, 0, 0, 0, rfl, by simp, fun h => absurd h (by simp), by simp, fun h => absurd h (by simp), fun i x hx => by simp at hx⟩
theorem LB.form {α : Type} {K : Kind α} {S : Nat → Prop} {w : World} {v : Value} {l : List α} (h : LB K S w v l) : ∃ a c, v = .slice a l.length c := by
  obtain ⟨a, b, off, cap, hv, _⟩ := h
  exact ⟨a, cap, hv⟩
theorem LB.max {α : Type} {K : Kind α} {S : Nat → Prop} {w : World} {v : Value} {l : List α} (h : LB K S w v l) : l.length ≤ 9223372036854775807 := by
  obtain ⟨_, _, _, _, _, hm, _⟩ := h
  exact hm
/-- below a block -/
abbrev LBelow {α : Type} (K : Kind α) (B : Nat) (w : World) (v : Value) (l : List α) : Prop := LB K (· < B) w v l
theorem LB.below {α : Type} {K : Kind α} {B : Nat} {w w' : World} {v : Value} {l : List α} (h : LB K (· < B) w v l) (hb : Below B w w') : LB K (· < B) w' v l := h.keeps (.of_below hb)
theorem LB.mono {α : Type} {K : Kind α} {B B' : Nat} {w : World} {v : Value} {l : List α} (h : LB K (· < B) w v l) (hB : B ≤ B') : LB K (· < B') w v l := h.imp fun _ hb => Nat.lt_of_lt_of_le hb hB

/-- what a loop over a list lays open: where it lies, and the cells of each element -/
structure LAt {α : Type} (K : Kind α) (S : Nat → Prop) (w : World) (l : List α) (a : Option Addr) (b off : Nat) : Prop where
  addr : 0 < l.length → a = some ⟨b, off, none⟩
  inS : 0 < l.length → S b
  row : ∀ i x, l[i]? = some x → ∃ row, K.R S w x row ∧ ∀ j u, row[j]? = some u → w.cell? ⟨b, off + i * K.k + j, none⟩ = some u
theorem LB.at {α : Type} {K : Kind α} {S : Nat → Prop} {w : World} {v : Value} {l : List α} (h : LB K S w v l) : ∃ a b off cap, v = .slice a l.length cap ∧ l.length ≤ 9223372036854775807 ∧ l.length ≤ cap ∧ LAt K S w l a b off := by
  obtain ⟨a, b, off, cap, hv, hm, ha, hcap, hS, hc⟩ := h
  exact ⟨a, b, off, cap, hv, hm, hcap.1, ⟨ha, hS, hc⟩⟩
theorem LAt.keeps {α : Type} {K : Kind α} {S : Nat → Prop} {w w' : World} {l : List α} {a : Option Addr} {b off : Nat} (h : LAt K S w l a b off) (hk : Keeps S w w') : LAt K S w' l a b off :=
  ⟨h.addr, h.inS, fun i x hx => by
    obtain ⟨row, h1, h2⟩ := h.row i x hx
    have hi : i < l.length := (List.getElem?_eq_some_iff.1 hx).1
    exact ⟨row, K.keeps h1 hk, fun j u hu => by rw [World.cell?_of_block (a := ⟨b, off + i * K.k + j, none⟩) (hk b (h.inS (by omega)))]; exact h2 j u hu⟩⟩
theorem LAt.below {α : Type} {K : Kind α} {B : Nat} {w w' : World} {l : List α} {a : Option Addr} {b off : Nat} (h : LAt K (· < B) w l a b off) (hb : Below B w w') : LAt K (· < B) w' l a b off := h.keeps (.of_below hb)

/-! ### the kinds -/
def kInt : Kind Int := { k := 1, R := fun _ _ x r => r = [.int .i64 x], len := fun h => by rw [h]; rfl, keeps := fun h _ => h, imp := fun h _ => h }
def kByte : Kind UInt8 := { k := 1, R := fun _ _ x r => r = [.int .u8 x.toNat], len := fun h => by rw [h]; rfl, keeps := fun h _ => h, imp := fun h _ => h }
def kStr : Kind (List UInt8) := { k := 1, R := fun _ _ x r => r = [.string ⟨x.toArray⟩] ∧ x.length ≤ 9223372036854775807, len := fun h => by rw [h.1]; rfl, keeps := fun h _ => h, imp := fun h _ => h }
def kWord : Kind Int := { k := 1, R := fun _ _ x r => r = [.int .u64 x], len := fun h => by rw [h]; rfl, keeps := fun h _ => h, imp := fun h _ => h }
def kHash : Kind Int := { k := 1, R := fun _ _ x r => r = [.int .u32 x], len := fun h => by rw [h]; rfl, keeps := fun h _ => h, imp := fun h _ => h }
def kInts : Kind (List Int) := { k := 1, R := fun S w x r => ∃ c, r = [c] ∧ LB kInt S w c x, len := fun ⟨_, h, _⟩ => by rw [h]; rfl, keeps := fun ⟨c, h, h'⟩ hk => ⟨c, h, h'.keeps hk⟩, imp := fun ⟨c, h, h'⟩ hi => ⟨c, h, h'.imp hi⟩ }
def kSeg : Kind SegL := { k := 4, R := fun S w x r => ∃ c, r = [.int .i64 x.at_, .int .i64 x.size, c, .int .i64 x.perm] ∧ LB kByte S w c x.bytes, len := fun ⟨_, h, _⟩ => by rw [h]; rfl, keeps := fun ⟨c, h, h'⟩ hk => ⟨c, h, h'.keeps hk⟩, imp := fun ⟨c, h, h'⟩ hi => ⟨c, h, h'.imp hi⟩ }
def kNeed : Kind NeedL := { k := 2, R := fun S w x r => ∃ c, r = [.string ⟨x.name.toArray⟩, c] ∧ LB kStr S w c x.versions ∧ x.name.length ≤ 9223372036854775807, len := fun ⟨_, h, _⟩ => by rw [h]; rfl, keeps := fun ⟨c, h, h', h3⟩ hk => ⟨c, h, h'.keeps hk, h3⟩, imp := fun ⟨c, h, h', h3⟩ hi => ⟨c, h, h'.imp hi, h3⟩ }
/-- a symbol's cells -/
def symCells (x : SymL) : List Value := [.string ⟨x.name.toArray⟩, .string ⟨x.version.toArray⟩, .bool x.old, .int .i64 x.kind, .bool x.weak, .int .i64 x.vis, .bool x.defined, .int .i64 x.value, .int .i64 x.size]
/-- what a symbol's numbers and texts are as Go's -/
structure SymOk (x : SymL) : Prop where
  name : x.name.length ≤ 9223372036854775807
  version : x.version.length ≤ 9223372036854775807
  kind : -9223372036854775808 ≤ x.kind ∧ x.kind ≤ 9223372036854775807
  vis : -9223372036854775808 ≤ x.vis ∧ x.vis ≤ 9223372036854775807
  value : -9223372036854775808 ≤ x.value ∧ x.value ≤ 9223372036854775807
  size : -9223372036854775808 ≤ x.size ∧ x.size ≤ 9223372036854775807
def kSym : Kind SymL := { k := 9, R := fun _ _ x r => r = symCells x ∧ SymOk x, len := fun h => by rw [h.1]; rfl, keeps := fun h _ => h, imp := fun h _ => h }
def relCells (x : RelL) : List Value := [.int .i64 x.at_, .int .i64 x.kind, .int .i64 x.sym, .int .i64 x.add]
def kRel : Kind RelL := { k := 4, R := fun _ _ x r => r = relCells x, len := fun h => by rw [h]; rfl, keeps := fun h _ => h, imp := fun h _ => h }
def slotCells (x : SlotL) : List Value := [.int .i64 x.at_, .int .i64 x.sym, .int .i64 x.stub]
def kSlot : Kind SlotL := { k := 3, R := fun _ _ x r => r = slotCells x, len := fun h => by rw [h]; rfl, keeps := fun h _ => h, imp := fun h _ => h }

section
variable {S : Nat → Prop} {w : World} {a : Option Addr} {b off : Nat}
theorem LAt.int1 {l : List Int} (h : LAt kInt S w l a b off) (i : Nat) (x : Int) (hx : l[i]? = some x) : w.cell? ⟨b, off + i, none⟩ = some (.int .i64 x) := by
  obtain ⟨row, h1, h2⟩ := h.row i x hx
  have := h2 0 (.int .i64 x) (by rw [h1]; rfl)
  simpa [kInt] using this
theorem LAt.word1 {l : List Int} (h : LAt kWord S w l a b off) (i : Nat) (x : Int) (hx : l[i]? = some x) : w.cell? ⟨b, off + i, none⟩ = some (.int .u64 x) := by
  obtain ⟨row, h1, h2⟩ := h.row i x hx
  have := h2 0 (.int .u64 x) (by rw [h1]; rfl)
  simpa [kWord] using this
theorem LAt.byte1 {l : List UInt8} (h : LAt kByte S w l a b off) (i : Nat) (x : UInt8) (hx : l[i]? = some x) : w.cell? ⟨b, off + i, none⟩ = some (.int .u8 x.toNat) := by
  obtain ⟨row, h1, h2⟩ := h.row i x hx
  have := h2 0 (.int .u8 x.toNat) (by rw [h1]; rfl)
  simpa [kByte] using this
theorem LAt.str1 {l : List (List UInt8)} (h : LAt kStr S w l a b off) (i : Nat) (x : List UInt8) (hx : l[i]? = some x) : w.cell? ⟨b, off + i, none⟩ = some (.string ⟨x.toArray⟩) ∧ x.length ≤ 9223372036854775807 := by
  obtain ⟨row, ⟨h1, h3⟩, h2⟩ := h.row i x hx
  have := h2 0 (.string ⟨x.toArray⟩) (by rw [h1]; rfl)
  exact ⟨by simpa [kStr] using this, h3⟩
theorem LAt.ints1 {l : List (List Int)} (h : LAt kInts S w l a b off) (i : Nat) (x : List Int) (hx : l[i]? = some x) : ∃ c, w.cell? ⟨b, off + i, none⟩ = some c ∧ LB kInt S w c x := by
  obtain ⟨row, ⟨c, h1, h1'⟩, h2⟩ := h.row i x hx
  have := h2 0 c (by rw [h1]; rfl)
  exact ⟨c, by simpa [kInts] using this, h1'⟩
theorem LAt.seg4 {l : List SegL} (h : LAt kSeg S w l a b off) (i : Nat) (x : SegL) (hx : l[i]? = some x) : ∃ c, w.cell? ⟨b, off + i * 4, none⟩ = some (.int .i64 x.at_) ∧ w.cell? ⟨b, off + i * 4 + 1, none⟩ = some (.int .i64 x.size) ∧
    w.cell? ⟨b, off + i * 4 + 2, none⟩ = some c ∧ w.cell? ⟨b, off + i * 4 + 3, none⟩ = some (.int .i64 x.perm) ∧ LB kByte S w c x.bytes := by
  obtain ⟨row, ⟨c, h1, h1'⟩, h2⟩ := h.row i x hx
  subst h1
  exact ⟨c, h2 0 _ rfl, h2 1 _ rfl, h2 2 _ rfl, h2 3 _ rfl, h1'⟩
theorem LAt.need2 {l : List NeedL} (h : LAt kNeed S w l a b off) (i : Nat) (x : NeedL) (hx : l[i]? = some x) : ∃ c, w.cell? ⟨b, off + i * 2, none⟩ = some (.string ⟨x.name.toArray⟩) ∧ w.cell? ⟨b, off + i * 2 + 1, none⟩ = some c ∧ LB kStr S w c x.versions ∧ x.name.length ≤ 9223372036854775807 := by
  obtain ⟨row, ⟨c, h1, h1', h3⟩, h2⟩ := h.row i x hx
  subst h1
  exact ⟨c, h2 0 _ rfl, h2 1 _ rfl, h1', h3⟩
theorem LAt.sym9 {l : List SymL} (h : LAt kSym S w l a b off) (i : Nat) (x : SymL) (hx : l[i]? = some x) : SymOk x ∧ w.cell? ⟨b, off + i * 9, none⟩ = some (.string ⟨x.name.toArray⟩) ∧ w.cell? ⟨b, off + i * 9 + 1, none⟩ = some (.string ⟨x.version.toArray⟩) ∧
    w.cell? ⟨b, off + i * 9 + 2, none⟩ = some (.bool x.old) ∧ w.cell? ⟨b, off + i * 9 + 3, none⟩ = some (.int .i64 x.kind) ∧ w.cell? ⟨b, off + i * 9 + 4, none⟩ = some (.bool x.weak) ∧ w.cell? ⟨b, off + i * 9 + 5, none⟩ = some (.int .i64 x.vis) ∧
    w.cell? ⟨b, off + i * 9 + 6, none⟩ = some (.bool x.defined) ∧ w.cell? ⟨b, off + i * 9 + 7, none⟩ = some (.int .i64 x.value) ∧ w.cell? ⟨b, off + i * 9 + 8, none⟩ = some (.int .i64 x.size) := by
  obtain ⟨row, ⟨h1, h1'⟩, h2⟩ := h.row i x hx
  subst h1
  exact ⟨h1', h2 0 _ rfl, h2 1 _ rfl, h2 2 _ rfl, h2 3 _ rfl, h2 4 _ rfl, h2 5 _ rfl, h2 6 _ rfl, h2 7 _ rfl, h2 8 _ rfl⟩
theorem LAt.rel4 {l : List RelL} (h : LAt kRel S w l a b off) (i : Nat) (x : RelL) (hx : l[i]? = some x) : w.cell? ⟨b, off + i * 4, none⟩ = some (.int .i64 x.at_) ∧ w.cell? ⟨b, off + i * 4 + 1, none⟩ = some (.int .i64 x.kind) ∧
    w.cell? ⟨b, off + i * 4 + 2, none⟩ = some (.int .i64 x.sym) ∧ w.cell? ⟨b, off + i * 4 + 3, none⟩ = some (.int .i64 x.add) := by
  obtain ⟨row, h1, h2⟩ := h.row i x hx
  subst h1
  exact ⟨h2 0 _ rfl, h2 1 _ rfl, h2 2 _ rfl, h2 3 _ rfl⟩
theorem LAt.slot3 {l : List SlotL} (h : LAt kSlot S w l a b off) (i : Nat) (x : SlotL) (hx : l[i]? = some x) : w.cell? ⟨b, off + i * 3, none⟩ = some (.int .i64 x.at_) ∧ w.cell? ⟨b, off + i * 3 + 1, none⟩ = some (.int .i64 x.sym) ∧
    w.cell? ⟨b, off + i * 3 + 2, none⟩ = some (.int .i64 x.stub) := by
  obtain ⟨row, h1, h2⟩ := h.row i x hx
  subst h1
  exact ⟨h2 0 _ rfl, h2 1 _ rfl, h2 2 _ rfl⟩
end

end Go.Proofs.Ytbliedldlimpgaa

/- Lists that the call makes, of whatever kind of element; what an append leaves; worlds that keep a set of blocks. -/
namespace Go.Proofs.Ytbliedldlimpgaa
set_option linter.unusedVariables false
set_option linter.unusedSimpArgs false
open Go.RowKit

/-- the blocks for which S holds are as they were, and the rest of the world but for the heap -/
structure Step (S : Nat → Prop) (w w' : World) : Prop where
  os : w'.os = w.os
  tape : w'.tape = w.tape
  output : w'.output = w.output
  size : w.heap.size ≤ w'.heap.size
  block : ∀ b, S b → w'.heap[b]? = w.heap[b]?
theorem Step.refl (S : Nat → Prop) (w : World) : Step S w w := ⟨rfl, rfl, rfl, Nat.le_refl _, fun _ _ => rfl⟩
theorem Step.trans {S : Nat → Prop} {a b c : World} (h : Step S a b) (k : Step S b c) : Step S a c := ⟨k.os.trans h.os, k.tape.trans h.tape, k.output.trans h.output, Nat.le_trans h.size k.size, fun i hi => (k.block i hi).trans (h.block i hi)⟩
theorem Step.imp {S S' : Nat → Prop} {w w' : World} (h : Step S w w') (hi : ∀ b, S' b → S b) : Step S' w w' := ⟨h.os, h.tape, h.output, h.size, fun b hb => h.block b (hi b hb)⟩
theorem Step.drew {S : Nat → Prop} {a w : World} (h : Step S a w) : Step S a w.drew := ⟨h.os, h.tape, h.output, h.size, h.block⟩
theorem Step.drewN {S : Nat → Prop} {a w : World} (h : Step S a w) (n : Nat) : Step S a (w.drewN n) := ⟨h.os, h.tape, h.output, h.size, h.block⟩
theorem Step.alloc {S : Nat → Prop} {a w : World} (h : Step S a w) (hS : ∀ b, S b → b < w.heap.size) (o : Obj) : Step S a (w.alloc o) :=
  ⟨h.os, h.tape, h.output, Nat.le_trans h.size (by simp), fun b hb => (Below.heap_alloc w o b (hS b hb)).trans (h.block b hb)⟩
theorem Step.setCell {S : Nat → Prop} {a w : World} (h : Step S a w) {p : Addr} (hp : ¬ S p.block) (u : Value) : Step S a (w.setCell p u) :=
  ⟨h.os, h.tape, h.output, by simpa using h.size, fun b hb => (Below.heap_setCell w p u b (fun e => hp (e ▸ hb))).trans (h.block b hb)⟩
theorem Step.of_below {B : Nat} {w w' : World} (h : Below B w w') : Step (· < B) w w' := ⟨h.os, h.tape, h.output, h.size, h.block⟩
theorem Step.below {B : Nat} {w w' : World} (h : Step (· < B) w w') : Below B w w' := ⟨h.os, h.tape, h.output, h.size, h.block⟩
theorem Step.of_grown {S : Nat → Prop} {w w' : World} {row : Option Nat} (h : w.grownBy w' row) (hS : ∀ b, S b → b < w.heap.size ∧ row ≠ some b) : Step S w w' :=
  ⟨h.os, h.tape, h.output, h.size, fun b hb => h.block b (hS b hb).1 (fun e => (hS b hb).2 e.symm)⟩
theorem Step.keeps {S : Nat → Prop} {w w' : World} (h : Step S w w') : Keeps S w w' := h.block
theorem Step.cell {S : Nat → Prop} {w w' : World} (h : Step S w w') {p : Addr} (hp : S p.block) : w'.cell? p = w.cell? p := World.cell?_of_block (h.block p.block hp)
theorem LB.step {α : Type} {K : Kind α} {S : Nat → Prop} {w w' : World} {v : Value} {l : List α} (h : LB K S w v l) (hs : Step S w w') : LB K S w' v l := h.keeps hs.keeps

/-- the cells of a list of elements, one behind the other -/
def RowsOf {α : Type} (K : Kind α) (S : Nat → Prop) (w : World) : List α → List Value → Prop
  | [], xs => xs = []
  | x :: l, xs => ∃ r ys, xs = r ++ ys ∧ K.R S w x r ∧ RowsOf K S w l ys
section
variable {α : Type} {K : Kind α} {S S' : Nat → Prop} {w w' : World}
theorem RowsOf.keeps : ∀ {l : List α} {xs : List Value}, RowsOf K S w l xs → Keeps S w w' → RowsOf K S w' l xs
  | [], _, h, _ => h
  | _ :: _, _, ⟨r, ys, e, h1, h2⟩, hk => ⟨r, ys, e, K.keeps h1 hk, RowsOf.keeps h2 hk⟩
theorem RowsOf.imp : ∀ {l : List α} {xs : List Value}, RowsOf K S w l xs → (∀ b, S b → S' b) → RowsOf K S' w l xs
  | [], _, h, _ => h
  | _ :: _, _, ⟨r, ys, e, h1, h2⟩, hi => ⟨r, ys, e, K.imp h1 hi, RowsOf.imp h2 hi⟩
theorem RowsOf.snoc : ∀ {l : List α} {xs : List Value} {y : α} {r : List Value}, RowsOf K S w l xs → K.R S w y r → RowsOf K S w (l ++ [y]) (xs ++ r)
  | [], xs, y, r, h, hr => by
    have : xs = [] := h
    subst this
    exact ⟨r, [], by simp, hr, rfl⟩
  | _ :: _, _, y, r, ⟨r0, ys, e, h1, h2⟩, hr => ⟨r0, ys ++ r, by rw [e, List.append_assoc], h1, RowsOf.snoc h2 hr⟩
theorem RowsOf.app : ∀ {l m : List α} {xs ys : List Value}, RowsOf K S w l xs → RowsOf K S w m ys → RowsOf K S w (l ++ m) (xs ++ ys)
  | [], m, xs, ys, h, hm => by
    have : xs = [] := h
    subst this
    exact hm
  | _ :: _, m, _, ys, ⟨r0, zs, e, h1, h2⟩, hm => ⟨r0, zs ++ ys, by rw [e, List.append_assoc], h1, RowsOf.app h2 hm⟩
theorem RowsOf.length : ∀ {l : List α} {xs : List Value}, RowsOf K S w l xs → xs.length = l.length * K.k
  | [], xs, h => by
    have : xs = [] := h
    subst this; simp
  | _ :: l, _, ⟨r, ys, e, h1, h2⟩ => by
    rw [e, List.length_append, K.len h1, RowsOf.length h2, List.length_cons, Nat.succ_mul, Nat.add_comm]
theorem RowsOf.get : ∀ {l : List α} {xs : List Value}, RowsOf K S w l xs → ∀ i x, l[i]? = some x → ∃ r, K.R S w x r ∧ ∀ j u, r[j]? = some u → xs[i * K.k + j]? = some u
  | [], _, _, i, x, hx => by simp at hx
  | y :: l, _, ⟨r, ys, e, h1, h2⟩, i, x, hx => by
    have hl := K.len h1
    cases i with
    | zero =>
      simp at hx; subst hx
      refine ⟨r, h1, fun j u hu => ?_⟩
      rw [e, Nat.zero_mul, Nat.zero_add, List.getElem?_append_left (List.getElem?_eq_some_iff.1 hu).1]; exact hu
    | succ i =>
      obtain ⟨r', h3, h4⟩ := RowsOf.get h2 i x (by simpa using hx)
      refine ⟨r', h3, fun j u hu => ?_⟩
      rw [e, List.getElem?_append_right (by rw [hl, Nat.succ_mul]; omega), hl, Nat.succ_mul]
      rw [show i * K.k + K.k + j - K.k = i * K.k + j by omega]
      exact h4 j u hu
end

/-- v is a slice that the call made (its row is a block from B on, none of E's), and reads as l; what its elements lead to lies neither in E's blocks nor in its row -/
def OwnK {α : Type} (e : TypeId) (K : Kind α) (B : Nat) (E : Nat → Prop) (w : World) (v : Value) (l : List α) : Prop :=
  ∃ xs, w.ownsRow B e K.k v l.length xs ∧ RowsOf K (fun b => b < w.heap.size ∧ ¬ E b ∧ v.ownBlock ≠ some b) w l xs ∧ ∀ g, v.ownBlock = some g → ¬ E g
section
variable {α : Type} {e : TypeId} {K : Kind α} {B : Nat} {E : Nat → Prop} {w w' : World} {v : Value} {l : List α}
theorem OwnK.nil (e : TypeId) (K : Kind α) (B : Nat) (E : Nat → Prop) (w : World) : OwnK e K B E w (.slice none 0 0) [] :=
  ⟨[], World.ownsRow_nil w B e K.k, rfl, fun g h => by simp [Value.ownBlock] at h⟩
theorem OwnK.lt (h : OwnK e K B E w v l) : ∀ k, v.ownBlock = some k → B ≤ k ∧ k < w.heap.size := by
  obtain ⟨xs, h1, _⟩ := h; exact World.ownsRow.lt h1
theorem OwnK.notE (h : OwnK e K B E w v l) : ∀ k, v.ownBlock = some k → ¬ E k := by
  obtain ⟨xs, _, _, h3⟩ := h; exact h3
theorem OwnK.form (h : OwnK e K B E w v l) : ∃ a c, v = .slice a l.length c := by
  obtain ⟨xs, h1, _⟩ := h
  rcases h1.2 with ⟨rfl, h0⟩ | ⟨g, cap, cur, rfl, _⟩
  · exact ⟨none, 0, by rw [h0]⟩
  · exact ⟨_, _, rfl⟩
theorem OwnK.step {S : Nat → Prop} (h : OwnK e K B E w v l) (hs : Step S w w') (hS : ∀ b, b < w.heap.size → ¬ E b → S b) : OwnK e K B E w' v l := by
  obtain ⟨xs, h1, h2, h3⟩ := h
  have hlt := World.ownsRow.lt h1
  have hsz := hs.size
  refine ⟨xs, ⟨h1.1, ?_⟩, ?_, h3⟩
  · rcases h1.2 with h0 | ⟨g, cap, cur, hv, hg, hh, r⟩
    · exact Or.inl h0
    · refine Or.inr ⟨g, cap, cur, hv, hg, ?_, r⟩
      have ho : v.ownBlock = some g := by rw [hv]; rfl
      rw [hs.block g (hS g (hlt g ho).2 (h3 g ho))]; exact hh
  · exact (h2.keeps (fun b hb => hs.block b (hS b hb.1 hb.2.1))).imp (fun b hb => ⟨by omega, hb.2⟩)
theorem OwnK.below (h : OwnK e K B E w v l) (hb : Below w.heap.size w w') : OwnK e K B E w' v l := h.step (.of_below hb) fun _ h _ => h
theorem OwnK.alloc (h : OwnK e K B E w v l) (o : Obj) : OwnK e K B E (w.alloc o) v l := h.below ((Below.refl _ w).alloc (Nat.le_refl _) o)
theorem OwnK.drewN (h : OwnK e K B E w v l) (n : Nat) : OwnK e K B E (w.drewN n) v l := h.step ((Step.refl (fun _ => True) w).drewN n) fun _ _ _ => trivial
theorem OwnK.drew (h : OwnK e K B E w v l) : OwnK e K B E w.drew v l := h.step ((Step.refl (fun _ => True) w).drew) fun _ _ _ => trivial
theorem OwnK.mono {B' : Nat} (h : OwnK e K B E w v l) (hB : B' ≤ B) : OwnK e K B' E w v l := by
  obtain ⟨xs, h1, h2, h3⟩ := h
  refine ⟨xs, ⟨h1.1, ?_⟩, h2, h3⟩
  rcases h1.2 with h0 | ⟨g, cap, cur, hv, hg, r⟩
  · exact Or.inl h0
  · exact Or.inr ⟨g, cap, cur, hv, Nat.le_trans hB hg, r⟩
theorem OwnK.less {E' : Nat → Prop} (h : OwnK e K B E w v l) (hE : ∀ b, E' b → E b) : OwnK e K B E' w v l := by
  obtain ⟨xs, h1, h2, h3⟩ := h
  exact ⟨xs, h1, h2.imp fun b hb => ⟨hb.1, fun h => hb.2.1 (hE b h), hb.2.2⟩, fun g hg h => h3 g hg (hE g h)⟩
theorem OwnK.lb (h : OwnK e K B E w v l) : LB K (fun b => b < w.heap.size ∧ ¬ E b) w v l := by
  obtain ⟨xs, h1, h2, h3⟩ := h
  have h1' := h1
  have h2' := h2.imp (S' := fun b => b < w.heap.size ∧ ¬ E b) fun b hb => ⟨hb.1, hb.2.1⟩
  have hlt := World.ownsRow.lt h1
  rcases h1.2 with ⟨rfl, h0⟩ | ⟨g, cap, cur, rfl, hg, hh, hle, hcap, hs, ht⟩
  · obtain rfl : l = [] := List.eq_nil_of_length_eq_zero h0
    exact LB.nil _ _ _
  · refine ⟨some ⟨g, 0, none⟩, g, 0, cap, rfl, by unfold maxLen at hcap; omega, fun _ => rfl, ⟨hle, fun h => by cases h⟩, fun _ => ⟨(hlt g rfl).2, h3 g rfl⟩, fun i x hx => ?_⟩
    obtain ⟨r, hr, hc⟩ := h2'.get i x hx
    refine ⟨r, hr, fun j u hu => ?_⟩
    have := World.ownsRow.cells h1' (g := g) rfl _ _ (hc j u hu)
    simpa [Addr.add_lit, Nat.add_assoc] using this
theorem OwnK.len_le (h : OwnK e K B E w v l) : l.length ≤ 9223372036854775807 := h.lb.max

/-- append of one element to a list that the call has made; the cells of the element stand in a block -/
theorem wpList_appendK {ops : Array Oper} {rest : List Oper} {o : Oper} {a : Act} {Q : Exit → Act → World → Prop} (t : TypeId) (z : Value) (bytes : Nat) (ht : Try.prog.underlying t = some (.slice e)) (hinfo : (Try.prog.info? e).map (fun i => (i.zero, i.size, i.bytes)) = some (some z, K.k, bytes))
    (hzs : z.cells.size = K.k) (hk : 0 < K.k) (hgd : o.guard = none) (s x : Operand)
    (ho : o.op = .call { callee := .builtin .append, args := #[s, x], argTypes := #[t, t] })
    (n : Nat) (hn : l.length = n) (hs : a.eval s = v) (hown : OwnK e K B E w v l) (hE : ∀ b, E b → b < w.heap.size) (nb : Nat) (y : α) (row : List Value) (hx : a.eval x = .slice (some ⟨nb, 0, none⟩) 1 1)
    (hcell : ∀ j u, row[j]? = some u → w.cell? ⟨nb, j, none⟩ = some u) (hone : ∀ u ∈ row, u.oneCell' = true) (hrow : K.R (fun b => b < w.heap.size ∧ ¬ E b ∧ v.ownBlock ≠ some b) w y row)
    (hlen : (l.length + 1) * bytes ≤ 140737488355328) (hl63 : l.length < 1099511627776) (hB : B ≤ w.heap.size)
    (h : ∀ g c w', OwnK e K B E w' (.slice (some ⟨g, 0, none⟩) (n + 1) c) (l ++ [y]) → Step (fun b => b < w.heap.size ∧ v.ownBlock ≠ some b) w w' → g < w'.heap.size →
      wpList Try.prog ops Q rest (a.put o.dst (.slice (some ⟨g, 0, none⟩) (n + 1) c)) w') : wpList Try.prog ops Q (o :: rest) a w := by
  subst hn
  obtain ⟨i0, hi, hz0, hz1, hz2⟩ := info_parts hinfo
  obtain ⟨xs, h1, h2, h3⟩ := hown
  have hlt := World.ownsRow.lt h1
  refine wpList_append_lies w hgd s x t ho B e i0 z K.k bytes ht hi hz0 hz1 hz2 hzs hk v l.length xs hs h1 ⟨nb, 0, none⟩ 1 1 row hx (by rw [K.len hrow, Nat.one_mul]) ?_ hone (by decide) ?_ hlen hB _ rfl ?_
  · intro j u hj
    have := hcell j u hj
    simpa [Addr.add_lit] using this
  · unfold maxLen; omega
  · intro g c w' g1 g2 g3 g4
    have hst : Step (fun b => b < w.heap.size ∧ v.ownBlock ≠ some b) w w' := Step.of_grown g2 (fun b hb => ⟨hb.1, hb.2⟩)
    have hsz := hst.size
    have hgne : ∀ b, b < w.heap.size → v.ownBlock ≠ some b → b ≠ g := by
      intro b hb hne e
      subst e
      rcases g3 with h' | h'
      · exact hne h'
      · omega
    refine h g c w' ⟨xs ++ row, by simpa using g1, ?_, ?_⟩ hst g4
    · have hr := (h2.keeps (fun b hb => hst.block b ⟨hb.1, hb.2.2⟩)).snoc (K.keeps hrow (fun b hb => hst.block b ⟨hb.1, hb.2.2⟩))
      exact hr.imp fun b hb => ⟨by omega, hb.2.1, fun e => hgne b hb.1 hb.2.2 (by simpa [Value.ownBlock] using e.symm)⟩
    · intro g' hg' hEg
      have : g' = g := by simpa [Value.ownBlock] using hg'.symm
      subst this
      rcases g3 with h' | h'
      · exact h3 _ h' hEg
      · have := hE _ hEg; omega
end

end Go.Proofs.Ytbliedldlimpgaa

/- A region that draws its order, cut where its last operations wait for all the others (the stores of an assignment): the first ones in whatever order, then the last ones in a row. Conditions: checked by the kernel (phaseB). -/
namespace Go.Proofs.Ytbliedldlimpgaa
set_option linter.unusedVariables false
set_option linter.unusedSimpArgs false

section
variable {P : Program}

/-- a wait binds: of the head on earlier ones alone; the tail waits for all of the head -/
def phaseB (md : Region.Mode) (ops : Array Oper) (n : Nat) : Bool :=
  decide (n ≤ ops.size) &&
  ((List.range n).all fun i => match ops[i]? with
    | some o => (o.after.all fun e => !Region.binds md e || decide (e.on < i)) && (match o.guard with | some (g, _) => decide (g < n) | none => true)
    | none => false) &&
  ((List.range ops.size).all fun t => decide (t < n) || (List.range n).all fun i => Region.waitsFor md ops t i) &&
  Region.seqB md ops (ops.size - n) n (Array.replicate n true ++ Array.replicate (ops.size - n) false)

/-- what stands behind the head -/
def phaseQ (P : Program) (ops : Array Oper) (tail : List Oper) (Q : Exit → Act → World → Prop) : Exit → Act → World → Prop
  | .normal, a, w => wpList P ops Q tail a w
  | .exit i, a, w => Q (.exit i) a w
  | .goto l, a, w => Q (.goto l) a w
  | .ret, a, w => Q .ret a w
  | .panic c, a, w => Q (.panic c) a w
  | .outgrown, a, w => Q .outgrown a w

theorem wpAny_more {md : Region.Mode} {ops : Array Oper} {Q : Exit → Act → World → Prop} : ∀ (f : Nat) (listed : Array Bool) (a : Act) (w : World), wpAny P md ops Q f listed a w → wpAny P md ops Q (f + 1) listed a w
  | 0, _, _, _, h => ⟨fun _ => h.2, fun i hi => by rw [h.1] at hi; cases hi⟩
  | f + 1, _, _, _, h => ⟨h.1, fun i hi => wpOp_mono (fun a' w' h' => wpAny_more f _ a' w' h') (h.2 i hi)⟩
theorem wpAny_add {md : Region.Mode} {ops : Array Oper} {Q : Exit → Act → World → Prop} (f : Nat) (listed : Array Bool) (a : Act) (w : World) (h : wpAny P md ops Q f listed a w) : ∀ m, wpAny P md ops Q (f + m) listed a w
  | 0 => h
  | m + 1 => wpAny_more _ _ _ _ (wpAny_add f listed a w h m)

theorem phaseQ_wp {o : Oper} {ops : Array Oper} {tail : List Oper} {Q : Exit → Act → World → Prop} {a : Act} {w : World} {K : Act → World → Prop} (h : o.wp P a w K (phaseQ P ops tail Q)) : o.wp P a w K Q := by
  unfold Oper.wp at *
  generalize (execOp a.eval o).run P w = r at *
  cases r with
  | ok n w' =>
    cases n <;> simp only [Oper.upon] at h ⊢ <;>
      first
        | exact h
        | exact Calls.mono h (fun e w'' he => by cases e <;> exact he)
        | exact Rows.mono h (fun _ _ he => he)
  | halt x w' => cases x <;> simp only [Oper.upon] at h ⊢ <;> exact h

theorem yielded_take (l : List Oper) (n g : Nat) (tmps : Array Value) (h : g < n) : yielded (l.take n).toArray tmps g = yielded l.toArray tmps g := by
  unfold yielded
  simp [List.getElem?_take, h]

theorem waitsFor_after {md : Region.Mode} {ops : Array Oper} {t i : Nat} {o : Oper} (ho : ops[t]? = some o) (h : Region.waitsFor md ops t i = true) : ∃ e ∈ o.after, Region.binds md e = true ∧ e.on = i := by
  obtain ⟨oj, h1, h2⟩ := Region.waitsFor_spec h
  rw [ho] at h1
  cases h1
  exact h2

theorem getD_app (L : Array Bool) (m i : Nat) (h : i < L.size) (d : Bool) : (L ++ Array.replicate m false).getD i d = L.getD i d := by
  simp [Array.getD, Array.getElem_append, h, Nat.lt_add_right m h]
theorem getD_any (L : Array Bool) (i : Nat) (h : i < L.size) (d e : Bool) : L.getD i d = L.getD i e := by
  simp [Array.getD, h]

/-- the cut -/
theorem wpAny_phase {md : Region.Mode} {l : List Oper} {Q : Exit → Act → World → Prop} (n : Nat) (hB : phaseB md l.toArray n = true) :
    ∀ (f : Nat) (listed : Array Bool) (a : Act) (w : World), listed.size = n →
      wpAny P md (l.take n).toArray (phaseQ P l.toArray (l.drop n) Q) f listed a w →
      wpAny P md l.toArray Q (f + (l.length - n)) (listed ++ Array.replicate (l.length - n) false) a w := by
  simp only [phaseB, Bool.and_eq_true, decide_eq_true_eq] at hB
  obtain ⟨⟨⟨hn, hhead⟩, htail⟩, hseq⟩ := hB
  have hn' : n ≤ l.length := by simpa using hn
  have hh : ∀ i, i < n → ∃ o, l[i]? = some o ∧ (∀ e ∈ o.after, Region.binds md e = true → e.on < i) ∧ (∀ g b, o.guard = some (g, b) → g < n) := fun i hi => by
    have := (List.all_eq_true.1 hhead) i (List.mem_range.2 hi)
    have hil : i < l.length := by omega
    rw [List.getElem?_toArray, List.getElem?_eq_getElem hil] at this
    refine ⟨_, List.getElem?_eq_getElem hil, ?_, ?_⟩
    · simp only [Bool.and_eq_true] at this
      intro e he hb
      have h1 := Array.all_eq_true'.1 this.1 e he
      simpa [hb] using h1
    · simp only [Bool.and_eq_true] at this
      intro g b hg
      rw [hg] at this
      simpa using this.2
  have ht : ∀ t, n ≤ t → t < l.length → ∀ i, i < n → Region.waitsFor md l.toArray t i = true := fun t h1 h2 i hi => by
    have := (List.all_eq_true.1 htail) t (List.mem_range.2 (by simpa using h2))
    simp only [Bool.or_eq_true, decide_eq_true_eq] at this
    rcases this with h | h
    · omega
    · exact (List.all_eq_true.1 h) i (List.mem_range.2 hi)
  -- what may come up in the whole region, while one of the head has not come up
  have ready_head : ∀ listed : Array Bool, listed.size = n → ∀ i, i ∈ Region.ready md l.toArray (listed ++ Array.replicate (l.length - n) false) → (∃ k, k < n ∧ listed.getD k false = false) →
      i ∈ Region.ready md (l.take n).toArray listed := fun listed hs i hi hex => by
    obtain ⟨h1, o, ho, hall⟩ := mem_ready.1 hi
    obtain ⟨k, hk, hkf⟩ := hex
    have hil : i < l.length := by
      have := (Array.getElem?_eq_some_iff.1 ho).1
      simpa using this
    rcases Nat.lt_or_ge i n with hin | hin
    · refine mem_ready.2 ⟨?_, o, ?_, ?_⟩
      · rwa [getD_app _ _ _ (by omega)] at h1
      · simpa [List.getElem?_take, hin] using ho
      · intro e he hb
        have h2 := hall e he hb
        obtain ⟨o', ho', hb', _⟩ := hh i hin
        have : o = o' := by
          have : l.toArray[i]? = some o' := by simpa using ho'
          rw [ho] at this; exact Option.some.inj this
        subst this
        have h3 := hb' e he hb
        rwa [getD_app _ _ _ (by omega)] at h2
    · exfalso
      obtain ⟨e, he, hb, hon⟩ := waitsFor_after ho (ht i hin hil k hk)
      have h2 := hall e he hb
      rw [hon] at h2
      rw [getD_app _ _ _ (by omega), hkf] at h2
      cases h2
  -- none of the head may come up: all of it has
  have all_listed : ∀ listed : Array Bool, listed.size = n → Region.ready md (l.take n).toArray listed = [] → ∀ k, k < n → listed.getD k false = true := fun listed hs hr k => by
    induction k using Nat.strongRecOn with
    | _ k ih =>
      intro hk
      rcases hc : listed.getD k false with _ | _
      · exfalso
        obtain ⟨o, ho, hb, _⟩ := hh k hk
        have : k ∈ Region.ready md (l.take n).toArray listed := by
          refine mem_ready.2 ⟨?_, o, ?_, fun e he hbd => ih e.on (hb e he hbd) (by have := hb e he hbd; omega)⟩
          · rw [getD_any _ _ (by omega) true false]; exact hc
          · simpa [List.getElem?_take, hk] using ho
        rw [hr] at this
        cases this
      · rfl
  have finish : ∀ (listed : Array Bool) (a : Act) (w : World), listed.size = n → Region.ready md (l.take n).toArray listed = [] → wpList P l.toArray Q (l.drop n) a w →
      wpAny P md l.toArray Q (l.length - n) (listed ++ Array.replicate (l.length - n) false) a w := fun listed a w hs hr h => by
    have e : listed = Array.replicate n true := by
      apply Array.ext
      · simp [hs]
      · intro i h1 h2
        have := all_listed listed hs hr i (by omega)
        rw [Array.getD, dif_pos h1] at this
        simpa using this
    rw [e]
    have := wpAny_of_seq (P := P) (md := md) (ops := l.toArray) (Q' := Q) (l.drop n) n (Array.replicate n true ++ Array.replicate (l.length - n) false) a w (fun j => by simp [List.getElem?_drop]) (by simpa using hseq) h
    simpa using this
  intro f
  induction f with
  | zero =>
    intro listed a w hs h
    rw [Nat.zero_add]
    exact finish listed a w hs h.1 h.2
  | succ f ih =>
    intro listed a w hs h
    by_cases hr : Region.ready md (l.take n).toArray listed = []
    · have := wpAny_add _ _ _ _ (finish listed a w hs hr (h.1 hr)) (f + 1)
      rwa [Nat.add_comm] at this
    · have hex : ∃ k, k < n ∧ listed.getD k false = false := by
        obtain ⟨k, hk⟩ := List.exists_mem_of_ne_nil _ hr
        obtain ⟨h1, o, ho, _⟩ := mem_ready.1 hk
        have hkn : k < n := by
          have := (Array.getElem?_eq_some_iff.1 ho).1
          simp at this; omega
        refine ⟨k, hkn, ?_⟩
        rw [getD_any _ _ (by omega) false true]; exact h1
      rw [show f + 1 + (l.length - n) = (f + (l.length - n)) + 1 by omega]
      refine ⟨fun h0 => ?_, fun i hi => ?_⟩
      · exfalso
        obtain ⟨k, hk⟩ := List.exists_mem_of_ne_nil _ hr
        obtain ⟨h1, o, ho, hall⟩ := mem_ready.1 hk
        have hkn : k < n := by
          have := (Array.getElem?_eq_some_iff.1 ho).1
          simp at this; omega
        have : k ∈ Region.ready md l.toArray (listed ++ Array.replicate (l.length - n) false) := by
          refine mem_ready.2 ⟨?_, o, ?_, fun e he hb => ?_⟩
          · rwa [getD_app _ _ _ (by omega)]
          · simpa [List.getElem?_take, hkn] using ho
          · have h2 := hall e he hb
            obtain ⟨o', ho', hb', _⟩ := hh k hkn
            have : o = o' := by
              have h3 : l[k]? = some o := by simpa [List.getElem?_take, hkn] using ho
              rw [h3] at ho'; exact Option.some.inj ho'
            subst this
            have h3 := hb' e he hb
            rwa [getD_app _ _ _ (by omega)]
        rw [h0] at this
        cases this
      · have hir := ready_head listed hs i hi hex
        have hstep := h.2 i hir
        have hin : i < n := by
          obtain ⟨_, o, ho, _⟩ := mem_ready.1 hir
          have := (Array.getElem?_eq_some_iff.1 ho).1
          simp at this; omega
        obtain ⟨o, ho, _, hg⟩ := hh i hin
        have ho1 : l.toArray[i]? = some o := by simpa using ho
        have ho2 : (l.take n).toArray[i]? = some o := by simpa [List.getElem?_take, hin] using ho
        have hset : (listed ++ Array.replicate (l.length - n) false).setIfInBounds i true = listed.setIfInBounds i true ++ Array.replicate (l.length - n) false := by
          apply Array.ext_getElem?
          intro j
          by_cases hji : i = j
          · subst hji
            rw [Array.getElem?_setIfInBounds_self_of_lt (by simp; omega), Array.getElem?_append_left (by simp; omega), Array.getElem?_setIfInBounds_self_of_lt (by omega)]
          · rw [Array.getElem?_setIfInBounds_ne hji]
            rcases Nat.lt_or_ge j listed.size with h1 | h1
            · rw [Array.getElem?_append_left h1, Array.getElem?_append_left (by simpa using h1), Array.getElem?_setIfInBounds_ne hji]
            · rw [Array.getElem?_append_right h1, Array.getElem?_append_right (by simpa using h1), Array.size_setIfInBounds]
        have hw : Region.wanted o (yielded (l.take n).toArray a.tmps) = Region.wanted o (yielded l.toArray a.tmps) := by
          unfold Region.wanted
          cases hgd : o.guard with
          | none => rfl
          | some q => simp only [yielded_take l n q.1 a.tmps (hg q.1 q.2 hgd)]
        unfold wpOp at hstep ⊢
        simp only [ho1, ho2] at hstep ⊢
        rw [hset]
        rw [hw] at hstep
        split
        · rename_i hwt
          simp only [hwt, if_true] at hstep
          rcases hstep with hstep | ⟨h1, h2⟩
          · exact .inl (phaseQ_wp (Oper.wp_mono (fun a' w' h' => ih _ a' w' (by simpa using hs) h') hstep))
          · exact .inr ⟨h1, by obtain ⟨a', w', h'⟩ := h2; exact ⟨a', w', h'⟩⟩
        · rename_i hwt
          simp only [hwt] at hstep
          exact ih _ _ _ (by simpa using hs) hstep

/-- for the walk -/
theorem wp_region_phase {id : Nat} {Q : Exit → Act → World → Prop} {a : Act} {w : World} {l : List Oper} (n : Nat) (hm : P.follows .mixedOrders = true) (hB : phaseB .any l.toArray n = true)
    (h : wpAny P .any (l.take n).toArray (phaseQ P l.toArray (l.drop n) Q) n (Array.replicate n false) a { w with drawn := w.drawn + 1 }) : (Code.region id l.toArray true).wp P Q a w := by
  have hn : n ≤ l.length := by
    simp only [phaseB, Bool.and_eq_true, decide_eq_true_eq] at hB
    simpa using hB.1.1.1
  refine wp_region_any hm ?_
  have := wpAny_phase n hB n (Array.replicate n false) a _ (by simp) h
  have e : Array.replicate n false ++ Array.replicate (l.length - n) false = Array.replicate l.toArray.size false := by
    simp [Array.replicate_append_replicate, Nat.add_sub_cancel' hn]
  rw [e, Nat.add_sub_cancel' hn] at this
  simpa using this

end
end Go.Proofs.Ytbliedldlimpgaa

/- Appending all of a list to one that the call makes (elements of one cell); a writer's struct. -/
namespace Go.Proofs.Ytbliedldlimpgaa
set_option linter.unusedVariables false
set_option linter.unusedSimpArgs false
open Go.RowKit

/-- elements of one cell, which lead nowhere -/
structure Plain {α : Type} (K : Kind α) (f : α → Value) : Prop where
  one : K.k = 1
  into : ∀ {S w x r}, K.R S w x r → r = [f x]
  of : ∀ S w x, K.R S w x [f x]
  cell : ∀ x, (f x).oneCell' = true
theorem plain_byte : Plain kByte (fun x => .int .u8 x.toNat) := ⟨rfl, fun h => h, fun _ _ _ => rfl, fun _ => rfl⟩
theorem plain_int : Plain kInt (fun x => .int .i64 x) := ⟨rfl, fun h => h, fun _ _ _ => rfl, fun _ => rfl⟩
theorem plain_word : Plain kWord (fun x => .int .u64 x) := ⟨rfl, fun h => h, fun _ _ _ => rfl, fun _ => rfl⟩
section
variable {α : Type} {e : TypeId} {K : Kind α} {f : α → Value} {B : Nat} {E : Nat → Prop} {w w' : World} {v : Value} {l : List α}
theorem RowsOf.plain (hp : Plain K f) {S : Nat → Prop} : ∀ {l : List α} {xs : List Value}, RowsOf K S w l xs → xs = l.map f
  | [], _, h => h
  | _ :: _, _, ⟨r, ys, h0, h1, h2⟩ => by rw [h0, hp.into h1, RowsOf.plain hp h2]; rfl
theorem RowsOf.of_plain (hp : Plain K f) (S : Nat → Prop) (w : World) : ∀ l : List α, RowsOf K S w l (l.map f)
  | [] => rfl
  | x :: l => ⟨[f x], l.map f, rfl, hp.of S w x, RowsOf.of_plain hp S w l⟩
theorem OwnK.plain_row (hp : Plain K f) (h : OwnK e K B E w v l) : w.ownsRow B e 1 v l.length (l.map f) := by
  obtain ⟨xs, h1, h2, _⟩ := h
  rw [hp.one] at h1
  rwa [RowsOf.plain hp h2] at h1
theorem OwnK.of_plain (hp : Plain K f) (h : w.ownsRow B e 1 v l.length (l.map f)) (hE : ∀ g, v.ownBlock = some g → ¬ E g) : OwnK e K B E w v l :=
  ⟨l.map f, by rw [hp.one]; exact h, RowsOf.of_plain hp _ _ l, hE⟩
/-- a list of plain elements stays what it is where its row does -/
theorem OwnK.plain_keep (hp : Plain K f) (h : OwnK e K B E w v l) (hk : ∀ g, v.ownBlock = some g → w'.heap[g]? = w.heap[g]?) : OwnK e K B E w' v l := by
  have h1 := h.plain_row hp
  refine .of_plain hp ⟨h1.1, ?_⟩ h.notE
  rcases h1.2 with h0 | ⟨g, cap, cur, hv, hg, hh, r⟩
  · exact Or.inl h0
  · exact Or.inr ⟨g, cap, cur, hv, hg, by rw [hk g (by rw [hv]; rfl)]; exact hh, r⟩

/-- append of all of a list to one that the call has made -/
theorem wpList_appendsK {ops : Array Oper} {rest : List Oper} {o : Oper} {a : Act} {Q : Exit → Act → World → Prop} (hp : Plain K f) (t : TypeId) (z : Value) (bytes : Nat) (ht : Try.prog.underlying t = some (.slice e)) (hinfo : (Try.prog.info? e).map (fun i => (i.zero, i.size, i.bytes)) = some (some z, 1, bytes))
    (hzs : z.cells.size = 1) (hgd : o.guard = none) (s x : Operand)
    (ho : o.op = .call { callee := .builtin .append, args := #[s, x], argTypes := #[t, t] })
    (hs : a.eval s = v) (hown : OwnK e K B E w v l) (hE : ∀ b, E b → b < w.heap.size) {S : Nat → Prop} (u : Value) (m : List α) (hx : a.eval x = u) (hu : LB K S w u m)
    (hlen : (l.length + m.length) * bytes ≤ 140737488355328) (hl63 : l.length + m.length ≤ 9223372036854775807) (hB : B ≤ w.heap.size)
    (h : ∀ v' w', OwnK e K B E w' v' (l ++ m) → Step (fun b => b < w.heap.size ∧ v.ownBlock ≠ some b) w w' → (∀ b, b < w.heap.size → v.ownBlock ≠ some b → v'.ownBlock ≠ some b) → wpList Try.prog ops Q rest (a.put o.dst v') w') : wpList Try.prog ops Q (o :: rest) a w := by
  obtain ⟨i0, hi, hz0, hz1, hz2⟩ := info_parts hinfo
  have h1 := hown.plain_row hp
  obtain ⟨ua, ub, uoff, ucap, hv, hm, ha, hcap, hS, hc⟩ := hu
  cases ua with
  | none =>
    have hm0 : m = [] := by
      cases m with
      | nil => rfl
      | cons y m => exact absurd (ha (by simp)) (by simp)
    subst hm0
    have hc0 := hcap.2 rfl
    subst hc0
    refine wpList_append_own_none hgd s x t ho B e i0 1 ht hi v l.length (l.map f) hs h1 (hx.trans hv) ?_
    exact h v w (by rw [List.append_nil]; exact hown) (Step.refl _ _) (fun b _ h => h)
  | some ad =>
    refine wpList_append_own_at w hgd s x t ho B e i0 z 1 bytes ht hi hz0 hz1 hz2 hzs (by decide) v l.length (l.map f) hs h1 ad m.length ucap (m.map f) (hx.trans hv) (by simp) ?_ ?_ (by unfold maxLen; omega) hlen hB ?_
    · intro j u hj
      rw [List.getElem?_map] at hj
      cases hmj : m[j]? with
      | none => rw [hmj] at hj; cases hj
      | some y =>
        rw [hmj] at hj
        have hu : f y = u := by simpa using hj
        subst hu
        have hml : 0 < m.length := by have := (List.getElem?_eq_some_iff.1 hmj).1; omega
        obtain rfl : ad = ⟨ub, uoff, none⟩ := by have := ha hml; simpa using this
        obtain ⟨row, r1, r2⟩ := hc j y hmj
        have := hp.into r1
        subst this
        have := r2 0 (f y) rfl
        rw [hp.one] at this
        simpa [Addr.add_lit] using this
    · intro u hu
      simp only [List.mem_map] at hu
      obtain ⟨y, _, rfl⟩ := hu
      exact hp.cell y
    · intro v' w' g1 g2 _ g4
      have hlt := World.ownsRow.lt h1
      have hlt' := World.ownsRow.lt g1
      have hst : Step (fun b => b < w.heap.size ∧ v.ownBlock ≠ some b) w w' := Step.of_grown g2 (fun b hb => ⟨hb.1, hb.2⟩)
      refine h v' w' (.of_plain hp (by rw [List.length_append, List.map_append]; exact g1) ?_) hst ?_
      · intro g hg hEg
        rcases g4 with h' | h'
        · exact hown.notE g (by rw [← h']; exact hg) hEg
        · have : g = w.heap.size := by rw [h'] at hg; exact (Option.some.inj hg).symm
          have := hE _ hEg; omega
      · intro b hb hne e
        rcases g4 with h' | h'
        · exact hne (by rw [← h']; exact e)
        · have : b = w.heap.size := by rw [h'] at e; exact (Option.some.inj e).symm
          omega
end
section
variable {α : Type} {e : TypeId} {K : Kind α} {B : Nat} {E : Nat → Prop} {w w' : World} {v : Value} {l : List α}
/-- append of one element, at the operation: for a step of a region that draws its order -/
theorem wp_appendK {o : Oper} {a : Act} {C : Act → World → Prop} {Q : Exit → Act → World → Prop} (t : TypeId) (z : Value) (bytes : Nat) (ht : Try.prog.underlying t = some (.slice e)) (hinfo : (Try.prog.info? e).map (fun i => (i.zero, i.size, i.bytes)) = some (some z, K.k, bytes))
    (hzs : z.cells.size = K.k) (hk : 0 < K.k) (s x : Operand)
    (ho : o.op = .call { callee := .builtin .append, args := #[s, x], argTypes := #[t, t] })
    (n : Nat) (hn : l.length = n) (hs : a.eval s = v) (hown : OwnK e K B E w v l) (hE : ∀ b, E b → b < w.heap.size) (nb : Nat) (y : α) (row : List Value) (hx : a.eval x = .slice (some ⟨nb, 0, none⟩) 1 1)
    (hcell : ∀ j u, row[j]? = some u → w.cell? ⟨nb, j, none⟩ = some u) (hone : ∀ u ∈ row, u.oneCell' = true) (hrow : K.R (fun b => b < w.heap.size ∧ ¬ E b ∧ v.ownBlock ≠ some b) w y row)
    (hlen : (l.length + 1) * bytes ≤ 140737488355328) (hl63 : l.length < 1099511627776) (hB : B ≤ w.heap.size)
    (h : ∀ g c w', OwnK e K B E w' (.slice (some ⟨g, 0, none⟩) (n + 1) c) (l ++ [y]) → Step (fun b => b < w.heap.size ∧ v.ownBlock ≠ some b) w w' → g < w'.heap.size → (∀ b, b < w.heap.size → v.ownBlock ≠ some b → b ≠ g) →
      C (a.put o.dst (.slice (some ⟨g, 0, none⟩) (n + 1) c)) w') : o.wp Try.prog a w C Q := by
  subst hn
  obtain ⟨i0, hi, hz0, hz1, hz2⟩ := info_parts hinfo
  obtain ⟨xs, h1, h2, h3⟩ := hown
  have hlt := World.ownsRow.lt h1
  refine wp_append_lies w s x t ho B e i0 z K.k bytes ht hi hz0 hz1 hz2 hzs hk v l.length xs hs h1 ⟨nb, 0, none⟩ 1 1 row hx (by rw [K.len hrow, Nat.one_mul]) ?_ hone (by decide) ?_ hlen hB _ rfl ?_
  · intro j u hj
    have := hcell j u hj
    simpa [Addr.add_lit] using this
  · unfold maxLen; omega
  · intro g c w' g1 g2 g3 g4
    have hst : Step (fun b => b < w.heap.size ∧ v.ownBlock ≠ some b) w w' := Step.of_grown g2 (fun b hb => ⟨hb.1, hb.2⟩)
    have hsz := hst.size
    have hgne : ∀ b, b < w.heap.size → v.ownBlock ≠ some b → b ≠ g := by
      intro b hb hne e
      subst e
      rcases g3 with h' | h'
      · exact hne h'
      · omega
    refine h g c w' ⟨xs ++ row, by simpa using g1, ?_, ?_⟩ hst g4 hgne
    · have hr := (h2.keeps (fun b hb => hst.block b ⟨hb.1, hb.2.2⟩)).snoc (K.keeps hrow (fun b hb => hst.block b ⟨hb.1, hb.2.2⟩))
      exact hr.imp fun b hb => ⟨by omega, hb.2.1, fun e => hgne b hb.1 hb.2.2 (by simpa [Value.ownBlock] using e.symm)⟩
    · intro g' hg' hEg
      have : g' = g := by simpa [Value.ownBlock] using hg'.symm
      subst this
      rcases g3 with h' | h'
      · exact h3 _ h' hEg
      · have := hE _ hEg; omega
end
theorem info_byte : (Try.prog.info? 5).map (fun i => (i.zero, i.size, i.bytes)) = some (some (.int .u8 0), 1, 1) := by kernel_rfl

end Go.Proofs.Ytbliedldlimpgaa

/- Plain laws of an image's table: bucket by bucket, or by all that are seen: the same. No program in sight. -/
namespace Go.Proofs.Ytbliedldlimpgaa
set_option linter.unusedVariables false
set_option linter.unusedSimpArgs false
theorem sum_add (l : List Nat) (f g : Nat → Nat) : (l.map fun k => f k + g k).sum = (l.map f).sum + (l.map g).sum := by
  induction l with
  | nil => rfl
  | cons a l ih => simp only [List.map_cons, List.sum_cons, ih]; omega
theorem sum_zero (l : List Nat) : (l.map fun _ => (0 : Nat)).sum = 0 := by
  induction l with
  | nil => rfl
  | cons a l ih => simp only [List.map_cons, List.sum_cons, ih]
theorem sum_congr (l : List Nat) (f g : Nat → Nat) (h : ∀ k ∈ l, f k = g k) : (l.map f).sum = (l.map g).sum := by
  rw [List.map_congr_left h]

section
variable (home : Nat → Nat)
/-- does a bucket's entry stand for one of S, at home in b? -/
def atHome (S : List Nat) (b : Nat) (i : Int) : Bool := S.any fun k => decide (i = (k : Int)) && decide (home k = b)
def onceAt (S : List Nat) (b : Nat) (c : List Int) : Nat := (S.map fun k => if home k = b then c.count (k : Int) else 0).sum
theorem atHome_sum (S : List Nat) (hS : S.Nodup) (b : Nat) (i : Int) : (if atHome home S b i then 1 else 0) = (S.map fun k => if home k = b then (if i = (k : Int) then 1 else 0) else 0).sum := by
  induction S with
  | nil => rfl
  | cons k S ih =>
    obtain ⟨hk, hS'⟩ := List.nodup_cons.1 hS
    simp only [List.map_cons, List.sum_cons]
    rw [← ih hS']
    by_cases h1 : i = (k : Int)
    · have h2 : atHome home S b i = false := by
        rw [atHome, List.any_eq_false]
        intro x hx
        have : x ≠ k := fun e => hk (e ▸ hx)
        simp; omega
      by_cases h3 : home k = b <;> simp [atHome, h1, h3] at h2 ⊢ <;> simpa using h2
    · by_cases h3 : home k = b <;> simp [atHome, h1, h3]
theorem countP_home (S : List Nat) (hS : S.Nodup) (b : Nat) (c : List Int) : c.countP (atHome home S b) = onceAt home S b c := by
  induction c with
  | nil => simp [onceAt, sum_zero]
  | cons i c ih =>
    rw [List.countP_cons, ih]
    have : onceAt home S b (i :: c) = onceAt home S b c + (S.map fun k => if home k = b then (if i = (k : Int) then 1 else 0) else 0).sum := by
      unfold onceAt
      rw [← sum_add]
      apply sum_congr
      intro k _
      rw [List.count_cons]
      by_cases h3 : home k = b <;> simp [h3]
    rw [this, ← atHome_sum home S hS]
/-- entries at home, in all buckets -/
def homes (S : List Nat) : Nat → List (List Int) → Nat
  | _, [] => 0
  | b, c :: l => c.countP (atHome home S b) + homes S (b + 1) l
theorem homes_sum (S : List Nat) (hS : S.Nodup) : ∀ (bs : List (List Int)) (b : Nat), homes home S b bs = (S.map fun k => if home k < b then 0 else (bs.getD (home k - b) []).count (k : Int)).sum
  | [], b => by
    refine (sum_zero S).symm.trans (sum_congr S _ _ (fun k _ => ?_))
    by_cases h : home k < b <;> simp [h]
  | c :: l, b => by
    rw [homes, homes_sum S hS l (b + 1), countP_home home S hS, onceAt, ← sum_add]
    apply sum_congr
    intro k _
    by_cases h : home k < b
    · simp [h, show home k < b + 1 by omega, show home k ≠ b by omega]
    · by_cases h2 : home k = b
      · simp [h2]
      · have : home k - b = (home k - (b + 1)) + 1 := by omega
        simp [h, h2, show ¬ home k < b + 1 by omega, this]
theorem homes_le (S : List Nat) : ∀ (bs : List (List Int)) (b : Nat), homes home S b bs ≤ (bs.map List.length).sum
  | [], _ => Nat.le_refl _
  | c :: l, b => by
    have := homes_le S l (b + 1)
    have h2 := List.countP_le_length (p := atHome home S b) (l := c)
    simp only [homes, List.map_cons, List.sum_cons]; omega
theorem homes_all (S : List Nat) : ∀ (bs : List (List Int)) (b : Nat), homes home S b bs = (bs.map List.length).sum ↔ ∀ j c, bs[j]? = some c → ∀ i ∈ c, atHome home S (b + j) i = true
  | [], _ => by simp [homes]
  | c :: l, b => by
    have h1 := homes_le home S l (b + 1)
    have h2 := List.countP_le_length (p := atHome home S b) (l := c)
    have ih := homes_all S l (b + 1)
    have h3 := List.countP_eq_length (p := atHome home S b) (l := c)
    simp only [homes, List.map_cons, List.sum_cons]
    constructor
    · intro h j d hj
      cases j with
      | zero => simp at hj; subst hj; exact h3.1 (by omega)
      | succ j =>
        have := ih.1 (by omega) j d (by simpa using hj)
        rwa [show b + 1 + j = b + (j + 1) by omega] at this
    · intro h
      have a1 := h3.2 (fun i hi => by simpa using h 0 c (by simp) i hi)
      have a2 := ih.2 (fun j d hj => by have := h (j + 1) d (by simpa using hj); rwa [show b + (j + 1) = b + 1 + j by omega] at this)
      omega
theorem sum_ones (S : List Nat) (f : Nat → Nat) (h : ∀ k ∈ S, f k ≤ 1) : (S.map f).sum = S.length ↔ ∀ k ∈ S, f k = 1 := by
  induction S with
  | nil => simp
  | cons a S ih =>
    have h1 := h a (by simp)
    have hle : (S.map f).sum ≤ S.length := by
      clear ih
      have h' : ∀ k ∈ S, f k ≤ 1 := fun k hk => h k (by simp [hk])
      clear h
      induction S with
      | nil => simp
      | cons b S ih2 =>
        have := h' b (by simp)
        have := ih2 (fun k hk => h' k (by simp [hk]))
        simp only [List.map_cons, List.sum_cons, List.length_cons]; omega
    have ih' := ih (fun k hk => h k (by simp [hk]))
    simp only [List.map_cons, List.sum_cons, List.length_cons, List.mem_cons, forall_eq_or_imp]
    rw [← ih']; omega
theorem count_le_one (c : List Int) (h : c.Pairwise (· < ·)) (i : Int) : c.count i ≤ 1 := by
  induction c with
  | nil => simp
  | cons a c ih =>
    obtain ⟨h1, h2⟩ := List.pairwise_cons.1 h
    rw [List.count_cons]
    by_cases e : a = i
    · have : c.count i = 0 := by
        rw [List.count_eq_zero]
        intro hi
        have := h1 i hi
        omega
      simp [e, this]
    · have := ih h2
      simp [e]; exact this
/-- THE LAW: where all buckets rise, and they have as many entries as S has, all entries are at home just if each of S stands once where it is at home -/
theorem home_iff (S : List Nat) (hS : S.Nodup) (bs : List (List Int)) (hb : ∀ c ∈ bs, c.Pairwise (· < ·)) (hn : (bs.map List.length).sum = S.length) :
    (∀ j c, bs[j]? = some c → ∀ i ∈ c, atHome home S j i = true) ↔ ∀ k ∈ S, (bs.getD (home k) []).count (k : Int) = 1 := by
  have h1 := homes_all home S bs 0
  have h2 := homes_sum home S hS bs 0
  simp only [Nat.not_lt_zero, if_false, Nat.sub_zero, Nat.zero_add] at h1 h2
  rw [← h1, h2, hn]
  refine sum_ones S _ (fun k _ => ?_)
  by_cases h : home k < bs.length
  · rw [List.getD_eq_getElem?_getD, List.getElem?_eq_getElem h]; exact count_le_one _ (hb _ (List.getElem_mem h)) _
  · simp [List.getD, List.getElem?_eq_none (Nat.le_of_not_lt h)]
end


/-! ### a table is right: bucket by bucket, or by all that are seen -/
def noSymL : SymL := ⟨[], [], false, 0, false, 0, false, 0, 0⟩
def symN (syms : List SymL) (k : Nat) : SymL := syms[k]?.getD noSymL
def seenK (syms : List SymL) (n : Nat) : List Nat := (List.range n).filter fun k => seenB (symN syms k)
/-- the places of those that are seen -/
def seenIx (syms : List SymL) : List Nat := seenK syms syms.length
theorem seenK_succ (syms : List SymL) (n : Nat) : seenK syms (n + 1) = seenK syms n ++ if seenB (symN syms n) then [n] else [] := by
  rw [seenK, List.range_succ, List.filter_append, List.filter_cons, List.filter_nil]; rfl
theorem seenIx_nodup (syms : List SymL) : (seenIx syms).Nodup := List.nodup_range.sublist List.filter_sublist
theorem seenK_mem (syms : List SymL) (n k : Nat) : k ∈ seenK syms n ↔ k < n ∧ seenB (symN syms k) = true := by
  rw [seenK, List.mem_filter, List.mem_range]
theorem seenK_length (syms : List SymL) : ∀ n, n ≤ syms.length → (seenK syms n).length = ((syms.take n).filter seenB).length
  | 0, _ => by simp [seenK]
  | n + 1, h => by
    rw [seenK_succ, List.length_append, seenK_length syms n (by omega), List.take_succ_eq_append_getElem (show n < syms.length by omega), List.filter_append, List.length_append]
    have : symN syms n = syms[n] := by rw [symN, List.getElem?_eq_getElem (show n < syms.length by omega)]; rfl
    rw [this]
    by_cases hs : seenB syms[n] = true <;> simp [hs]
theorem seenIx_length (syms : List SymL) : (seenIx syms).length = (syms.filter seenB).length := by
  rw [seenIx, seenK_length syms _ (Nat.le_refl _), List.take_length]
theorem seenK_le (syms : List SymL) (n : Nat) : (seenK syms n).length ≤ n := by
  have := List.length_filter_le (fun k => seenB (symN syms k)) (List.range n)
  rwa [List.length_range] at this
/-- rising -/
def risingB : List Int → Bool
  | a :: b :: l => decide (a < b) && risingB (b :: l)
  | _ => true
theorem rising_pairwise : ∀ l : List Int, risingB l = true ↔ l.Pairwise (· < ·)
  | [] => by simp [risingB]
  | [a] => by simp [risingB]
  | a :: b :: l => by
    have ih := rising_pairwise (b :: l)
    rw [risingB, Bool.and_eq_true, ih, List.pairwise_cons (a := a), decide_eq_true_eq]
    constructor
    · rintro ⟨h1, h2⟩
      refine ⟨fun c hc => ?_, h2⟩
      rcases List.mem_cons.1 hc with rfl | hc
      · exact h1
      · have := (List.pairwise_cons.1 h2).1 c hc; omega
    · rintro ⟨h1, h2⟩
      exact ⟨h1 b (by simp), h2⟩
def symHome (im : ImgL) (k : Nat) : Nat := homeL (symN im.syms k).name im.buckets.length
/-- what the reference asks of one that is seen -/
def standsB (im : ImgL) (k : Nat) : Bool := decide ((im.buckets.getD (symHome im k) []).count (k : Int) = 1) && !lacksB im.words im.shift (hashB (symN im.syms k).name)
def entryB (im : ImgL) (b : Nat) (i : Int) : Bool := match (if i < 0 then none else im.syms[i.toNat]?) with
    | some s => seenB s && decide (homeL s.name im.buckets.length = b) && !lacksB im.words im.shift (hashB s.name)
    | none => false
theorem chainB_iff (im : ImgL) (b : Nat) : ∀ (l : List Int) (last : Int), chainB im.syms im.words im.shift im.buckets.length b last l = true ↔ (∀ i ∈ l, last < i) ∧ l.Pairwise (· < ·) ∧ ∀ i ∈ l, entryB im b i = true
  | [], _ => by simp [chainB]
  | i :: l, last => by
    have ih := chainB_iff im b l i
    have e : chainB im.syms im.words im.shift im.buckets.length b last (i :: l) = (decide (last < i) && entryB im b i && chainB im.syms im.words im.shift im.buckets.length b i l) := by rw [chainB]; rfl
    rw [e, Bool.and_eq_true, Bool.and_eq_true, ih, decide_eq_true_eq, List.pairwise_cons]
    constructor
    · rintro ⟨⟨h1, h2⟩, h3, h4, h5⟩
      refine ⟨fun c hc => ?_, ⟨h3, h4⟩, fun c hc => ?_⟩
      · rcases List.mem_cons.1 hc with rfl | hc
        · exact h1
        · have := h3 c hc; omega
      · rcases List.mem_cons.1 hc with rfl | hc
        · exact h2
        · exact h5 c hc
    · rintro ⟨h1, ⟨h3, h4⟩, h5⟩
      exact ⟨⟨h1 i (by simp), h5 i (by simp)⟩, h3, h4, fun c hc => h5 c (by simp [hc])⟩
theorem entry_nonneg {im : ImgL} {b : Nat} {i : Int} (h : entryB im b i = true) : 0 ≤ i := by
  unfold entryB at h
  by_cases hi : i < 0
  · rw [if_pos hi] at h; cases h
  · omega
theorem entry_home {im : ImgL} {b : Nat} {i : Int} : entryB im b i = true ↔ ∃ k ∈ seenIx im.syms, i = (k : Int) ∧ symHome im k = b ∧ lacksB im.words im.shift (hashB (symN im.syms k).name) = false := by
  constructor
  · intro h
    have h0 := entry_nonneg h
    obtain ⟨k, rfl⟩ : ∃ k : Nat, i = k := ⟨i.toNat, by omega⟩
    unfold entryB at h
    rw [if_neg (by omega), Int.toNat_natCast] at h
    cases hs : im.syms[k]? with
    | none => rw [hs] at h; cases h
    | some s =>
      rw [hs] at h
      have hk := (List.getElem?_eq_some_iff.1 hs).1
      have hn : symN im.syms k = s := by rw [symN, hs]; rfl
      simp only [Bool.and_eq_true, decide_eq_true_eq, Bool.not_eq_true'] at h
      exact ⟨k, (seenK_mem _ _ _).2 ⟨hk, by rw [hn]; exact h.1.1⟩, rfl, by rw [symHome, hn]; exact h.1.2, by rw [hn]; exact h.2⟩
  · rintro ⟨k, hk, rfl, h1, h2⟩
    obtain ⟨hk1, hk2⟩ := (seenK_mem _ _ _).1 hk
    have hs : im.syms[k]? = some (symN im.syms k) := by rw [symN, List.getElem?_eq_getElem hk1]; rfl
    unfold entryB
    rw [if_neg (by omega), Int.toNat_natCast, hs]
    simp only [Bool.and_eq_true, decide_eq_true_eq, Bool.not_eq_true']
    exact ⟨⟨hk2, h1⟩, h2⟩
theorem chainsB_iff (im : ImgL) : ∀ (bs : List (List Int)) (b : Nat), chainsB im.syms im.words im.shift im.buckets.length b bs = true ↔ (∀ c ∈ bs, c.Pairwise (· < ·)) ∧ ∀ j c, bs[j]? = some c → ∀ i ∈ c, entryB im (b + j) i = true
  | [], _ => by simp [chainsB]
  | c :: l, b => by
    have ih := chainsB_iff im l (b + 1)
    rw [chainsB, Bool.and_eq_true, ih, chainB_iff]
    constructor
    · rintro ⟨⟨_, h2, h3⟩, h4, h5⟩
      refine ⟨fun d hd => ?_, fun j d hj => ?_⟩
      · rcases List.mem_cons.1 hd with rfl | hd
        · exact h2
        · exact h4 d hd
      · cases j with
        | zero => simp at hj; subst hj; exact h3
        | succ j => rw [show b + (j + 1) = b + 1 + j by omega]; exact h5 j d (by simpa using hj)
    · rintro ⟨h1, h2⟩
      have h0 := h2 0 c (by simp)
      refine ⟨⟨fun i hi => ?_, h1 c (by simp), h0⟩, fun d hd => h1 d (by simp [hd]), fun j d hj => ?_⟩
      · have := entry_nonneg (h0 i hi); omega
      · have := h2 (j + 1) d (by simpa using hj)
        rwa [show b + (j + 1) = b + 1 + j by omega] at this
/-- what the reference's table test comes to -/
def tableJ (im : ImgL) : Bool :=
  decide (im.syms.length ≤ 512) && decide (1 ≤ im.buckets.length) && decide (im.buckets.length ≤ 512) && sieveB im.words im.shift && im.buckets.all risingB &&
  decide ((im.buckets.map List.length).sum = (seenIx im.syms).length) && (seenIx im.syms).all (standsB im)
theorem tableJ_eq (im : ImgL) : tableJ im = tableB im := by
  rw [Bool.eq_iff_iff]
  unfold tableJ tableB
  simp only [Bool.and_eq_true, decide_eq_true_eq]
  rw [chainsB_iff, ← seenIx_length]
  simp only [Nat.zero_add]
  have hall : (im.buckets.all risingB = true) ↔ ∀ c ∈ im.buckets, c.Pairwise (· < ·) := by
    rw [List.all_eq_true]; exact ⟨fun h c hc => (rising_pairwise c).1 (h c hc), fun h c hc => (rising_pairwise c).2 (h c hc)⟩
  rw [hall]
  constructor
  · rintro ⟨⟨⟨h0, h1⟩, h2⟩, h3⟩
    refine ⟨⟨h0, h1, ?_⟩, h2⟩
    have hh := (home_iff (symHome im) (seenIx im.syms) (seenIx_nodup _) im.buckets h1 h2).2 (fun k hk => by
      have := List.all_eq_true.1 h3 k hk
      simp only [standsB, Bool.and_eq_true, decide_eq_true_eq] at this
      exact this.1)
    intro j c hj i hi
    have := hh j c hj i hi
    simp only [atHome, List.any_eq_true, Bool.and_eq_true, decide_eq_true_eq] at this
    obtain ⟨k, hk, h4, h5⟩ := this
    have h6 := List.all_eq_true.1 h3 k hk
    simp only [standsB, Bool.and_eq_true, decide_eq_true_eq, Bool.not_eq_true'] at h6
    exact entry_home.2 ⟨k, hk, h4, h5, h6.2⟩
  · rintro ⟨⟨h0, h1, h3⟩, h2⟩
    refine ⟨⟨⟨h0, h1⟩, h2⟩, ?_⟩
    have hh := (home_iff (symHome im) (seenIx im.syms) (seenIx_nodup _) im.buckets h1 h2).1 (fun j c hj i hi => by
      obtain ⟨k, hk, h4, h5, _⟩ := entry_home.1 (h3 j c hj i hi)
      simp only [atHome, List.any_eq_true, Bool.and_eq_true, decide_eq_true_eq]
      exact ⟨k, hk, h4, h5⟩)
    rw [List.all_eq_true]
    intro k hk
    have hc := hh k hk
    simp only [standsB, Bool.and_eq_true, decide_eq_true_eq, Bool.not_eq_true']
    refine ⟨hc, ?_⟩
    have hmem : (k : Int) ∈ im.buckets.getD (symHome im k) [] := List.count_pos_iff.1 (by omega)
    rw [List.getD_eq_getElem?_getD] at hmem
    cases hb : im.buckets[symHome im k]? with
    | none => rw [hb] at hmem; simp at hmem
    | some c =>
      rw [hb] at hmem
      obtain ⟨k', _, h4, _, h6⟩ := entry_home.1 (h3 _ c hb (k : Int) (by simpa using hmem))
      have : k' = k := by omega
      subst this
      exact h6

end Go.Proofs.Ytbliedldlimpgaa

/- The digits of a number and back: plain Lean. -/
namespace Go.Proofs.Ytbliedldlimpgaa
set_option linter.unusedVariables false
set_option linter.unusedSimpArgs false

def valL : List UInt8 → Nat
  | [] => 0
  | c :: l => c.toNat + 256 * valL l
theorem val_digits : ∀ (size m : Nat), m < 256 ^ size → valL ((List.range size).map fun i => UInt8.ofNat (m / 256 ^ i)) = m
  | 0, m, h => by simp at h; simp [valL, h]
  | size + 1, m, h => by
    rw [List.range_succ_eq_map, List.map_cons, List.map_map, valL]
    have e : ((fun i => UInt8.ofNat (m / 256 ^ i)) ∘ Nat.succ) = fun i => UInt8.ofNat (m / 256 / 256 ^ i) := by
      funext i
      simp only [Function.comp, Nat.succ_eq_add_one]
      rw [Nat.pow_succ, Nat.mul_comm, Nat.div_div_eq_div_mul]
    rw [e, val_digits size (m / 256) (by rw [Nat.pow_succ] at h; exact Nat.div_lt_of_lt_mul (by rw [Nat.mul_comm]; exact h))]
    simp
    omega
theorem digitsL_len (size : Nat) (n : Int) : (digitsL size n).length = size := by simp [digitsL]
theorem val_digitsL (size : Nat) (n : Int) (h0 : 0 ≤ n) (h1 : n < 18446744073709551616) (h : n.toNat < 256 ^ size) : (valL (digitsL size n) : Int) = n := by
  rw [digitsL, Int.emod_eq_of_lt h0 h1, val_digits size n.toNat h, Int.toNat_of_nonneg h0]

end Go.Proofs.Ytbliedldlimpgaa

/- Reading an image's bytes: what is read is what was written, and what was written is read. Plain Lean, no program in sight. -/
namespace Go.Proofs.Ytbliedldlimpgaa
set_option linter.unusedVariables false
set_option linter.unusedSimpArgs false

/-! ### reading bytes -/
def bindP {α β : Type} (p : List UInt8 → Option (α × List UInt8)) (k : α → List UInt8 → Option (β × List UInt8)) : List UInt8 → Option (β × List UInt8) := fun l => match p l with
  | none => none
  | some (x, t) => k x t
def sgnL (n : Nat) : Int := if n < 9223372036854775808 then (n : Int) else (n : Int) - 18446744073709551616
/-- a number of so many bytes -/
def numP (size : Nat) (l : List UInt8) : Option (Int × List UInt8) := if size ≤ l.length then some (if size = 8 then sgnL (valL (l.take size)) else (valL (l.take size) : Int), l.drop size) else none
def wordP (l : List UInt8) : Option (Int × List UInt8) := if 8 ≤ l.length then some ((valL (l.take 8) : Int), l.drop 8) else none
/-- bytes with their number ahead -/
def partP (size most : Nat) : List UInt8 → Option (List UInt8 × List UInt8) := bindP (numP size) fun n t => if n ≤ most ∧ n ≤ t.length then some (t.take n.toNat, t.drop n.toNat) else none
def textP : List UInt8 → Option (List UInt8 × List UInt8) := partP 2 4096
def blockP : List UInt8 → Option (List UInt8 × List UInt8) := partP 4 1048576
def manyP {α : Type} (p : List UInt8 → Option (α × List UInt8)) : Nat → List UInt8 → Option (List α × List UInt8)
  | 0 => fun l => some ([], l)
  | n + 1 => bindP p fun x => bindP (manyP p n) fun xs t => some (x :: xs, t)
def bitP : List UInt8 → Option (Bool × List UInt8) := bindP (numP 1) fun n t => if 1 < n then none else some (n == 1, t)
def segP : List UInt8 → Option (SegL × List UInt8) := bindP (numP 4) fun a => bindP (numP 4) fun s => bindP (numP 1) fun p => bindP blockP fun b t => some (⟨a, s, b, p⟩, t)
def textsP (n : Int) : List UInt8 → Option (List (List UInt8) × List UInt8) := manyP textP n.toNat
def needP : List UInt8 → Option (NeedL × List UInt8) := bindP textP fun n => bindP (numP 1) fun k => bindP (textsP k) fun v t => some (⟨n, v⟩, t)
def symP : List UInt8 → Option (SymL × List UInt8) := bindP textP fun n => bindP textP fun v => bindP (numP 1) fun k => bindP (numP 1) fun vis => bindP bitP fun old => bindP bitP fun weak => bindP bitP fun defined => bindP (numP 8) fun value => bindP (numP 8) fun size t => some (⟨n, v, old, k, weak, vis, defined, value, size⟩, t)
def chainP : List UInt8 → Option (List Int × List UInt8) := bindP (numP 2) fun n => manyP (numP 2) n.toNat
def relP : List UInt8 → Option (RelL × List UInt8) := bindP (numP 1) fun k => bindP (numP 8) fun a => bindP (numP 8) fun s => bindP (numP 8) fun d t => some (⟨a, k, s, d⟩, t)
def slotP : List UInt8 → Option (SlotL × List UInt8) := bindP (numP 4) fun a => bindP (numP 4) fun s => bindP (numP 4) fun d t => some (⟨a, s, d⟩, t)
/-- an image -/
def imgP : List UInt8 → Option (ImgL × List UInt8) :=
  bindP textP fun magic => if magic ≠ magicL then fun _ => none else
  bindP textP fun name => bindP (numP 1) fun flags =>
  bindP (numP 1) fun n1 => bindP (manyP segP n1.toNat) fun segs =>
  bindP (numP 1) fun n2 => bindP (manyP needP n2.toNat) fun needed =>
  bindP (numP 1) fun n3 => bindP (textsP n3) fun runPath =>
  bindP (numP 2) fun n4 => bindP (manyP symP n4.toNat) fun syms =>
  bindP (numP 2) fun n5 => bindP (manyP chainP n5.toNat) fun buckets =>
  bindP (numP 1) fun shift => bindP (numP 1) fun n6 => bindP (manyP wordP n6.toNat) fun words =>
  bindP (numP 2) fun n7 => bindP (manyP relP n7.toNat) fun relocs =>
  bindP (numP 2) fun n8 => bindP (manyP slotP n8.toNat) fun slots =>
  bindP (numP 1) fun n9 => bindP (manyP (numP 4) n9.toNat) fun init =>
  bindP (numP 1) fun n10 => bindP (manyP (numP 4) n10.toNat) fun fini =>
  bindP (numP 2) fun tlsSize => bindP blockP fun tls t =>
  some (⟨name, flags, segs, needed, runPath, syms, buckets, words, shift, relocs, slots, init, fini, tls, tlsSize⟩, t)

/-! ### what is read is what was written -/
structure Codec {α : Type} (p : List UInt8 → Option (α × List UInt8)) (f : α → List UInt8) (ok : α → Prop) : Prop where
  there : ∀ x t, ok x → p (f x ++ t) = some (x, t)
  back : ∀ l x t, p l = some (x, t) → ok x ∧ f x ++ t = l
theorem bindP_some {α β : Type} {p : List UInt8 → Option (α × List UInt8)} {k : α → List UInt8 → Option (β × List UInt8)} {l : List UInt8} {r : β × List UInt8} (h : bindP p k l = some r) : ∃ x t, p l = some (x, t) ∧ k x t = some r := by
  unfold bindP at h
  cases hp : p l with
  | none => rw [hp] at h; cases h
  | some q => obtain ⟨x, t⟩ := q; rw [hp] at h; exact ⟨x, t, rfl, h⟩
theorem bindP_at {α β : Type} {p : List UInt8 → Option (α × List UInt8)} {k : α → List UInt8 → Option (β × List UInt8)} {l : List UInt8} {x : α} {t : List UInt8} (h : p l = some (x, t)) : bindP p k l = k x t := by
  unfold bindP; rw [h]
def okN (size : Nat) (n : Int) : Prop := if size = 8 then -9223372036854775808 ≤ n ∧ n < 9223372036854775808 else 0 ≤ n ∧ n < 256 ^ size
theorem valL_lt : ∀ l : List UInt8, valL l < 256 ^ l.length
  | [] => by simp [valL]
  | c :: l => by
    have := valL_lt l
    have hc := c.toNat_lt
    rw [valL, List.length_cons, Nat.pow_succ]; omega
theorem digits_val : ∀ l : List UInt8, ((List.range l.length).map fun i => UInt8.ofNat (valL l / 256 ^ i)) = l
  | [] => rfl
  | c :: l => by
    have hc := c.toNat_lt
    rw [List.length_cons, List.range_succ_eq_map, List.map_cons, List.map_map]
    have e : ((fun i => UInt8.ofNat (valL (c :: l) / 256 ^ i)) ∘ Nat.succ) = fun i => UInt8.ofNat (valL l / 256 ^ i) := by
      funext i
      simp only [Function.comp, Nat.succ_eq_add_one, valL]
      rw [Nat.pow_succ, Nat.mul_comm (256 ^ i), ← Nat.div_div_eq_div_mul, show (c.toNat + 256 * valL l) / 256 = valL l by omega]
    rw [e, digits_val l]
    congr 1
    simp only [valL, Nat.pow_zero, Nat.div_one]
    have : UInt8.ofNat (c.toNat + 256 * valL l) = UInt8.ofNat c.toNat := by
      apply UInt8.toNat.inj
      simp
    rw [this]; simp
theorem digitsL_nat (size m : Nat) (h : m < 18446744073709551616) : digitsL size (m : Int) = (List.range size).map fun i => UInt8.ofNat (m / 256 ^ i) := by
  rw [digitsL]
  have : ((m : Int) % 18446744073709551616).toNat = m := by omega
  rw [this]
theorem digitsL_sgn (size m : Nat) (h : m < 18446744073709551616) : digitsL size (sgnL m) = digitsL size (m : Int) := by
  unfold digitsL sgnL
  split
  · rfl
  · rw [Int.sub_emod_right]
theorem pow8 {size : Nat} (h : size ≤ 8) : 256 ^ size ≤ 18446744073709551616 := Nat.le_trans (Nat.pow_le_pow_right (by decide) h) (by decide)
theorem num_codec (size : Nat) (hs : size ≤ 8) : Codec (numP size) (digitsL size) (okN size) where
  there x t hx := by
    have hl := digitsL_len size x
    have e1 : (digitsL size x ++ t).take size = digitsL size x := by rw [List.take_append_of_le_length (by omega), List.take_of_length_le (by omega)]
    have e2 : (digitsL size x ++ t).drop size = t := by rw [List.drop_append_of_le_length (by omega), List.drop_eq_nil_of_le (by omega)]; rfl
    rw [numP, if_pos (by simp [hl]), e1, e2]
    unfold okN at hx
    by_cases h8 : size = 8
    · subst h8
      rw [if_pos rfl] at hx
      rw [if_pos rfl]
      have hv : valL (digitsL 8 x) = (x % 18446744073709551616).toNat := by
        rw [digitsL, val_digits 8 _ (by omega)]
      rw [hv]
      congr 2
      unfold sgnL
      split <;> omega
    · rw [if_neg h8] at hx
      rw [if_neg h8]
      have hp := pow8 hs
      have hx2 : x.toNat < 256 ^ size := by
        have : ((x.toNat : Nat) : Int) < ((256 ^ size : Nat) : Int) := by rw [Int.toNat_of_nonneg hx.1, Int.natCast_pow]; exact hx.2
        omega
      rw [val_digitsL size x hx.1 (by omega) hx2]
  back l x t h := by
    unfold numP at h
    by_cases hl : size ≤ l.length
    · rw [if_pos hl] at h
      obtain ⟨rfl, rfl⟩ := Prod.mk.inj (Option.some.inj h)
      have hlen : (l.take size).length = size := by rw [List.length_take]; omega
      have hv := valL_lt (l.take size)
      rw [hlen] at hv
      have hp := pow8 hs
      have hd : digitsL size (valL (l.take size) : Int) = l.take size := by
        rw [digitsL_nat size _ (by omega)]
        have := digits_val (l.take size)
        rwa [hlen] at this
      by_cases h8 : size = 8
      · subst h8
        rw [if_pos rfl]
        refine ⟨?_, ?_⟩
        · unfold okN sgnL
          rw [if_pos rfl]
          have : (256 : Nat) ^ 8 = 18446744073709551616 := by decide
          split <;> omega
        · rw [digitsL_sgn 8 _ (by omega), hd, List.take_append_drop]
      · rw [if_neg h8]
        refine ⟨?_, by rw [hd, List.take_append_drop]⟩
        unfold okN
        rw [if_neg h8]
        refine ⟨by omega, ?_⟩
        have : ((valL (l.take size) : Nat) : Int) < ((256 ^ size : Nat) : Int) := by omega
        rwa [Int.natCast_pow] at this
    · rw [if_neg hl] at h; cases h
theorem word_codec : Codec wordP (digitsL 8) (fun n => 0 ≤ n ∧ n < 18446744073709551616) where
  there x t hx := by
    have hl := digitsL_len 8 x
    have e1 : (digitsL 8 x ++ t).take 8 = digitsL 8 x := by rw [List.take_append_of_le_length (by omega), List.take_of_length_le (by omega)]
    have e2 : (digitsL 8 x ++ t).drop 8 = t := by rw [List.drop_append_of_le_length (by omega), List.drop_eq_nil_of_le (by omega)]; rfl
    rw [wordP, if_pos (by simp [hl]), e1, e2, val_digitsL 8 x hx.1 hx.2 (by have : (256 : Nat) ^ 8 = 18446744073709551616 := by decide
                                                                            omega)]
  back l x t h := by
    unfold wordP at h
    by_cases hl : 8 ≤ l.length
    · rw [if_pos hl] at h
      obtain ⟨rfl, rfl⟩ := Prod.mk.inj (Option.some.inj h)
      have hlen : (l.take 8).length = 8 := by rw [List.length_take]; omega
      have hv := valL_lt (l.take 8)
      rw [hlen] at hv
      have : (256 : Nat) ^ 8 = 18446744073709551616 := by decide
      have hd : digitsL 8 (valL (l.take 8) : Int) = l.take 8 := by
        rw [digitsL_nat 8 _ (by omega)]
        have := digits_val (l.take 8)
        rwa [hlen] at this
      exact ⟨by omega, by rw [hd, List.take_append_drop]⟩
    · rw [if_neg hl] at h; cases h
theorem part_codec (size most : Nat) (hs : size ≤ 4) (hm : most < 256 ^ size) : Codec (partP size most) (fun s => digitsL size s.length ++ s) (fun s => s.length ≤ most) where
  there x t hx := by
    have hk : okN size (x.length : Int) := by
      unfold okN
      rw [if_neg (by omega)]
      refine ⟨by omega, ?_⟩
      have : ((x.length : Nat) : Int) < ((256 ^ size : Nat) : Int) := by omega
      rwa [Int.natCast_pow] at this
    rw [partP, List.append_assoc, bindP_at ((num_codec size (by omega)).there _ _ hk), if_pos ⟨by omega, by simp; omega⟩, Int.toNat_natCast,
      List.take_append_of_le_length (Nat.le_refl _), List.take_length, List.drop_append_of_le_length (Nat.le_refl _), List.drop_length]
    rfl
  back l x t h := by
    obtain ⟨n, u, h1, h2⟩ := bindP_some h
    obtain ⟨h3, h4⟩ := (num_codec size (by omega)).back _ _ _ h1
    by_cases hc : n ≤ (most : Int) ∧ n ≤ u.length
    · rw [if_pos hc] at h2
      obtain ⟨rfl, rfl⟩ := Prod.mk.inj (Option.some.inj h2)
      have hn0 : 0 ≤ n := by
        unfold okN at h3
        rw [if_neg (by omega)] at h3; exact h3.1
      have hlen : (u.take n.toNat).length = n.toNat := by rw [List.length_take]; omega
      refine ⟨by rw [hlen]; omega, ?_⟩
      rw [hlen, Int.toNat_of_nonneg hn0, List.append_assoc, List.take_append_drop, h4]
    · rw [if_neg hc] at h2; cases h2
theorem text_codec : Codec textP textL' (fun s => s.length ≤ 4096) := part_codec 2 4096 (by decide) (by decide)
theorem block_codec : Codec blockP blockL (fun s => s.length ≤ 1048576) := part_codec 4 1048576 (by decide) (by decide)
theorem many_codec {α : Type} {p : List UInt8 → Option (α × List UInt8)} {f : α → List UInt8} {ok : α → Prop} (c : Codec p f ok) : ∀ n, Codec (manyP p n) (fun l => (l.map f).flatten) (fun l => l.length = n ∧ ∀ x ∈ l, ok x)
  | 0 => { there := fun x t hx => by
             have : x = [] := List.length_eq_zero_iff.1 hx.1
             subst this; rfl
           back := fun l x t h => by
             obtain ⟨rfl, rfl⟩ := Prod.mk.inj (Option.some.inj h)
             exact ⟨⟨rfl, fun x hx => by cases hx⟩, rfl⟩ }
  | n + 1 => { there := fun x t hx => by
                 cases x with
                 | nil => exact absurd hx.1 (by simp)
                 | cons a x =>
                   have h1 := c.there a ((x.map f).flatten ++ t) (hx.2 a (by simp))
                   have h2 := (many_codec c n).there x t ⟨by simpa using hx.1, fun y hy => hx.2 y (by simp [hy])⟩
                   rw [manyP, List.map_cons, List.flatten_cons, List.append_assoc, bindP_at h1, bindP_at h2]
               back := fun l x t h => by
                 obtain ⟨a, u, h1, h2⟩ := bindP_some h
                 obtain ⟨xs, u2, h3, h4⟩ := bindP_some h2
                 obtain ⟨rfl, rfl⟩ := Prod.mk.inj (Option.some.inj h4)
                 obtain ⟨b1, b2⟩ := c.back _ _ _ h1
                 obtain ⟨⟨b3, b4⟩, b5⟩ := (many_codec c n).back _ _ _ h3
                 refine ⟨⟨by simp [b3], fun y hy => ?_⟩, ?_⟩
                 · rcases List.mem_cons.1 hy with rfl | hy
                   · exact b1
                   · exact b4 y hy
                 · rw [List.map_cons, List.flatten_cons, List.append_assoc, b5, b2] }
theorem bit_codec : Codec bitP (fun b => digitsL 1 (oneL b)) (fun _ => True) where
  there x t _ := by
    rw [bitP, bindP_at ((num_codec 1 (by decide)).there _ _ (by cases x <;> simp [okN, oneL]))]
    cases x <;> rfl
  back l x t h := by
    obtain ⟨n, u, h1, h2⟩ := bindP_some h
    obtain ⟨h3, h4⟩ := (num_codec 1 (by decide)).back _ _ _ h1
    simp [okN] at h3
    by_cases hc : 1 < n
    · rw [if_pos hc] at h2; cases h2
    · rw [if_neg hc] at h2
      obtain ⟨rfl, rfl⟩ := Prod.mk.inj (Option.some.inj h2)
      refine ⟨trivial, ?_⟩
      rw [← h4]
      have : n = 0 ∨ n = 1 := by omega
      rcases this with rfl | rfl <;> rfl

def okSeg (s : SegL) : Prop := okN 4 s.at_ ∧ okN 4 s.size ∧ okN 1 s.perm ∧ s.bytes.length ≤ 1048576
theorem seg_codec : Codec segP segF okSeg where
  there x t h := by
    obtain ⟨h1, h2, h3, h4⟩ := h
    have n4 := num_codec 4 (by decide)
    have n1 := num_codec 1 (by decide)
    unfold segP segF
    simp only [List.append_assoc]
    rw [bindP_at (n4.there _ _ h1), bindP_at (n4.there _ _ h2), bindP_at (n1.there _ _ h3), bindP_at (block_codec.there _ _ h4)]
  back l x t h := by
    have n4 := num_codec 4 (by decide)
    have n1 := num_codec 1 (by decide)
    obtain ⟨a1, t1, p1, h⟩ := bindP_some h
    obtain ⟨a2, t2, p2, h⟩ := bindP_some h
    obtain ⟨a3, t3, p3, h⟩ := bindP_some h
    obtain ⟨a4, t4, p4, h⟩ := bindP_some h
    obtain ⟨rfl, rfl⟩ := Prod.mk.inj (Option.some.inj h)
    obtain ⟨o1, q1⟩ := n4.back _ _ _ p1
    obtain ⟨o2, q2⟩ := n4.back _ _ _ p2
    obtain ⟨o3, q3⟩ := n1.back _ _ _ p3
    obtain ⟨o4, q4⟩ := block_codec.back _ _ _ p4
    refine ⟨⟨o1, o2, o3, o4⟩, ?_⟩
    unfold segF
    simp only [List.append_assoc]
    rw [q4, q3, q2, q1]
def okLen (size n : Nat) : Prop := n < 256 ^ size
theorem okLen_N {size n : Nat} (hs : size ≤ 4) (h : okLen size n) : okN size (n : Int) := by
  unfold okN; rw [if_neg (by omega)]
  refine ⟨by omega, ?_⟩
  have : ((n : Nat) : Int) < ((256 ^ size : Nat) : Int) := by unfold okLen at h; omega
  rwa [Int.natCast_pow] at this
theorem okN_nat {size : Nat} {n : Int} (hs : size ≤ 4) (h : okN size n) : n = (n.toNat : Int) ∧ okLen size n.toNat := by
  unfold okN at h; rw [if_neg (by omega)] at h
  refine ⟨by omega, ?_⟩
  unfold okLen
  have : ((n.toNat : Nat) : Int) < ((256 ^ size : Nat) : Int) := by rw [Int.toNat_of_nonneg h.1, Int.natCast_pow]; exact h.2
  omega
/-- a list with its number ahead -/
theorem list_codec {α : Type} {p : List UInt8 → Option (α × List UInt8)} {f : α → List UInt8} {ok : α → Prop} (c : Codec p f ok) (size : Nat) (hs : size ≤ 4) :
    Codec (bindP (numP size) fun n => manyP p n.toNat) (fun l => digitsL size l.length ++ (l.map f).flatten) (fun l => okLen size l.length ∧ ∀ x ∈ l, ok x) where
  there x t h := by
    rw [List.append_assoc, bindP_at ((num_codec size (by omega)).there _ _ (okLen_N hs h.1)), Int.toNat_natCast, (many_codec c x.length).there _ _ ⟨rfl, h.2⟩]
  back l x t h := by
    obtain ⟨n, u, h1, h2⟩ := bindP_some h
    obtain ⟨o1, q1⟩ := (num_codec size (by omega)).back _ _ _ h1
    obtain ⟨⟨o2, o3⟩, q2⟩ := (many_codec c n.toNat).back _ _ _ h2
    obtain ⟨e1, e2⟩ := okN_nat hs o1
    refine ⟨⟨by rw [o2]; exact e2, o3⟩, ?_⟩
    rw [o2, List.append_assoc, q2, ← e1, q1]
def okTexts (l : List (List UInt8)) : Prop := okLen 1 l.length ∧ ∀ x ∈ l, x.length ≤ 4096
theorem texts_codec : Codec (bindP (numP 1) textsP) (fun l => digitsL 1 l.length ++ textsL l) okTexts := list_codec text_codec 1 (by decide)
theorem chain_codec : Codec chainP chainF (fun l => okLen 2 l.length ∧ ∀ x ∈ l, okN 2 x) := list_codec (num_codec 2 (by decide)) 2 (by decide)
theorem assocP {α β γ : Type} (p : List UInt8 → Option (α × List UInt8)) (k : α → List UInt8 → Option (β × List UInt8)) (m : β → List UInt8 → Option (γ × List UInt8)) : (bindP p fun x => bindP (k x) m) = bindP (bindP p k) m := by
  funext l
  unfold bindP
  cases p l <;> rfl
def okNeed (n : NeedL) : Prop := n.name.length ≤ 4096 ∧ okTexts n.versions
theorem need_codec : Codec needP needF okNeed where
  there x t h := by
    obtain ⟨h1, h2⟩ := h
    unfold needP needF
    simp only [List.append_assoc]
    rw [bindP_at (text_codec.there _ _ h1), assocP, bindP_at (by have := texts_codec.there _ t h2; rwa [List.append_assoc] at this)]
  back l x t h := by
    unfold needP at h
    obtain ⟨a1, t1, p1, h⟩ := bindP_some h
    rw [assocP] at h
    obtain ⟨a2, t2, p2, h⟩ := bindP_some h
    obtain ⟨rfl, rfl⟩ := Prod.mk.inj (Option.some.inj h)
    obtain ⟨o1, q1⟩ := text_codec.back _ _ _ p1
    obtain ⟨o2, q2⟩ := texts_codec.back _ _ _ p2
    refine ⟨⟨o1, o2⟩, ?_⟩
    unfold needF
    simp only [List.append_assoc] at q2 ⊢
    rw [q2, q1]
def okSym (s : SymL) : Prop := s.name.length ≤ 4096 ∧ s.version.length ≤ 4096 ∧ okN 1 s.kind ∧ okN 1 s.vis ∧ okN 8 s.value ∧ okN 8 s.size
theorem sym_codec : Codec symP symF okSym where
  there x t h := by
    obtain ⟨h1, h2, h3, h4, h5, h6⟩ := h
    have n8 := num_codec 8 (by decide)
    have n1 := num_codec 1 (by decide)
    unfold symP symF
    simp only [List.append_assoc]
    rw [bindP_at (text_codec.there _ _ h1), bindP_at (text_codec.there _ _ h2), bindP_at (n1.there _ _ h3), bindP_at (n1.there _ _ h4), bindP_at (bit_codec.there _ _ trivial), bindP_at (bit_codec.there _ _ trivial),
      bindP_at (bit_codec.there _ _ trivial), bindP_at (n8.there _ _ h5), bindP_at (n8.there _ _ h6)]
  back l x t h := by
    have n8 := num_codec 8 (by decide)
    have n1 := num_codec 1 (by decide)
    obtain ⟨a1, t1, p1, h⟩ := bindP_some h
    obtain ⟨a2, t2, p2, h⟩ := bindP_some h
    obtain ⟨a3, t3, p3, h⟩ := bindP_some h
    obtain ⟨a4, t4, p4, h⟩ := bindP_some h
    obtain ⟨a5, t5, p5, h⟩ := bindP_some h
    obtain ⟨a6, t6, p6, h⟩ := bindP_some h
    obtain ⟨a7, t7, p7, h⟩ := bindP_some h
    obtain ⟨a8, t8, p8, h⟩ := bindP_some h
    obtain ⟨a9, t9, p9, h⟩ := bindP_some h
    obtain ⟨rfl, rfl⟩ := Prod.mk.inj (Option.some.inj h)
    obtain ⟨o1, q1⟩ := text_codec.back _ _ _ p1
    obtain ⟨o2, q2⟩ := text_codec.back _ _ _ p2
    obtain ⟨o3, q3⟩ := n1.back _ _ _ p3
    obtain ⟨o4, q4⟩ := n1.back _ _ _ p4
    obtain ⟨_, q5⟩ := bit_codec.back _ _ _ p5
    obtain ⟨_, q6⟩ := bit_codec.back _ _ _ p6
    obtain ⟨_, q7⟩ := bit_codec.back _ _ _ p7
    obtain ⟨o8, q8⟩ := n8.back _ _ _ p8
    obtain ⟨o9, q9⟩ := n8.back _ _ _ p9
    refine ⟨⟨o1, o2, o3, o4, o8, o9⟩, ?_⟩
    unfold symF
    simp only [List.append_assoc]
    rw [q9, q8, q7, q6, q5, q4, q3, q2, q1]
def okRel (r : RelL) : Prop := okN 1 r.kind ∧ okN 8 r.at_ ∧ okN 8 r.sym ∧ okN 8 r.add
theorem rel_codec : Codec relP relF okRel where
  there x t h := by
    obtain ⟨h1, h2, h3, h4⟩ := h
    have n8 := num_codec 8 (by decide)
    have n1 := num_codec 1 (by decide)
    unfold relP relF
    simp only [List.append_assoc]
    rw [bindP_at (n1.there _ _ h1), bindP_at (n8.there _ _ h2), bindP_at (n8.there _ _ h3), bindP_at (n8.there _ _ h4)]
  back l x t h := by
    have n8 := num_codec 8 (by decide)
    have n1 := num_codec 1 (by decide)
    obtain ⟨a1, t1, p1, h⟩ := bindP_some h
    obtain ⟨a2, t2, p2, h⟩ := bindP_some h
    obtain ⟨a3, t3, p3, h⟩ := bindP_some h
    obtain ⟨a4, t4, p4, h⟩ := bindP_some h
    obtain ⟨rfl, rfl⟩ := Prod.mk.inj (Option.some.inj h)
    obtain ⟨o1, q1⟩ := n1.back _ _ _ p1
    obtain ⟨o2, q2⟩ := n8.back _ _ _ p2
    obtain ⟨o3, q3⟩ := n8.back _ _ _ p3
    obtain ⟨o4, q4⟩ := n8.back _ _ _ p4
    refine ⟨⟨o1, o2, o3, o4⟩, ?_⟩
    unfold relF
    simp only [List.append_assoc]
    rw [q4, q3, q2, q1]
def okSlot (s : SlotL) : Prop := okN 4 s.at_ ∧ okN 4 s.sym ∧ okN 4 s.stub
theorem slot_codec : Codec slotP slotF okSlot where
  there x t h := by
    obtain ⟨h1, h2, h3⟩ := h
    have n4 := num_codec 4 (by decide)
    unfold slotP slotF
    simp only [List.append_assoc]
    rw [bindP_at (n4.there _ _ h1), bindP_at (n4.there _ _ h2), bindP_at (n4.there _ _ h3)]
  back l x t h := by
    have n4 := num_codec 4 (by decide)
    obtain ⟨a1, t1, p1, h⟩ := bindP_some h
    obtain ⟨a2, t2, p2, h⟩ := bindP_some h
    obtain ⟨a3, t3, p3, h⟩ := bindP_some h
    obtain ⟨rfl, rfl⟩ := Prod.mk.inj (Option.some.inj h)
    obtain ⟨o1, q1⟩ := n4.back _ _ _ p1
    obtain ⟨o2, q2⟩ := n4.back _ _ _ p2
    obtain ⟨o3, q3⟩ := n4.back _ _ _ p3
    refine ⟨⟨o1, o2, o3⟩, ?_⟩
    unfold slotF
    simp only [List.append_assoc]
    rw [q3, q2, q1]
/-- an image that has a form -/
structure OkImg (im : ImgL) : Prop where
  name : im.name.length ≤ 4096
  flags : okN 1 im.flags
  segs : okLen 1 im.segs.length ∧ ∀ s ∈ im.segs, okSeg s
  needed : okLen 1 im.needed.length ∧ ∀ n ∈ im.needed, okNeed n
  runPath : okTexts im.runPath
  syms : okLen 2 im.syms.length ∧ ∀ s ∈ im.syms, okSym s
  buckets : okLen 2 im.buckets.length ∧ ∀ c ∈ im.buckets, okLen 2 c.length ∧ ∀ x ∈ c, okN 2 x
  shift : okN 1 im.shift
  words : okLen 1 im.words.length ∧ ∀ x ∈ im.words, 0 ≤ x ∧ x < 18446744073709551616
  relocs : okLen 2 im.relocs.length ∧ ∀ r ∈ im.relocs, okRel r
  slots : okLen 2 im.slots.length ∧ ∀ s ∈ im.slots, okSlot s
  init : okLen 1 im.init.length ∧ ∀ x ∈ im.init, okN 4 x
  fini : okLen 1 im.fini.length ∧ ∀ x ∈ im.fini, okN 4 x
  tlsSize : okN 2 im.tlsSize
  tls : im.tls.length ≤ 1048576
def formR (im : ImgL) : List UInt8 :=
  textL' magicL ++ (textL' im.name ++ (digitsL 1 im.flags ++ ((digitsL 1 im.segs.length ++ (im.segs.map segF).flatten) ++
  ((digitsL 1 im.needed.length ++ (im.needed.map needF).flatten) ++ ((digitsL 1 im.runPath.length ++ textsL im.runPath) ++
  ((digitsL 2 im.syms.length ++ (im.syms.map symF).flatten) ++ ((digitsL 2 im.buckets.length ++ (im.buckets.map chainF).flatten) ++
  (digitsL 1 im.shift ++ ((digitsL 1 im.words.length ++ numsL 8 im.words) ++ ((digitsL 2 im.relocs.length ++ (im.relocs.map relF).flatten) ++
  ((digitsL 2 im.slots.length ++ (im.slots.map slotF).flatten) ++ ((digitsL 1 im.init.length ++ numsL 4 im.init) ++ ((digitsL 1 im.fini.length ++ numsL 4 im.fini) ++
  (digitsL 2 im.tlsSize ++ blockL im.tls))))))))))))))
theorem formR_eq (im : ImgL) : formR im = formL im := by
  unfold formR formL; simp only [List.append_assoc]
theorem img_codec : Codec imgP formL OkImg where
  there x t h := by
    have n2 := num_codec 2 (by decide)
    have n1 := num_codec 1 (by decide)
    rw [← formR_eq]
    unfold imgP formR numsL
    simp only [List.append_assoc (_ ++ _) _ t, List.append_assoc (textL' _) _ t, List.append_assoc (digitsL _ x.flags) _ t, List.append_assoc (digitsL _ x.shift) _ t, List.append_assoc (digitsL _ x.tlsSize) _ t]
    rw [bindP_at (text_codec.there _ _ (by decide)), if_neg (by simp), bindP_at (text_codec.there _ _ h.name), bindP_at (n1.there _ _ h.flags),
      assocP, bindP_at ((list_codec seg_codec 1 (by decide)).there _ _ h.segs),
      assocP, bindP_at ((list_codec need_codec 1 (by decide)).there _ _ h.needed),
      assocP, bindP_at (texts_codec.there _ _ h.runPath),
      assocP, bindP_at ((list_codec sym_codec 2 (by decide)).there _ _ h.syms),
      assocP, bindP_at ((list_codec chain_codec 2 (by decide)).there _ _ h.buckets),
      bindP_at (n1.there _ _ h.shift),
      assocP, bindP_at ((list_codec word_codec 1 (by decide)).there _ _ h.words),
      assocP, bindP_at ((list_codec rel_codec 2 (by decide)).there _ _ h.relocs),
      assocP, bindP_at ((list_codec slot_codec 2 (by decide)).there _ _ h.slots),
      assocP, bindP_at ((list_codec (num_codec 4 (by decide)) 1 (by decide)).there _ _ h.init),
      assocP, bindP_at ((list_codec (num_codec 4 (by decide)) 1 (by decide)).there _ _ h.fini),
      bindP_at (n2.there _ _ h.tlsSize), bindP_at (block_codec.there _ _ h.tls)]
  back l x t h := by
    have n2 := num_codec 2 (by decide)
    have n1 := num_codec 1 (by decide)
    unfold imgP at h
    obtain ⟨a0, t0, p0, h⟩ := bindP_some h
    by_cases hm : a0 = magicL
    case neg => rw [if_pos hm] at h; cases h
    rw [if_neg (by simpa using hm)] at h
    subst hm
    obtain ⟨a1, t1, p1, h⟩ := bindP_some h
    obtain ⟨a2, t2, p2, h⟩ := bindP_some h
    rw [assocP] at h; obtain ⟨a3, t3, p3, h⟩ := bindP_some h
    rw [assocP] at h; obtain ⟨a4, t4, p4, h⟩ := bindP_some h
    rw [assocP] at h; obtain ⟨a5, t5, p5, h⟩ := bindP_some h
    rw [assocP] at h; obtain ⟨a6, t6, p6, h⟩ := bindP_some h
    rw [assocP] at h; obtain ⟨a7, t7, p7, h⟩ := bindP_some h
    obtain ⟨a8, t8, p8, h⟩ := bindP_some h
    rw [assocP] at h; obtain ⟨a9, t9, p9, h⟩ := bindP_some h
    rw [assocP] at h; obtain ⟨a10, t10, p10, h⟩ := bindP_some h
    rw [assocP] at h; obtain ⟨a11, t11, p11, h⟩ := bindP_some h
    rw [assocP] at h; obtain ⟨a12, t12, p12, h⟩ := bindP_some h
    rw [assocP] at h; obtain ⟨a13, t13, p13, h⟩ := bindP_some h
    obtain ⟨a14, t14, p14, h⟩ := bindP_some h
    obtain ⟨a15, t15, p15, h⟩ := bindP_some h
    obtain ⟨rfl, rfl⟩ := Prod.mk.inj (Option.some.inj h)
    obtain ⟨_, q0⟩ := text_codec.back _ _ _ p0
    obtain ⟨o1, q1⟩ := text_codec.back _ _ _ p1
    obtain ⟨o2, q2⟩ := n1.back _ _ _ p2
    obtain ⟨o3, q3⟩ := (list_codec seg_codec 1 (by decide)).back _ _ _ p3
    obtain ⟨o4, q4⟩ := (list_codec need_codec 1 (by decide)).back _ _ _ p4
    obtain ⟨o5, q5⟩ := texts_codec.back _ _ _ p5
    obtain ⟨o6, q6⟩ := (list_codec sym_codec 2 (by decide)).back _ _ _ p6
    obtain ⟨o7, q7⟩ := (list_codec chain_codec 2 (by decide)).back _ _ _ p7
    obtain ⟨o8, q8⟩ := n1.back _ _ _ p8
    obtain ⟨o9, q9⟩ := (list_codec word_codec 1 (by decide)).back _ _ _ p9
    obtain ⟨o10, q10⟩ := (list_codec rel_codec 2 (by decide)).back _ _ _ p10
    obtain ⟨o11, q11⟩ := (list_codec slot_codec 2 (by decide)).back _ _ _ p11
    obtain ⟨o12, q12⟩ := (list_codec (num_codec 4 (by decide)) 1 (by decide)).back _ _ _ p12
    obtain ⟨o13, q13⟩ := (list_codec (num_codec 4 (by decide)) 1 (by decide)).back _ _ _ p13
    obtain ⟨o14, q14⟩ := n2.back _ _ _ p14
    obtain ⟨o15, q15⟩ := block_codec.back _ _ _ p15
    refine ⟨⟨o1, o2, o3, o4, o5, o6, o7, o8, o9, o10, o11, o12, o13, o14, o15⟩, ?_⟩
    rw [← formR_eq]
    unfold formR
    simp only [List.append_assoc (_ ++ _) _ t15, List.append_assoc (textL' _) _ t15, List.append_assoc (digitsL _ a2) _ t15, List.append_assoc (digitsL _ a8) _ t15, List.append_assoc (digitsL _ a14) _ t15]
    unfold numsL
    rw [q15, q14, q13, q12, q11, q10, q9, q8, q7, q6, q5, q4, q3, q2, q1, q0]

end Go.Proofs.Ytbliedldlimpgaa

/- Plain laws of an image that may be: it has a form, which is read back; nothing shorter or longer is read. Plain Lean, no program in sight. -/
namespace Go.Proofs.Ytbliedldlimpgaa
set_option linter.unusedVariables false
set_option linter.unusedSimpArgs false

theorem may_parts {im : ImgL} (h : mayL im = 0) : headB im = true ∧ segsB im.segs = true ∧ tlsB im = true ∧ symsB im = true ∧ tableB im = true ∧ relocsB im = true ∧ slotsB im = true ∧ runB im im.init = true ∧ runB im im.fini = true := by
  unfold mayL at h
  by_cases h1 : headB im = false
  · rw [if_pos h1] at h; cases h
  rw [if_neg h1] at h
  by_cases h2 : segsB im.segs = false
  · rw [if_pos h2] at h; cases h
  rw [if_neg h2] at h
  by_cases h3 : tlsB im = false
  · rw [if_pos h3] at h; cases h
  rw [if_neg h3] at h
  by_cases h4 : symsB im = false
  · rw [if_pos h4] at h; cases h
  rw [if_neg h4] at h
  by_cases h5 : tableB im = false
  · rw [if_pos h5] at h; cases h
  rw [if_neg h5] at h
  by_cases h6 : relocsB im = false
  · rw [if_pos h6] at h; cases h
  rw [if_neg h6] at h
  by_cases h7 : slotsB im = false
  · rw [if_pos h7] at h; cases h
  rw [if_neg h7] at h
  by_cases h8 : (runB im im.init && runB im im.fini) = false
  · rw [if_pos h8] at h; cases h
  simp only [Bool.not_eq_false, Bool.and_eq_true] at *
  exact ⟨h1, h2, h3, h4, h5, h6, h7, h8.1, h8.2⟩
theorem segsFrom_each : ∀ (l : List SegL) (e : Int), segsFrom e l = true → ∀ s ∈ l, segB s = true
  | [], _, _, s, hs => by cases hs
  | a :: l, e, h, s, hs => by
    simp only [segsFrom, Bool.and_eq_true] at h
    rcases List.mem_cons.1 hs with rfl | hs
    · exact h.1.2
    · exact segsFrom_each l _ h.2 s hs
theorem segB_good {s : SegL} (h : segB s = true) : 0 ≤ s.at_ ∧ s.at_ ≤ 65536 ∧ 1 ≤ s.size ∧ s.size ≤ 65536 ∧ 0 ≤ s.perm ∧ s.perm ≤ 7 ∧ s.at_ + s.size ≤ 65536 ∧ (s.bytes.length : Int) ≤ s.size := by
  simp only [segB, Bool.and_eq_true, decide_eq_true_eq] at h
  omega
theorem segs_good {im : ImgL} (h : segsB im.segs = true) : ∀ s ∈ im.segs, 0 ≤ s.at_ ∧ s.at_ ≤ 65536 ∧ 1 ≤ s.size ∧ s.size ≤ 65536 ∧ 0 ≤ s.perm ∧ s.perm ≤ 7 ∧ s.at_ + s.size ≤ 65536 ∧ (s.bytes.length : Int) ≤ s.size := fun s hs => by
  simp only [segsB, Bool.and_eq_true] at h
  exact segB_good (segsFrom_each _ _ h.2 s hs)
theorem holds_range {l : List SegL} {at_ n p : Int} (hl : ∀ s ∈ l, 0 ≤ s.at_ ∧ s.at_ ≤ 65536 ∧ 1 ≤ s.size ∧ s.size ≤ 65536 ∧ 0 ≤ s.perm ∧ s.perm ≤ 7 ∧ s.at_ + s.size ≤ 65536 ∧ (s.bytes.length : Int) ≤ s.size) (h : holdsB l at_ n p = true) : 0 ≤ at_ ∧ n ≤ 65536 ∧ at_ + n ≤ 65536 := by
  obtain ⟨s, hs, h2⟩ := List.any_eq_true.1 h
  have := hl s hs
  simp only [Bool.and_eq_true, decide_eq_true_eq] at h2
  omega
theorem symsFrom_each (segs : List SegL) (tls : Int) : ∀ (l done : List SymL), symsFrom segs tls done l = true → ∀ s ∈ l, symB segs tls s = true
  | [], _, _, s, hs => by cases hs
  | a :: l, done, h, s, hs => by
    simp only [symsFrom, Bool.and_eq_true] at h
    rcases List.mem_cons.1 hs with rfl | hs
    · exact h.1.1
    · exact symsFrom_each segs tls l _ h.2 s hs
theorem nameB_len {s : List UInt8} (h : nameB s = true) : 1 ≤ s.length ∧ s.length ≤ 64 := by
  simp only [nameB, Bool.and_eq_true, decide_eq_true_eq] at h; exact ⟨h.1.2, h.2⟩
theorem sizedB_len {s : List UInt8} (h : sizedB s = true) : 1 ≤ s.length ∧ s.length ≤ 200 := by
  simp only [sizedB, Bool.and_eq_true, decide_eq_true_eq] at h; exact h
theorem optB_len {s : List UInt8} (h : (decide (s = []) || nameB s) = true) : s.length ≤ 64 := by
  simp only [Bool.or_eq_true, decide_eq_true_eq] at h
  rcases h with h | h
  · rw [h]; decide
  · exact (nameB_len h).2
theorem sym_good {im : ImgL} (hg : segsB im.segs = true) (ht : tlsB im = true) {s : SymL} (h : symB im.segs im.tlsSize s = true) :
    (1 ≤ s.name.length ∧ s.name.length ≤ 64) ∧ s.version.length ≤ 64 ∧ (1 ≤ s.kind ∧ s.kind ≤ 3) ∧ (0 ≤ s.vis ∧ s.vis ≤ 2) ∧ (0 ≤ s.value ∧ s.value ≤ 65536) ∧ 0 ≤ s.size ∧ s.size ≤ 65536 := by
  simp only [symB, Bool.and_eq_true] at h
  obtain ⟨h1, h2⟩ := h
  simp only [symRightB, Bool.and_eq_true] at h1
  obtain ⟨⟨⟨⟨⟨⟨⟨⟨⟨a1, a2⟩, a3⟩, a4⟩, a5⟩, a6⟩, a7⟩, a8⟩, a9⟩, _⟩ := h1
  simp only [decide_eq_true_eq] at a3 a4 a5 a6 a7 a8
  refine ⟨nameB_len a1, optB_len a2, ⟨a3, a4⟩, ⟨a5, a6⟩, ?_⟩
  cases hd : s.defined with
  | false =>
    rw [hd] at a9
    simp at a9
    omega
  | true =>
    rw [hd] at h2
    simp only [Bool.not_true, Bool.false_or] at h2
    simp only [tlsB, Bool.and_eq_true, decide_eq_true_eq] at ht
    by_cases hk : s.kind = 3
    · rw [if_pos hk] at h2
      simp only [Bool.and_eq_true, decide_eq_true_eq] at h2
      omega
    · rw [if_neg hk] at h2
      have := holds_range (segs_good hg) h2
      omega
theorem relocsFrom_each (im : ImgL) : ∀ (l : List RelL) (e : Int), relocsFrom im e l = true → ∀ r ∈ l, relocB im r = true
  | [], _, _, s, hs => by cases hs
  | a :: l, e, h, s, hs => by
    simp only [relocsFrom, Bool.and_eq_true] at h
    rcases List.mem_cons.1 hs with rfl | hs
    · exact h.1.2
    · exact relocsFrom_each im l _ h.2 s hs
theorem slotsFrom_each (im : ImgL) : ∀ (l : List SlotL) (e : Int), slotsFrom im e l = true → ∀ r ∈ l, slotB im r = true
  | [], _, _, s, hs => by cases hs
  | a :: l, e, h, s, hs => by
    simp only [slotsFrom, Bool.and_eq_true] at h
    rcases List.mem_cons.1 hs with rfl | hs
    · exact h.1.2
    · exact slotsFrom_each im l _ h.2 s hs
theorem symAt_range {im : ImgL} {i : Int} {s : SymL} (h : symAt im i = some s) : 0 ≤ i ∧ i < im.syms.length ∧ s ∈ im.syms := by
  unfold symAt at h
  by_cases hi : i < 0
  · rw [if_pos hi] at h; cases h
  · rw [if_neg hi] at h
    have := (List.getElem?_eq_some_iff.1 h).1
    exact ⟨by omega, by omega, List.mem_of_getElem? h⟩
theorem reloc_good {im : ImgL} (hg : segsB im.segs = true) (hs : im.syms.length ≤ 512) {r : RelL} (h : relocB im r = true) :
    (0 ≤ r.at_ ∧ r.at_ + wideL im r ≤ 65536) ∧ (0 ≤ r.kind ∧ r.kind ≤ 7) ∧ (-1 ≤ r.sym ∧ r.sym ≤ 512) ∧ (-4294967296 ≤ r.add ∧ r.add ≤ 4294967296) := by
  unfold relocB at h
  by_cases hk : r.kind = 1
  · rw [if_pos hk] at h
    simp only [Bool.and_eq_true, decide_eq_true_eq] at h
    have := holds_range (segs_good hg) h.2
    have hw : wideL im r = 8 := by
      unfold wideL
      split
      · rw [if_neg (by omega)]
      · rfl
    omega
  · rw [if_neg hk] at h
    cases hsy : symAt im r.sym with
    | none => rw [hsy] at h; cases h
    | some s =>
      rw [hsy] at h
      have hr := symAt_range hsy
      simp only [Bool.and_eq_true, decide_eq_true_eq] at h
      obtain ⟨⟨h1, h2⟩, h3⟩ := h
      have hw : wideL im r = if r.kind = 2 then s.size else 8 := by rw [wideL, hsy]
      by_cases k1 : r.kind = 0 ∨ r.kind = 6
      · rw [if_pos k1] at h3
        simp only [Bool.and_eq_true] at h3
        have := holds_range (segs_good hg) h3.2
        rw [if_neg (by omega)] at hw
        omega
      rw [if_neg k1] at h3
      by_cases k2 : r.kind = 7
      · rw [if_pos k2] at h3
        simp only [Bool.and_eq_true] at h3
        have := holds_range (segs_good hg) h3.2
        rw [if_neg (by omega)] at hw
        omega
      rw [if_neg k2] at h3
      by_cases k3 : r.kind = 3
      · rw [if_pos k3] at h3
        simp only [Bool.and_eq_true] at h3
        have := holds_range (segs_good hg) h3.2
        rw [if_neg (by omega)] at hw
        omega
      rw [if_neg k3] at h3
      by_cases k4 : r.kind = 4 ∨ r.kind = 5
      · rw [if_pos k4] at h3
        simp only [Bool.and_eq_true] at h3
        have := holds_range (segs_good hg) h3.2
        rw [if_neg (by omega)] at hw
        omega
      rw [if_neg k4] at h3
      by_cases k5 : r.kind = 2
      · rw [if_pos k5] at h3
        simp only [Bool.and_eq_true] at h3
        have := holds_range (segs_good hg) h3.2
        rw [if_pos k5] at hw
        omega
      · rw [if_neg k5] at h3; cases h3
theorem slot_good {im : ImgL} (hg : segsB im.segs = true) (hs : im.syms.length ≤ 512) {s : SlotL} (h : slotB im s = true) :
    (0 ≤ s.at_ ∧ s.at_ ≤ 65536) ∧ (0 ≤ s.sym ∧ s.sym < im.syms.length) ∧ (0 ≤ s.stub ∧ s.stub ≤ 65536) := by
  simp only [slotB, Bool.and_eq_true] at h
  obtain ⟨⟨⟨h1, h2⟩, h3⟩, _⟩ := h
  have a := holds_range (segs_good hg) h2
  have b := holds_range (segs_good hg) h3
  cases hsy : symAt im s.sym with
  | none => rw [hsy] at h1; cases h1
  | some x =>
    have hr := symAt_range hsy
    omega
theorem chain_good {im : ImgL} (h : tableB im = true) : ∀ c ∈ im.buckets, c.length ≤ 512 ∧ ∀ i ∈ c, 0 ≤ i ∧ i < 512 := by
  have hd : ∀ c ∈ im.buckets, c.length ≤ (im.buckets.map List.length).sum := by
    intro c hc
    generalize im.buckets = bs at hc
    induction bs with
    | nil => cases hc
    | cons b bs ih =>
      simp only [List.map_cons, List.sum_cons]
      rcases List.mem_cons.1 hc with rfl | hc
      · omega
      · have := ih hc; omega
  simp only [tableB, Bool.and_eq_true, decide_eq_true_eq] at h
  obtain ⟨⟨⟨⟨⟨h1, _⟩, _⟩, _⟩, h5⟩, h6⟩ := h
  have hf := List.length_filter_le seenB im.syms
  have h7 := (chainsB_iff im im.buckets 0).1 h5
  intro c hc
  refine ⟨by have := hd c hc; omega, fun i hi => ?_⟩
  obtain ⟨j, hj⟩ := List.getElem?_of_mem hc
  obtain ⟨k, hk, rfl, _⟩ := entry_home.1 (h7.2 j c hj i hi)
  have := ((seenK_mem _ _ _).1 hk).1
  omega
theorem okN_small {size : Nat} {n : Int} (hs : size ≤ 4) (h0 : 0 ≤ n) (h1 : n < (256 : Int) ^ size) : okN size n := by
  unfold okN; rw [if_neg (by omega)]; exact ⟨h0, h1⟩
/-- an image that may be has a form -/
theorem may_ok {im : ImgL} (h : mayL im = 0) (hw : ∀ x ∈ im.words, 0 ≤ x ∧ x < 18446744073709551616) : OkImg im := by
  obtain ⟨hh, hg, ht, hs, htb, hr, hsl, hi, hf⟩ := may_parts h
  have p1 : (256 : Int) ^ 1 = 256 := by decide
  have p2 : (256 : Int) ^ 2 = 65536 := by decide
  have p4 : (256 : Int) ^ 4 = 4294967296 := by decide
  have q1 : 256 ^ 1 = 256 := by decide
  have q2 : 256 ^ 2 = 65536 := by decide
  have hch := chain_good htb
  have hgs := segs_good hg
  have run_good : ∀ l, runB im l = true → okLen 1 l.length ∧ ∀ x ∈ l, okN 4 x := by
    intro l hl
    simp only [runB, Bool.and_eq_true, decide_eq_true_eq] at hl
    refine ⟨by unfold okLen; omega, fun x hx => ?_⟩
    have := holds_range hgs (List.all_eq_true.1 hl.2 x hx)
    exact okN_small (by decide) this.1 (by omega)
  have hnames : ∀ l : List (List UInt8), l.length ≤ 16 → (∀ x ∈ l, x.length ≤ 4096) → okTexts l := fun l h1 h2 => ⟨by unfold okLen; omega, h2⟩
  have hh' := hh
  simp only [headB, Bool.and_eq_true] at hh
  obtain ⟨⟨⟨⟨⟨⟨a1, a2⟩, a3⟩, a4⟩, a5⟩, a6⟩, a7⟩ := hh
  simp only [decide_eq_true_eq] at a2 a3 a4 a5
  have hg' := hg
  simp only [segsB, Bool.and_eq_true, decide_eq_true_eq] at hg'
  have ht' := ht
  simp only [tlsB, Bool.and_eq_true, decide_eq_true_eq] at ht'
  have hs' := hs
  simp only [symsB, Bool.and_eq_true, decide_eq_true_eq] at hs'
  have htb' := htb
  simp only [tableB, Bool.and_eq_true, decide_eq_true_eq] at htb'
  obtain ⟨⟨⟨⟨⟨_, _⟩, b3⟩, b4⟩, _⟩, _⟩ := htb'
  simp only [sieveB, Bool.and_eq_true, decide_eq_true_eq] at b4
  obtain ⟨⟨b5, b6⟩, b7⟩ := b4
  have b8 : im.words.length ≤ 64 := by
    simp only [Bool.or_eq_true, decide_eq_true_eq] at b5; omega
  have hr' := hr
  simp only [relocsB, Bool.and_eq_true, decide_eq_true_eq] at hr'
  have hsl' := hsl
  simp only [slotsB, Bool.and_eq_true, decide_eq_true_eq] at hsl'
  refine ⟨by have := optB_len a1; omega, okN_small (by decide) a2 (by omega), ⟨by unfold okLen; omega, fun s hm => ?_⟩, ⟨by unfold okLen; omega, fun n hm => ?_⟩, hnames _ a5 (fun x hx => ?_), ⟨by unfold okLen; omega, fun s hm => ?_⟩,
    ⟨by unfold okLen; omega, fun c hc => ⟨by have := (hch c hc).1; unfold okLen; omega, fun x hx => ?_⟩⟩, okN_small (by decide) (by omega) (by omega), ⟨by unfold okLen; omega, hw⟩, ⟨by unfold okLen; omega, fun r hm => ?_⟩, ⟨by unfold okLen; omega, fun s hm => ?_⟩,
    run_good _ hi, run_good _ hf, okN_small (by decide) (by omega) (by omega), by omega⟩
  · have := hgs s hm
    exact ⟨okN_small (by decide) (by omega) (by omega), okN_small (by decide) (by omega) (by omega), okN_small (by decide) (by omega) (by omega), by omega⟩
  · have := List.all_eq_true.1 a6 n hm
    simp only [needB, Bool.and_eq_true, decide_eq_true_eq] at this
    obtain ⟨⟨c1, c2⟩, c3⟩ := this
    refine ⟨by have := sizedB_len c1; omega, hnames _ c2 (fun x hx => ?_)⟩
    have := nameB_len (List.all_eq_true.1 c3 x hx); omega
  · have := sizedB_len (List.all_eq_true.1 a7 x hx); omega
  · have := sym_good hg ht (symsFrom_each _ _ _ _ hs'.2 s hm)
    exact ⟨by omega, by omega, okN_small (by decide) (by omega) (by omega), okN_small (by decide) (by omega) (by omega), by unfold okN; rw [if_pos rfl]; omega, by unfold okN; rw [if_pos rfl]; omega⟩
  · have := (hch c hc).2 x hx
    exact okN_small (by decide) (by omega) (by omega)
  · have := reloc_good hg hs'.1 (relocsFrom_each _ _ _ hr'.2 r hm)
    have hat : r.at_ ≤ 9223372036854775807 := by
      have hw : 0 ≤ wideL im r := by
        unfold wideL
        split
        · rename_i s hsy
          have := sym_good hg ht (symsFrom_each _ _ _ _ hs'.2 s (symAt_range hsy).2.2)
          split <;> omega
        · omega
      omega
    exact ⟨okN_small (by decide) (by omega) (by omega), by unfold okN; rw [if_pos rfl]; omega, by unfold okN; rw [if_pos rfl]; omega, by unfold okN; rw [if_pos rfl]; omega⟩
  · have := slot_good hg hs'.1 (slotsFrom_each _ _ _ hsl'.2 s hm)
    exact ⟨okN_small (by decide) (by omega) (by omega), okN_small (by decide) (by omega) (by omega), okN_small (by decide) (by omega) (by omega)⟩
/-- bytes that are an image's, whole -/
def wholeP (b : List UInt8) : Option ImgL := match imgP b with
  | some (im, []) => some im
  | _ => none
theorem whole_form {im : ImgL} (h : OkImg im) : wholeP (formL im) = some im := by
  have := img_codec.there im [] h
  rw [List.append_nil] at this
  rw [wholeP, this]
theorem whole_back {b : List UInt8} {im : ImgL} (h : wholeP b = some im) : OkImg im ∧ formL im = b := by
  unfold wholeP at h
  cases hp : imgP b with
  | none => rw [hp] at h; cases h
  | some q =>
    obtain ⟨x, t⟩ := q
    rw [hp] at h
    cases t with
    | cons c t => cases h
    | nil =>
      cases Option.some.inj h
      have := img_codec.back _ _ _ hp
      rwa [List.append_nil] at this
theorem whole_more {im : ImgL} (h : OkImg im) {more : List UInt8} (hm : more ≠ []) : wholeP (formL im ++ more) = none := by
  rw [wholeP, img_codec.there im more h]
  cases more with
  | nil => exact absurd rfl hm
  | cons c t => rfl
theorem whole_cut {im : ImgL} (h : OkImg im) {n : Nat} (hn : n < (formL im).length) : wholeP ((formL im).take n) = none := by
  cases hw : wholeP ((formL im).take n) with
  | none => rfl
  | some x =>
    exfalso
    obtain ⟨h1, h2⟩ := whole_back hw
    have h3 := img_codec.there x ((formL im).drop n) h1
    rw [h2, List.take_append_drop] at h3
    have h4 := img_codec.there im [] h
    rw [List.append_nil, h3] at h4
    have h5 := (Prod.mk.inj (Option.some.inj h4)).2
    have : ((formL im).drop n).length = 0 := by rw [h5]; rfl
    rw [List.length_drop] at this
    omega
theorem form_inj {x y : ImgL} (hx : OkImg x) (hy : OkImg y) (h : formL x = formL y) : x = y := by
  have h1 := whole_form hx
  rw [h, whole_form hy] at h1
  exact (Option.some.inj h1).symm
theorem form_pos (im : ImgL) : 0 < (formL im).length := by
  rw [← formR_eq]
  simp [formR, textL', digitsL_len]
  omega

end Go.Proofs.Ytbliedldlimpgaa

namespace Go.Proofs.Ytbliedldlimpgaa
set_option linter.unusedVariables false
set_option linter.unusedSimpArgs false
open Go.RowKit

/-- a writer at block b, sound, with the bytes l; the blocks for which S holds are none of its own -/
structure WB (b : Nat) (S : Nat → Prop) (w : World) (l : List UInt8) : Prop where
  ex : ∃ v, w.heap[b]? = some (.cells #[.int .i64 0, v] 130 (0, 0)) ∧ OwnK 5 kByte (b + 1) (· = b) w v l ∧ ∀ x, S x → x < w.heap.size ∧ x ≠ b ∧ v.ownBlock ≠ some x
section
variable {b : Nat} {S S' : Nat → Prop} {w w' : World} {l : List UInt8}
theorem WB.lt (h : WB b S w l) : b < w.heap.size := by
  obtain ⟨v, h1, _⟩ := h.ex
  rcases Nat.lt_or_ge b w.heap.size with h' | h'
  · exact h'
  · rw [Array.getElem?_eq_none h'] at h1; cases h1
theorem WB.less (h : WB b S w l) (hi : ∀ x, S' x → S x) : WB b S' w l := by
  obtain ⟨v, h1, h2, h3⟩ := h.ex
  exact ⟨v, h1, h2, fun x hx => h3 x (hi x hx)⟩
theorem WB.below (h : WB b S w l) (hb : Below w.heap.size w w') : WB b S w' l := by
  have hlt := h.lt
  obtain ⟨v, h1, h2, h3⟩ := h.ex
  exact ⟨v, (hb.block b hlt).trans h1, h2.below hb, fun x hx => ⟨Nat.lt_of_lt_of_le (h3 x hx).1 hb.size, (h3 x hx).2⟩⟩
theorem WB.alloc (h : WB b S w l) (o : Obj) : WB b (fun x => S x ∨ x = w.heap.size) (w.alloc o) l := by
  have hlt := h.lt
  obtain ⟨v, h1, h2, h3⟩ := h.ex
  refine ⟨v, (heap_alloc_old w o hlt).trans h1, h2.alloc o, fun x hx => ?_⟩
  rcases hx with hx | rfl
  · exact ⟨by have := (h3 x hx).1; rw [World.size_alloc]; omega, (h3 x hx).2⟩
  · exact ⟨by simp, by omega, fun e => by have := (h2.lt _ e).2; omega⟩
theorem WB.inS (h : WB b S w l) {x : Nat} (hx : S x) : x < w.heap.size := by
  obtain ⟨v, _, _, h3⟩ := h.ex
  exact (h3 x hx).1
theorem WB.put {v v' : Value} (h1 : w.heap[b]? = some (.cells #[.int .i64 0, v] 130 (0, 0))) (h2 : OwnK 5 kByte (b + 1) (· = b) w v' l) (h3 : ∀ x, S x → x < w.heap.size ∧ x ≠ b ∧ v'.ownBlock ≠ some x) : WB b S (w.setCell ⟨b, 1, none⟩ v') l := by
  refine ⟨v', by simp [World.setCell, Array.getElem?_modify, h1], h2.step ((Step.refl (fun x => x ≠ b) w).setCell (p := ⟨b, 1, none⟩) (by simp) v') (fun x _ h => h), fun x hx => ?_⟩
  obtain ⟨a1, a2⟩ := h3 x hx
  exact ⟨by rw [World.size_setCell]; exact a1, a2⟩
theorem WB.sound (h : WB b S w l) : w.cell? ⟨b, 0, none⟩ = some (.int .i64 0) := by
  obtain ⟨v, h1, _⟩ := h.ex
  rw [Lib.cell_of_heap h1]; rfl
end

set_option maxHeartbeats 1000000 in
theorem sound_any (w : World) (b : Nat) (x : Int) (hc : w.cell? ⟨b, 0, none⟩ = some (.int .i64 x)) :
    Calls Try.prog 84 #[.pointer (some ⟨b, 0, none⟩)] w fun e w' => e = .returned (.bool (x == 0)) ∧ w' = w := by
  have hb := World.block_lt_of_cell? _ _ hc
  go_enter Try.func84, Try.ntmps84
  go_wp2
  go_ret
  exact ⟨rfl, rfl⟩

set_option maxHeartbeats 1000000 in
theorem sized_any (w : World) (n : Nat) (hn : n = 1 ∨ n = 2 ∨ n = 4 ∨ n = 8) :
    Calls Try.prog 83 #[.int .i64 (n : Int)] w fun e w' => e = .returned (.bool true) ∧ w' = w := by
  rcases hn with rfl | rfl | rfl | rfl
  all_goals
    go_enter Try.func83, Try.ntmps83
    go_wp2
    go_ret
    exact ⟨rfl, rfl⟩

set_option maxHeartbeats 2000000 in
theorem fits_any (w : World) (n : Nat) (x : Int) (hn : n = 1 ∨ n = 2 ∨ n = 4 ∨ n = 8) (hx : okN n x) :
    Calls Try.prog 85 #[.int .i64 x, .int .i64 (n : Int)] w fun e w' => e = .returned (.bool true) ∧ w' = w := by
  have p1 : (256 : Int) ^ 1 = 256 := by decide
  have p2 : (256 : Int) ^ 2 = 65536 := by decide
  have p4 : (256 : Int) ^ 4 = 4294967296 := by decide
  rcases hn with rfl | rfl | rfl | rfl
  case inr.inr.inr =>
    clear hx p1 p2 p4
    go_enter Try.func85, Try.ntmps85
    go_wp2
    go_ret
    exact ⟨rfl, rfl⟩
  all_goals
    unfold okN at hx
    rw [if_neg (by decide)] at hx
    simp only [p1, p2, p4] at hx
    obtain ⟨h0, h1⟩ := hx
    have hd : decide (0 ≤ x) = true := by rw [decide_eq_true_eq]; exact h0
    clear p1 p2 p4
  · have hq : (x / 256 == 0) = true := by rw [beq_iff_eq]; omega
    go_enter Try.func85, Try.ntmps85
    go_wp2
    go_ret
    exact ⟨rfl, rfl⟩
  · have hq : (x / 65536 == 0) = true := by rw [beq_iff_eq]; omega
    go_enter Try.func85, Try.ntmps85
    go_wp2
    go_ret
    exact ⟨rfl, rfl⟩
  · have hq : (x / 4294967296 == 0) = true := by rw [beq_iff_eq]; omega
    go_enter Try.func85, Try.ntmps85
    go_wp2
    go_ret
    exact ⟨rfl, rfl⟩

theorem flag_any (w : World) (x : Bool) : Calls Try.prog 38 #[.bool x] w fun e w' => e = .returned (.int .i64 (oneL x)) ∧ w' = w := by
  cases x
  all_goals
    go_enter Try.func38, Try.ntmps38
    go_wp2
    go_ret
    exact ⟨rfl, rfl⟩

end Go.Proofs.Ytbliedldlimpgaa

namespace Go.Proofs.Ytbliedldlimpgaa
set_option linter.unusedVariables false
set_option linter.unusedSimpArgs false
open Go.RowKit

theorem digitsL_succ (size : Nat) (n : Int) (i : Nat) (h : i < size) : (digitsL size n).take (i + 1) = (digitsL size n).take i ++ [UInt8.ofNat ((n % 18446744073709551616).toNat / 256 ^ i)] := by
  have hl : i < (digitsL size n).length := by rw [digitsL_len]; exact h
  rw [List.take_succ_eq_append_getElem hl]
  congr 2
  simp [digitsL]
theorem shr_byte (n : Int) (i : Nat) (h : i < 8) : IntKind.u8.wrap (n / 2 ^ (8 * i)) = ((UInt8.ofNat ((n % 18446744073709551616).toNat / 256 ^ i)).toNat : Int) := by
  have e : ∀ m : Nat, ((UInt8.ofNat m).toNat : Int) = (m : Int) % 256 := fun m => by simp
  rw [e, IntKind.wrap_u8']
  have : i = 0 ∨ i = 1 ∨ i = 2 ∨ i = 3 ∨ i = 4 ∨ i = 5 ∨ i = 6 ∨ i = 7 := by omega
  rcases this with rfl | rfl | rfl | rfl | rfl | rfl | rfl | rfl <;> simp only [Nat.mul_zero, Nat.mul_one, Nat.reduceMul, Nat.reducePow, Int.reducePow, Nat.pow_zero, Int.pow_zero] <;> omega
theorem numsL_take (size : Nat) (ns : List Int) (k : Nat) (n : Int) (hn : ns[k]? = some n) : numsL size (ns.take (k + 1)) = numsL size (ns.take k) ++ digitsL size n := by
  obtain ⟨h, rfl⟩ := List.getElem?_eq_some_iff.1 hn
  rw [numsL, List.take_succ_eq_append_getElem h, List.map_append, List.flatten_append]; simp [numsL]
theorem numsL_len (size : Nat) (ns : List Int) : (numsL size ns).length = size * ns.length := by
  induction ns with
  | nil => simp [numsL]
  | cons n ns ih => 
    have : numsL size (n :: ns) = digitsL size n ++ numsL size ns := by simp [numsL]
    rw [this, List.length_append, ih, digitsL_len, List.length_cons, Nat.mul_succ, Nat.add_comm]

set_option maxHeartbeats 16000000 in
set_option maxRecDepth 100000 in
theorem wnum_any (b : Nat) (S : Nat → Prop) (w : World) (l : List UInt8) (size : Nat) (ns : List Int) (u : Value) (h : WB b S w l) (hu : LB kInt S w u ns) (hs : size = 1 ∨ size = 2 ∨ size = 4 ∨ size = 8)
    (hf : ∀ n ∈ ns, okN size n) (hr : ∀ n ∈ ns, -9223372036854775808 ≤ n ∧ n ≤ 9223372036854775807) (hlen : l.length + size * ns.length ≤ 1000000000) :
    Calls Try.prog 36 #[.pointer (some ⟨b, 0, none⟩), .int .i64 (size : Int), u] w fun e w' => e = .returned (.tuple #[]) ∧ WB b S w' (l ++ numsL size ns) ∧ Step S w w' := by
  obtain ⟨ua, ub, uoff, ucap, rfl, hum, huc, hat⟩ := hu.at
  have Hat := Lib.hid hat
  have Hf := Lib.hid hf
  have Hr := Lib.hid hr
  have H := Lib.hid h
  have hs8 : 1 ≤ size ∧ size ≤ 8 := by omega
  have HS := Lib.hid (fun w => sized_any w size hs)
  have HF := Lib.hid (fun w x hx => fits_any w size x hs hx)
  have hc0 := h.sound
  have hbl := h.lt
  clear hu hat hf hr h hs
  go_enter Try.func36, Try.ntmps36
  go_wp2_with fail
  refine (HS.out _).mono ?_
  rintro e w2 ⟨rfl, rfl⟩
  clear hc0
  go_wp2_with fail
  go_loopw [8, 18] (fun _ i wr => ∃ k : Nat, i = .int .i64 k ∧ k ≤ ns.length ∧ WB b S wr (l ++ numsL size (ns.take k)) ∧ Step S w2 wr) (fun _ i _ => ns.length - (intOf i).toNat)
  case atStart => exact ⟨0, rfl, Nat.zero_le _, by simpa [numsL] using H.out, Step.refl _ _⟩
  case round =>
    obtain ⟨k, rfl, hk, hw, hst⟩ := hrel
    have Hw := Lib.hid hw
    have Hst := Lib.hid hst
    have hc0 := hw.sound
    have hbr := hw.lt
    by_cases hlt : k < ns.length
    · obtain rfl := Hat.out.addr (by omega)
      obtain ⟨n, hn⟩ : ∃ n, ns[k]? = some n := ⟨_, List.getElem?_eq_getElem hlt⟩
      have g := (Hst.out.cell (p := ⟨ub, uoff + k, none⟩) (Hat.out.inS (by omega))).trans (Hat.out.int1 k n hn)
      have hfn := Hf.out n (List.mem_of_getElem? hn)
      have hrn := Hr.out n (List.mem_of_getElem? hn)
      have Hnt := Lib.hid (numsL_take size ns k n hn)
      have hkl := numsL_len size (ns.take k)
      rw [List.length_take, Nat.min_eq_left hk] at hkl
      have hmul : size * k + size ≤ size * ns.length := by rw [← Nat.mul_succ]; exact Nat.mul_le_mul_left _ hlt
      have HFn := Lib.hid (fun w => HF.out w n hfn)
      clear hn hw hst hfn
      go_wp2_with fail
      refine (sound_any _ b 0 hc0).mono ?_
      rintro e w3 ⟨rfl, rfl⟩
      go_wp2_with fail
      refine (HFn.out _).mono ?_
      rintro e w3 ⟨rfl, rfl⟩
      clear hc0 g
      go_wp2_with fail
      go_loopw [8] (fun i wi => ∃ j : Nat, i = .int .i64 j ∧ j ≤ size ∧ WB b S wi (l ++ numsL size (ns.take k) ++ (digitsL size n).take j) ∧ Step S w2 wi) (fun i _ => size - (intOf i).toNat)
      case atStart => exact ⟨0, rfl, Nat.zero_le _, by have := Hw.out; simpa using this, Hst.out⟩
      case round =>
        obtain ⟨j, rfl, hj, hw, hst⟩ := hrel
        have Hw2 := Lib.hid hw
        have Hst2 := Lib.hid hst
        have hc0 := hw.sound
        have hbr2 := hw.lt
        clear hw hst
        by_cases hj2 : j < size
        · have hd1 : decide ((j : Int) < (size : Int)) = true := by rw [decide_eq_true_eq]; omega
          have Hds := Lib.hid (digitsL_succ size n j hj2)
          have hsb := shr_byte n j (by omega)
          obtain ⟨cb, hcb⟩ : ∃ cb : UInt8, UInt8.ofNat ((n % 18446744073709551616).toNat / 256 ^ j) = cb := ⟨_, rfl⟩
          rw [hcb] at hsb Hds
          clear hcb
          have hq0 : (0 : Int) ≤ 8 * (j : Int) := by omega
          have hq1 : 8 * (j : Int) ≤ 64 := by omega
          have hq2 : IntKind.i64.wrap (8 * (j : Int)) = 8 * (j : Int) := by rw [IntKind.wrap_i64]; omega
          have hq3 : (8 * (j : Int)).toNat = 8 * j := by omega
          have hdl : ((digitsL size n).take j).length = j := by rw [List.length_take, digitsL_len]; omega
          obtain ⟨v, hv1, hv2, hv3⟩ := Hw2.out.ex
          have Hv1 := Lib.hid hv1
          have Hv2 := Lib.hid hv2
          have Hv3 := Lib.hid hv3
          have hc1 : wr.cell? ⟨b, 1, none⟩ = some v := by rw [Lib.cell_of_heap hv1]; rfl
          obtain ⟨va, vc, hvf⟩ := hv2.form
          obtain ⟨L, hL⟩ : ∃ L, (l ++ numsL size (ns.take k) ++ (digitsL size n).take j).length = L := ⟨_, rfl⟩
          have hLb : L ≤ 1000000000 := by rw [← hL]; simp only [List.length_append]; omega
          have HL := Lib.hid hL
          rw [hL] at hvf
          clear hL
          subst hvf
          clear hv1 hv2 hv3
          go_wp2_with fail
          refine (sound_any _ b 0 hc0).mono ?_
          rintro e w3 ⟨rfl, rfl⟩
          go_wp2_with fail
          have fx : w3.frozen? ⟨b, 1, none⟩ = false := Lib.frozen_of_heap Hv1.out 1
          refine wp_region_phase 12 (by kernel_rfl) (by kernel_rfl) ?_
          simp only [List.take_succ_cons, List.take_zero, List.drop_succ_cons, List.drop_zero, List.take_nil, List.drop_nil]
          refine wpAny_of_held (S := fun w' => w'.cell? ⟨b, 1, none⟩ = some (.slice va L vc)) _ _ _ _ ?_
          have hHeld : (fun w' : World => w'.cell? ⟨b, 1, none⟩ = some (.slice va L vc)) w3.drew := hc1
          show wpAnyH _ _ _ _ _ _ _ _ (World.drew _)
          have Hd2 := Lib.hid Hv2.out.drew
          have Hd1 : Hid (w3.drew.heap[b]? = _) := Lib.hid Hv1.out
          have Hd3 : Hid (∀ x, S x → x < w3.drew.heap.size ∧ x ≠ b ∧ Value.ownBlock (.slice va L vc) ≠ some x) := Lib.hid Hv3.out
          have hst3 := Lib.hid Hst2.out.drew
          have hbd : b < w3.drew.heap.size := hbr2
          generalize w3.drew = wd at *
          refine wpAnyH_take (i := 0) (v := ?_) rfl (by kernel_rfl) (by kernel_rfl) (by kernel_rfl) (fun _ _ _ h => h) (Or.inl ⟨by rfl, ?_⟩) hHeld ?_
          rotate_left
          · (intro w hSw; (try dsimp only at hSw); go_simp; try with_reducible rfl)
          try simp only [Act.put, List.setIfInBounds_toArray, List.set_cons_zero, List.set_cons_succ]
          refine wpAnyH_take (i := 1) (v := ?_) rfl (by kernel_rfl) (by kernel_rfl) (by kernel_rfl) (fun _ _ _ h => h) (Or.inl ⟨by rfl, ?_⟩) hHeld ?_
          rotate_left
          · (intro w hSw; (try dsimp only at hSw); go_simp; try with_reducible rfl)
          try simp only [Act.put, List.setIfInBounds_toArray, List.set_cons_zero, List.set_cons_succ]
          refine wpAnyH_take (i := 2) (v := ?_) rfl (by kernel_rfl) (by kernel_rfl) (by kernel_rfl) (fun _ _ _ h => h) (Or.inl ⟨by rfl, ?_⟩) hHeld ?_
          rotate_left
          · (intro w hSw; (try dsimp only at hSw); go_simp; try with_reducible rfl)
          try simp only [Act.put, List.setIfInBounds_toArray, List.set_cons_zero, List.set_cons_succ]
          refine wpAnyH_take (i := 3) (v := ?_) rfl (by kernel_rfl) (by kernel_rfl) (by kernel_rfl) (fun _ _ _ h => h) (Or.inl ⟨by rfl, ?_⟩) hHeld ?_
          rotate_left
          · (intro w hSw; (try dsimp only at hSw); go_simp; try with_reducible rfl)
          try simp only [Act.put, List.setIfInBounds_toArray, List.set_cons_zero, List.set_cons_succ]
          refine wpAnyH_take (i := 4) (v := ?_) rfl (by kernel_rfl) (by kernel_rfl) (by kernel_rfl) (fun _ _ _ h => h) (Or.inl ⟨by rfl, ?_⟩) hHeld ?_
          rotate_left
          · (intro w hSw; (try dsimp only at hSw); go_simp; try with_reducible rfl)
          try simp only [Act.put, List.setIfInBounds_toArray, List.set_cons_zero, List.set_cons_succ]
          refine wpAnyH_take (i := 5) (v := ?_) rfl (by kernel_rfl) (by kernel_rfl) (by kernel_rfl) (fun _ _ _ h => h) (Or.inl ⟨by rfl, ?_⟩) hHeld ?_
          rotate_left
          · (intro w hSw; (try dsimp only at hSw); go_simp; try with_reducible rfl)
          try simp only [Act.put, List.setIfInBounds_toArray, List.set_cons_zero, List.set_cons_succ]
          refine wpAnyH_take (i := 6) (v := ?_) rfl (by kernel_rfl) (by kernel_rfl) (by kernel_rfl) (fun _ _ _ h => h) (Or.inl ⟨by rfl, ?_⟩) hHeld ?_
          rotate_left
          · (intro w hSw; (try dsimp only at hSw); go_simp; try with_reducible rfl)
          try simp only [Act.put, List.setIfInBounds_toArray, List.set_cons_zero, List.set_cons_succ]
          refine wpAnyH_take (i := 7) (v := ?_) rfl (by kernel_rfl) (by kernel_rfl) (by kernel_rfl) (fun _ _ _ h => h) (Or.inl ⟨by rfl, ?_⟩) hHeld ?_
          rotate_left
          · (intro w hSw; (try dsimp only at hSw); go_simp; try with_reducible rfl)
          try simp only [Act.put, List.setIfInBounds_toArray, List.set_cons_zero, List.set_cons_succ]
          refine wpAnyH_take (i := 8) (v := ?_) rfl (by kernel_rfl) (by kernel_rfl) (by kernel_rfl) (fun _ _ _ h => h) (Or.inl ⟨by rfl, ?_⟩) hHeld ?_
          rotate_left
          · (intro w hSw; (try dsimp only at hSw); go_simp; try with_reducible rfl)
          try simp only [Act.put, List.setIfInBounds_toArray, List.set_cons_zero, List.set_cons_succ]
          refine wpAnyH_take (i := 9) (v := ?_) rfl (by kernel_rfl) (by kernel_rfl) (by kernel_rfl) (fun _ _ _ h => h) (Or.inl ⟨by rfl, ?_⟩) hHeld ?_
          rotate_left
          · (intro w hSw; (try dsimp only at hSw); go_simp; try with_reducible rfl)
          try simp only [Act.put, List.setIfInBounds_toArray, List.set_cons_zero, List.set_cons_succ]
          clear hsb hq0 hq1 hq2 hq3
          refine wpAnyH_ready (rs := [10]) (by kernel_rfl) (by simp) ?_
          refine AllReadyH.cons rfl (fun K hK => ?_) AllReadyH.nil
          go_simp
          have Hd4 := Lib.hid ((heap_alloc_old wd (.cells #[.int .u8 cb.toNat] 5 (0, 0)) hbd).trans Hd1.out)
          have Hd5 := Lib.hid (Hd2.out.alloc (.cells #[.int .u8 cb.toNat] 5 (0, 0)))
          have Hd6 := Lib.hid (heap_alloc_new wd (.cells #[.int .u8 cb.toNat] 5 (0, 0)))
          have hst4 := Lib.hid (hst3.out.alloc (fun x hx => (Hd3.out x hx).1) (.cells #[.int .u8 cb.toNat] 5 (0, 0)))
          have hz4 : (wd.alloc (.cells #[.int .u8 cb.toNat] 5 (0, 0))).heap.size = wd.heap.size + 1 := by simp
          have hlo := Hd2.out.lt
          refine hK.out _ _ ((Lib.cell_of_heap Hd4.out 1).trans rfl) (fun hHeld => ?_)
          clear hK K
          try simp only [Act.put, List.setIfInBounds_toArray, List.set_cons_zero, List.set_cons_succ]
          generalize wd.alloc (.cells #[.int .u8 cb.toNat] 5 (0, 0)) = w4 at *
          refine wpAnyH_ready (rs := [11]) (by kernel_rfl) (by simp) ?_
          refine AllReadyH.cons rfl (fun K hK => ?_) AllReadyH.nil
          rw [if_pos (by rfl)]
          simp only [List.getElem_toArray, List.getElem_cons_succ, List.getElem_cons_zero]
          refine wp_appendK (K := kByte) (e := 5) (B := b + 1) (E := (· = b)) 36 (.int .u8 0) 1 Try.underlying36 info_byte rfl (by decide) (.tmp 51) (.tmp 57) ?_ L HL.out ?_ Hd5.out (fun x hx => by have hx : x = b := hx; omega) wd.heap.size cb [.int .u8 cb.toNat] ?_ ?_ ?_ rfl ?_ ?_ (by omega) (fun g c w5 hown hst5 hlt5 hne => ?_)
          · rfl
          · rfl
          · rfl
          · intro q u hu
            match q, hu with
            | 0, hu => simp at hu; subst hu; rw [Lib.cell_of_heap Hd6.out]; rfl
            | q + 1, hu => simp at hu
          · intro u hu; simp at hu; subst hu; rfl
          · rw [HL.out]; omega
          · rw [HL.out]; omega
          have hvb : Value.ownBlock (.slice va L vc) ≠ some b := fun e => Hd5.out.notE _ e rfl
          have Hb5 := Lib.hid ((hst5.block b ⟨by omega, hvb⟩).trans Hd4.out)
          have hst6 := Lib.hid (hst4.out.trans (hst5.imp (S' := S) (fun x hx => ⟨by have := (Hd3.out x hx).1; omega, (Hd3.out x hx).2.2⟩)))
          have Hd8 : Hid (∀ x, S x → x < w5.heap.size ∧ x ≠ b ∧ Value.ownBlock (.slice (some ⟨g, 0, none⟩) (L + 1) c) ≠ some x) := Lib.hid (fun x hx => by
            obtain ⟨a1, a2, a3⟩ := Hd3.out x hx
            exact ⟨by have := hst5.size; omega, a2, fun e => hne x (by omega) a3 (by simpa [Value.ownBlock] using e.symm)⟩)
          have Hown := Lib.hid hown
          refine hK.out _ _ ((Lib.cell_of_heap Hb5.out 1).trans rfl) (fun hHeld => ?_)
          clear hK K
          try simp only [Act.put, List.setIfInBounds_toArray, List.set_cons_zero, List.set_cons_succ]
          refine wpAnyH_done (by kernel_rfl) ?_ _
          simp only [phaseQ]
          have hc5 : w5.cell? ⟨b, 1, none⟩ = some (.slice va L vc) := by rw [Lib.cell_of_heap Hb5.out]; rfl
          have fx5 : w5.frozen? ⟨b, 1, none⟩ = false := Lib.frozen_of_heap Hb5.out 1
          clear hHeld hown hst5 hne hc1 hc0 fx Hd3 Hd4 Hd5 Hd6 hst3 hst4 hvb
          go_wp2
          go_roundw
          case rel =>
            refine ⟨j + 1, by go_num, by omega, ?_, hst6.out.setCell (p := ⟨b, 1, none⟩) (fun hS => (Hd8.out b hS).2.1 rfl) _⟩
            rw [Hds.out, ← List.append_assoc]
            exact WB.put Hb5.out Hown.out Hd8.out
          case measure => simp [intOf]; omega
        · have hje : (digitsL size n).take j = digitsL size n := by rw [List.take_of_length_le (by rw [digitsL_len]; omega)]
          have hd1 : decide ((j : Int) < (size : Int)) = false := by rw [decide_eq_false_iff_not]; omega
          have Hfin : Hid (WB b S wr (l ++ numsL size (ns.take (k + 1)))) := Lib.hid (by have := Hw2.out; rw [hje, List.append_assoc, ← Hnt.out] at this; exact this)
          clear hje hc0
          go_wp2
          go_roundw
          case rel => exact ⟨k + 1, by go_num, by omega, Hfin.out, Hst2.out⟩
          case measure => simp [intOf]; omega
    · have Hall : Hid (ns.take k = ns) := Lib.hid (List.take_of_length_le (by omega))
      rw [Hall.out] at hw
      have Hw2 := Lib.hid hw
      clear hw hst
      go_wp2
      go_end0
      exact ⟨rfl, Hw2.out, Hst.out⟩

end Go.Proofs.Ytbliedldlimpgaa

namespace Go.Proofs.Ytbliedldlimpgaa
set_option linter.unusedVariables false
set_option linter.unusedSimpArgs false
open Go.RowKit

theorem WB.later {b : Nat} {S : Nat → Prop} {w w' : World} {l : List UInt8} (h : WB b S w l) (hb : Below w.heap.size w w') : WB b (fun x => S x ∨ (w.heap.size ≤ x ∧ x < w'.heap.size)) w' l := by
  have hlt := h.lt
  obtain ⟨v, h1, h2, h3⟩ := h.ex
  refine ⟨v, (hb.block b hlt).trans h1, h2.below hb, fun x hx => ?_⟩
  rcases hx with hx | ⟨h4, h5⟩
  · exact ⟨Nat.lt_of_lt_of_le (h3 x hx).1 hb.size, (h3 x hx).2⟩
  · exact ⟨h5, by omega, fun e => by have := (h2.lt _ e).2; omega⟩
/-- the world behind '[]byte(text)' -/
def convW (w : World) (p : List UInt8) : World := w.drew.alloc (.cells (bytesRow ⟨p.toArray⟩ (grownCap w p.length 0 5)) 5 ((bytesRow ⟨p.toArray⟩ (grownCap w p.length 0 5)).size, (bytesRow ⟨p.toArray⟩ (grownCap w p.length 0 5)).size + 1))
theorem run_conv (w : World) (p : List UInt8) : (Go.convert 9 36 (.string ⟨p.toArray⟩)).run Try.prog w = Result.ok (.slice (some ⟨w.heap.size, 0, none⟩) p.length (grownCap w p.length 0 5)) (convW w p) := by
  have h := run_bytes_of_string (P := Try.prog) w 9 36 5 ⟨p.toArray⟩ Try.underlying9 Try.underlying36 Try.underlying5
  rw [size_mk] at h
  exact h
theorem convW_below (w : World) (p : List UInt8) : Below w.heap.size w (convW w p) := ((Below.refl _ w).drew).alloc (Nat.le_refl _) _
theorem convW_size (w : World) (p : List UInt8) : (convW w p).heap.size = w.heap.size + 1 := by unfold convW; rw [World.size_alloc]; rfl
theorem convW_lb (w : World) (p : List UInt8) (hp : p.length ≤ 9223372036854775807) : LB kByte (fun x => x = w.heap.size) (convW w p) (.slice (some ⟨w.heap.size, 0, none⟩) p.length (grownCap w p.length 0 5)) p := by
  refine ⟨some ⟨w.heap.size, 0, none⟩, w.heap.size, 0, _, rfl, hp, fun _ => rfl, ⟨grownCap_ge w _ 0 _, fun h => by cases h⟩, fun _ => rfl, fun i x hx => ⟨_, rfl, fun j u hu => ?_⟩⟩
  match j, hu with
  | 0, hu =>
    simp at hu; subst hu
    obtain ⟨hi, rfl⟩ := List.getElem?_eq_some_iff.1 hx
    have hh : (convW w p).heap[w.heap.size]? = _ := heap_alloc_new w.drew _
    have e1 : kByte.k = 1 := rfl
    rw [e1]
    simp only [World.cell?, hh, Nat.zero_add, Nat.mul_one, Nat.add_zero]
    exact bytesRow_at ⟨p.toArray⟩ _ i (by simpa using hi)
  | j + 1, hu => simp at hu

set_option maxHeartbeats 4000000 in
set_option maxRecDepth 100000 in
theorem wraw_any (b : Nat) (S : Nat → Prop) (w : World) (l m : List UInt8) (u : Value) (h : WB b S w l) (hu : LB kByte S w u m) (hlen : l.length + m.length ≤ 1000000000) :
    Calls Try.prog 82 #[.pointer (some ⟨b, 0, none⟩), u] w fun e w' => e = .returned (.tuple #[]) ∧ WB b S w' (l ++ m) ∧ Step S w w' := by
  obtain ⟨ua, uc, rfl⟩ := hu.form
  have Hu := Lib.hid hu
  have hc0 := h.sound
  have hbl := h.lt
  obtain ⟨v, hv1, hv2, hv3⟩ := h.ex
  have Hv1 := Lib.hid hv1
  have Hv2 := Lib.hid hv2
  have Hv3 := Lib.hid hv3
  have hc1 : w.cell? ⟨b, 1, none⟩ = some v := by rw [Lib.cell_of_heap hv1]; rfl
  obtain ⟨va, vc, rfl⟩ := hv2.form
  clear h hu hv1 hv2 hv3
  go_enter Try.func82, Try.ntmps82
  go_wp2_with fail
  refine (sound_any _ b 0 hc0).mono ?_
  rintro e w3 ⟨rfl, rfl⟩
  go_wp2_with (at_builtin; refine wpList_appendsK (B := b + 1) (E := (· = b)) plain_byte 36 (.int .u8 0) 1 Try.underlying36 info_byte rfl rfl (.tmp 12) (.tmp 13) rfl rfl Hv2.out (fun x hx => by have hx : x = b := hx; omega) _ m rfl Hu.out ?c1 ?c2 (by omega) ?_)
  case c1 => omega
  case c2 => omega
  intro v' w4 hown hst hne
  obtain ⟨va', vc', hvf⟩ := hown.form
  obtain ⟨L, hL⟩ : ∃ L, (l ++ m).length = L := ⟨_, rfl⟩
  rw [hL] at hvf
  clear hL
  subst hvf
  have hvb : Value.ownBlock (.slice va l.length vc) ≠ some b := fun e => Hv2.out.notE _ e rfl
  have Hb4 := Lib.hid ((hst.block b ⟨hbl, hvb⟩).trans Hv1.out)
  have Hst := Lib.hid (hst.imp (S' := S) (fun x hx => ⟨(Hv3.out x hx).1, (Hv3.out x hx).2.2⟩))
  have Hd8 : Hid (∀ x, S x → x < w4.heap.size ∧ x ≠ b ∧ Value.ownBlock (.slice va' L vc') ≠ some x) := Lib.hid (fun x hx => by
    obtain ⟨a1, a2, a3⟩ := Hv3.out x hx
    exact ⟨by have := hst.size; omega, a2, hne x a1 a3⟩)
  have Hown := Lib.hid hown
  have hc4 : w4.cell? ⟨b, 1, none⟩ = some (.slice va l.length vc) := by rw [Lib.cell_of_heap Hb4.out]; rfl
  have fx4 : w4.frozen? ⟨b, 1, none⟩ = false := Lib.frozen_of_heap Hb4.out 1
  clear hown hst hne hc0 hc1 hvb Hv2 Hv3 Hu
  go_wp2
  go_end0
  exact ⟨rfl, WB.put Hb4.out Hown.out Hd8.out, Hst.out.setCell (p := ⟨b, 1, none⟩) (fun hS => (Hd8.out b hS).2.1 rfl) _⟩

end Go.Proofs.Ytbliedldlimpgaa

namespace Go.Proofs.Ytbliedldlimpgaa
set_option linter.unusedVariables false
set_option linter.unusedSimpArgs false
open Go.RowKit

theorem Step.later {S : Nat → Prop} {w w' : World} (h : Below w.heap.size w w') (hS : ∀ x, S x → x < w.heap.size) : Step S w w' := (Step.of_below h).imp hS
theorem built_ints (w : World) (ns : List Int) (hl : ns.length ≤ 9223372036854775807) : LB kInt (fun x => x = w.heap.size) (w.alloc (.cells (ns.map (Value.int .i64)).toArray 3 (0, 0))) (.slice (some ⟨w.heap.size, 0, none⟩) ns.length ns.length) ns := by
  refine ⟨some ⟨w.heap.size, 0, none⟩, w.heap.size, 0, _, rfl, hl, fun _ => rfl, ⟨Nat.le_refl _, fun h => by cases h⟩, fun _ => rfl, fun i x hx => ⟨_, rfl, fun j u hu => ?_⟩⟩
  match j, hu with
  | 0, hu =>
    simp at hu; subst hu
    rw [Lib.cell_of_heap (heap_alloc_new w _)]
    simp [kInt, hx]
  | j + 1, hu => simp at hu
theorem built_strs (w : World) (ss : List (List UInt8)) (hl : ss.length ≤ 9223372036854775807) (hz : ∀ s ∈ ss, s.length ≤ 9223372036854775807) : LB kStr (fun x => x = w.heap.size) (w.alloc (.cells (ss.map (fun s => Value.string ⟨s.toArray⟩)).toArray 9 (0, 0))) (.slice (some ⟨w.heap.size, 0, none⟩) ss.length ss.length) ss := by
  refine ⟨some ⟨w.heap.size, 0, none⟩, w.heap.size, 0, _, rfl, hl, fun _ => rfl, ⟨Nat.le_refl _, fun h => by cases h⟩, fun _ => rfl, fun i x hx => ⟨_, ⟨rfl, hz x (List.mem_of_getElem? hx)⟩, fun j u hu => ?_⟩⟩
  match j, hu with
  | 0, hu =>
    simp at hu; subst hu
    rw [Lib.cell_of_heap (heap_alloc_new w _)]
    simp [kStr, hx]
  | j + 1, hu => simp at hu
theorem textsL_take (ss : List (List UInt8)) (k : Nat) (s : List UInt8) (hs : ss[k]? = some s) : textsL (ss.take (k + 1)) = textsL (ss.take k) ++ (digitsL 2 s.length ++ s) := by
  obtain ⟨h, rfl⟩ := List.getElem?_eq_some_iff.1 hs
  rw [textsL, List.take_succ_eq_append_getElem h, List.map_append, List.flatten_append]; simp [textsL, textL']
theorem textsL_len (ss : List (List UInt8)) (h : ∀ s ∈ ss, s.length ≤ 4096) : (textsL ss).length ≤ 4098 * ss.length := by
  induction ss with
  | nil => simp [textsL]
  | cons s ss ih =>
    have e : textsL (s :: ss) = textL' s ++ textsL ss := by simp [textsL]
    have h1 := ih (fun x hx => h x (by simp [hx]))
    have h2 := h s (by simp)
    rw [e, List.length_append, List.length_cons, textL', List.length_append, digitsL_len]
    omega
theorem numsL_one (size : Nat) (n : Int) : numsL size [n] = digitsL size n := by simp [numsL]

set_option maxHeartbeats 8000000 in
set_option maxRecDepth 100000 in
theorem wtext_any (b : Nat) (S : Nat → Prop) (w : World) (l : List UInt8) (ss : List (List UInt8)) (u : Value) (h : WB b S w l) (hu : LB kStr S w u ss) (hf : ∀ s ∈ ss, s.length ≤ 4096) (hlen : l.length + 4098 * ss.length ≤ 1000000000) :
    Calls Try.prog 35 #[.pointer (some ⟨b, 0, none⟩), u] w fun e w' => e = .returned (.tuple #[]) ∧ WB b S w' (l ++ textsL ss) ∧ Step S w w' := by
  obtain ⟨ua, ub, uoff, ucap, rfl, hum, huc, hat⟩ := hu.at
  have Hat := Lib.hid hat
  have Hf := Lib.hid hf
  have H := Lib.hid h
  have hbl := h.lt
  clear hu hat hf h
  go_enter Try.func35, Try.ntmps35
  go_wp2_with fail
  go_loopw [8] (fun i wr => ∃ k : Nat, i = .int .i64 k ∧ k ≤ ss.length ∧ WB b S wr (l ++ textsL (ss.take k)) ∧ Step S w wr) (fun i _ => ss.length - (intOf i).toNat)
  case atStart => exact ⟨0, rfl, Nat.zero_le _, by have := H.out; simpa [textsL] using this, Step.refl _ _⟩
  case round =>
    obtain ⟨k, rfl, hk, hw, hst⟩ := hrel
    have Hw := Lib.hid hw
    have Hst := Lib.hid hst
    have hbr := hw.lt
    by_cases hlt : k < ss.length
    · obtain rfl := Hat.out.addr (by omega)
      obtain ⟨p, hp⟩ : ∃ p, ss[k]? = some p := ⟨_, List.getElem?_eq_getElem hlt⟩
      obtain ⟨g0, hpz⟩ := Hat.out.str1 k p hp
      have g := (Hst.out.cell (p := ⟨ub, uoff + k, none⟩) (Hat.out.inS (by omega))).trans g0
      have hpl := Hf.out p (List.mem_of_getElem? hp)
      have hsz := size_mk p
      have Htt := Lib.hid (textsL_take ss k p hp)
      have htl := textsL_len (ss.take k) (fun s hs => Hf.out s (List.mem_of_mem_take hs))
      rw [List.length_take, Nat.min_eq_left hk] at htl
      have hm : (p.length : Int).tmod 4097 = (p.length : Int) := by rw [Int.tmod_eq_emod_of_nonneg (by omega)]; omega
      have hng : ¬ 4096 < p.length := by omega
      have hcv := fun w => run_conv w p
      have HWa := Lib.hid (Hw.out.alloc (.cells #[.int .i64 (p.length : Int)] 3 (0, 0)))
      have HUa := Lib.hid ((built_ints wr [(p.length : Int)] (by simp)).imp (S' := fun x => S x ∨ x = wr.heap.size) (fun x hx => Or.inr hx))
      have HSa := Lib.hid (Step.later ((Below.refl _ wr).alloc (Nat.le_refl _) (.cells #[.int .i64 (p.length : Int)] 3 (0, 0))) (S := S) (fun x hx => Hw.out.inS hx))
      have HN := Lib.hid (wnum_any b (fun x => S x ∨ x = wr.heap.size) (wr.alloc (.cells #[.int .i64 (p.length : Int)] 3 (0, 0))) _ 2 [(p.length : Int)] _ HWa.out HUa.out (by decide) (fun n hn => by simp at hn; subst hn; exact okLen_N (by decide) (by unfold okLen; omega)) (fun n hn => by simp at hn; subst hn; omega) (by simp only [List.length_append, List.length_cons, List.length_nil]; omega))
      rw [numsL_one] at HN
      clear hp hw hst g0
      go_wp2_with fail
      refine HN.out.mono ?_
      rintro e w3 ⟨rfl, hw3, hs3⟩
      have Hw3 := Lib.hid (hw3.less (S' := S) (fun x hx => Or.inl hx))
      have Hs3 := Lib.hid ((Hst.out.trans HSa.out).trans (hs3.imp (S' := S) (fun x hx => Or.inl hx)))
      have hdl := digitsL_len 2 (p.length : Int)
      have HR := Lib.hid (wraw_any b (fun x => S x ∨ (w3.heap.size ≤ x ∧ x < (convW w3 p).heap.size)) (convW w3 p) _ p _ (Hw3.out.later (convW_below w3 p)) ((convW_lb w3 p hpz).imp (fun x hx => Or.inr (by have := convW_size w3 p; subst hx; omega))) (by simp only [List.length_append]; omega))
      clear hw3 hs3 HN HUa HWa
      go_wp2_with fail
      refine HR.out.mono ?_
      rintro e w4 ⟨rfl, hw4, hs4⟩
      have Hw4 := Lib.hid (hw4.less (S' := S) (fun x hx => Or.inl hx))
      have Hs4 := Lib.hid ((Hs3.out.trans (Step.later (convW_below w3 p) (fun x hx => Hw3.out.inS hx))).trans (hs4.imp (S' := S) (fun x hx => Or.inl hx)))
      clear hw4 hs4 HR
      go_wp2
      go_roundw
      case rel => exact ⟨k + 1, by go_num, by omega, by rw [Htt.out, ← List.append_assoc, ← List.append_assoc]; exact Hw4.out, Hs4.out⟩
      case measure => simp [intOf]; omega
    · have Hall : Hid (ss.take k = ss) := Lib.hid (List.take_of_length_le (by omega))
      rw [Hall.out] at hw
      have Hw2 := Lib.hid hw
      clear hw hst
      go_wp2
      go_end0
      exact ⟨rfl, Hw2.out, Hst.out⟩

set_option maxHeartbeats 4000000 in
set_option maxRecDepth 100000 in
theorem wblock_any (b : Nat) (S : Nat → Prop) (w : World) (l m : List UInt8) (u : Value) (h : WB b S w l) (hu : LB kByte S w u m) (hm : m.length ≤ 1048576) (hlen : l.length + 4 + m.length ≤ 1000000000) :
    Calls Try.prog 37 #[.pointer (some ⟨b, 0, none⟩), u] w fun e w' => e = .returned (.tuple #[]) ∧ WB b S w' (l ++ blockL m) ∧ Step S w w' := by
  obtain ⟨ua, uc, rfl⟩ := hu.form
  have hng : ¬ 1048576 < m.length := by omega
  have HWa := Lib.hid (h.alloc (.cells #[.int .i64 (m.length : Int)] 3 (0, 0)))
  have HUa := Lib.hid ((built_ints w [(m.length : Int)] (by simp)).imp (S' := fun x => S x ∨ x = w.heap.size) (fun x hx => Or.inr hx))
  have HSa := Lib.hid (Step.later ((Below.refl _ w).alloc (Nat.le_refl _) (.cells #[.int .i64 (m.length : Int)] 3 (0, 0))) (S := S) (fun x hx => h.inS hx))
  have HN := Lib.hid (wnum_any b (fun x => S x ∨ x = w.heap.size) (w.alloc (.cells #[.int .i64 (m.length : Int)] 3 (0, 0))) _ 4 [(m.length : Int)] _ HWa.out HUa.out (by decide) (fun n hn => by simp at hn; subst hn; exact okLen_N (by decide) (by unfold okLen; omega)) (fun n hn => by simp at hn; subst hn; omega) (by simp only [List.length_cons, List.length_nil]; omega))
  rw [numsL_one] at HN
  have hdl := digitsL_len 4 (m.length : Int)
  have HU := Lib.hid hu
  have hbl := h.lt
  clear h hu
  go_enter Try.func37, Try.ntmps37
  go_wp2_with fail
  refine HN.out.mono ?_
  rintro e w3 ⟨rfl, hw3, hs3⟩
  have Hw3 := Lib.hid (hw3.less (S' := S) (fun x hx => Or.inl hx))
  have Hs3 := Lib.hid (HSa.out.trans (hs3.imp (S' := S) (fun x hx => Or.inl hx)))
  have HR := Lib.hid (wraw_any b S w3 _ m _ Hw3.out (HU.out.step Hs3.out) (by simp only [List.length_append]; omega))
  clear hw3 hs3 HN HUa HWa
  go_wp2_with fail
  refine HR.out.mono ?_
  rintro e w4 ⟨rfl, hw4, hs4⟩
  have Hw4 := Lib.hid hw4
  have Hs4 := Lib.hid (Hs3.out.trans hs4)
  clear hw4 hs4 HR
  go_wp2
  go_end0
  exact ⟨rfl, by rw [blockL, ← List.append_assoc]; exact Hw4.out, Hs4.out⟩

set_option maxHeartbeats 1000000 in
theorem wnew_any (w : World) : Calls Try.prog 34 #[] w fun e w' => e = .returned (.pointer (some ⟨w.heap.size, 0, none⟩)) ∧ WB w.heap.size (· < w.heap.size) w' [] ∧ Below w.heap.size w w' ∧ w'.heap.size = w.heap.size + 1 := by
  have h0 := heap_alloc_new w (.cells #[.int .i64 0, .slice none 0 0] 130 (0, 0))
  have B0 := (Below.refl w.heap.size w).alloc (Nat.le_refl _) (.cells #[.int .i64 0, .slice none 0 0] 130 (0, 0))
  have hz : (w.alloc (.cells #[.int .i64 0, .slice none 0 0] 130 (0, 0))).heap.size = w.heap.size + 1 := by simp
  have Hf : Hid (WB w.heap.size (· < w.heap.size) (w.alloc (.cells #[.int .i64 0, .slice none 0 0] 130 (0, 0))) []) := Lib.hid ⟨_, h0, OwnK.nil _ _ _ _ _, fun x hx => ⟨by rw [hz]; have : x < w.heap.size := hx; omega, by have : x < w.heap.size := hx; omega, by simp [Value.ownBlock]⟩⟩
  have HB := Lib.hid B0
  have HZ := Lib.hid hz
  clear h0 B0 hz
  go_enter Try.func34, Try.ntmps34
  go_wp2
  go_ret
  exact ⟨rfl, Hf.out, HB.out, HZ.out⟩

set_option maxHeartbeats 4000000 in
set_option maxRecDepth 100000 in
theorem wbytes_any (b : Nat) (S : Nat → Prop) (w : World) (l : List UInt8) (h : WB b S w l) (hlen : l.length ≤ 1000000000) :
    Calls Try.prog 39 #[.pointer (some ⟨b, 0, none⟩)] w fun e w' => ∃ v, e = .returned (.tuple #[v, .int .i64 0]) ∧ OwnK 5 kByte w.heap.size (fun _ => False) w' v l ∧ Below w.heap.size w w' := by
  have hc0 := h.sound
  have hbl := h.lt
  obtain ⟨v, hv1, hv2, hv3⟩ := h.ex
  have hc1 : w.cell? ⟨b, 1, none⟩ = some v := by rw [Lib.cell_of_heap hv1]; rfl
  have Hlb := Lib.hid hv2.lb
  obtain ⟨va, vc, rfl⟩ := hv2.form
  clear h hv1 hv2 hv3
  go_enter Try.func39, Try.ntmps39
  go_wp2_with fail
  refine (sound_any _ b 0 hc0).mono ?_
  rintro e w3 ⟨rfl, rfl⟩
  go_wp2_with (at_builtin; refine wpList_appendsK (B := w3.heap.size) (E := fun _ => False) (l := []) plain_byte 36 (.int .u8 0) 1 Try.underlying36 info_byte rfl rfl (.const (.slice none 0 0)) (.tmp 17) rfl rfl (OwnK.nil _ _ _ _ _) (fun x hx => hx.elim) _ l rfl Hlb.out ?c1 ?c2 (Nat.le_refl _) ?_)
  case c1 => simp; omega
  case c2 => simp; omega
  intro v' w4 hown hst hne
  have hb4 : Below w3.heap.size w3 w4 := (hst.imp (S' := (· < w3.heap.size)) (fun x hx => ⟨hx, by simp [Value.ownBlock]⟩)).below
  have Hown := Lib.hid hown
  have Hb4 := Lib.hid hb4
  clear hown hst hne hb4 hc0 hc1 Hlb
  go_wp2
  go_ret2
  exact ⟨v', rfl, Hown.out, Hb4.out⟩

end Go.Proofs.Ytbliedldlimpgaa

namespace Go.Proofs.Ytbliedldlimpgaa
set_option linter.unusedVariables false
set_option linter.unusedSimpArgs false
open Go.RowKit

/-- a reader at block b, its bytes in block gb: what is left, or none: it has met a fault -/
structure RB (b gb : Nat) (w : World) (st : Option (List UInt8)) : Prop where
  ex : ∃ f v r, w.heap[b]? = some (.cells #[.int .i64 f, v] 136 (0, 0)) ∧ LB kByte (fun x => x = gb) w v r ∧ gb ≠ b ∧ gb < w.heap.size ∧ (match st with | some l => f = 0 ∧ r = l | none => f ≠ 0)
section
variable {b gb : Nat} {w w' : World} {st : Option (List UInt8)}
theorem RB.lt (h : RB b gb w st) : b < w.heap.size := by
  obtain ⟨f, v, r, h1, _⟩ := h.ex
  rcases Nat.lt_or_ge b w.heap.size with h' | h'
  · exact h'
  · rw [Array.getElem?_eq_none h'] at h1; cases h1
theorem RB.step {S : Nat → Prop} (h : RB b gb w st) (hs : Step S w w') (hb : S b) (hg : S gb) : RB b gb w' st := by
  obtain ⟨f, v, r, h1, h2, h3, h4, h5⟩ := h.ex
  exact ⟨f, v, r, (hs.block b hb).trans h1, h2.keeps (fun x hx => by have hx : x = gb := hx; subst hx; exact hs.block _ hg), h3, Nat.lt_of_lt_of_le h4 hs.size, h5⟩
theorem RB.below (h : RB b gb w st) (hb : Below w.heap.size w w') : RB b gb w' st := by
  have h1 := h.lt
  obtain ⟨f, v, r, _, _, _, h4, _⟩ := h.ex
  exact h.step (.of_below hb) h1 h4
theorem RB.alloc (h : RB b gb w st) (o : Obj) : RB b gb (w.alloc o) st := h.below ((Below.refl _ w).alloc (Nat.le_refl _) o)
theorem RB.drew (h : RB b gb w st) : RB b gb w.drew st := h.below ((Below.refl _ w).drew)
end

set_option maxHeartbeats 2000000 in
theorem fail_any (w : World) (b gb : Nat) (e : Int) (st : Option (List UInt8)) (he : e ≠ 0) (h : RB b gb w st) :
    Calls Try.prog 81 #[.pointer (some ⟨b, 0, none⟩), .int .i64 e] w fun e w' => e = .returned (.tuple #[]) ∧ RB b gb w' none ∧ Step (fun x => x ≠ b) w w' ∧ w'.heap.size = w.heap.size := by
  obtain ⟨f, v, r, h1, h2, h3, h4, h5⟩ := h.ex
  have c0 : w.cell? ⟨b, 0, none⟩ = some (.int .i64 f) := by rw [Lib.cell_of_heap h1]; rfl
  have f0 : w.frozen? ⟨b, 0, none⟩ = false := Lib.frozen_of_heap h1 0
  have hb := h.lt
  have H1 := Lib.hid h1
  have H2 := Lib.hid h2
  by_cases hf : f = 0
  · have hd : (f == 0) = true := by rw [beq_iff_eq]; exact hf
    have Hfin : Hid (RB b gb (w.setCell ⟨b, 0, none⟩ (.int .i64 e)) none) := Lib.hid ⟨e, v, r, by simp [World.setCell, Array.getElem?_modify, h1], h2.keeps (fun x hx => by have hx : x = gb := hx; subst hx; exact Below.heap_setCell _ _ _ _ h3), h3, by simpa using h4, he⟩
    have HS : Hid (Step (fun x => x ≠ b) w (w.setCell ⟨b, 0, none⟩ (.int .i64 e))) := Lib.hid ((Step.refl _ w).setCell (p := ⟨b, 0, none⟩) (fun h => h rfl) _)
    clear h h1 h2 h5 hf
    go_enter Try.func81, Try.ntmps81
    go_wp2
    go_end0
    exact ⟨rfl, Hfin.out, HS.out, by simp⟩
  · have hd : (f == 0) = false := by rw [beq_eq_false_iff_ne]; exact hf
    have Hfin : Hid (RB b gb w none) := Lib.hid ⟨f, v, r, h1, h2, h3, h4, hf⟩
    clear h h1 h2 h5 hf
    go_enter Try.func81, Try.ntmps81
    go_wp2
    go_end0
    exact ⟨rfl, Hfin.out, Step.refl _ _, rfl⟩

/-- what a cut of n bytes leaves -/
def cutS (st : Option (List UInt8)) (n : Nat) : Option (List UInt8) := match st with
  | some l => if n ≤ l.length then some (l.drop n) else none
  | none => none
def cutL (st : Option (List UInt8)) (n : Nat) : List UInt8 := match st with
  | some l => if n ≤ l.length then l.take n else []
  | none => []

end Go.Proofs.Ytbliedldlimpgaa

namespace Go.Proofs.Ytbliedldlimpgaa
set_option linter.unusedVariables false
set_option linter.unusedSimpArgs false
open Go.RowKit

theorem LB.take_byte {S : Nat → Prop} {w : World} {a : Option Addr} {cap : Nat} {l : List UInt8} (h : LB kByte S w (.slice a l.length cap) l) (n : Nat) (hn : n ≤ l.length) : LB kByte S w (.slice a n cap) (l.take n) := by
  obtain ⟨a', b, off, cap', hv, hm, ha, hc, hS, hr⟩ := h
  cases hv
  have hl : (l.take n).length = n := by rw [List.length_take]; omega
  refine ⟨a, b, off, cap, by rw [hl], by omega, fun h0 => ha (by omega), ⟨by omega, hc.2⟩, fun h0 => hS (by omega), fun i x hx => ?_⟩
  rw [List.getElem?_take] at hx
  by_cases hi : i < n
  · rw [if_pos hi] at hx; exact hr i x hx
  · rw [if_neg hi] at hx; cases hx
theorem LB.drop_byte {S : Nat → Prop} {w : World} {a : Option Addr} {cap : Nat} {l : List UInt8} (h : LB kByte S w (.slice a l.length cap) l) (n : Nat) (hn : n ≤ l.length) : LB kByte S w (.slice (if cap = n then a else a.map (·.add n)) (l.length - n) (cap - n)) (l.drop n) := by
  obtain ⟨a', b, off, cap', hv, hm, ha, hc, hS, hr⟩ := h
  cases hv
  have hl : (l.drop n).length = l.length - n := List.length_drop
  refine ⟨_, b, off + n, cap - n, by rw [hl], by omega, fun h0 => ?_, ⟨by omega, fun h0 => ?_⟩, fun h0 => hS (by omega), fun i x hx => ?_⟩
  · rw [hl] at h0
    rw [if_neg (by omega), ha (by omega)]
    simp [Addr.add_lit]
  · by_cases hcn : cap = n
    · omega
    · rw [if_neg hcn] at h0
      have : a = none := by cases a <;> simp at h0 ⊢
      have := hc.2 this
      omega
  · rw [List.getElem?_drop] at hx
    obtain ⟨row, r1, r2⟩ := hr (n + i) x hx
    have hk : kByte.k = 1 := rfl
    refine ⟨row, r1, fun j u hu => ?_⟩
    have := r2 j u hu
    rw [hk] at this ⊢
    rw [show off + n + i * 1 + j = off + (n + i) * 1 + j by omega]
    exact this
theorem RB.first {b gb : Nat} {w : World} {st : Option (List UInt8)} (h : RB b gb w st) : ∃ f, w.cell? ⟨b, 0, none⟩ = some (.int .i64 f) ∧ (f == 0) = st.isSome := by
  obtain ⟨f, v, r, h1, _, _, _, h5⟩ := h.ex
  refine ⟨f, by rw [Lib.cell_of_heap h1]; rfl, ?_⟩
  cases st with
  | none => rw [beq_eq_false_iff_ne.2 h5]; rfl
  | some l => rw [h5.1]; rfl

theorem RB.put {b gb : Nat} {w : World} {f : Int} {v v' : Value} {r : List UInt8} {st : Option (List UInt8)} (h1 : w.heap[b]? = some (.cells #[.int .i64 f, v] 136 (0, 0))) (h2 : LB kByte (fun x => x = gb) w v' r) (h3 : gb ≠ b) (h4 : gb < w.heap.size)
    (h5 : match st with | some l => f = 0 ∧ r = l | none => f ≠ 0) : RB b gb (w.setCell ⟨b, 1, none⟩ v') st :=
  ⟨f, v', r, by simp [World.setCell, Array.getElem?_modify, h1], h2.keeps (fun x hx => by have hx : x = gb := hx; subst hx; exact Below.heap_setCell _ _ _ _ h3), h3, by simpa using h4, h5⟩
theorem setCell_step (w : World) (b k : Nat) (v : Value) : Step (fun x => x ≠ b) w (w.setCell ⟨b, k, none⟩ v) := (Step.refl _ w).setCell (p := ⟨b, k, none⟩) (fun h => h rfl) _

set_option maxHeartbeats 8000000 in
set_option maxRecDepth 100000 in
theorem rcut_any (w : World) (b gb : Nat) (st : Option (List UInt8)) (n : Nat) (h : RB b gb w st) (hn : n ≤ 9223372036854775807) :
    Calls Try.prog 90 #[.pointer (some ⟨b, 0, none⟩), .int .i64 (n : Int)] w fun e w' => ∃ v, e = .returned v ∧ LB kByte (fun x => x = gb) w' v (cutL st n) ∧ RB b gb w' (cutS st n) ∧ Step (fun x => x ≠ b) w w' ∧ w'.heap.size = w.heap.size := by
  obtain ⟨f, hc0, hf⟩ := h.first
  have hbl := h.lt
  have HS := Lib.hid (sound_any w b f hc0)
  rw [hf] at HS
  cases st with
  | none =>
    have H := Lib.hid h
    clear h
    go_enter Try.func90, Try.ntmps90
    go_wp2_with fail
    refine HS.out.mono ?_
    rintro e w2 ⟨rfl, rfl⟩
    go_wp2_with fail
    refine HS.out.mono ?_
    rintro e w3 ⟨rfl, rfl⟩
    go_wp2
    go_ret
    exact ⟨_, rfl, LB.nil _ _ _, H.out, Step.refl _ _, rfl⟩
  | some l =>
    obtain ⟨f', v, r, h1, h2, h3, h4, h5, h6⟩ := h.ex
    subst h5 h6
    obtain ⟨va, vc, rfl⟩ := h2.form
    have hrm := h2.max
    have hc1 : w.cell? ⟨b, 1, none⟩ = some (.slice va r.length vc) := by rw [Lib.cell_of_heap h1]; rfl
    have fx : w.frozen? ⟨b, 1, none⟩ = false := Lib.frozen_of_heap h1 1
    have hcap : r.length ≤ vc := by
      obtain ⟨a', b', off', cap', hv, _, _, hc, _⟩ := h2
      cases hv; exact hc.1
    by_cases hlt : n ≤ r.length
    · have hng : decide ((r.length : Int) < (n : Int)) = false := by rw [decide_eq_false_iff_not]; omega
      have H1 := Lib.hid h1
      have H3 := Lib.hid (h2.take_byte n hlt)
      have H4' := h2.drop_byte n hlt
      have Hcl : Hid (cutL (some r) n = r.take n) := Lib.hid (by rw [cutL, if_pos hlt])
      have Hcs : Hid (cutS (some r) n = some (r.drop n)) := Lib.hid (by rw [cutS, if_pos hlt])
      clear h h1 h2
      by_cases hvn : vc = n
      · subst hvn
        rw [if_pos rfl, Nat.sub_self, show r.length - vc = 0 by omega] at H4'
        have H4 := Lib.hid H4'
        clear H4'
        go_enter Try.func90, Try.ntmps90
        go_wp2_with fail
        refine HS.out.mono ?_
        rintro e w2 ⟨rfl, rfl⟩
        go_wp2_with fail
        refine HS.out.mono ?_
        rintro e w3 ⟨rfl, rfl⟩
        go_wp2
        go_ret
        exact ⟨_, rfl, by rw [Hcl.out]; exact (H3.out.keeps (fun x hx => by have hx : x = gb := hx; subst hx; exact Below.heap_setCell _ _ _ _ h3)), by rw [Hcs.out]; exact RB.put H1.out H4.out h3 h4 ⟨rfl, rfl⟩, setCell_step _ _ _ _, by simp⟩
      · rw [if_neg hvn] at H4'
        have H4 := Lib.hid H4'
        clear H4'
        go_enter Try.func90, Try.ntmps90
        go_wp2_with fail
        refine HS.out.mono ?_
        rintro e w2 ⟨rfl, rfl⟩
        go_wp2_with fail
        refine HS.out.mono ?_
        rintro e w3 ⟨rfl, rfl⟩
        go_wp2
        go_ret
        exact ⟨_, rfl, by rw [Hcl.out]; exact (H3.out.keeps (fun x hx => by have hx : x = gb := hx; subst hx; exact Below.heap_setCell _ _ _ _ h3)), by rw [Hcs.out]; exact RB.put H1.out H4.out h3 h4 ⟨rfl, rfl⟩, setCell_step _ _ _ _, by simp⟩
    · have hng : decide ((r.length : Int) < (n : Int)) = true := by rw [decide_eq_true_eq]; omega
      have HF := Lib.hid (fail_any w b gb 11 (some r) (by decide) h)
      have Hcl : Hid (cutL (some r) n = []) := Lib.hid (by rw [cutL, if_neg hlt])
      have Hcs : Hid (cutS (some r) n = none) := Lib.hid (by rw [cutS, if_neg hlt])
      clear h h1 h2 fx
      go_enter Try.func90, Try.ntmps90
      go_wp2_with fail
      refine HS.out.mono ?_
      rintro e w2 ⟨rfl, rfl⟩
      go_wp2_with fail
      refine HF.out.mono ?_
      rintro e w3 ⟨rfl, hr3, hs3, hz3⟩
      obtain ⟨f3, hc3, hf3⟩ := hr3.first
      have HS3 := Lib.hid (sound_any w3 b f3 hc3)
      rw [hf3] at HS3
      have Hr3 := Lib.hid hr3
      have Hs3 := Lib.hid hs3
      have Hz3 := Lib.hid hz3
      clear hr3 hs3 hz3 hc1 hc0 HF HS
      have hbl3 := World.block_lt_of_cell? _ _ hc3
      go_wp2_with fail
      refine HS3.out.mono ?_
      rintro e w4 ⟨rfl, rfl⟩
      go_wp2
      go_ret
      exact ⟨_, rfl, by rw [Hcl.out]; exact LB.nil _ _ _, by rw [Hcs.out]; exact Hr3.out, Hs3.out, Hz3.out⟩

end Go.Proofs.Ytbliedldlimpgaa

namespace Go.Proofs.Ytbliedldlimpgaa
set_option linter.unusedVariables false
set_option linter.unusedSimpArgs false
open Go.RowKit

/-- a number that a reader answers, and what is left -/
def numS (st : Option (List UInt8)) (size : Nat) : Int × Option (List UInt8) := match st with
  | none => (0, none)
  | some l => match numP size l with
    | none => (0, none)
    | some (n, t) => (n, some t)
theorem valL_snoc : ∀ (l : List UInt8) (c : UInt8), valL (l ++ [c]) = valL l + 256 ^ l.length * c.toNat
  | [], c => by simp [valL]
  | d :: l, c => by
    rw [List.cons_append, valL, valL_snoc l c, valL, List.length_cons, Nat.pow_succ, Nat.mul_add, ← Nat.mul_assoc, Nat.mul_comm (256 ^ l.length) 256]; omega
theorem numS_eq (st : Option (List UInt8)) (size : Nat) (hs : size = 1 ∨ size = 2 ∨ size = 4 ∨ size = 8) : numS st size = (IntKind.i64.wrap (valL (cutL st size) : Int), cutS st size) := by
  have hw : ∀ n : Nat, n < 4294967296 → IntKind.i64.wrap (n : Int) = (n : Int) := fun n h => by rw [IntKind.wrap_i64]; omega
  cases st with
  | none => simp [numS, cutL, cutS, valL, IntKind.wrap_i64]
  | some l =>
    unfold numS numP cutL cutS
    by_cases hl : size ≤ l.length
    · simp only [hl, if_true]
      have hlen : (l.take size).length = size := by rw [List.length_take]; omega
      have hv := valL_lt (l.take size)
      rw [hlen] at hv
      by_cases h8 : size = 8
      · subst h8
        rw [if_pos rfl]
        have : (256 : Nat) ^ 8 = 18446744073709551616 := by decide
        congr 1
        rw [IntKind.wrap_i64]
        unfold sgnL
        split <;> omega
      · rw [if_neg h8, hw _ (by
          have p1 : (256 : Nat) ^ 1 = 256 := by decide
          have p2 : (256 : Nat) ^ 2 = 65536 := by decide
          have p4 : (256 : Nat) ^ 4 = 4294967296 := by decide
          rcases hs with rfl | rfl | rfl | rfl <;> omega)]
    · simp [hl, valL, IntKind.wrap_i64]
theorem wrap64_i (x : Int) : wrap64 x = IntKind.i64.wrap x := by rw [IntKind.wrap_i64]; unfold wrap64; rfl
theorem or_step (a c i : Nat) (hi : i < 8) (ha : a < 256 ^ i) (hc : c < 256) : bits .or .i64 (IntKind.i64.wrap (a : Int)) (IntKind.i64.wrap ((c : Int) * 2 ^ (8 * i))) = IntKind.i64.wrap ((a + 256 ^ i * c : Nat) : Int) := by
  have hp : (256 : Nat) ^ i = 2 ^ (8 * i) := by rw [Nat.pow_mul]
  have hle : 256 ^ i ≤ 72057594037927936 := Nat.le_trans (Nat.pow_le_pow_right (by decide) (show i ≤ 7 by omega)) (by decide)
  have hprod : 256 ^ i * c ≤ 72057594037927936 * 255 := Nat.mul_le_mul hle (by omega)
  have ewrap : ∀ m : Nat, m < 18446744073709551616 → (BitVec.ofInt 64 (IntKind.i64.wrap (m : Int))).toNat = m := fun m hm => by
    rw [BitVec.toNat_ofInt, IntKind.wrap_i64]
    have : (2 : Nat) ^ 64 = 18446744073709551616 := by decide
    omega
  have e2 : ((c : Int) * 2 ^ (8 * i)) = ((256 ^ i * c : Nat) : Int) := by rw [hp, Int.natCast_mul, Int.natCast_pow, Int.mul_comm]; rfl
  rw [e2]
  show IntKind.i64.wrap ((BitVec.ofInt 64 (IntKind.i64.wrap (a : Int)) ||| BitVec.ofInt 64 (IntKind.i64.wrap ((256 ^ i * c : Nat) : Int))).toNat : Int) = _
  rw [BitVec.toNat_or, ewrap _ (by omega), ewrap _ (by omega), Nat.or_comm, nat_join (8 * i) (256 ^ i * c) a (by rw [hp]; exact Nat.mul_mod_right _ _) (by rw [← hp]; exact ha), Nat.add_comm]

set_option maxHeartbeats 8000000 in
set_option maxRecDepth 100000 in
theorem rnum_any (w : World) (b gb : Nat) (st : Option (List UInt8)) (size : Nat) (h : RB b gb w st) (hs : size = 1 ∨ size = 2 ∨ size = 4 ∨ size = 8) :
    Calls Try.prog 48 #[.pointer (some ⟨b, 0, none⟩), .int .i64 (size : Int)] w fun e w' => e = .returned (.int .i64 (numS st size).1) ∧ RB b gb w' (numS st size).2 ∧ Step (fun x => x ≠ b) w w' ∧ w'.heap.size = w.heap.size := by
  rw [numS_eq st size hs]
  have hpl : (cutL st size).length ≤ 8 := by
    cases st with
    | none => simp [cutL]
    | some l =>
      unfold cutL; dsimp only
      by_cases h : size ≤ l.length
      · rw [if_pos h, List.length_take]; omega
      · rw [if_neg h]; simp
  have HC := Lib.hid (rcut_any w b gb st size h (by omega))
  have HZ := Lib.hid (sized_any w size hs)
  have hs8 : 1 ≤ size ∧ size ≤ 8 := by omega
  have hbl := h.lt
  clear h hs
  generalize cutL st size = p at *
  generalize cutS st size = st' at *
  go_enter Try.func48, Try.ntmps48
  go_wp2_with fail
  refine HZ.out.mono ?_
  rintro e w2 ⟨rfl, rfl⟩
  go_wp2_with fail
  refine HC.out.mono ?_
  rintro e w3 ⟨v, rfl, hv, hr3, hs3, hz3⟩
  obtain ⟨va, vb, voff, vcap, rfl, hvm, hvc, hat⟩ := hv.at
  have Hat := Lib.hid hat
  have Hr3 := Lib.hid hr3
  have Hs3 := Lib.hid hs3
  have Hz3 := Lib.hid hz3
  clear hv hat hr3 hs3 hz3 HC HZ
  go_wp2_with fail
  go_loop [5, 6, 7, 19] (fun n _ _ i => ∃ k : Nat, k ≤ p.length ∧ i = .int .i64 k ∧ n = .int .i64 (IntKind.i64.wrap (valL (p.take k) : Int))) (fun _ _ _ i => p.length - (intOf i).toNat)
  case atStart => exact ⟨0, Nat.zero_le _, rfl, rfl⟩
  case round =>
    obtain ⟨k, hk, rfl, rfl⟩ := hrel
    by_cases hlt : k < p.length
    · obtain rfl := Hat.out.addr (by omega)
      obtain ⟨c, hc⟩ : ∃ c, p[k]? = some c := ⟨_, List.getElem?_eq_getElem hlt⟩
      have g := Hat.out.byte1 k c hc
      have hkl : (p.take k).length = k := by rw [List.length_take]; omega
      have hvl := valL_lt (p.take k)
      rw [hkl] at hvl
      have hstep : bits .or .i64 (IntKind.i64.wrap (valL (p.take k) : Int)) (IntKind.i64.wrap ((c.toNat : Int) * 2 ^ (8 * k))) = IntKind.i64.wrap (valL (p.take (k + 1)) : Int) := by
        obtain ⟨h', rfl⟩ := List.getElem?_eq_some_iff.1 hc
        rw [List.take_succ_eq_append_getElem h', valL_snoc, hkl]
        exact or_step _ _ k (by omega) hvl p[k].toNat_lt
      rw [← wrap64_i, ← wrap64_i] at hstep
      have hc256 := c.toNat_lt
      have Hstep := Lib.hid hstep
      clear hstep hc
      go_wp2_with fail
      go_round
      case rel => exact ⟨k + 1, by omega, by go_num, by rw [← Hstep.out]⟩
      case measure => simp [intOf]; omega
    · have He : Hid (p.take k = p) := Lib.hid (List.take_of_length_le (by omega))
      rw [He.out]
      go_wp2
      go_ret
      exact ⟨rfl, Hr3.out, Hs3.out, Hz3.out⟩

end Go.Proofs.Ytbliedldlimpgaa
