/- Lemmas. -/
set_option linter.unusedVariables false
set_option linter.unusedSimpArgs false
set_option maxHeartbeats 64000000
set_option maxRecDepth 100000
namespace Go.Proofs.YtfchpchabdhcgaaGreat
structure SegL where
  at_:Int
  size:Int
  bytes:List UInt8
  perm:Int
structure SymL where
  name:List UInt8
  version:List UInt8
  old:Bool
  kind:Int
  weak:Bool
  vis:Int
  defined:Bool
  value:Int
  size:Int
structure RelL where
  at_:Int
  kind:Int
  sym:Int
  add:Int
structure SlotL where
  at_:Int
  sym:Int
  stub:Int
structure NeedL where
  name:List UInt8
  versions:List (List UInt8)
structure ImgL where
  name:List UInt8
  flags:Int
  segs:List SegL
  needed:List NeedL
  runPath:List (List UInt8)
  syms:List SymL
  buckets:List (List Int)
  words:List Int
  shift:Int
  relocs:List RelL
  slots:List SlotL
  init:List Int
  fini:List Int
  tls:List UInt8
  tlsSize:Int
def nameN (n:Int):Bool:=(decide (97≤n)&&decide (n≤122))||(decide (65≤n)&&decide (n≤90))||(decide (48≤n)&&decide (n≤57))||(n==95)||(n==46)
def nameC (c:UInt8):Bool:=nameN c.toNat
def nameB (s:List UInt8):Bool:=s.all nameC&&decide (1≤s.length)&&decide (s.length≤64)
def sizedB (s:List UInt8):Bool:=decide (1≤s.length)&&decide (s.length≤200)
def needB (n:NeedL):Bool:=sizedB n.name&&decide (n.versions.length≤16)&&n.versions.all nameB
def headB (im:ImgL):Bool:=
  (decide (im.name=[])||nameB im.name)&&decide (0≤im.flags)&&decide (im.flags<16)&&decide (im.needed.length≤16)&&decide (im.runPath.length≤16)&&im.needed.all needB&&im.runPath.all sizedB
def upL (n:Int):Int:=(n+63)/64*64
def segB (s:SegL):Bool:=
  decide (0≤s.at_)&&decide (s.at_≤65536)&&decide (s.at_%64=0)&&decide (1≤s.size)&&decide (s.at_+s.size≤65536)&&decide ((s.bytes.length:Int)≤s.size)&&decide (0≤s.perm)&&decide (s.perm≤7)
def segsFrom:Int→List SegL→Bool
  | _,[]=>true
  | e,s :: l=>decide (e≤s.at_)&&segB s&&segsFrom (upL (s.at_+s.size)) l
def segsB (l:List SegL):Bool:=decide (1≤l.length)&&decide (l.length≤8)&&segsFrom 0 l
def permB (p q:Int):Bool:=(p.toNat &&& q.toNat)==q.toNat
def holdsB (l:List SegL) (at_ n p:Int):Bool:=l.any fun s=>decide (s.at_≤at_)&&decide (n≤s.size)&&decide (at_-s.at_≤s.size-n)&&permB s.perm p
def symRightB (s:SymL):Bool:=
  nameB s.name&&(decide (s.version=[])||nameB s.version)&&decide (1≤s.kind)&&decide (s.kind≤3)&&decide (0≤s.vis)&&decide (s.vis≤2)&&decide (0≤s.value)&&decide (0≤s.size)&&
  (s.defined||(!s.old&&decide (s.vis=0)&&decide (s.value=0)&&decide (s.size=0)))&& !(s.old&&decide (s.version=[]))
def clashB (s t:SymL):Bool:=s.defined&&t.defined&&decide (s.name=t.name)&&(decide (s.version=t.version)||(!s.old&& !t.old))
def symB (segs:List SegL) (tls:Int) (s:SymL):Bool:=
  symRightB s&&(!s.defined||(if s.kind=3 then decide (s.size≤tls)&&decide (s.value≤tls-s.size) else holdsB segs s.value s.size 0))
def symsFrom (segs:List SegL) (tls:Int):List SymL→List SymL→Bool
  | _,[]=>true
  | done,s :: l=>symB segs tls s&&(done.all fun t=> !clashB s t)&&symsFrom segs tls (done++[s]) l
def symsB (im:ImgL):Bool:=decide (im.syms.length≤512)&&symsFrom im.segs im.tlsSize [] im.syms
def hashL:Int→List UInt8→Int
  | h,[]=>h
  | h,c :: l=>hashL ((33*h+c.toNat)%4294967296) l
def hashB (s:List UInt8):Int:=hashL 5381 s
def seenB (s:SymL):Bool:=s.defined&&decide (s.vis≠2)
def sieveB (words:List Int) (shift:Int):Bool:=(decide (words.length=1)||decide (words.length=2)||decide (words.length=4)||decide (words.length=8)||decide (words.length=16)||decide (words.length=32)||decide (words.length=64))&&decide (1≤shift)&&decide (shift≤31)
def bitB (w:Int) (k:Nat):Bool:=(w.toNat/2 ^ k)%2==1
def lacksB (words:List Int) (shift:Int) (h:Int):Bool:=
  let w:=words.getD ((h.toNat/64)%words.length) 0
  !(bitB w (h.toNat%64)&&bitB w ((h.toNat/2 ^ shift.toNat)%64))
def homeL (name:List UInt8) (many:Nat):Nat:=(hashB name).toNat%many
def chainB (syms:List SymL) (words:List Int) (shift:Int) (many b:Nat):Int→List Int→Bool
  | _,[]=>true
  | last,i :: l=>decide (last<i)&&(match (if i<0 then none else syms[i.toNat]?)with
    | some s=>seenB s&&decide (homeL s.name many=b)&& !lacksB words shift (hashB s.name)
    | none=>false)&&chainB syms words shift many b i l
def chainsB (syms:List SymL) (words:List Int) (shift:Int) (many:Nat):Nat→List (List Int)→Bool
  | _,[]=>true
  | b,c :: l=>chainB syms words shift many b (-1) c&&chainsB syms words shift many (b+1) l
def tableB (im:ImgL):Bool:=
  decide (im.syms.length≤512)&&decide (1≤im.buckets.length)&&decide (im.buckets.length≤512)&&sieveB im.words im.shift&&chainsB im.syms im.words im.shift im.buckets.length 0 im.buckets&&
  decide ((im.buckets.map List.length).sum=(im.syms.filter seenB).length)
def symAt (im:ImgL) (i:Int):Option SymL:=if i<0 then none else im.syms[i.toNat]?
def wideL (im:ImgL) (r:RelL):Int:=
  match symAt im r.sym with
  | some s=>if r.kind=2 then s.size else 8
  | none=>8
def relocB (im:ImgL) (r:RelL):Bool:=
  if r.kind=1 then decide (r.sym= -1)&&decide (0≤r.add)&&decide (r.add≤65536)&&holdsB im.segs r.at_ 8 0
  else match symAt im r.sym with
    | none=>false
    | some s=>decide (-4294967296≤r.add)&&decide (r.add≤4294967296)&&
      (if r.kind=0∨r.kind=6 then decide (s.kind≠3)&&holdsB im.segs r.at_ 8 0
       else if r.kind=7 then decide (r.add=0)&&holdsB im.segs r.at_ 8 0
       else if r.kind=3 then decide (s.kind=3)&&decide (r.add=0)&&holdsB im.segs r.at_ 8 0
       else if r.kind=4∨r.kind=5 then decide (s.kind=3)&&holdsB im.segs r.at_ 8 0
       else if r.kind=2 then decide (s.kind=2)&&s.defined&&decide (1≤s.size)&&decide (s.value=r.at_)&&decide (im.flags%2=1)&&decide (r.add=0)&&holdsB im.segs r.at_ s.size 2
       else false)
def relocsFrom (im:ImgL):Int→List RelL→Bool
  | _,[]=>true
  | e,r :: l=>decide (e≤r.at_)&&relocB im r&&relocsFrom im (r.at_+wideL im r) l
def relocsB (im:ImgL):Bool:=decide (im.relocs.length≤512)&&relocsFrom im 0 im.relocs
def slotB (im:ImgL) (s:SlotL):Bool:=
  (match symAt im s.sym with
   | some x=>decide (x.kind=1)
   | none=>false)&&holdsB im.segs s.at_ 8 0&&holdsB im.segs s.stub 8 4&&im.relocs.all fun r=> !(decide (r.at_<s.at_+8)&&decide (s.at_<r.at_+wideL im r))
def slotsFrom (im:ImgL):Int→List SlotL→Bool
  | _,[]=>true
  | e,s :: l=>decide (e≤s.at_)&&slotB im s&&slotsFrom im (s.at_+8) l
def slotsB (im:ImgL):Bool:=decide (im.slots.length≤128)&&slotsFrom im 0 im.slots
def runB (im:ImgL) (l:List Int):Bool:=decide (l.length≤8)&&l.all fun a=>holdsB im.segs a 8 4
def tlsB (im:ImgL):Bool:=decide (0≤im.tlsSize)&&decide (im.tlsSize≤4096)&&decide ((im.tls.length:Int)≤im.tlsSize)
def mayL (im:ImgL):Int:=
  if headB im=false then 90
  else if segsB im.segs=false then 91
  else if tlsB im=false then 96
  else if symsB im=false then 92
  else if tableB im=false then 93
  else if relocsB im=false then 94
  else if slotsB im=false then 95
  else if (runB im im.init&&runB im im.fini)=false then 97
  else 0
def digitsL (size:Nat) (n:Int):List UInt8:=(List.range size).map fun i=>UInt8.ofNat ((n%18446744073709551616).toNat/256 ^ i)
def textL' (s:List UInt8):List UInt8:=digitsL 2 s.length++s
def blockL (s:List UInt8):List UInt8:=digitsL 4 s.length++s
def numsL (size:Nat) (l:List Int):List UInt8:=(l.map (digitsL size)).flatten
def textsL (l:List (List UInt8)):List UInt8:=(l.map textL').flatten
def oneL (b:Bool):Int:=if b then 1 else 0
def segF (s:SegL):List UInt8:=digitsL 4 s.at_++digitsL 4 s.size++digitsL 1 s.perm++blockL s.bytes
def needF (n:NeedL):List UInt8:=textL' n.name++digitsL 1 n.versions.length++textsL n.versions
def symF (s:SymL):List UInt8:=textL' s.name++textL' s.version++digitsL 1 s.kind++digitsL 1 s.vis++digitsL 1 (oneL s.old)++digitsL 1 (oneL s.weak)++digitsL 1 (oneL s.defined)++digitsL 8 s.value++digitsL 8 s.size
def chainF (c:List Int):List UInt8:=digitsL 2 c.length++numsL 2 c
def relF (r:RelL):List UInt8:=digitsL 1 r.kind++digitsL 8 r.at_++digitsL 8 r.sym++digitsL 8 r.add
def slotF (s:SlotL):List UInt8:=digitsL 4 s.at_++digitsL 4 s.sym++digitsL 4 s.stub
def magicL:List UInt8:=[99,108,101,118,105,115,49]
def formL (im:ImgL):List UInt8:=
  textL' magicL++textL' im.name++digitsL 1 im.flags++digitsL 1 im.segs.length++(im.segs.map segF).flatten++
  digitsL 1 im.needed.length++(im.needed.map needF).flatten++digitsL 1 im.runPath.length++textsL im.runPath++
  digitsL 2 im.syms.length++(im.syms.map symF).flatten++digitsL 2 im.buckets.length++(im.buckets.map chainF).flatten++
  digitsL 1 im.shift++digitsL 1 im.words.length++numsL 8 im.words++digitsL 2 im.relocs.length++(im.relocs.map relF).flatten++
  digitsL 2 im.slots.length++(im.slots.map slotF).flatten++digitsL 1 im.init.length++numsL 4 im.init++digitsL 1 im.fini.length++numsL 4 im.fini++
  digitsL 2 im.tlsSize++blockL im.tls
end Go.Proofs.YtfchpchabdhcgaaGreat
