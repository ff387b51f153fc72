/- Lemmas. -/
import Derived.Test.YtpjgjeadjjackaaGreatBui0
import Derived.Test.YtpjgjeadjjackaaGreatChecked
import Derived.WalkKit
import Derived.Lib.Hide
import Derived.OneCell
import Derived.Below
import Derived.WalkSmall
import Derived.Deep.OwnRows
import Derived.Deep.AppendLies
import Derived.Laws.AppendOwn
set_option linter.unusedVariables false
set_option linter.unusedSimpArgs false
set_option maxHeartbeats 64000000
set_option maxRecDepth 100000
namespace Go.Proofs.YtpjgjeadjjackaaGreat
open Go.RowKit
variable {B:Nat}{w w':World}{S:Nat->Prop}{v:Value}
structure lS where
  at_:Int
  size:Int
  bytes:List UInt8
  perm:Int
structure bF where
  arT:List UInt8
  asc:List UInt8
  old:Bool
  ar3:Int
  ar1:Bool
  bq:Int
  asg:Bool
  value:Int
  size:Int
structure iE where
  at_:Int
  ar3:Int
  sym:Int
  add:Int
abbrev arK (s:bF):Array Value:=#[ax s.arT,ax s.asc,.bool s.old,ah s.ar3,.bool s.ar1,ah s.bq,.bool s.asg,ah s.value,ah s.size]
abbrev arX (s:bF):Array Value:=#[ax s.arT,ax s.asc,.bool s.old,ah s.ar3,.bool s.ar1,ah s.bq,.bool true,ah 0,ah 0]
abbrev arR (p:Nat) (a:Option Addr) (n c:Nat) (b:Option Addr) (m d:Nat) (y0 y1 y2 y3 y4 y5:Int):Array Value:=#[aQ p,.slice a n c,.slice b m d,ah y0,ah y1,ah y2,ah 0,ah y3,ah y4,ah y5]
abbrev arJ:Array Value:=#[aK,ah 0,au,au,au,au,au,au,ah 0,au,au,au,au,au,ah 0]
abbrev arZ:Array Value:=#[aK,aK,.bool false,ah 0,.bool false,ah 0,.bool false,ah 0,ah 0,au,au,.bool false]
abbrev arQ:Array Value:=#[aK,aK,.bool false,ah 0,.bool false,ah 0,.bool false,ah 0,ah 0]
structure kV where
  at_:Int
  sym:Int
  stub:Int
structure AX where
  arT:List UInt8
  asi:List (List UInt8)
structure bK where
  arT:List UInt8
  ar4:Int
  aI:List lS
  ar6:List AX
  aF:List (List UInt8)
  av:List bF
  ar9:List (List Int)
  ar8:List Int
  ase:Int
  aO:List iE
  asf:List kV
  asb:List Int
  aP:List Int
  bf:List UInt8
  aJ:Int
def Kh (n:Int):Bool:=(decide (97<=n)&&decide (n<=122))||(decide (65<=n)&&decide (n<=90))||(decide (48<=n)&&decide (n<=57))||(n==95)||(n==46)
def qA (c:UInt8):Bool:=Kh c.toNat
def iN (s:List UInt8):Bool:=s.all qA&&decide (1<=s.length)&&decide (s.length<=64)
def sizedB (s:List UInt8):Bool:=decide (1<=s.length)&&decide (s.length<=200)
def uQ (n:AX):Bool:=sizedB n.arT&&decide (n.asi.length<=16)&&n.asi.all iN
def mH (im:bK):Bool:=
  (decide (im.arT=[])||iN im.arT)&&decide (0<=im.ar4)&&decide (im.ar4<16)&&decide (im.ar6.length<=16)&&decide (im.aF.length<=16)&&im.ar6.all uQ&&im.aF.all sizedB
def ny (n:Int):Int:=(n+63)/64*64
def Ro (s:lS):Bool:=
  decide (0<=s.at_)&&decide (s.at_<=65536)&&decide (s.at_%64=0)&&decide (1<=s.size)&&decide (s.at_+s.size<=65536)&&decide ((s.bytes.length:Int)<=s.size)&&decide (0<=s.perm)&&decide (s.perm<=7)
def ku:Int->List lS->Bool
  | _,[]=>true
  | e,s :: l=>decide (e<=s.at_)&&Ro s&&ku (ny (s.at_+s.size)) l
def jL (l:List lS):Bool:=decide (1<=l.length)&&decide (l.length<=8)&&ku 0 l
def CR (p q:Int):Bool:=(p.toNat &&& q.toNat)==q.toNat
def bZ (l:List lS) (at_ n p:Int):Bool:=l.any fun s=>decide (s.at_<=at_)&&decide (n<=s.size)&&decide (at_-s.at_<=s.size-n)&&CR s.perm p
def bC (s:bF):Bool:=
  iN s.arT&&(decide (s.asc=[])||iN s.asc)&&decide (1<=s.ar3)&&decide (s.ar3<=3)&&decide (0<=s.bq)&&decide (s.bq<=2)&&decide (0<=s.value)&&decide (0<=s.size)&&
  (s.asg||(!s.old&&decide (s.bq=0)&&decide (s.value=0)&&decide (s.size=0)))&& !(s.old&&decide (s.asc=[]))
def fI (s t:bF):Bool:=s.asg&&t.asg&&decide (s.arT=t.arT)&&(decide (s.asc=t.asc)||(!s.old&& !t.old))
def qW (aI:List lS) (bf:Int) (s:bF):Bool:=
  bC s&&(!s.asg||(if s.ar3=3 then decide (s.size<=bf)&&decide (s.value<=bf-s.size) else bZ aI s.value s.size 0))
def lu (aI:List lS) (bf:Int):List bF->List bF->Bool
  | _,[]=>true
  | done,s :: l=>qW aI bf s&&(done.all fun t=> !fI s t)&&lu aI bf (done++[s]) l
def jE (im:bK):Bool:=decide (im.av.length<=512)&&lu im.aI im.aJ [] im.av
def sK:Int->List UInt8->Int
  | h,[]=>h
  | h,c :: l=>sK ((33*h+c.toNat)%4294967296) l
def lw (s:List UInt8):Int:=sK 5381 s
def ow (s:bF):Bool:=s.asg&&decide (s.bq≠2)
def oz (ar8:List Int) (ase:Int):Bool:=(decide (ar8.length=1)||decide (ar8.length=2)||decide (ar8.length=4)||decide (ar8.length=8)||decide (ar8.length=16)||decide (ar8.length=32)||decide (ar8.length=64))&&decide (1<=ase)&&decide (ase<=31)
def zz (w:Int) (k:Nat):Bool:=(w.toNat/2 ^ k)%2==1
def tH (ar8:List Int) (ase:Int) (h:Int):Bool:=
  let w:=ar8.getD ((h.toNat/64)%ar8.length) 0
  !(zz w (h.toNat%64)&&zz w ((h.toNat/2 ^ ase.toNat)%64))
def jY (arT:List UInt8) (many:Nat):Nat:=(lw arT).toNat%many
def chainB (av:List bF) (ar8:List Int) (ase:Int) (many b:Nat):Int->List Int->Bool
  | _,[]=>true
  | last,i :: l=>decide (last<i)&&(match (if i<0 then none else av[i.toNat]?)with
    | some s=>ow s&&decide (jY s.arT many=b)&& !tH ar8 ase (lw s.arT)
    | none=>false)&&chainB av ar8 ase many b i l
def Ap (av:List bF) (ar8:List Int) (ase:Int) (many:Nat):Nat->List (List Int)->Bool
  | _,[]=>true
  | b,c :: l=>chainB av ar8 ase many b (-1) c&&Ap av ar8 ase many (b+1) l
def nA (im:bK):Bool:=
  decide (im.av.length<=512)&&decide (1<=im.ar9.length)&&decide (im.ar9.length<=512)&&oz im.ar8 im.ase&&Ap im.av im.ar8 im.ase im.ar9.length 0 im.ar9&&
  decide ((im.ar9.map List.length).sum=(im.av.filter ow).length)
def gX (im:bK) (i:Int):Option bF:=if i<0 then none else im.av[i.toNat]?
def eU (im:bK) (r:iE):Int:=
  match gX im r.sym with
  | some s=>if r.ar3=2 then s.size else 8
  | none=>8
def kz (im:bK) (r:iE):Bool:=
  if r.ar3=1 then decide (r.sym= -1)&&decide (0<=r.add)&&decide (r.add<=65536)&&bZ im.aI r.at_ 8 0
  else match gX im r.sym with
    | none=>false
    | some s=>decide (-4294967296<=r.add)&&decide (r.add<=4294967296)&&
      (if r.ar3=0∨r.ar3=6 then decide (s.ar3≠3)&&bZ im.aI r.at_ 8 0
       else if r.ar3=7 then decide (r.add=0)&&bZ im.aI r.at_ 8 0
       else if r.ar3=3 then decide (s.ar3=3)&&decide (r.add=0)&&bZ im.aI r.at_ 8 0
       else if r.ar3=4∨r.ar3=5 then decide (s.ar3=3)&&bZ im.aI r.at_ 8 0
       else if r.ar3=2 then decide (s.ar3=2)&&s.asg&&decide (1<=s.size)&&decide (s.value=r.at_)&&decide (im.ar4%2=1)&&decide (r.add=0)&&bZ im.aI r.at_ s.size 2
       else false)
def iA (im:bK):Int->List iE->Bool
  | _,[]=>true
  | e,r :: l=>decide (e<=r.at_)&&kz im r&&iA im (r.at_+eU im r) l
def jk (im:bK):Bool:=decide (im.aO.length<=512)&&iA im 0 im.aO
def vT (im:bK) (s:kV):Bool:=
  (match gX im s.sym with
   | some x=>decide (x.ar3=1)
   | none=>false)&&bZ im.aI s.at_ 8 0&&bZ im.aI s.stub 8 4&&im.aO.all fun r=> !(decide (r.at_<s.at_+8)&&decide (s.at_<r.at_+eU im r))
def iF (im:bK):Int->List kV->Bool
  | _,[]=>true
  | e,s :: l=>decide (e<=s.at_)&&vT im s&&iF im (s.at_+8) l
def kP (im:bK):Bool:=decide (im.asf.length<=128)&&iF im 0 im.asf
def jr (im:bK) (l:List Int):Bool:=decide (l.length<=8)&&l.all fun a=>bZ im.aI a 8 4
def qX (im:bK):Bool:=decide (0<=im.aJ)&&decide (im.aJ<=4096)&&decide ((im.bf.length:Int)<=im.aJ)
def kH (im:bK):Int:=
  if mH im=false then 90
  else if jL im.aI=false then 91
  else if qX im=false then 96
  else if jE im=false then 92
  else if nA im=false then 93
  else if jk im=false then 94
  else if kP im=false then 95
  else if (jr im im.asb&&jr im im.aP)=false then 97
  else 0
def bD (size:Nat) (n:Int):List UInt8:=(List.range size).map fun i=>UInt8.ofNat ((n%18446744073709551616).toNat/256 ^ i)
def pF (s:List UInt8):List UInt8:=bD 2 s.length++s
def wU (s:List UInt8):List UInt8:=bD 4 s.length++s
def numsL (size:Nat) (l:List Int):List UInt8:=(l.map (bD size)).flatten
def jH (l:List (List UInt8)):List UInt8:=(l.map pF).flatten
def Ad (b:Bool):Int:=if b then 1 else 0
def Ei (s:lS):List UInt8:=bD 4 s.at_++bD 4 s.size++bD 1 s.perm++wU s.bytes
def zS (n:AX):List UInt8:=pF n.arT++bD 1 n.asi.length++jH n.asi
def Ej (s:bF):List UInt8:=pF s.arT++pF s.asc++bD 1 s.ar3++bD 1 s.bq++bD 1 (Ad s.old)++bD 1 (Ad s.ar1)++bD 1 (Ad s.asg)++bD 8 s.value++bD 8 s.size
def wV (c:List Int):List UInt8:=bD 2 c.length++numsL 2 c
def El (r:iE):List UInt8:=bD 1 r.ar3++bD 8 r.at_++bD 8 r.sym++bD 8 r.add
def zT (s:kV):List UInt8:=bD 4 s.at_++bD 4 s.sym++bD 4 s.stub
def Zh:List UInt8:=[99,108,101,118,105,115,49]
def PY (im:bK):List UInt8:=
  pF Zh++pF im.arT++bD 1 im.ar4++bD 1 im.aI.length++(im.aI.map Ei).flatten++
  bD 1 im.ar6.length++(im.ar6.map zS).flatten++bD 1 im.aF.length++jH im.aF++
  bD 2 im.av.length++(im.av.map Ej).flatten++bD 2 im.ar9.length++(im.ar9.map wV).flatten++
  bD 1 im.ase++bD 1 im.ar8.length++numsL 8 im.ar8++bD 2 im.aO.length++(im.aO.map El).flatten++
  bD 2 im.asf.length++(im.asf.map zT).flatten++bD 1 im.asb.length++numsL 4 im.asb++bD 1 im.aP.length++numsL 4 im.aP++
  bD 2 im.aJ++wU im.bf
theorem size_mk (l:List UInt8):ByteArray.size ⟨l.toArray⟩=l.length:=by simp[ByteArray.size]
def Keeps (S:Nat->Prop) (w w':World):Prop:=∀b,S b->w'.heap[b]? =w.heap[b]?
theorem Keeps.of_below (h:Below B w w'):Keeps (·<B) w w':=fun b hb=>h.block b hb
structure Kind (α:Type) where
 k:Nat
 R:(Nat->Prop)->World->α->List Value->Prop
 len:∀ {S w x r},R S w x r->r.length=k
 asa:∀ {S w w' x r},R S w x r->Keeps S w w'->R S w' x r
 imp:∀ {S S':Nat->Prop} {w x r},R S w x r->(∀b,S b->S' b)->R S' w x r
def LB {α:Type} (K:Kind α) (S:Nat->Prop) (w:World) (v:Value) (l:List α):Prop:=
 ∃(a:Option Addr) (b off cap:Nat),v=.slice a l.length cap/\l.length<=9223372036854775807/\(0<l.length->a=some (ak b off))/\(l.length<=cap/\(a=none->cap=0))/\(0<l.length->S b)/\
  ∀i x,l[i]? =some x->∃row,K.R S w x row/\∀j u,row[j]? =some u->w.cell? (ak b (off+i*K.k+j))=some u
theorem LB.asa {α:Type} {K:Kind α} {l:List α} (h:LB K S w v l) (hk:Keeps S w w'):LB K S w' v l:=by
 obtain⟨a,b,off,cap,hv,hm,ha,hcap,hS,hc⟩:=h;refine⟨a,b,off,cap,hv,hm,ha,hcap,hS,fun i x hx=> ?_⟩;obtain⟨row,h1,h2⟩:=hc i x hx;have hi:i<l.length:=(List.getElem?_eq_some_iff.1 hx).1;exact⟨row,K.asa h1 hk,fun j u hu=>by rw[World.cell?_of_block (a:=(ak b (off+i*K.k+j))) (hk b (hS wP))];exact h2 j u hu⟩
theorem LB.imp {α:Type} {K:Kind α} {S':Nat->Prop} {l:List α} (h:LB K S w v l) (hi:∀b,S b->S' b):LB K S' w v l:=by
 obtain⟨a,b,off,cap,hv,hm,ha,hcap,hS,hc⟩:=h;refine⟨a,b,off,cap,hv,hm,ha,hcap,fun h0=>hi b (hS h0),fun i x hx=> ?_⟩;obtain⟨row,h1,h2⟩:=hc i x hx;exact⟨row,K.imp h1 hi,h2⟩
theorem LB.nil {α:Type} (K:Kind α) (S:Nat->Prop) (w:World):LB K S w (au) []:=
 ⟨none,0,0,0,rfl,arG,fun h=>absurd h arG,arG,fun h=>absurd h arG,fun i x hx=>by simp at hx⟩
theorem LB.form {α:Type} {K:Kind α} {l:List α} (h:LB K S w v l):∃a c,v=.slice a l.length c:=by
 obtain⟨a,b,off,cap,hv,_⟩:=h;exact⟨a,cap,hv⟩
theorem LB.max {α:Type} {K:Kind α} {l:List α} (h:LB K S w v l):l.length<=9223372036854775807:=by
 obtain⟨_,_,_,_,_,hm,_⟩:=h;exact hm
theorem LB.below {α:Type} {K:Kind α} {l:List α} (h:LB K (·<B) w v l) (hb:Below B w w'):LB K (·<B) w' v l:=h.asa (.of_below hb)
theorem LB.mono {α:Type} {K:Kind α} {B':Nat} {l:List α} (h:LB K (·<B) w v l) (hB:B<=B'):LB K (·<B') w v l:=h.imp fun _ hb=>Nat.lt_of_lt_of_le hb hB
structure mF {α:Type} (K:Kind α) (S:Nat->Prop) (w:World) (l:List α) (a:Option Addr) (b off:Nat):Prop where
 addr:0<l.length->a=some (ak b off)
 mG:0<l.length->S b
 row:∀i x,l[i]? =some x->∃row,K.R S w x row/\∀j u,row[j]? =some u->w.cell? (ak b (off+i*K.k+j))=some u
theorem LB.at {α:Type} {K:Kind α} {l:List α} (h:LB K S w v l):∃a b off cap,v=.slice a l.length cap/\l.length<=9223372036854775807/\l.length<=cap/\mF K S w l a b off:=by
 obtain⟨a,b,off,cap,hv,hm,ha,hcap,hS,hc⟩:=h;exact⟨a,b,off,cap,hv,hm,hcap.1,⟨ha,hS,hc⟩⟩
theorem mF.asa {α:Type} {K:Kind α} {l:List α} {a:Option Addr} {b off:Nat} (h:mF K S w l a b off) (hk:Keeps S w w'):mF K S w' l a b off:=
 ⟨h.addr,h.mG,fun i x hx=>by
  obtain⟨row,h1,h2⟩:=h.row i x hx;have hi:i<l.length:=(List.getElem?_eq_some_iff.1 hx).1;exact⟨row,K.asa h1 hk,fun j u hu=>by rw[World.cell?_of_block (a:=(ak b (off+i*K.k+j))) (hk b (h.mG wP))];exact h2 j u hu⟩⟩
theorem mF.below {α:Type} {K:Kind α} {l:List α} {a:Option Addr} {b off:Nat} (h:mF K (·<B) w l a b off) (hb:Below B w w'):mF K (·<B) w' l a b off:=h.asa (.of_below hb)
def dJ:Kind Int:={k:=1,R:=fun _ _ x r=>r=[ah x],len:=fun h=>by rw[h];rfl,asa:=fun h _=>h,imp:=fun h _=>h }
def fq:Kind UInt8:={k:=1,R:=fun _ _ x r=>r=[.int .u8 x.toNat],len:=fun h=>by rw[h];rfl,asa:=fun h _=>h,imp:=fun h _=>h }
def lG:Kind (List UInt8):={k:=1,R:=fun _ _ x r=>r=[ax x]/\x.length<=9223372036854775807,len:=fun h=>by rw[h.1];rfl,asa:=fun h _=>h,imp:=fun h _=>h }
def jQ:Kind Int:={k:=1,R:=fun _ _ x r=>r=[.int .u64 x],len:=fun h=>by rw[h];rfl,asa:=fun h _=>h,imp:=fun h _=>h }
def yX:Kind Int:={k:=1,R:=fun _ _ x r=>r=[.int .u32 x],len:=fun h=>by rw[h];rfl,asa:=fun h _=>h,imp:=fun h _=>h }
def tJ:Kind (List Int):={k:=1,R:=fun S w x r=>∃c,r=[c]/\LB dJ S w c x,len:=fun⟨_,h,_⟩=>by rw[h];rfl,asa:=fun⟨c,h,h'⟩ hk=>⟨c,h,h'.asa hk⟩,imp:=fun⟨c,h,h'⟩ hi=>⟨c,h,h'.imp hi⟩}
def rQ:Kind lS:={k:=4,R:=fun S w x r=>∃c,r=[ah x.at_,ah x.size,c,ah x.perm]/\LB fq S w c x.bytes,len:=fun⟨_,h,_⟩=>by rw[h];rfl,asa:=fun⟨c,h,h'⟩ hk=>⟨c,h,h'.asa hk⟩,imp:=fun⟨c,h,h'⟩ hi=>⟨c,h,h'.imp hi⟩}
def GU:Kind AX:={k:=2,R:=fun S w x r=>∃c,r=[ax x.arT,c]/\LB lG S w c x.asi/\x.arT.length<=9223372036854775807,len:=fun⟨_,h,_⟩=>by rw[h];rfl,asa:=fun⟨c,h,h',h3⟩ hk=>⟨c,h,h'.asa hk,h3⟩,imp:=fun⟨c,h,h',h3⟩ hi=>⟨c,h,h'.imp hi,h3⟩}
def lT (x:bF):List Value:=[ax x.arT,ax x.asc,.bool x.old,ah x.ar3,.bool x.ar1,ah x.bq,.bool x.asg,ah x.value,ah x.size]
structure lJ (x:bF):Prop where
 arT:x.arT.length<=9223372036854775807
 asc:x.asc.length<=9223372036854775807
 ar3: -9223372036854775808<=x.ar3/\x.ar3<=9223372036854775807
 bq: -9223372036854775808<=x.bq/\x.bq<=9223372036854775807
 value: -9223372036854775808<=x.value/\x.value<=9223372036854775807
 size: -9223372036854775808<=x.size/\x.size<=9223372036854775807
def gq:Kind bF:={k:=9,R:=fun _ _ x r=>r=lT x/\lJ x,len:=fun h=>by rw[h.1];rfl,asa:=fun h _=>h,imp:=fun h _=>h }
def Rp (x:iE):List Value:=[ah x.at_,ah x.ar3,ah x.sym,ah x.add]
def mi:Kind iE:={k:=4,R:=fun _ _ x r=>r=Rp x,len:=fun h=>by rw[h];rfl,asa:=fun h _=>h,imp:=fun h _=>h }
def agz (x:kV):List Value:=[ah x.at_,ah x.sym,ah x.stub]
def ER:Kind kV:={k:=3,R:=fun _ _ x r=>r=agz x,len:=fun h=>by rw[h];rfl,asa:=fun h _=>h,imp:=fun h _=>h }
section
variable {S : Nat -> Prop} {w : World} {a : Option Addr} {b off : Nat}
theorem mF.oC {l:List Int} (h:mF dJ S w l a b off) (i:Nat) (x:Int) (hx:l[i]? =some x):w.cell? (ak b (off+i))=some (ah x):=by
 obtain⟨row,h1,h2⟩:=h.row i x hx;have:=h2 0 (ah x) (by rw[h1];rfl)
 simpa [dJ] using this
theorem mF.YY {l:List Int} (h:mF jQ S w l a b off) (i:Nat) (x:Int) (hx:l[i]? =some x):w.cell? (ak b (off+i))=some (.int .u64 x):=by
 obtain⟨row,h1,h2⟩:=h.row i x hx;have:=h2 0 (.int .u64 x) (by rw[h1];rfl)
 simpa [jQ] using this
theorem mF.I7 {l:List (List UInt8)} (h:mF lG S w l a b off) (i:Nat) (x:List UInt8) (hx:l[i]? =some x):w.cell? (ak b (off+i))=some (ax x)/\x.length<=9223372036854775807:=by
 obtain⟨row,⟨h1,h3⟩,h2⟩:=h.row i x hx;have:=h2 0 (ax x) (by rw[h1];rfl);exact⟨by simpa [lG] using this,h3⟩
theorem mF.Si {l:List (List Int)} (h:mF tJ S w l a b off) (i:Nat) (x:List Int) (hx:l[i]? =some x):∃c,w.cell? (ak b (off+i))=some c/\LB dJ S w c x:=by
 obtain⟨row,⟨c,h1,h1'⟩,h2⟩:=h.row i x hx;have:=h2 0 c (by rw[h1];rfl);exact⟨c,by simpa [tJ] using this,h1'⟩
theorem mF.Ki {l:List lS} (h:mF rQ S w l a b off) (i:Nat) (x:lS) (hx:l[i]? =some x):∃c,w.cell? (ak b (off+i*4))=some (ah x.at_)/\w.cell? (ak b (off+i*4+1))=some (ah x.size)/\
  w.cell? (ak b (off+i*4+2))=some c/\w.cell? (ak b (off+i*4+3))=some (ah x.perm)/\LB fq S w c x.bytes:=by
 obtain⟨row,⟨c,h1,h1'⟩,h2⟩:=h.row i x hx;subst h1;exact⟨c,h2 0 _ rfl,h2 1 _ rfl,h2 2 _ rfl,h2 3 _ rfl,h1'⟩
theorem mF.Sj {l:List AX} (h:mF GU S w l a b off) (i:Nat) (x:AX) (hx:l[i]? =some x):∃c,w.cell? (ak b (off+i*2))=some (ax x.arT)/\w.cell? (ak b (off+i*2+1))=some c/\LB lG S w c x.asi/\x.arT.length<=9223372036854775807:=by
 obtain⟨row,⟨c,h1,h1',h3⟩,h2⟩:=h.row i x hx;subst h1;exact⟨c,h2 0 _ rfl,h2 1 _ rfl,h1',h3⟩
theorem mF.rR {l:List bF} (h:mF gq S w l a b off) (i:Nat) (x:bF) (hx:l[i]? =some x):lJ x/\w.cell? (ak b (off+i*9))=some (ax x.arT)/\w.cell? (ak b (off+i*9+1))=some (ax x.asc)/\
  w.cell? (ak b (off+i*9+2))=some (.bool x.old)/\w.cell? (ak b (off+i*9+3))=some (ah x.ar3)/\w.cell? (ak b (off+i*9+4))=some (.bool x.ar1)/\w.cell? (ak b (off+i*9+5))=some (ah x.bq)/\
  w.cell? (ak b (off+i*9+6))=some (.bool x.asg)/\w.cell? (ak b (off+i*9+7))=some (ah x.value)/\w.cell? (ak b (off+i*9+8))=some (ah x.size):=by
 obtain⟨row,⟨h1,h1'⟩,h2⟩:=h.row i x hx;subst h1;exact⟨h1',h2 0 _ rfl,h2 1 _ rfl,h2 2 _ rfl,h2 3 _ rfl,h2 4 _ rfl,h2 5 _ rfl,h2 6 _ rfl,h2 7 _ rfl,h2 8 _ rfl⟩
theorem mF.NH {l:List iE} (h:mF mi S w l a b off) (i:Nat) (x:iE) (hx:l[i]? =some x):w.cell? (ak b (off+i*4))=some (ah x.at_)/\w.cell? (ak b (off+i*4+1))=some (ah x.ar3)/\
  w.cell? (ak b (off+i*4+2))=some (ah x.sym)/\w.cell? (ak b (off+i*4+3))=some (ah x.add):=by
 obtain⟨row,h1,h2⟩:=h.row i x hx;subst h1;exact⟨h2 0 _ rfl,h2 1 _ rfl,h2 2 _ rfl,h2 3 _ rfl⟩
theorem mF.Sk {l:List kV} (h:mF ER S w l a b off) (i:Nat) (x:kV) (hx:l[i]? =some x):w.cell? (ak b (off+i*3))=some (ah x.at_)/\w.cell? (ak b (off+i*3+1))=some (ah x.sym)/\
  w.cell? (ak b (off+i*3+2))=some (ah x.stub):=by
 obtain⟨row,h1,h2⟩:=h.row i x hx;subst h1;exact⟨h2 0 _ rfl,h2 1 _ rfl,h2 2 _ rfl⟩
end
end Go.Proofs.YtpjgjeadjjackaaGreat
