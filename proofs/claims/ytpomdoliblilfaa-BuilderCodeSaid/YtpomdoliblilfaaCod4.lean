/- Lemmas. -/
import Derived.Test.YtpomdoliblilfaaBld18
import Derived.Test.YtpomdoliblilfaaBld27
import Derived.Test.YtpomdoliblilfaaBld21
namespace Go.Proofs.Ytpomdoliblilfaa
set_option linter.unusedVariables false
set_option linter.unusedSimpArgs false
open Go.RowKit
theorem LAt.byte1 {S:Nat→Prop} {w:World} {a:Option Addr} {b off:Nat} {l:List UInt8} (h:LAt kByte S w l a b off) (i:Nat) (x:UInt8) (hx:l[i]? =some x):w.cell? ⟨b,off+i,none⟩=some (.int .u8 x.toNat):=by
 obtain⟨row,h1,h2⟩:=h.row i x hx
 have:=h2 0 (.int .u8 x.toNat) (by rw [h1];rfl)
 simpa [kByte] using this
def immOf (b:List UInt8):Int:=(b.getD 4 0).toNat+256*(b.getD 5 0).toNat+65536*(b.getD 6 0).toNat+16777216*(b.getD 7 0).toNat
def signOf (n:Int):Int:=if 2147483648≤n then n-4294967296 else n
theorem byte_small (n:Int) (h0:0≤n) (h1:n<256):((byteAt n 0).toNat:Int)=n:=by
 unfold byteAt
 simp only [Nat.pow_zero,Nat.div_one]
 rw [Int.emod_eq_of_lt h0 (by omega),UInt8.toNat_ofNat']
 omega
theorem byte_imm (n:Int) (i:Nat):((byteAt n i).toNat:Int)=((n%18446744073709551616).toNat/256 ^ i%256:Nat):=by
 unfold byteAt
 rw [UInt8.toNat_ofNat']
theorem instB_parts {i:InstL} (h:instB i=true):∃ f,formStr[i.op.toNat]? =some f∧0≤i.op∧i.op≤22∧partB (f.contains 97) 0 15 i.a=true∧partB (f.contains 98) 0 15 i.b=true∧partB (f.contains 99) 0 15 i.c=true∧partB (f.contains 110) (-2147483648) 2147483647 i.imm=true:=by
 unfold instB at h
 rw [forms_eq,List.getElem?_map]at h
 cases hf:formStr[i.op.toNat]? with
 | none=>rw [hf]at h;simp at h
 | some f=>
  rw [hf]at h
  simp only [Option.map_some,Bool.and_eq_true,decide_eq_true_eq]at h
  have hl:=(List.getElem?_eq_some_iff.1 hf).1
  have:formStr.length=23:=rfl
  exact⟨f,rfl,h.1,by omega,h.2.1.1.1,h.2.1.1.2,h.2.1.2,h.2.2⟩
theorem partB_range {b:Bool} {lo hi x:Int} (h:partB b lo hi x=true):lo≤x∧x≤hi:=by
 simp only [partB,Bool.and_eq_true,decide_eq_true_eq]at h
 exact⟨h.1.2,h.2⟩
theorem inst_read {i:InstL} (h:instB i=true):(((instBytes i).getD 0 0).toNat:Int)=i.op∧(((instBytes i).getD 1 0).toNat:Int)=i.a∧(((instBytes i).getD 2 0).toNat:Int)=i.b∧(((instBytes i).getD 3 0).toNat:Int)=i.c∧signOf (immOf (instBytes i))=i.imm:=by
 obtain⟨f,-,h0,h1,ha,hb,hc,hn⟩:=instB_parts h
 have ha:=partB_range ha
 have hb:=partB_range hb
 have hc:=partB_range hc
 have hn:=partB_range hn
 refine⟨byte_small _ h0 (by omega),byte_small _ ha.1 (by omega),byte_small _ hb.1 (by omega),byte_small _ hc.1 (by omega),?_⟩
 have e:immOf (instBytes i)=((byteAt i.imm 0).toNat:Int)+256*((byteAt i.imm 1).toNat:Int)+65536*((byteAt i.imm 2).toNat:Int)+16777216*((byteAt i.imm 3).toNat:Int):=rfl
 rw [e,byte_imm,byte_imm,byte_imm,byte_imm]
 unfold signOf
 simp only [Nat.pow_zero,Nat.div_one,Nat.reducePow]
 generalize hm:(i.imm%18446744073709551616).toNat=m
 split<;>omega
end Go.Proofs.Ytpomdoliblilfaa
namespace Go.Proofs.Ytpomdoliblilfaa
set_option linter.unusedVariables false
set_option linter.unusedSimpArgs false
open Go.RowKit
set_option maxHeartbeats 16000000 in
set_option maxRecDepth 100000 in
theorem qname_any (w:World) (op:Int) (f:List UInt8) (h0:0≤op) (hf:formStr[op.toNat]? =some f):
    Calls Try.prog 100 #[.int .i64 op] w fun e w'=>(∃ nm,e=.returned (.tuple #[.string nm,.string ⟨f.toArray⟩,.bool true]))∧w'=w:=by
  obtain⟨k,hk⟩:∃ k:Nat,op=k:=⟨op.toNat,by omega⟩
  subst hk
  rw [Int.toNat_natCast]at hf
  clear h0
  unfold formStr at hf
  iterate 23
    rcases k with _ | k
    · simp only [List.getElem?_cons_zero,List.getElem?_cons_succ]at hf
      cases hf
      go_enter Try.func100,Try.ntmps100
      go_wp2
      go_ret3
      exact⟨⟨_,rfl⟩,rfl⟩
    simp only [List.getElem?_cons_succ]at hf
  cases hf
def instPart (i:InstL) (c:Int):Int:=if c=97 then i.a else if c=98 then i.b else if c=99 then i.c else i.imm
set_option maxHeartbeats 4000000 in
set_option maxRecDepth 100000 in
theorem qpart_any (w:World) (i:InstL) (c:Int) (hc:c=97∨c=98∨c=99∨c=110):
    Calls Try.prog 101 #[.agg #[.int .i64 i.op,.int .i64 i.a,.int .i64 i.b,.int .i64 i.c,.int .i64 i.imm],.int .u8 c] w fun e w'=>e=.returned (.int .i64 (instPart i c))∧Below w.heap.size w w':=by
  rcases hc with rfl | rfl | rfl | rfl<;>
  (go_enter Try.func101,Try.ntmps101
   go_wp2
   go_ret
   exact⟨rfl,(Below.refl _ _).alloc (Nat.le_refl _) _⟩)
set_option maxHeartbeats 4000000 in
set_option maxRecDepth 100000 in
theorem qranged_any (w:World) (c n:Int) (hl:lowOf c≤n) (hh:n≤highOf c):
    Calls Try.prog 103 #[.int .u8 c,.int .i64 n] w fun e w'=>e=.returned (.bool true)∧w'=w:=by
  unfold lowOf at hl
  unfold highOf at hh
  by_cases hc:c=110
  · subst hc
    rw [if_pos rfl]at hl hh
    have h1:decide (-2147483648≤n)=true:=decide_eq_true hl
    have h2:decide (n≤2147483647)=true:=decide_eq_true hh
    go_enter Try.func103,Try.ntmps103
    go_wp2
    go_ret
    exact⟨rfl,rfl⟩
  · rw [if_neg hc]at hl hh
    have e1:(c==110)=false:=by simp [hc]
    have h1:decide (0≤n)=true:=decide_eq_true hl
    have h2:decide (n≤15)=true:=decide_eq_true hh
    clear hc
    go_enter Try.func103,Try.ntmps103
    go_wp2
    go_ret
    exact⟨rfl,rfl⟩
theorem formStr_len {k:Nat} {f:List UInt8} (h:formStr[k]? =some f):f.length≤3:=by
  have:∀ f∈formStr,f.length≤3:=by decide
  exact this f (List.mem_of_getElem? h)
set_option maxHeartbeats 4000000 in
set_option maxRecDepth 100000 in
theorem qstands_any (w:World) (f:List UInt8) (c:UInt8) (cn:Nat) (hcn:c.toNat=cn) (hl:f.length≤3):
    Calls Try.prog 102 #[.string ⟨f.toArray⟩,.int .u8 cn] w fun e w'=>e=.returned (.bool (f.contains c))∧w'=w:=by
  have hsz:=size_mk f
  obtain⟨bb,hbb⟩:∃ bb,f.contains c=bb:=⟨_,rfl⟩
  rw [hbb]
  have Hbb:=Lib.hid hbb
  clear hbb
  go_enter Try.func102,Try.ntmps102
  go_wp2
  go_loop [5] (fun q=>∃ k:Nat,q=.int .i64 k∧k≤f.length∧∀ x∈f.take k,x≠c) (fun q=>f.length-(intOf q).toNat)
  case atStart=>exact⟨0,rfl,Nat.zero_le _,by simp⟩
  case round=>
    obtain⟨k,rfl,hk,hno⟩:=hrel
    have Hno:=Lib.hid hno
    clear hno
    by_cases hlt:k<f.length
    · obtain⟨x,hcx⟩:∃ x,f[k]=x:=⟨_,rfl⟩
      have hx:(⟨f.toArray⟩:ByteArray)[k]'(by omega)=x:=hcx
      have Hs:Hid (f.take (k+1)=f.take k++[x]):=Lib.hid (by rw [List.take_succ_eq_append_getElem hlt,hcx])
      have Hm:Hid (x∈f):=Lib.hid (by rw [← hcx];exact List.getElem_mem hlt)
      obtain⟨xn,hxn⟩:∃ xn,x.toNat=xn:=⟨_,rfl⟩
      have Hxn:=Lib.hid hxn
      have Hcn:=Lib.hid hcn
      clear hcx hcn
      by_cases he:xn=cn
      · have HE:Hid (bb=true):=Lib.hid (by
          rw [← Hbb.out]
          have:x=c:=UInt8.toNat_inj.1 (by rw [Hxn.out,Hcn.out,he])
          simp only [List.contains_eq_mem,decide_eq_true_eq]
          rw [← this];exact Hm.out)
        have hb:((xn:Int)==(cn:Int))=true:=by simp [he]
        clear he
        go_wp2
        go_ret
        exact⟨by rw [HE.out];rfl,rfl⟩
      · have HE:Hid (∀ y∈f.take (k+1),y≠c):=Lib.hid (by
          intro y hy
          rw [Hs.out,List.mem_append]at hy
          rcases hy with hy | hy
          · exact Hno.out y hy
          · simp only [List.mem_singleton]at hy
            subst hy
            intro e
            exact he (by rw [← Hxn.out,← Hcn.out,e]))
        have hb:((xn:Int)==(cn:Int))=false:=by
          rw [Bool.eq_false_iff];intro h;simp only [beq_iff_eq]at h;exact he (by omega)
        clear he
        go_wp2
        go_round
        case rel=>exact⟨k+1,by go_num,by omega,HE.out⟩
        case measure=>simp [intOf];omega
    · have HE:Hid (bb=false):=Lib.hid (by
        rw [← Hbb.out]
        have h:=Hno.out
        rw [List.take_of_length_le (by omega)]at h
        simp only [List.contains_eq_mem,decide_eq_false_iff_not]
        exact fun hm=>h c hm rfl)
      go_wp2
      go_ret
      exact⟨by rw [HE.out];rfl,rfl⟩
set_option maxHeartbeats 16000000 in
set_option maxRecDepth 100000 in
theorem qmay_any (w:World) (i:InstL) (h:instB i=true):
    Calls Try.prog 73 #[.agg #[.int .i64 i.op,.int .i64 i.a,.int .i64 i.b,.int .i64 i.c,.int .i64 i.imm]] w fun e w'=>e=.returned (.bool true)∧Below w.heap.size w w':=by
  obtain⟨f,hf,h0,h1,ha,hb,hc,hn⟩:=instB_parts h
  have HN:=Lib.hid (fun w=>qname_any w i.op f h0 hf)
  have hfl:=formStr_len hf
  have HS97:Hid (∀ w:World,Calls Try.prog 102 #[.string ⟨f.toArray⟩,.int .u8 97] w fun e w'=>e=.returned (.bool (f.contains 97))∧w'=w):=Lib.hid (fun w=>qstands_any w f 97 97 rfl hfl)
  have HP97:Hid (∀ w:World,Calls Try.prog 101 #[.agg #[.int .i64 i.op,.int .i64 i.a,.int .i64 i.b,.int .i64 i.c,.int .i64 i.imm],.int .u8 97] w fun e w'=>e=.returned (.int .i64 i.a)∧Below w.heap.size w w'):=Lib.hid (fun w=>qpart_any w i 97 (by simp))
  have HS98:Hid (∀ w:World,Calls Try.prog 102 #[.string ⟨f.toArray⟩,.int .u8 98] w fun e w'=>e=.returned (.bool (f.contains 98))∧w'=w):=Lib.hid (fun w=>qstands_any w f 98 98 rfl hfl)
  have HP98:Hid (∀ w:World,Calls Try.prog 101 #[.agg #[.int .i64 i.op,.int .i64 i.a,.int .i64 i.b,.int .i64 i.c,.int .i64 i.imm],.int .u8 98] w fun e w'=>e=.returned (.int .i64 i.b)∧Below w.heap.size w w'):=Lib.hid (fun w=>qpart_any w i 98 (by simp))
  have HS99:Hid (∀ w:World,Calls Try.prog 102 #[.string ⟨f.toArray⟩,.int .u8 99] w fun e w'=>e=.returned (.bool (f.contains 99))∧w'=w):=Lib.hid (fun w=>qstands_any w f 99 99 rfl hfl)
  have HP99:Hid (∀ w:World,Calls Try.prog 101 #[.agg #[.int .i64 i.op,.int .i64 i.a,.int .i64 i.b,.int .i64 i.c,.int .i64 i.imm],.int .u8 99] w fun e w'=>e=.returned (.int .i64 i.c)∧Below w.heap.size w w'):=Lib.hid (fun w=>qpart_any w i 99 (by simp))
  have HS110:Hid (∀ w:World,Calls Try.prog 102 #[.string ⟨f.toArray⟩,.int .u8 110] w fun e w'=>e=.returned (.bool (f.contains 110))∧w'=w):=Lib.hid (fun w=>qstands_any w f 110 110 rfl hfl)
  have HP110:Hid (∀ w:World,Calls Try.prog 101 #[.agg #[.int .i64 i.op,.int .i64 i.a,.int .i64 i.b,.int .i64 i.c,.int .i64 i.imm],.int .u8 110] w fun e w'=>e=.returned (.int .i64 i.imm)∧Below w.heap.size w w'):=Lib.hid (fun w=>qpart_any w i 110 (by simp))
  have HQ97:Hid (partB (f.contains 97) 0 15 i.a=true):=Lib.hid ha
  have HR97:Hid (∀ w:World,Calls Try.prog 103 #[.int .u8 97,.int .i64 i.a] w fun e w'=>e=.returned (.bool true)∧w'=w):=Lib.hid (fun w=>qranged_any w 97 i.a (partB_range ha).1 (partB_range ha).2)
  have HQ98:Hid (partB (f.contains 98) 0 15 i.b=true):=Lib.hid hb
  have HR98:Hid (∀ w:World,Calls Try.prog 103 #[.int .u8 98,.int .i64 i.b] w fun e w'=>e=.returned (.bool true)∧w'=w):=Lib.hid (fun w=>qranged_any w 98 i.b (partB_range hb).1 (partB_range hb).2)
  have HQ99:Hid (partB (f.contains 99) 0 15 i.c=true):=Lib.hid hc
  have HR99:Hid (∀ w:World,Calls Try.prog 103 #[.int .u8 99,.int .i64 i.c] w fun e w'=>e=.returned (.bool true)∧w'=w):=Lib.hid (fun w=>qranged_any w 99 i.c (partB_range hc).1 (partB_range hc).2)
  have HQ110:Hid (partB (f.contains 110) (-2147483648) 2147483647 i.imm=true):=Lib.hid hn
  have HR110:Hid (∀ w:World,Calls Try.prog 103 #[.int .u8 110,.int .i64 i.imm] w fun e w'=>e=.returned (.bool true)∧w'=w):=Lib.hid (fun w=>qranged_any w 110 i.imm (partB_range hn).1 (partB_range hn).2)
  clear h0 h1 ha hb hc hn h hf hfl
  obtain⟨i0,i1,i2,i3,i4⟩:=i
  simp only at *
  have HX1:=Lib.hid (heap_alloc_new w (.cells #[.int .i64 i0,.int .i64 i1,.int .i64 i2,.int .i64 i3,.int .i64 i4] 65 (0,0)))
  have HB1:=Lib.hid ((Below.refl w.heap.size w).alloc (Nat.le_refl _) (.cells #[.int .i64 i0,.int .i64 i1,.int .i64 i2,.int .i64 i3,.int .i64 i4] 65 (0,0)))
  have Hz1:Hid ((w.alloc (.cells #[.int .i64 i0,.int .i64 i1,.int .i64 i2,.int .i64 i3,.int .i64 i4] 65 (0,0))).heap.size=w.heap.size+1):=Lib.hid (by simp)
  go_enter Try.func73,Try.ntmps73
  go_upto_region 1 with fail
  generalize w.alloc (.cells #[.int .i64 i0,.int .i64 i1,.int .i64 i2,.int .i64 i3,.int .i64 i4] 65 (0,0))=w1 at *
  have d0:w1.cell? ⟨w.heap.size,0,none⟩=some (.int .i64 i0):=by rw [Lib.cell_of_heap HX1.out];rfl
  go_wp2_with fail
  refine(HN.out _).mono ?_
  rintro e w1' ⟨⟨nm,rfl⟩,he1⟩
  obtain rfl:w1=w1':=he1.symm
  clear d0 HN
  have HX2:=Lib.hid (heap_alloc_new w1 (.cells #[.int .u8 97,.int .u8 98,.int .u8 99,.int .u8 110] 5 (0,0)))
  have HB2:=Lib.hid (HB1.out.alloc (by have:=Hz1.out;omega) (.cells #[.int .u8 97,.int .u8 98,.int .u8 99,.int .u8 110] 5 (0,0)))
  have HX1':=Lib.hid ((heap_alloc_old w1 (.cells #[.int .u8 97,.int .u8 98,.int .u8 99,.int .u8 110] 5 (0,0)) (r:=w.heap.size) (by have:=Hz1.out;omega)).trans HX1.out)
  have Hz2:Hid ((w1.alloc (.cells #[.int .u8 97,.int .u8 98,.int .u8 99,.int .u8 110] 5 (0,0))).heap.size=w1.heap.size+1):=Lib.hid (by simp)
  go_wp2_with fail
  obtain⟨lb,hlb⟩:∃ lb,lb=w1.heap.size:=⟨_,rfl⟩
  rw [← hlb]at HX2 Hz2 ⊢
  have Hlb:Hid (lb=w.heap.size+1):=Lib.hid (by rw [hlb];exact Hz1.out)
  generalize w1.alloc (.cells #[.int .u8 97,.int .u8 98,.int .u8 99,.int .u8 110] 5 (0,0))=w2 at *
  clear hlb HX1 HB1 Hz1
  go_loopw [20] (fun q wr=>∃ k:Nat,q=.int .i64 k∧k≤4∧Below w2.heap.size w2 wr) (fun q _=>4-(intOf q).toNat)
  case atStart=>exact⟨0,rfl,by omega,Below.refl _ _⟩
  case round=>
    obtain⟨k,rfl,hk,hbr⟩:=hrel
    have HBr:=Lib.hid hbr
    have HW:=Lib.hid (HB2.out.trans (hbr.mono HB2.out.size))
    have hx:=(hbr.block w.heap.size (by have:=Hz2.out;have:=Hlb.out;omega)).trans HX1'.out
    have hy:=(hbr.block lb (by have:=Hz2.out;omega)).trans HX2.out
    have d0:wr.cell? ⟨w.heap.size,0,none⟩=some (.int .i64 i0):=by rw [Lib.cell_of_heap hx];rfl
    have d1:wr.cell? ⟨w.heap.size,1,none⟩=some (.int .i64 i1):=by rw [Lib.cell_of_heap hx];rfl
    have d2:wr.cell? ⟨w.heap.size,2,none⟩=some (.int .i64 i2):=by rw [Lib.cell_of_heap hx];rfl
    have d3:wr.cell? ⟨w.heap.size,3,none⟩=some (.int .i64 i3):=by rw [Lib.cell_of_heap hx];rfl
    have d4:wr.cell? ⟨w.heap.size,4,none⟩=some (.int .i64 i4):=by rw [Lib.cell_of_heap hx];rfl
    have b0:wr.cell? ⟨lb,0,none⟩=some (.int .u8 97):=by rw [Lib.cell_of_heap hy];rfl
    have b1:wr.cell? ⟨lb,1,none⟩=some (.int .u8 98):=by rw [Lib.cell_of_heap hy];rfl
    have b2:wr.cell? ⟨lb,2,none⟩=some (.int .u8 99):=by rw [Lib.cell_of_heap hy];rfl
    have b3:wr.cell? ⟨lb,3,none⟩=some (.int .u8 110):=by rw [Lib.cell_of_heap hy];rfl
    clear hbr hx hy
    by_cases hlt:k<4
    · rcases (by omega:k=0∨k=1∨k=2∨k=3)with hk' | hk' | hk' | hk'
      · subst hk'
        clear HS98 HP98 HQ98 HR98 HS99 HP99 HQ99 HR99 HS110 HP110 HQ110 HR110
        obtain⟨st,hst⟩:∃ st,f.contains (97:UInt8)=st:=⟨_,rfl⟩
        rw [hst]at HS97 HQ97
        clear hst hk hlt
        go_wp2_with fail
        refine(HP97.out wr).mono ?_
        rintro e w4 ⟨rfl,hb4⟩
        have HB4:=Lib.hid (HBr.out.trans (hb4.mono HBr.out.size))
        clear hb4 d0 d1 d2 d3 d4 b0 b1 b2 b3
        cases st with
        | true=>
          go_wp2_with fail
          refine(HS97.out _).mono ?_
          rintro e w5 ⟨rfl,rfl⟩
          go_wp2_with fail
          refine(HR97.out _).mono ?_
          rintro e w5 ⟨rfl,rfl⟩
          go_wp2_with fail
          refine(HS97.out _).mono ?_
          rintro e w5 ⟨rfl,rfl⟩
          go_wp2
          go_roundw
          case rel=>exact⟨1,by rfl,by omega,HB4.out⟩
          case measure=>simp [intOf]
        | false=>
          have hz:i1=0:=by have h:=HQ97.out;simp [partB]at h;exact h.1.1
          have hzb:(i1 != 0)=false:=by simp [hz]
          clear hz
          go_wp2_with fail
          refine(HS97.out _).mono ?_
          rintro e w5 ⟨rfl,rfl⟩
          go_wp2_with fail
          refine(HS97.out _).mono ?_
          rintro e w5 ⟨rfl,rfl⟩
          go_wp2
          go_roundw
          case rel=>exact⟨1,by rfl,by omega,HB4.out⟩
          case measure=>simp [intOf]
      · subst hk'
        clear HS97 HP97 HQ97 HR97 HS99 HP99 HQ99 HR99 HS110 HP110 HQ110 HR110
        obtain⟨st,hst⟩:∃ st,f.contains (98:UInt8)=st:=⟨_,rfl⟩
        rw [hst]at HS98 HQ98
        clear hst hk hlt
        go_wp2_with fail
        refine(HP98.out wr).mono ?_
        rintro e w4 ⟨rfl,hb4⟩
        have HB4:=Lib.hid (HBr.out.trans (hb4.mono HBr.out.size))
        clear hb4 d0 d1 d2 d3 d4 b0 b1 b2 b3
        cases st with
        | true=>
          go_wp2_with fail
          refine(HS98.out _).mono ?_
          rintro e w5 ⟨rfl,rfl⟩
          go_wp2_with fail
          refine(HR98.out _).mono ?_
          rintro e w5 ⟨rfl,rfl⟩
          go_wp2_with fail
          refine(HS98.out _).mono ?_
          rintro e w5 ⟨rfl,rfl⟩
          go_wp2
          go_roundw
          case rel=>exact⟨2,by rfl,by omega,HB4.out⟩
          case measure=>simp [intOf]
        | false=>
          have hz:i2=0:=by have h:=HQ98.out;simp [partB]at h;exact h.1.1
          have hzb:(i2 != 0)=false:=by simp [hz]
          clear hz
          go_wp2_with fail
          refine(HS98.out _).mono ?_
          rintro e w5 ⟨rfl,rfl⟩
          go_wp2_with fail
          refine(HS98.out _).mono ?_
          rintro e w5 ⟨rfl,rfl⟩
          go_wp2
          go_roundw
          case rel=>exact⟨2,by rfl,by omega,HB4.out⟩
          case measure=>simp [intOf]
      · subst hk'
        clear HS97 HP97 HQ97 HR97 HS98 HP98 HQ98 HR98 HS110 HP110 HQ110 HR110
        obtain⟨st,hst⟩:∃ st,f.contains (99:UInt8)=st:=⟨_,rfl⟩
        rw [hst]at HS99 HQ99
        clear hst hk hlt
        go_wp2_with fail
        refine(HP99.out wr).mono ?_
        rintro e w4 ⟨rfl,hb4⟩
        have HB4:=Lib.hid (HBr.out.trans (hb4.mono HBr.out.size))
        clear hb4 d0 d1 d2 d3 d4 b0 b1 b2 b3
        cases st with
        | true=>
          go_wp2_with fail
          refine(HS99.out _).mono ?_
          rintro e w5 ⟨rfl,rfl⟩
          go_wp2_with fail
          refine(HR99.out _).mono ?_
          rintro e w5 ⟨rfl,rfl⟩
          go_wp2_with fail
          refine(HS99.out _).mono ?_
          rintro e w5 ⟨rfl,rfl⟩
          go_wp2
          go_roundw
          case rel=>exact⟨3,by rfl,by omega,HB4.out⟩
          case measure=>simp [intOf]
        | false=>
          have hz:i3=0:=by have h:=HQ99.out;simp [partB]at h;exact h.1.1
          have hzb:(i3 != 0)=false:=by simp [hz]
          clear hz
          go_wp2_with fail
          refine(HS99.out _).mono ?_
          rintro e w5 ⟨rfl,rfl⟩
          go_wp2_with fail
          refine(HS99.out _).mono ?_
          rintro e w5 ⟨rfl,rfl⟩
          go_wp2
          go_roundw
          case rel=>exact⟨3,by rfl,by omega,HB4.out⟩
          case measure=>simp [intOf]
      · subst hk'
        clear HS97 HP97 HQ97 HR97 HS98 HP98 HQ98 HR98 HS99 HP99 HQ99 HR99
        obtain⟨st,hst⟩:∃ st,f.contains (110:UInt8)=st:=⟨_,rfl⟩
        rw [hst]at HS110 HQ110
        clear hst hk hlt
        go_wp2_with fail
        refine(HP110.out wr).mono ?_
        rintro e w4 ⟨rfl,hb4⟩
        have HB4:=Lib.hid (HBr.out.trans (hb4.mono HBr.out.size))
        clear hb4 d0 d1 d2 d3 d4 b0 b1 b2 b3
        cases st with
        | true=>
          go_wp2_with fail
          refine(HS110.out _).mono ?_
          rintro e w5 ⟨rfl,rfl⟩
          go_wp2_with fail
          refine(HR110.out _).mono ?_
          rintro e w5 ⟨rfl,rfl⟩
          go_wp2_with fail
          refine(HS110.out _).mono ?_
          rintro e w5 ⟨rfl,rfl⟩
          go_wp2
          go_roundw
          case rel=>exact⟨4,by rfl,by omega,HB4.out⟩
          case measure=>simp [intOf]
        | false=>
          have hz:i4=0:=by have h:=HQ110.out;simp [partB]at h;exact h.1.1
          have hzb:(i4 != 0)=false:=by simp [hz]
          clear hz
          go_wp2_with fail
          refine(HS110.out _).mono ?_
          rintro e w5 ⟨rfl,rfl⟩
          go_wp2_with fail
          refine(HS110.out _).mono ?_
          rintro e w5 ⟨rfl,rfl⟩
          go_wp2
          go_roundw
          case rel=>exact⟨4,by rfl,by omega,HB4.out⟩
          case measure=>simp [intOf]
    · obtain rfl:k=4:=by omega
      go_wp2
      go_ret
      exact⟨rfl,HW.out⟩
end Go.Proofs.Ytpomdoliblilfaa
namespace Go.Proofs.Ytpomdoliblilfaa
set_option linter.unusedVariables false
set_option linter.unusedSimpArgs false
open Go.RowKit
set_option maxHeartbeats 16000000 in
set_option maxRecDepth 100000 in
theorem qread_any (w:World) (b off cap:Nat) (i:InstL) (h:instB i=true) (hcap:8≤cap) (hb:b<w.heap.size) (hc:∀ j,j<8→w.cell? ⟨b,off+j,none⟩=some (.int .u8 ((instBytes i).getD j 0).toNat)):
  Calls Try.prog 38 #[.slice (some ⟨b,off,none⟩) 8 cap] w fun e w'=>e=.returned (.tuple #[.agg #[.int .i64 i.op,.int .i64 i.a,.int .i64 i.b,.int .i64 i.c,.int .i64 i.imm],.bool true])∧Below w.heap.size w w':=by
 obtain⟨r0,r1,r2,r3,r4⟩:=inst_read h
 unfold immOf at r4
 have c0:=hc 0 (by decide)
 have c1:=hc 1 (by decide)
 have c2:=hc 2 (by decide)
 have c3:=hc 3 (by decide)
 have c4:=hc 4 (by decide)
 have c5:=hc 5 (by decide)
 have c6:=hc 6 (by decide)
 have c7:=hc 7 (by decide)
 obtain⟨b0,hb0⟩:∃ b0:Nat,((instBytes i).getD 0 0).toNat=b0:=⟨_,rfl⟩
 obtain⟨b1,hb1⟩:∃ b1:Nat,((instBytes i).getD 1 0).toNat=b1:=⟨_,rfl⟩
 obtain⟨b2,hb2⟩:∃ b2:Nat,((instBytes i).getD 2 0).toNat=b2:=⟨_,rfl⟩
 obtain⟨b3,hb3⟩:∃ b3:Nat,((instBytes i).getD 3 0).toNat=b3:=⟨_,rfl⟩
 obtain⟨b4,hb4⟩:∃ b4:Nat,((instBytes i).getD 4 0).toNat=b4:=⟨_,rfl⟩
 obtain⟨b5,hb5⟩:∃ b5:Nat,((instBytes i).getD 5 0).toNat=b5:=⟨_,rfl⟩
 obtain⟨b6,hb6⟩:∃ b6:Nat,((instBytes i).getD 6 0).toNat=b6:=⟨_,rfl⟩
 obtain⟨b7,hb7⟩:∃ b7:Nat,((instBytes i).getD 7 0).toNat=b7:=⟨_,rfl⟩
 have l0:b0≤255:=by rw [← hb0];have:=UInt8.toNat_lt ((instBytes i).getD 0 0);omega
 have l1:b1≤255:=by rw [← hb1];have:=UInt8.toNat_lt ((instBytes i).getD 1 0);omega
 have l2:b2≤255:=by rw [← hb2];have:=UInt8.toNat_lt ((instBytes i).getD 2 0);omega
 have l3:b3≤255:=by rw [← hb3];have:=UInt8.toNat_lt ((instBytes i).getD 3 0);omega
 have l4:b4≤255:=by rw [← hb4];have:=UInt8.toNat_lt ((instBytes i).getD 4 0);omega
 have l5:b5≤255:=by rw [← hb5];have:=UInt8.toNat_lt ((instBytes i).getD 5 0);omega
 have l6:b6≤255:=by rw [← hb6];have:=UInt8.toNat_lt ((instBytes i).getD 6 0);omega
 have l7:b7≤255:=by rw [← hb7];have:=UInt8.toNat_lt ((instBytes i).getD 7 0);omega
 rw [hb0]at c0
 rw [hb1]at c1
 rw [hb2]at c2
 rw [hb3]at c3
 rw [hb4]at c4
 rw [hb5]at c5
 rw [hb6]at c6
 rw [hb7]at c7
 rw [hb0]at r0
 rw [hb1]at r1
 rw [hb2]at r2
 rw [hb3]at r3
 rw [hb4,hb5,hb6,hb7]at r4
 have HMy:=Lib.hid (fun w=>qmay_any w i h)
 rw [← r0,← r1,← r2,← r3,← r4]at HMy ⊢
 clear r0 r1 r2 r3 r4 h hc hb0 hb1 hb2 hb3 hb4 hb5 hb6 hb7
 obtain⟨n,hn⟩:∃ n,(b4:Int)+256*(b5:Int)+65536*(b6:Int)+16777216*(b7:Int)=n:=⟨_,rfl⟩
 rw [hn]at HMy ⊢
 have Hn:=Lib.hid hn
 have hn0:0≤n∧n≤4294967295:=by omega
 obtain⟨m,hm⟩:∃ m,signOf n=m:=⟨_,rfl⟩
 rw [hm]at HMy ⊢
 have Hsg:=Lib.hid hm
 clear hn hm
 have hw0:Below w.heap.size w (w.alloc (.cells #[.int .i64 0,.int .i64 0,.int .i64 0,.int .i64 0,.int .i64 0] 65 (0,0))):=(Below.refl _ _).alloc (Nat.le_refl _) _
 have HX0:=Lib.hid (heap_alloc_new w (.cells #[.int .i64 0,.int .i64 0,.int .i64 0,.int .i64 0,.int .i64 0] 65 (0,0)))
 have Hz0:Hid ((w.alloc (.cells #[.int .i64 0,.int .i64 0,.int .i64 0,.int .i64 0,.int .i64 0] 65 (0,0))).heap.size=w.heap.size+1):=Lib.hid (by simp)
 have HB0:=Lib.hid hw0
 have d0:(w.alloc (.cells #[.int .i64 0,.int .i64 0,.int .i64 0,.int .i64 0,.int .i64 0] 65 (0,0))).cell? ⟨b,off+0,none⟩=some (.int .u8 b0):=(hw0.cell (p:=⟨b,off+0,none⟩) hb).trans c0
 have d1:(w.alloc (.cells #[.int .i64 0,.int .i64 0,.int .i64 0,.int .i64 0,.int .i64 0] 65 (0,0))).cell? ⟨b,off+1,none⟩=some (.int .u8 b1):=(hw0.cell (p:=⟨b,off+1,none⟩) hb).trans c1
 have d2:(w.alloc (.cells #[.int .i64 0,.int .i64 0,.int .i64 0,.int .i64 0,.int .i64 0] 65 (0,0))).cell? ⟨b,off+2,none⟩=some (.int .u8 b2):=(hw0.cell (p:=⟨b,off+2,none⟩) hb).trans c2
 have d3:(w.alloc (.cells #[.int .i64 0,.int .i64 0,.int .i64 0,.int .i64 0,.int .i64 0] 65 (0,0))).cell? ⟨b,off+3,none⟩=some (.int .u8 b3):=(hw0.cell (p:=⟨b,off+3,none⟩) hb).trans c3
 have d4:(w.alloc (.cells #[.int .i64 0,.int .i64 0,.int .i64 0,.int .i64 0,.int .i64 0] 65 (0,0))).cell? ⟨b,off+4,none⟩=some (.int .u8 b4):=(hw0.cell (p:=⟨b,off+4,none⟩) hb).trans c4
 have d5:(w.alloc (.cells #[.int .i64 0,.int .i64 0,.int .i64 0,.int .i64 0,.int .i64 0] 65 (0,0))).cell? ⟨b,off+5,none⟩=some (.int .u8 b5):=(hw0.cell (p:=⟨b,off+5,none⟩) hb).trans c5
 have d6:(w.alloc (.cells #[.int .i64 0,.int .i64 0,.int .i64 0,.int .i64 0,.int .i64 0] 65 (0,0))).cell? ⟨b,off+6,none⟩=some (.int .u8 b6):=(hw0.cell (p:=⟨b,off+6,none⟩) hb).trans c6
 have d7:(w.alloc (.cells #[.int .i64 0,.int .i64 0,.int .i64 0,.int .i64 0,.int .i64 0] 65 (0,0))).cell? ⟨b,off+7,none⟩=some (.int .u8 b7):=(hw0.cell (p:=⟨b,off+7,none⟩) hb).trans c7
 clear c0 c1 c2 c3 c4 c5 c6 c7 hw0
 go_enter Try.func38,Try.ntmps38
 go_upto_region 1 with fail
 generalize w.alloc (.cells #[.int .i64 0,.int .i64 0,.int .i64 0,.int .i64 0,.int .i64 0] 65 (0,0))=w1 at *
 have hnn:(b4:Int)+256*(b5:Int)+65536*(b6:Int)+16777216*(b7:Int)=n:=Hn.out
 go_quiet (fail)
 have HB1:=Lib.hid (below_drewN HB0.out nq)
 have e0:(w1.drewN nq).cell? ⟨b,off+0,none⟩=some (.int .u8 b0):=d0
 have e1:(w1.drewN nq).cell? ⟨b,off+1,none⟩=some (.int .u8 b1):=d1
 have e2:(w1.drewN nq).cell? ⟨b,off+2,none⟩=some (.int .u8 b2):=d2
 have e3:(w1.drewN nq).cell? ⟨b,off+3,none⟩=some (.int .u8 b3):=d3
 have e4:(w1.drewN nq).cell? ⟨b,off+4,none⟩=some (.int .u8 b4):=d4
 have e5:(w1.drewN nq).cell? ⟨b,off+5,none⟩=some (.int .u8 b5):=d5
 have e6:(w1.drewN nq).cell? ⟨b,off+6,none⟩=some (.int .u8 b6):=d6
 have e7:(w1.drewN nq).cell? ⟨b,off+7,none⟩=some (.int .u8 b7):=d7
 have hzz:(w1.drewN nq).heap.size=w.heap.size+1:=Hz0.out
 have hxx:(w1.drewN nq).heap[w.heap.size]? =some (.cells #[.int .i64 0,.int .i64 0,.int .i64 0,.int .i64 0,.int .i64 0] 65 (0,0)):=HX0.out
 have Hzz:=Lib.hid hzz
 have Hxx:=Lib.hid hxx
 clear d0 d1 d2 d3 d4 d5 d6 d7 hzz hxx hnn HX0 Hz0 HB0
 generalize w1.drewN nq=w2 at *
 have hb2:b<w2.heap.size:=by have:=Hzz.out;omega
 have HX3:=Lib.hid (heap_alloc_new w2 (.cells #[.int .i64 0,.int .i64 0,.int .i64 0,.int .i64 0,.int .i64 0] 65 (0,0)))
 rw [Nat.add_zero]at e0
 have f0:(w2.alloc (.cells #[.int .i64 0,.int .i64 0,.int .i64 0,.int .i64 0,.int .i64 0] 65 (0,0))).drew.cell? ⟨b,off,none⟩=some (.int .u8 b0):=(World.cell?_alloc_lt w2 _ ⟨b,off,none⟩ hb2).trans e0
 have f1:(w2.alloc (.cells #[.int .i64 0,.int .i64 0,.int .i64 0,.int .i64 0,.int .i64 0] 65 (0,0))).drew.cell? ⟨b,off+1,none⟩=some (.int .u8 b1):=(World.cell?_alloc_lt w2 _ ⟨b,off+1,none⟩ hb2).trans e1
 have f2:(w2.alloc (.cells #[.int .i64 0,.int .i64 0,.int .i64 0,.int .i64 0,.int .i64 0] 65 (0,0))).drew.cell? ⟨b,off+2,none⟩=some (.int .u8 b2):=(World.cell?_alloc_lt w2 _ ⟨b,off+2,none⟩ hb2).trans e2
 have f3:(w2.alloc (.cells #[.int .i64 0,.int .i64 0,.int .i64 0,.int .i64 0,.int .i64 0] 65 (0,0))).drew.cell? ⟨b,off+3,none⟩=some (.int .u8 b3):=(World.cell?_alloc_lt w2 _ ⟨b,off+3,none⟩ hb2).trans e3
 have hcs:(2147483648≤n∧n-4294967296=m)∨(¬ 2147483648≤n∧n=m):=by
  have hm:=Hsg.out
  unfold signOf at hm
  split at hm
  ·exact Or.inl ⟨by assumption,hm⟩
  ·exact Or.inr ⟨by assumption,hm⟩
 clear Hsg
 rcases hcs with ⟨hb1,hm⟩ | ⟨hb1,hm⟩
 ·subst hm
  go_upto_region 4 with fail
  go_region
  clear f0 f1 f2 f3 e0 e1 e2 e3 e4 e5 e6 e7
  have HX3:=Lib.hid (heap_alloc_new w2 (.cells #[.int .i64 (b0:Int),.int .i64 (b1:Int),.int .i64 (b2:Int),.int .i64 (b3:Int),.int .i64 (n-4294967296)] 65 (0,0)))
  have HX4:=Lib.hid ((heap_alloc_old w2 (.cells #[.int .i64 (b0:Int),.int .i64 (b1:Int),.int .i64 (b2:Int),.int .i64 (b3:Int),.int .i64 (n-4294967296)] 65 (0,0)) (r:=w.heap.size) (by have:=Hzz.out;omega)).trans Hxx.out)
  have HB3:=Lib.hid (HB1.out.alloc (by have:=Hzz.out;omega) (.cells #[.int .i64 (b0:Int),.int .i64 (b1:Int),.int .i64 (b2:Int),.int .i64 (b3:Int),.int .i64 (n-4294967296)] 65 (0,0)))
  have Hz3:Hid ((w2.alloc (.cells #[.int .i64 (b0:Int),.int .i64 (b1:Int),.int .i64 (b2:Int),.int .i64 (b3:Int),.int .i64 (n-4294967296)] 65 (0,0))).heap.size=w2.heap.size+1):=Lib.hid (by simp)
  obtain⟨xb,hxb⟩:∃ xb,xb=w2.heap.size:=⟨_,rfl⟩
  have Hxb:Hid (w.heap.size<xb):=Lib.hid (by have:=Hzz.out;omega)
  rw [← hxb]at HX3 Hz3 ⊢
  generalize w2.alloc (.cells #[.int .i64 (b0:Int),.int .i64 (b1:Int),.int .i64 (b2:Int),.int .i64 (b3:Int),.int .i64 (n-4294967296)] 65 (0,0))=w3 at *
  clear hxb hb2 Hzz Hxx HB1 Hn
  go_wp2_with fail
  refine wp_region_phase 4 (by kernel_rfl) (by kernel_rfl) ?_
  simp only [List.take_succ_cons,List.take_zero,List.drop_succ_cons,List.drop_zero,List.take_nil,List.drop_nil]
  refine wpAny_of_held (S:=fun w'=>w'.cell? ⟨xb,0,none⟩=some (.int .i64 (b0:Int))∧w'.cell? ⟨xb,1,none⟩=some (.int .i64 (b1:Int))∧w'.cell? ⟨xb,2,none⟩=some (.int .i64 (b2:Int))∧w'.cell? ⟨xb,3,none⟩=some (.int .i64 (b3:Int))∧w'.cell? ⟨xb,4,none⟩=some (.int .i64 (n-4294967296))) _ _ _ _ ?_
  have hHeld:(fun w':World=>w'.cell? ⟨xb,0,none⟩=some (.int .i64 (b0:Int))∧w'.cell? ⟨xb,1,none⟩=some (.int .i64 (b1:Int))∧w'.cell? ⟨xb,2,none⟩=some (.int .i64 (b2:Int))∧w'.cell? ⟨xb,3,none⟩=some (.int .i64 (b3:Int))∧w'.cell? ⟨xb,4,none⟩=some (.int .i64 (n-4294967296))) w3.drew.drew:=by
   refine⟨?_,?_,?_,?_,?_⟩<;>exact(Lib.cell_of_heap HX3.out _).trans rfl
  show wpAnyH _ _ _ _ _ _ _ _ w3.drew.drew
  refine wpAnyH_take (i:=0) (v:= ?_) rfl (by kernel_rfl) (by kernel_rfl) (by kernel_rfl) (fun _ _ _ h=>h) (Or.inl ⟨by rfl,?_⟩) hHeld ?_
  rotate_left
  ·(intro w hSw;(try dsimp only at hSw);go_simp;try with_reducible rfl)
  simp only [List.getElem_toArray,List.getElem_cons_zero,List.getElem_cons_succ,Act.put,List.setIfInBounds_toArray,List.set_cons_zero,List.set_cons_succ]
  refine wpAnyH_take (i:=1) (v:= ?_) rfl (by kernel_rfl) (by kernel_rfl) (by kernel_rfl) (fun _ _ _ h=>h) (Or.inl ⟨by rfl,?_⟩) hHeld ?_
  rotate_left
  ·(intro w hSw;(try dsimp only at hSw);go_simp;try with_reducible rfl)
  simp only [List.getElem_toArray,List.getElem_cons_zero,List.getElem_cons_succ,Act.put,List.setIfInBounds_toArray,List.set_cons_zero,List.set_cons_succ]
  refine wpAnyH_ready (rs:=[2]) (by kernel_rfl) (by simp) ?_
  refine AllReadyH.cons rfl (fun K hK=> ?_) AllReadyH.nil
  go_simp
  refine(HMy.out w3.drew.drew).mono ?_
  rintro e w4 ⟨rfl,hb4'⟩
  have hb4:Below w3.heap.size w3 w4:=((Below.refl _ w3).drew.drew).trans hb4'
  have HX5:=Lib.hid ((hb4.block xb (by have:=Hz3.out;omega)).trans HX3.out)
  have HX6:=Lib.hid ((hb4.block w.heap.size (by have:=Hz3.out;have:=Hxb.out;omega)).trans HX4.out)
  have HB4:=Lib.hid (HB3.out.trans (hb4.mono (by have:=Hz3.out;have:=Hxb.out;omega)))
  refine hK.out _ _ (by refine⟨?_,?_,?_,?_,?_⟩<;>exact(Lib.cell_of_heap HX5.out _).trans rfl) (fun hHeld=> ?_)
  clear hK K hb4 hb4'
  try simp only [List.getElem_toArray,List.getElem_cons_zero,List.getElem_cons_succ,Act.put,List.setIfInBounds_toArray,List.set_cons_zero,List.set_cons_succ]
  refine wpAnyH_ready (rs:=[3]) (by kernel_rfl) (by simp) ?_
  refine AllReadyH.cons rfl (fun K hK=> ?_) AllReadyH.nil
  refine wp_store_row 65 (.tmp 2) (.tmp 50) rfl w.heap.size (#[.int .i64 (b0:Int),.int .i64 (b1:Int),.int .i64 (b2:Int),.int .i64 (b3:Int),.int .i64 (n-4294967296)]) rfl rfl _ _ HX6.out (by kernel_rfl) rfl (by simp [Value.oneCell']) ?_
  have FR:=Lib.hid (setRow_heap _ w.heap.size _ (#[.int .i64 (b0:Int),.int .i64 (b1:Int),.int .i64 (b2:Int),.int .i64 (b3:Int),.int .i64 (n-4294967296)]) _ _ HX6.out)
  refine hK.out _ _ (by refine⟨?_,?_,?_,?_,?_⟩<;>exact(Lib.cell_of_heap ((setRow_other _ _ xb _ (by have:=Hxb.out;omega)).trans HX5.out) _).trans rfl) (fun hHeld=> ?_)
  clear hK K
  try simp only [List.getElem_toArray,List.getElem_cons_zero,List.getElem_cons_succ,Act.put,List.setIfInBounds_toArray,List.set_cons_zero,List.set_cons_succ]
  refine wpAnyH_done (by kernel_rfl) ?_ _
  simp only [phaseQ]
  clear hHeld
  go_wp2_with fail
  refine bodyPost_ret (results_row_tmp rfl _ _ w.heap.size _ _ _ _ rfl FR.out Try.underlying65 rfl (by kernel_rfl)) rfl ?_
  exact⟨rfl,below_setRow HB4.out _ _ (Nat.le_refl _)⟩
 ·subst hm
  go_upto_region 4 with fail
  go_region
  clear f0 f1 f2 f3 e0 e1 e2 e3 e4 e5 e6 e7
  have HX3:=Lib.hid (heap_alloc_new w2 (.cells #[.int .i64 (b0:Int),.int .i64 (b1:Int),.int .i64 (b2:Int),.int .i64 (b3:Int),.int .i64 (n)] 65 (0,0)))
  have HX4:=Lib.hid ((heap_alloc_old w2 (.cells #[.int .i64 (b0:Int),.int .i64 (b1:Int),.int .i64 (b2:Int),.int .i64 (b3:Int),.int .i64 (n)] 65 (0,0)) (r:=w.heap.size) (by have:=Hzz.out;omega)).trans Hxx.out)
  have HB3:=Lib.hid (HB1.out.alloc (by have:=Hzz.out;omega) (.cells #[.int .i64 (b0:Int),.int .i64 (b1:Int),.int .i64 (b2:Int),.int .i64 (b3:Int),.int .i64 (n)] 65 (0,0)))
  have Hz3:Hid ((w2.alloc (.cells #[.int .i64 (b0:Int),.int .i64 (b1:Int),.int .i64 (b2:Int),.int .i64 (b3:Int),.int .i64 (n)] 65 (0,0))).heap.size=w2.heap.size+1):=Lib.hid (by simp)
  obtain⟨xb,hxb⟩:∃ xb,xb=w2.heap.size:=⟨_,rfl⟩
  have Hxb:Hid (w.heap.size<xb):=Lib.hid (by have:=Hzz.out;omega)
  rw [← hxb]at HX3 Hz3 ⊢
  generalize w2.alloc (.cells #[.int .i64 (b0:Int),.int .i64 (b1:Int),.int .i64 (b2:Int),.int .i64 (b3:Int),.int .i64 (n)] 65 (0,0))=w3 at *
  clear hxb hb2 Hzz Hxx HB1 Hn
  go_wp2_with fail
  refine wp_region_phase 4 (by kernel_rfl) (by kernel_rfl) ?_
  simp only [List.take_succ_cons,List.take_zero,List.drop_succ_cons,List.drop_zero,List.take_nil,List.drop_nil]
  refine wpAny_of_held (S:=fun w'=>w'.cell? ⟨xb,0,none⟩=some (.int .i64 (b0:Int))∧w'.cell? ⟨xb,1,none⟩=some (.int .i64 (b1:Int))∧w'.cell? ⟨xb,2,none⟩=some (.int .i64 (b2:Int))∧w'.cell? ⟨xb,3,none⟩=some (.int .i64 (b3:Int))∧w'.cell? ⟨xb,4,none⟩=some (.int .i64 (n))) _ _ _ _ ?_
  have hHeld:(fun w':World=>w'.cell? ⟨xb,0,none⟩=some (.int .i64 (b0:Int))∧w'.cell? ⟨xb,1,none⟩=some (.int .i64 (b1:Int))∧w'.cell? ⟨xb,2,none⟩=some (.int .i64 (b2:Int))∧w'.cell? ⟨xb,3,none⟩=some (.int .i64 (b3:Int))∧w'.cell? ⟨xb,4,none⟩=some (.int .i64 (n))) w3.drew.drew:=by
   refine⟨?_,?_,?_,?_,?_⟩<;>exact(Lib.cell_of_heap HX3.out _).trans rfl
  show wpAnyH _ _ _ _ _ _ _ _ w3.drew.drew
  refine wpAnyH_take (i:=0) (v:= ?_) rfl (by kernel_rfl) (by kernel_rfl) (by kernel_rfl) (fun _ _ _ h=>h) (Or.inl ⟨by rfl,?_⟩) hHeld ?_
  rotate_left
  ·(intro w hSw;(try dsimp only at hSw);go_simp;try with_reducible rfl)
  simp only [List.getElem_toArray,List.getElem_cons_zero,List.getElem_cons_succ,Act.put,List.setIfInBounds_toArray,List.set_cons_zero,List.set_cons_succ]
  refine wpAnyH_take (i:=1) (v:= ?_) rfl (by kernel_rfl) (by kernel_rfl) (by kernel_rfl) (fun _ _ _ h=>h) (Or.inl ⟨by rfl,?_⟩) hHeld ?_
  rotate_left
  ·(intro w hSw;(try dsimp only at hSw);go_simp;try with_reducible rfl)
  simp only [List.getElem_toArray,List.getElem_cons_zero,List.getElem_cons_succ,Act.put,List.setIfInBounds_toArray,List.set_cons_zero,List.set_cons_succ]
  refine wpAnyH_ready (rs:=[2]) (by kernel_rfl) (by simp) ?_
  refine AllReadyH.cons rfl (fun K hK=> ?_) AllReadyH.nil
  go_simp
  refine(HMy.out w3.drew.drew).mono ?_
  rintro e w4 ⟨rfl,hb4'⟩
  have hb4:Below w3.heap.size w3 w4:=((Below.refl _ w3).drew.drew).trans hb4'
  have HX5:=Lib.hid ((hb4.block xb (by have:=Hz3.out;omega)).trans HX3.out)
  have HX6:=Lib.hid ((hb4.block w.heap.size (by have:=Hz3.out;have:=Hxb.out;omega)).trans HX4.out)
  have HB4:=Lib.hid (HB3.out.trans (hb4.mono (by have:=Hz3.out;have:=Hxb.out;omega)))
  refine hK.out _ _ (by refine⟨?_,?_,?_,?_,?_⟩<;>exact(Lib.cell_of_heap HX5.out _).trans rfl) (fun hHeld=> ?_)
  clear hK K hb4 hb4'
  try simp only [List.getElem_toArray,List.getElem_cons_zero,List.getElem_cons_succ,Act.put,List.setIfInBounds_toArray,List.set_cons_zero,List.set_cons_succ]
  refine wpAnyH_ready (rs:=[3]) (by kernel_rfl) (by simp) ?_
  refine AllReadyH.cons rfl (fun K hK=> ?_) AllReadyH.nil
  refine wp_store_row 65 (.tmp 2) (.tmp 50) rfl w.heap.size (#[.int .i64 (b0:Int),.int .i64 (b1:Int),.int .i64 (b2:Int),.int .i64 (b3:Int),.int .i64 (n)]) rfl rfl _ _ HX6.out (by kernel_rfl) rfl (by simp [Value.oneCell']) ?_
  have FR:=Lib.hid (setRow_heap _ w.heap.size _ (#[.int .i64 (b0:Int),.int .i64 (b1:Int),.int .i64 (b2:Int),.int .i64 (b3:Int),.int .i64 (n)]) _ _ HX6.out)
  refine hK.out _ _ (by refine⟨?_,?_,?_,?_,?_⟩<;>exact(Lib.cell_of_heap ((setRow_other _ _ xb _ (by have:=Hxb.out;omega)).trans HX5.out) _).trans rfl) (fun hHeld=> ?_)
  clear hK K
  try simp only [List.getElem_toArray,List.getElem_cons_zero,List.getElem_cons_succ,Act.put,List.setIfInBounds_toArray,List.set_cons_zero,List.set_cons_succ]
  refine wpAnyH_done (by kernel_rfl) ?_ _
  simp only [phaseQ]
  clear hHeld
  go_wp2_with fail
  refine bodyPost_ret (results_row_tmp rfl _ _ w.heap.size _ _ _ _ rfl FR.out Try.underlying65 rfl (by kernel_rfl)) rfl ?_
  exact⟨rfl,below_setRow HB4.out _ _ (Nat.le_refl _)⟩
end Go.Proofs.Ytpomdoliblilfaa
namespace Go.Proofs.Ytpomdoliblilfaa
set_option linter.unusedVariables false
set_option linter.unusedSimpArgs false
open Go.RowKit
theorem codeL_get:∀ (l:List InstL) (k j:Nat) (x:InstL),l[k]? =some x→j<8→(codeL l)[8*k+j]? =some ((instBytes x).getD j 0)
 | [],k,j,x,h,_=>by simp at h
 | y :: l,0,j,x,h,hj=>by
  have h:y=x:=by simpa using h
  subst h
  show(instBytes y++codeL l)[8*0+j]? =_
  have hl:(instBytes y).length=8:=rfl
  rw [Nat.mul_zero,Nat.zero_add,List.getElem?_append_left (by omega),List.getD_eq_getElem?_getD,List.getElem?_eq_getElem (by omega)]
  rfl
 | y :: l,k+1,j,x,h,hj=>by
  show(instBytes y++codeL l)[8*(k+1)+j]? =_
  have hl:(instBytes y).length=8:=rfl
  rw [List.getElem?_append_right (by omega),hl,show 8*(k+1)+j-8=8*k+j by omega]
  exact codeL_get l k j x (by simpa using h) hj
theorem instB_ok {i:InstL} (h:instB i=true):InstOk i:=by
 obtain⟨f,-,h0,h1,ha,hb,hc,hn⟩:=instB_parts h
 have ha:=partB_range ha
 have hb:=partB_range hb
 have hc:=partB_range hc
 have hn:=partB_range hn
 exact⟨by unfold In63;omega,by unfold In63;omega,by unfold In63;omega,by unfold In63;omega,by unfold In63;omega⟩
set_option maxHeartbeats 16000000 in
set_option maxRecDepth 100000 in
theorem qdecode_any {S:Nat→Prop} (w:World) (v:Value) (l:List InstL) (hv:LB kByte S w v (codeL l)) (hS:∀ b,S b→b<w.heap.size) (hall:l.all instB=true) (hl:l.length≤200000):
  Calls Try.prog 14 #[v] w fun e w'=>∃ r,e=.returned (.tuple #[r,.int .i64 0])∧OwnK 65 kInst w.heap.size (fun _=>False) w' r l∧Below w.heap.size w w':=by
 obtain⟨va,vb,vo,vc,rfl,-,hvc,hvat⟩:=hv.at
 have hva:=hvat.addr
 have hvin:=hvat.inS
 have Hat:=Lib.hid hvat
 have Hall:=Lib.hid (fun (x:InstL) (hx:x∈l)=>List.all_eq_true.1 hall x hx)
 have HS:=Lib.hid hS
 obtain⟨n,hn⟩:∃ n,n=l.length:=⟨_,rfl⟩
 obtain⟨L,hL⟩:∃ L,L=(codeL l).length:=⟨_,rfl⟩
 have HL8:Hid (L=8*n):=Lib.hid (by rw [hL,hn,codeL_len])
 rw [← hL]at hvc hva hvin ⊢
 rw [← hn]at hl
 have Hn:=Lib.hid hn
 have hLb:L≤1600000:=by have:=HL8.out;omega
 have e0:Int.tmod (L:Int) 8=0:=by rw [Int.tmod_eq_emod_of_nonneg (by omega)];have:=HL8.out;omega
 have hvbS:Hid (0<L→vb<w.heap.size):=Lib.hid (fun h=>HS.out _ (hvin h))
 clear hn hL hv hvat hall hS hvin
 go_enter Try.func14,Try.ntmps14
 go_wp2_with fail
 clear e0
 go_loopw [4,5] (fun o i wr=>∃ k q:Nat,i=.int .i64 q∧q=8*k∧k≤n∧OwnK 65 kInst w.heap.size (fun _=>False) wr o (l.take k)∧Below w.heap.size w wr) (fun _ i _=>L-(intOf i).toNat)
 case atStart=>exact⟨0,0,rfl,rfl,Nat.zero_le _,OwnK.nil _ _ _ _ _,Below.refl _ _⟩
 case round=>
  obtain⟨k,q,rfl,hq,hk,ho,hb⟩:=hrel
  have HO:=Lib.hid ho
  have HB:=Lib.hid hb
  have Hq:=Lib.hid hq
  have hz:=hb.size
  clear ho hb
  by_cases hlt:k<n
  ·have hqL:q+8≤L:=by have:=HL8.out;omega
   obtain rfl:=hva (by omega)
   obtain⟨x,hx⟩:∃ x,l[k]? =some x:=⟨_,List.getElem?_eq_getElem (by rw [← Hn.out];exact hlt)⟩
   have hxb:=Hall.out x (List.mem_of_getElem? hx)
   have Hok:=Lib.hid (instB_ok hxb)
   have hvb:=hvbS.out (by omega)
   have HR:=Lib.hid (qread_any wr vb (vo+q) (vc-q) x hxb (by omega) (by omega) (fun j hj=>by
    have h1:=codeL_get l k j x hx hj
    have h2:=Hat.out.byte1 (8*k+j) _ h1
    rw [← Hq.out,← Nat.add_assoc]at h2
    exact(HB.out.cell (p:=⟨vb,vo+q+j,none⟩) hvb).trans h2))
   have Hnt:=Lib.hid (show l.take (k+1)=l.take k++[x]from take_snocB hx)
   have Hkl:Hid ((l.take k).length=k):=Lib.hid (by rw [List.length_take];have:=Hn.out;omega)
   obtain⟨oa,oc,hof⟩:=HO.out.form
   rw [Hkl.out]at hof
   subst hof
   have hq1:¬ (vc:Int)<(q:Int)+8:=by omega
   have hq2:(q:Int)<(L:Int):=by omega
   clear hx hxb hq
   go_upto_region 8 with (go_at_call 38;refine HR.out.mono ?_;rintro e w2 ⟨rfl,hb2⟩)
   have HX3:=Lib.hid (heap_alloc_new w2 (.cells (#[.int .i64 x.op,.int .i64 x.a,.int .i64 x.b,.int .i64 x.c,.int .i64 x.imm]) 65 (0,0)))
   have HB3:=Lib.hid ((HB.out.trans (hb2.mono hz)).alloc (by have:=hb2.size;omega) (.cells (#[.int .i64 x.op,.int .i64 x.a,.int .i64 x.b,.int .i64 x.c,.int .i64 x.imm]) 65 (0,0)))
   have HO3:=Lib.hid ((HO.out.below hb2).alloc (.cells (#[.int .i64 x.op,.int .i64 x.a,.int .i64 x.b,.int .i64 x.c,.int .i64 x.imm]) 65 (0,0)))
   obtain⟨xb,hxb⟩:∃ xb,xb=w2.heap.size:=⟨_,rfl⟩
   rw [← hxb]at HX3 ⊢
   generalize w2.alloc (.cells (#[.int .i64 x.op,.int .i64 x.a,.int .i64 x.b,.int .i64 x.c,.int .i64 x.imm]) 65 (0,0))=w3 at *
   clear hb2 HR hz hxb hq1 HO HB
   have p0:w3.cell? ⟨xb,0,none⟩=some (.int .i64 x.op):=by rw [Lib.cell_of_heap HX3.out];rfl
   have p1:w3.cell? ⟨xb,1,none⟩=some (.int .i64 x.a):=by rw [Lib.cell_of_heap HX3.out];rfl
   have p2:w3.cell? ⟨xb,2,none⟩=some (.int .i64 x.b):=by rw [Lib.cell_of_heap HX3.out];rfl
   have p3:w3.cell? ⟨xb,3,none⟩=some (.int .i64 x.c):=by rw [Lib.cell_of_heap HX3.out];rfl
   have p4:w3.cell? ⟨xb,4,none⟩=some (.int .i64 x.imm):=by rw [Lib.cell_of_heap HX3.out];rfl
   have HB4:=Lib.hid (HB3.out.alloc HB3.out.size (.cells (#[.int .i64 x.op,.int .i64 x.a,.int .i64 x.b,.int .i64 x.c,.int .i64 x.imm]) 65 (0,0)))
   have HO4:=Lib.hid (HO3.out.alloc (.cells (#[.int .i64 x.op,.int .i64 x.a,.int .i64 x.b,.int .i64 x.c,.int .i64 x.imm]) 65 (0,0)))
   have HX4:=Lib.hid (heap_alloc_new w3 (.cells (#[.int .i64 x.op,.int .i64 x.a,.int .i64 x.b,.int .i64 x.c,.int .i64 x.imm]) 65 (0,0)))
   have Hz4:Hid ((w3.alloc (.cells (#[.int .i64 x.op,.int .i64 x.a,.int .i64 x.b,.int .i64 x.c,.int .i64 x.imm]) 65 (0,0))).heap.size=w3.heap.size+1):=Lib.hid (by simp)
   have hzw:=HB3.out.size
   go_wp2_with (at_builtin;go_loud (refine wpList_appendK (K:=kInst) 55 _ 40 Try.underlying55 info_inst rfl (by decide) rfl (.tmp 29) (.tmp 31) rfl k Hkl.out rfl HO4.out (fun _ h=>h.elim) w3.heap.size x (instCells x) rfl (cells_row HX4.out) (fun u hu=>by simp only [instCells,List.mem_cons,List.not_mem_nil,or_false]at hu;rcases hu with rfl | rfl | rfl | rfl | rfl<;>rfl) ⟨rfl,Hok.out⟩ (by rw [Hkl.out];omega) (by rw [Hkl.out];omega) HB4.out.size ?_))
   intro g c w7 hown7 hst7 hglt
   have HO7:=Lib.hid hown7
   have HB7:Hid (Below w.heap.size w w7):=Lib.hid (HB4.out.trans (hst7.imp (S':=(·<w.heap.size)) (fun b hb=>⟨by have h1:b<w.heap.size:=hb;have:=Hz4.out;omega,fun e=>by have:=(HO4.out.lt b e).1;have h1:b<w.heap.size:=hb;omega⟩)).below)
   clear hown7 hst7 p0 p1 p2 p3 p4
   go_wp2
   go_roundw
   case rel=>exact⟨k+1,q+8,by go_num,by have:=Hq.out;omega,by omega,by rw [Hnt.out];exact HO7.out,HB7.out⟩
   case measure=>simp [intOf];omega
  ·have hq2:¬ (q:Int)<(L:Int):=by have:=HL8.out;omega
   have HE:Hid (OwnK 65 kInst w.heap.size (fun _=>False) wr u4 l):=Lib.hid (by
    have h:=HO.out
    rwa [List.take_of_length_le (by have:=Hn.out;omega)]at h)
   clear hq
   go_wp2
   go_ret2
   exact⟨_,rfl,HE.out,HB.out⟩
end Go.Proofs.Ytpomdoliblilfaa
