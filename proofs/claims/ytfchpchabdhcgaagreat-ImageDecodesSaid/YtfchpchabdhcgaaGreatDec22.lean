/- Lemmas. -/
import Derived.Test.YtfchpchabdhcgaaGreatDec21
import Derived.Laws.BitsAllLaws
set_option linter.unusedVariables false
set_option linter.unusedSimpArgs false
set_option maxHeartbeats 64000000
set_option maxRecDepth 100000
namespace Go.Proofs.YtfchpchabdhcgaaGreat
open Go.RowKit
theorem nat_two_bits (m k1 k2:Nat):m &&& (2 ^ k1|||2 ^ k2)=2 ^ k1|||2 ^ k2↔m.testBit k1=true∧m.testBit k2=true:=by
 constructor
 ·intro h
  have h1:=congrArg (fun x=>x.testBit k1) h
  have h2:=congrArg (fun x=>x.testBit k2) h
  simp only [Nat.testBit_and,Nat.testBit_or,Nat.testBit_two_pow_self]at h1 h2
  simp at h1 h2
  exact⟨h1,h2⟩
 ·rintro ⟨h1,h2⟩
  apply Nat.eq_of_testBit_eq
  intro i
  simp only [Nat.testBit_and,Nat.testBit_or,Nat.testBit_two_pow]
  by_cases e1:k1=i
  ·subst e1;simp [h1]
  ·by_cases e2:k2=i
   ·subst e2;simp [h2]
   ·simp [e1,e2]
theorem bitB_testBit (m k:Nat):bitB (m:Int) k=m.testBit k:=by
 rw [bitB,Int.toNat_natCast,Nat.testBit_eq_decide_div_mod_eq]
 rw [Bool.eq_iff_iff];simp
theorem wrap_pow (k:Nat) (h:k<64):IntKind.u64.wrap ((2:Int) ^ k)=((2 ^ k:Nat):Int):=by
 have:(2 ^ k:Nat)<2 ^ 64:=Nat.pow_lt_pow_right (by decide) h
 have e:(2:Nat) ^ 64=18446744073709551616:=by decide
 rw [show ((2:Int) ^ k)=((2 ^ k:Nat):Int) by rw [Int.natCast_pow];rfl]
 generalize 2 ^ k=P at *
 exact IntWalk.u64_in _ ⟨by omega,by omega⟩
theorem marks_bits (k1 k2:Nat) (h1:k1<64) (h2:k2<64):bits .or .u64 (IntKind.u64.wrap ((2:Int) ^ k1)) (IntKind.u64.wrap ((2:Int) ^ k2))=((2 ^ k1|||2 ^ k2:Nat):Int):=by
 have a1:(2 ^ k1:Nat)<2 ^ 64:=Nat.pow_lt_pow_right (by decide) h1
 have a2:(2 ^ k2:Nat)<2 ^ 64:=Nat.pow_lt_pow_right (by decide) h2
 have e:(2:Nat) ^ 64=18446744073709551616:=by decide
 rw [wrap_pow k1 h1,wrap_pow k2 h2,u64_or_nat _ _ (by omega) (by omega)]
theorem marks_lt (k1 k2:Nat) (h1:k1<64) (h2:k2<64):2 ^ k1|||2 ^ k2<18446744073709551616:=
 Nat.or_lt_two_pow (n:=64) (Nat.pow_lt_pow_right (by decide) h1) (Nat.pow_lt_pow_right (by decide) h2)
theorem marks_miss (m k1 k2:Nat) (hm:m<18446744073709551616) (h1:k1<64) (h2:k2<64):
  (bits .and .u64 (m:Int) ((2 ^ k1|||2 ^ k2:Nat):Int) != ((2 ^ k1|||2 ^ k2:Nat):Int))= !(bitB (m:Int) k1&&bitB (m:Int) k2):=by
 rw [u64_and_nat _ _ hm (marks_lt k1 k2 h1 h2),bitB_testBit,bitB_testBit]
 have h:=nat_two_bits m k1 k2
 rw [Bool.eq_iff_iff]
 simp only [bne_iff_ne,ne_eq,Int.natCast_inj,h,Bool.not_eq_true',Bool.and_eq_false_iff]
 cases m.testBit k1<;>cases m.testBit k2<;>simp
theorem i64_and_small (a b:Nat) (ha:a<9223372036854775808) (hb:b<9223372036854775808):bits .and .i64 (a:Int) (b:Int)=((a &&& b:Nat):Int):=by
 have h1:(BitVec.ofInt 64 (a:Int)).toNat=a:=ofInt_u64 a (by omega)
 have h2:(BitVec.ofInt 64 (b:Int)).toNat=b:=ofInt_u64 b (by omega)
 have h3:a &&& b<9223372036854775808:=Nat.lt_of_le_of_lt Nat.and_le_left ha
 show IntKind.i64.wrap ((BitVec.ofInt 64 (a:Int) &&& BitVec.ofInt 64 (b:Int)).toNat:Int)=_
 rw [BitVec.toNat_and,h1,h2]
 simp [IntKind.wrap,IntKind.bits,IntKind.signed]
 omega
theorem pow_word (h n:Nat) (hh:h<4294967296) (hp:powB n=true):bits .and .i64 ((h:Int)/64) ((n:Int)-1)=((h/64%n:Nat):Int):=by
 rw [powB_iff]at hp
 rw [show ((h:Int)/64)=((h/64:Nat):Int) by omega,show((n:Int)-1)=((n-1:Nat):Int) by omega,i64_and_small _ _ (by omega) (by omega)]
 congr 1
 rcases hp with rfl | rfl | rfl | rfl | rfl | rfl | rfl
 ·exact Nat.and_two_pow_sub_one_eq_mod _ 0
 ·exact Nat.and_two_pow_sub_one_eq_mod _ 1
 ·exact Nat.and_two_pow_sub_one_eq_mod _ 2
 ·exact Nat.and_two_pow_sub_one_eq_mod _ 3
 ·exact Nat.and_two_pow_sub_one_eq_mod _ 4
 ·exact Nat.and_two_pow_sub_one_eq_mod _ 5
 ·exact Nat.and_two_pow_sub_one_eq_mod _ 6
theorem slacks_any (w:World) (v:Value) (ws:List Int) (s:Int) (h:Nat) (hw:LB kWord (·<w.heap.size) w v ws) (hr:∀ x∈ws,0≤x∧x<18446744073709551616) (hh:h<4294967296) (hs:sieveB ws s=true):
  Calls Tryz.prog 79 #[.agg #[v,.int .i64 s],.int .u32 h] w fun e w'=>e=.returned (.bool (lacksB ws s (h:Int)))∧Below w.heap.size w w':=by
 obtain⟨a,b,off,c,rfl,hm,hc,hat⟩:=hw.at
 have hse:sieveErr ws s=0:=by rw [sieveErr,hs];rfl
 rw [sieveB_pow]at hs
 simp only [Bool.and_eq_true,decide_eq_true_eq]at hs
 obtain⟨⟨hp,hs1⟩,hs2⟩:=hs
 have hn:=(powB_iff _).1 hp
 have hn1:1≤ws.length∧ws.length≤64:=by omega
 obtain rfl:=hat.addr (by omega)
 have hk:h/64%ws.length<ws.length:=Nat.mod_lt _ (by omega)
 obtain⟨x,hx⟩:∃ x,ws[h/64%ws.length]? =some x:=⟨_,List.getElem?_eq_getElem hk⟩
 have hxr:=hr x (List.mem_of_getElem? hx)
 obtain⟨m,rfl⟩:∃ m:Nat,x=m:=⟨x.toNat,by omega⟩
 have k1:h%64<64:=Nat.mod_lt _ (by decide)
 have k2:h/2 ^ s.toNat%64<64:=Nat.mod_lt _ (by decide)
 have Hres:Hid (lacksB ws s (h:Int)=(bits .and .u64 (m:Int) ((2 ^ (h%64)|||2 ^ (h/2 ^ s.toNat%64):Nat):Int) != ((2 ^ (h%64)|||2 ^ (h/2 ^ s.toNat%64):Nat):Int))):=Lib.hid (by
  rw [marks_miss m _ _ (by omega) k1 k2,lacksB,Int.toNat_natCast,List.getD_eq_getElem?_getD,hx];rfl)
 have HR:=Lib.hid (sright_any (w.alloc (.cells #[.slice (some ⟨b,off,none⟩) ws.length c,.int .i64 s] 33 (0,0))) ws (some ⟨b,off,none⟩) c s (by omega))
 have HM:=Lib.hid (fun w=>smarks_any w (some ⟨b,off,none⟩) ws.length c s h hh hn1.1 hn1.2 hs1 hs2)
 have HW:=Lib.hid (pow_word h ws.length hh hp)
 have HB:=Lib.hid (marks_bits (h%64) (h/2 ^ s.toNat%64) k1 k2)
 have F1:=Lib.hid (heap_alloc_new w (.cells #[.slice (some ⟨b,off,none⟩) ws.length c,.int .i64 s] 33 (0,0)))
 have B1:=Lib.hid ((Below.refl w.heap.size w).alloc (Nat.le_refl _) (.cells #[.slice (some ⟨b,off,none⟩) ws.length c,.int .i64 s] 33 (0,0)))
 have Hat:=Lib.hid hat
 have hz1:w.heap.size<(w.alloc (.cells #[.slice (some ⟨b,off,none⟩) ws.length c,.int .i64 s] 33 (0,0))).heap.size:=by simp
 clear hat hr hw hp hn hc hm
 rw [hse]at HR
 go_enter Tryz.func79,Tryz.ntmps79
 go_wp2_with fail
 generalize w.alloc (.cells #[.slice (some ⟨b,off,none⟩) ws.length c,.int .i64 s] 33 (0,0))=w1 at *
 refine HR.out.mono ?_
 rintro e w2 ⟨rfl,hb2⟩
 have B2:=Lib.hid (B1.out.trans (hb2.mono (by omega)))
 have F2:=(hb2.block _ hz1).trans F1.out
 have c0:w2.cell? ⟨w.heap.size,0,none⟩=some (.slice (some ⟨b,off,none⟩) ws.length c):=by rw [Lib.cell_of_heap F2];rfl
 have c1:w2.cell? ⟨w.heap.size,1,none⟩=some (.int .i64 s):=by rw [Lib.cell_of_heap F2];rfl
 have hz2:=hb2.size
 clear hb2 HR F1
 go_wp2_with fail
 refine(HM.out _).mono ?_
 rintro e w3 ⟨rfl,hb3⟩
 have B3:=Lib.hid (B2.out.trans (hb3.mono (by omega)))
 have F3:=(hb3.block w.heap.size (by omega)).trans F2
 have d0:w3.cell? ⟨w.heap.size,0,none⟩=some (.slice (some ⟨b,off,none⟩) ws.length c):=by rw [Lib.cell_of_heap F3];rfl
 have d1:w3.cell? ⟨w.heap.size,1,none⟩=some (.int .i64 s):=by rw [Lib.cell_of_heap F3];rfl
 have hz3:=hb3.size
 have hc:=(Hat.out.below B3.out).word1 _ _ hx
 rw [HW.out,HB.out]
 clear hb3 F2 HM c0 c1 HW HB F3 hx
 generalize 2 ^ (h%64)|||2 ^ (h/2 ^ s.toNat%64)=K at *
 generalize h/64%ws.length=q at *
 have hsb:=World.block_lt_of_cell? _ _ hc
 have hsw:w.heap.size<w3.heap.size:=by omega
 go_wp2_with fail
 go_quiet (fail)
 go_wp2
 go_ret
 exact⟨by rw [Hres.out];rfl,below_drewN (B3.out.alloc (by omega) _) _⟩
end Go.Proofs.YtfchpchabdhcgaaGreat
