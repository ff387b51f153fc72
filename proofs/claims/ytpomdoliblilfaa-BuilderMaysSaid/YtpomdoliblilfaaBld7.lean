/- Lemmas. -/
import Derived.Test.YtpomdoliblilfaaBld5
import Derived.Test.YtpomdoliblilfaaBld4
import Derived.IntWalk
import Derived.Deep.QuietTactic
import Derived.BigQuiet
import Derived.Deep.RegionHeld3
import Derived.Deep.RegionLaw
import Derived.StillTactics
import Derived.Laws.BitsAllLaws
import Derived.Deep.RegionHeld
namespace Go.Proofs.Ytpomdoliblilfaa
set_option linter.unusedVariables false
set_option linter.unusedSimpArgs false
open Go.RowKit
theorem hashL_app:∀ (a b:List UInt8) (h:Int),hashL h (a++b)=hashL (hashL h a) b
 | [],_,_=>rfl
 | c :: a,b,h=>hashL_app a b _
theorem hashL_snoc (h:Int) (p:List UInt8) (k:Nat) (c:UInt8) (hk:k<p.length) (hc:p[k]=c):hashL h (p.take (k+1))=(33*hashL h (p.take k)+c.toNat)%4294967296:=by
 rw [List.take_succ_eq_append_getElem hk,hashL_app,hc];rfl
theorem hashL_range:∀ (l:List UInt8) (h:Int),0≤h∧h<4294967296→0≤hashL h l∧hashL h l<4294967296
 | [],_,hh=>hh
 | c :: l,h,hh=>hashL_range l _ ⟨Int.emod_nonneg _ (by decide),Int.emod_lt_of_pos _ (by decide)⟩
theorem more_wrap (hh:Int) (c:UInt8) (h:0≤hh∧hh<4294967296):(IntKind.u64.wrap (hh*33+IntKind.u64.wrap (c.toNat:Int))).tmod 4294967296=(33*hh+(c.toNat:Int))%4294967296:=by
 have hc:=c.toNat_lt
 have h1:IntKind.u64.wrap (c.toNat:Int)=(c.toNat:Int):=IntWalk.u64_in _ ⟨by omega,by omega⟩
 have h2:IntKind.u64.wrap (hh*33+(c.toNat:Int))=hh*33+(c.toNat:Int):=IntWalk.u64_in _ ⟨by omega,by omega⟩
 rw [h1,h2,Int.tmod_eq_emod_of_nonneg (by omega),Int.mul_comm]
theorem hashB_range (s:List UInt8):0≤hashB s∧hashB s<4294967296:=hashL_range s 5381 (by decide)
set_option maxHeartbeats 4000000 in
set_option maxRecDepth 100000 in
theorem shash_any (w:World) (p:List UInt8) (hp:p.length≤9223372036854775807):
  Calls Try.prog 89 #[.string ⟨p.toArray⟩] w fun e w'=>e=.returned (.int .u32 (hashB p))∧w'=w:=by
 have hsz:=size_mk p
 go_enter Try.func89,Try.ntmps89
 go_wp2
 go_loop [3,7] (fun h i=>∃ k:Nat,k≤p.length∧i=.int .i64 k∧h=.int .u32 (hashL 5381 (p.take k))) (fun _ i=>p.length-(intOf i).toNat)
 case atStart=>exact⟨0,Nat.zero_le _,rfl,rfl⟩
 case round=>
  obtain⟨k,hk,rfl,rfl⟩:=hrel
  by_cases hlt:k<p.length
  ·obtain⟨c,hcx⟩:∃ c,p[k]=c:=⟨_,rfl⟩
   have hx:(⟨p.toArray⟩:ByteArray)[k]'(by omega)=c:=hcx
   have Hs:=Lib.hid (hashL_snoc 5381 p k c hlt hcx)
   have hr:=hashL_range (p.take k) 5381 (by decide)
   clear hcx
   generalize hashL 5381 (p.take k)=hh at *
   go_wp2
   go_round
   case rel=>exact⟨k+1,by omega,by go_num,by rw [Hs.out];go_num⟩
   case measure=>simp [intOf];omega
  ·have He:Hid (hashL 5381 (p.take k)=hashB p):=Lib.hid (by rw [List.take_of_length_le (by omega)];rfl)
   go_wp2
   go_ret
   exact⟨by rw [He.out];rfl,rfl⟩
set_option maxHeartbeats 4000000 in
set_option maxRecDepth 100000 in
theorem jmore_any (w:World) (h0:Int) (p:List UInt8) (hp:p.length≤9223372036854775807) (hh0:0≤h0∧h0<4294967296):
  Calls Try.prog 72 #[.int .u32 h0,.string ⟨p.toArray⟩] w fun e w'=>e=.returned (.int .u32 (hashL h0 p))∧w'=w:=by
 have hsz:=size_mk p
 go_enter Try.func72,Try.ntmps72
 go_wp2
 go_loop [5,6] (fun h i=>∃ k:Nat,k≤p.length∧i=.int .i64 k∧h=.int .u64 (hashL h0 (p.take k))) (fun _ i=>p.length-(intOf i).toNat)
 case atStart=>exact⟨0,Nat.zero_le _,rfl,by go_num⟩
 case round=>
  obtain⟨k,hk,rfl,rfl⟩:=hrel
  have hr:=hashL_range (p.take k) h0 hh0
  by_cases hlt:k<p.length
  ·obtain⟨c,hcx⟩:∃ c,p[k]=c:=⟨_,rfl⟩
   have hx:(⟨p.toArray⟩:ByteArray)[k]'(by omega)=c:=hcx
   have Hs:=Lib.hid (hashL_snoc h0 p k c hlt hcx)
   clear hcx
   generalize hashL h0 (p.take k)=hh at *
   go_wp2
   go_round
   case rel=>exact⟨k+1,by omega,by go_num,by rw [Hs.out,← more_wrap hh c hr]⟩
   case measure=>simp [intOf];omega
  ·have He:Hid (hashL h0 (p.take k)=hashL h0 p):=Lib.hid (by rw [List.take_of_length_le (by omega)])
   generalize hashL h0 (p.take k)=hh at *
   go_wp2
   go_ret
   exact⟨by rw [← He.out];go_num,rfl⟩
set_option maxHeartbeats 1000000 in
theorem jhash_any (w:World) (p:List UInt8) (hp:p.length≤9223372036854775807):
  Calls Try.prog 37 #[.string ⟨p.toArray⟩] w fun e w'=>e=.returned (.int .u32 (hashB p))∧w'=w:=by
 go_enter Try.func37,Try.ntmps37
 go_wp2_with fail
 refine(jmore_any _ 5381 p hp (by decide)).mono ?_
 rintro e w2 ⟨rfl,rfl⟩
 go_wp2
 go_ret
 exact⟨rfl,rfl⟩
end Go.Proofs.Ytpomdoliblilfaa
namespace Go.Proofs.Ytpomdoliblilfaa
set_option linter.unusedVariables false
set_option linter.unusedSimpArgs false
open Go.RowKit
def powB (n:Nat):Bool:=decide (n=1)||decide (n=2)||decide (n=4)||decide (n=8)||decide (n=16)||decide (n=32)||decide (n=64)
theorem sieveB_pow (ws:List Int) (s:Int):sieveB ws s=(powB ws.length&&decide (1≤s)&&decide (s≤31)):=rfl
theorem powB_bits (n:Nat) (h0:1≤n) (h1:n≤64):(bits BinOp.and .i64 (n:Int) ((n:Int)-1) != 0)= !powB n:=by
 have h:∀ m:Nat,m≤64→1≤m→(bits BinOp.and .i64 (m:Int) ((m:Int)-1) != 0)= !powB m:=by decide +kernel
 exact h n h1 h0
theorem powB_small (n:Nat) (h:¬ (1≤n∧n≤64)):powB n=false:=by simp [powB];omega
def sieveErr (ws:List Int) (s:Int):Int:=if sieveB ws s then 0 else 20
theorem sieveErr_ok {ws:List Int} {s:Int} (h:powB ws.length=true) (h1:1≤s) (h2:s≤31):sieveErr ws s=0:=by rw [sieveErr,sieveB_pow,h];simp [h1,h2]
theorem sieveErr_no {ws:List Int} {s:Int} (h:¬ (powB ws.length=true∧1≤s∧s≤31)):sieveErr ws s=20:=by
 have:sieveB ws s=false:=by
  rw [sieveB_pow]
  cases hp:powB ws.length<;>simp
  by_cases h1:1≤s
  ·exact fun _=>by
    by_cases h2:s≤31
    ·exact absurd ⟨hp,h1,h2⟩ h
    ·omega
  ·intro h3;omega
 rw [sieveErr,this];rfl
set_option maxHeartbeats 8000000 in
set_option maxRecDepth 100000 in
theorem sright_any (w:World) (ws:List Int) (a:Option Addr) (c:Nat) (s:Int) (hz:ws.length≤9223372036854775807):
  Calls Try.prog 90 #[.agg #[.slice a ws.length c,.int .i64 s]] w fun e w'=>e=.returned (.int .i64 (sieveErr ws s))∧Below w.heap.size w w':=by
 have Hb:=Lib.hid ((Below.refl w.heap.size w).alloc (Nat.le_refl _) (.cells #[.slice a ws.length c,.int .i64 s] 36 (0,0)))
 by_cases h1:1≤ws.length
 case neg=>
  have Hr:=Lib.hid (sieveErr_no (ws:=ws) (s:=s) (fun h=>by have:=h.1;rw [powB_small _ (by omega)]at this;cases this))
  have hl:ws.length<1:=by omega
  go_enter Try.func90,Try.ntmps90
  go_wp2
  all_goals go_ret
  all_goals exact⟨by rw [Hr.out];rfl,Hb.out⟩
 by_cases h2:ws.length≤64
 case neg=>
  have Hr:=Lib.hid (sieveErr_no (ws:=ws) (s:=s) (fun h=>by have:=h.1;rw [powB_small _ (by omega)]at this;cases this))
  have hl:¬ ws.length<1:=by omega
  have hl2:64<ws.length:=by omega
  go_enter Try.func90,Try.ntmps90
  go_wp2
  all_goals go_ret
  all_goals exact⟨by rw [Hr.out];rfl,Hb.out⟩
 have hl:¬ ws.length<1:=by omega
 have hl2:¬ 64<ws.length:=by omega
 have hbits:=powB_bits ws.length h1 h2
 cases hp:powB ws.length with
 | false=>
  have Hr:=Lib.hid (sieveErr_no (ws:=ws) (s:=s) (fun h=>by have:=h.1;rw [hp]at this;cases this))
  rw [hp]at hbits
  clear hp
  simp only [Bool.not_false]at hbits
  go_enter Try.func90,Try.ntmps90
  go_wp2
  all_goals go_ret
  all_goals exact⟨by rw [Hr.out];rfl,Hb.out⟩
 | true=>
  have Hy:=Lib.hid (fun h3 h4=>sieveErr_ok (ws:=ws) (s:=s) hp h3 h4)
  have Hn:=Lib.hid (fun h3=>sieveErr_no (ws:=ws) (s:=s) h3)
  rw [hp]at hbits
  clear hp
  simp only [Bool.not_true]at hbits
  by_cases h3:s<1
  ·have Hr:=Lib.hid (Hn.out (fun h=>by omega))
   go_enter Try.func90,Try.ntmps90
   go_wp2
   all_goals go_ret
   all_goals exact⟨by rw [Hr.out];rfl,Hb.out⟩
  by_cases h4:31<s
  ·have Hr:=Lib.hid (Hn.out (fun h=>by omega))
   go_enter Try.func90,Try.ntmps90
   go_wp2
   all_goals go_ret
   all_goals exact⟨by rw [Hr.out];rfl,Hb.out⟩
  ·have Hr:=Lib.hid (Hy.out (by omega) (by omega))
   go_enter Try.func90,Try.ntmps90
   go_wp2
   all_goals go_ret
   all_goals exact⟨by rw [Hr.out];rfl,Hb.out⟩
end Go.Proofs.Ytpomdoliblilfaa
namespace Go.Proofs.Ytpomdoliblilfaa
set_option linter.unusedVariables false
set_option linter.unusedSimpArgs false
open Go.RowKit
theorem powB_iff (n:Nat):powB n=true↔(n=1∨n=2∨n=4∨n=8∨n=16∨n=32∨n=64):=by
 simp only [powB,Bool.or_eq_true,decide_eq_true_eq];omega
theorem powB_next {n k:Nat} (hk:k=1∨k=2∨k=4∨k=8∨k=16∨k=32∨k=64∨k=128) (h:powB n=true→k≤n) (hn:n≠k):powB n=true→k*2≤n:=by
 intro hp
 have h1:=h hp
 rw [powB_iff]at hp
 omega
theorem powB_at {n k:Nat} (hk:k=1∨k=2∨k=4∨k=8∨k=16∨k=32∨k=64∨k=128) (h2:k≤64) (hn:n=k):powB n=true:=by rw [powB_iff];omega
theorem powB_end {n k:Nat} (h:powB n=true→k≤n) (h2:¬ k≤64):powB n=false:=by
 cases hp:powB n with
 | false=>rfl
 | true=>
  have h1:=h hp
  rw [powB_iff]at hp
  omega
set_option maxHeartbeats 4000000 in
set_option maxRecDepth 100000 in
theorem jwords_any (w:World) (n:Nat) (hz:n≤9223372036854775807):
  Calls Try.prog 69 #[.int .i64 n] w fun e w'=>e=.returned (.bool (powB n))∧w'=w:=by
 go_enter Try.func69,Try.ntmps69
 go_wp2
 go_loop [3] (fun i=>∃ k:Nat,i=.int .i64 k∧(k=1∨k=2∨k=4∨k=8∨k=16∨k=32∨k=64∨k=128)∧(powB n=true→k≤n)) (fun i=>200-(intOf i).toNat)
 case atStart=>exact⟨1,rfl,Or.inl rfl,fun h=>by rw [powB_iff]at h;omega⟩
 case round=>
  obtain⟨k,rfl,hk,hp⟩:=hrel
  have Hk:=Lib.hid hk
  have Hp:=Lib.hid hp
  have hk0:1≤k∧k≤128:=by omega
  clear hk hp
  by_cases h1:k≤64
  ·by_cases h2:n=k
   ·have Hr:=Lib.hid (powB_at Hk.out h1 h2)
    have hb:((n:Int)==(k:Int))=true:=by rw [beq_iff_eq];omega
    clear h2
    go_wp2
    go_ret
    exact⟨by rw [Hr.out];rfl,rfl⟩
   ·have Hq:=Lib.hid (powB_next Hk.out Hp.out h2)
    have hb:((n:Int)==(k:Int))=false:=by rw [beq_eq_false_iff_ne];omega
    clear h2
    go_wp2
    go_round
    case rel=>exact⟨k*2,by go_num,by have:=Hk.out;omega,Hq.out⟩
    case measure=>simp [intOf];omega
  ·have Hr:=Lib.hid (powB_end Hp.out h1)
   go_wp2
   go_ret
   exact⟨by rw [Hr.out];rfl,rfl⟩
set_option maxHeartbeats 8000000 in
set_option maxRecDepth 100000 in
theorem jfright_any (w:World) (ws:List Int) (a:Option Addr) (c:Nat) (s:Int) (hz:ws.length≤9223372036854775807):
  Calls Try.prog 32 #[.agg #[.slice a ws.length c,.int .i64 s]] w fun e w'=>e=.returned (.bool (sieveB ws s))∧Below w.heap.size w w':=by
 have Hb:=Lib.hid ((Below.refl w.heap.size w).alloc (Nat.le_refl _) (.cells #[.slice a ws.length c,.int .i64 s] 36 (0,0)))
 have Hd:=Lib.hid (sieveB_pow ws s)
 go_enter Try.func32,Try.ntmps32
 go_wp2_with fail
 refine(jwords_any _ ws.length hz).mono ?_
 rintro e w2 ⟨rfl,rfl⟩
 cases hp:powB ws.length with
 | false=>
  have Hr:Hid (sieveB ws s=false):=Lib.hid (by rw [Hd.out,hp];rfl)
  clear hp
  go_wp2
  all_goals go_ret
  all_goals exact⟨by rw [Hr.out];rfl,Hb.out⟩
 | true=>
  have Hr:Hid (sieveB ws s=(decide (1≤s)&&decide (s≤31))):=Lib.hid (by rw [Hd.out,hp];simp)
  clear hp
  by_cases h3:1≤s
  ·by_cases h4:s≤31
   ·have Hr2:Hid (sieveB ws s=true):=Lib.hid (by rw [Hr.out];simp [h3,h4])
    go_wp2
    all_goals go_ret
    all_goals exact⟨by rw [Hr2.out];rfl,Hb.out⟩
   ·have Hr2:Hid (sieveB ws s=decide (s≤31)):=Lib.hid (by rw [Hr.out];simp [h3])
    have h5:31<s:=by omega
    go_wp2
    all_goals go_ret
    all_goals exact⟨by rw [Hr2.out];rfl,Hb.out⟩
  ·have Hr2:Hid (sieveB ws s=false):=Lib.hid (by rw [Hr.out];simp [h3])
   go_wp2
   all_goals go_ret
   all_goals exact⟨by rw [Hr2.out];rfl,Hb.out⟩
end Go.Proofs.Ytpomdoliblilfaa
namespace Go.Proofs.Ytpomdoliblilfaa
set_option linter.unusedVariables false
set_option linter.unusedSimpArgs false
open Go.RowKit
theorem homeL_int (p:List UInt8) (n:Nat):((homeL p n:Nat):Int)=hashB p%(n:Int):=by
 have h:=(hashB_range p).1
 rw [homeL,Int.natCast_emod,Int.toNat_of_nonneg h]
theorem homeL_lt (p:List UInt8) (n:Nat) (h:1≤n):homeL p n<n:=Nat.mod_lt _ (by omega)
set_option maxHeartbeats 2000000 in
theorem jhome_any (w:World) (p:List UInt8) (n:Nat) (hp:p.length≤9223372036854775807) (h1:1≤n) (h2:n≤512):
  Calls Try.prog 35 #[.string ⟨p.toArray⟩,.int .i64 n] w fun e w'=>e=.returned (.int .i64 (homeL p n))∧w'=w:=by
 have hr:=hashB_range p
 have hh:=Lib.hid (homeL_int p n)
 have hlt:=homeL_lt p n h1
 have hn0:((n:Int)==0)=false:=by rw [beq_eq_false_iff_ne];omega
 have HJ:=jhash_any w p hp
 generalize hashB p=g at *
 have ht:g.tmod (n:Int)=g%(n:Int):=Int.tmod_eq_emod_of_nonneg hr.1
 have hm0:0≤g%(n:Int):=Int.emod_nonneg _ (by omega)
 have hm1:g%(n:Int)<n:=Int.emod_lt_of_pos _ (by omega)
 have hg:IntKind.u64.wrap g=g:=IntWalk.u64_in _ ⟨by omega,by omega⟩
 have hnn:IntKind.u64.wrap (n:Int)=(n:Int):=IntWalk.u64_in _ ⟨by omega,by omega⟩
 go_enter Try.func35,Try.ntmps35
 go_wp2_with fail
 refine HJ.mono ?_
 rintro e w2 ⟨rfl,rfl⟩
 go_wp2
 go_ret
 refine⟨?_,rfl⟩
 rw [hh.out]
 rfl
set_option maxHeartbeats 2000000 in
theorem jpower_any (w:World) (n:Nat) (h:n≤63):
  Calls Try.prog 99 #[.int .u32 n] w fun e w'=>e=.returned (.int .u64 ((2 ^ n:Nat):Int))∧w'=w:=by
 go_enter Try.func99,Try.ntmps99
 go_wp2
 go_loop [3,4] (fun x i=>∃ k:Nat,k≤n∧i=.int .u32 k∧x=.int .u64 ((2 ^ k:Nat):Int)) (fun _ i=>n-(intOf i).toNat)
 case atStart=>exact⟨0,Nat.zero_le _,rfl,rfl⟩
 case round=>
  obtain⟨k,hk,rfl,rfl⟩:=hrel
  by_cases hlt:k<n
  ·have hP:2 ^ k≤4611686018427387904:=Nat.le_trans (Nat.pow_le_pow_right (by decide) (show k≤62 by omega)) (by decide)
   have Hn:=Lib.hid (Nat.pow_succ 2 k)
   generalize 2 ^ k=P at *
   go_wp2
   go_round
   case rel=>exact⟨k+1,by omega,by go_num,by rw [Hn.out];go_num⟩
   case measure=>simp [intOf];omega
  ·have He:Hid (2 ^ k=2 ^ n):=Lib.hid (by rw [show k=n by omega])
   generalize 2 ^ k=P at *
   go_wp2
   go_ret
   refine⟨?_,rfl⟩
   show Ending.returned (.int .u64 (P:Int))=_
   rw [He.out,Int.natCast_pow]
   rfl
set_option maxHeartbeats 2000000 in
theorem jshifted_any (w:World) (h:Nat) (n:Nat) (hh:h<4294967296) (hn:n≤64):
  Calls Try.prog 71 #[.int .u32 h,.int .i64 n] w fun e w'=>e=.returned (.int .u32 ((h/2 ^ n:Nat):Int))∧w'=w:=by
 go_enter Try.func71,Try.ntmps71
 go_wp2
 go_loop [0,5] (fun x i=>∃ k:Nat,k≤n∧i=.int .i64 k∧x=.int .u32 ((h/2 ^ k:Nat):Int)) (fun _ i=>n-(intOf i).toNat)
 case atStart=>exact⟨0,Nat.zero_le _,rfl,by simp⟩
 case round=>
  obtain⟨k,hk,rfl,rfl⟩:=hrel
  have hP:h/2 ^ k<4294967296:=Nat.lt_of_le_of_lt (Nat.div_le_self _ _) hh
  by_cases hlt:k<n
  ·have Hn:Hid (h/2 ^ (k+1)=h/2 ^ k/2):=Lib.hid (by rw [Nat.pow_succ,Nat.div_div_eq_div_mul])
   generalize h/2 ^ k=P at *
   go_wp2
   go_round
   case rel=>exact⟨k+1,by omega,by go_num,by rw [Hn.out];go_num⟩
   case measure=>simp [intOf];omega
  ·have He:Hid (h/2 ^ k=h/2 ^ n):=Lib.hid (by rw [show k=n by omega])
   generalize h/2 ^ k=P at *
   go_wp2
   go_ret
   refine⟨?_,rfl⟩
   show Ending.returned (.int .u32 (P:Int))=_
   rw [He.out,Int.natCast_ediv,Int.natCast_pow]
   rfl
end Go.Proofs.Ytpomdoliblilfaa
namespace Go.Proofs.Ytpomdoliblilfaa
set_option linter.unusedVariables false
set_option linter.unusedSimpArgs false
open Go.RowKit
theorem bitB_yes {m P k:Nat} (hP:P=2 ^ k) (h:m/P%2=1):bitB (m:Int) k=true:=by
 rw [bitB,Int.toNat_natCast,← hP,h];rfl
theorem bitB_no {m P k:Nat} (hP:P=2 ^ k) (h:¬ m/P%2=1):bitB (m:Int) k=false:=by
 rw [bitB,Int.toNat_natCast,← hP,beq_eq_false_iff_ne];exact h
set_option maxHeartbeats 2000000 in
theorem jhas_any (w:World) (m k:Nat) (hm:m<18446744073709551616) (hk:k≤63):
  Calls Try.prog 70 #[.int .u64 m,.int .u32 k] w fun e w'=>e=.returned (.bool (bitB (m:Int) k))∧w'=w:=by
 have HP:=jpower_any w k hk
 have Hy:=Lib.hid (@bitB_yes m (2 ^ k) k rfl)
 have Hn:=Lib.hid (@bitB_no m (2 ^ k) k rfl)
 have hp:1≤2 ^ k:=Nat.one_le_two_pow
 have hp2:2 ^ k≤9223372036854775808:=Nat.le_trans (Nat.pow_le_pow_right (by decide) hk) (by decide)
 generalize 2 ^ k=P at *
 have hp0:((P:Int)==0)=false:=by rw [beq_eq_false_iff_ne];omega
 have hq:((m/P:Nat):Int)=(m:Int)/(P:Int):=Int.natCast_ediv m P
 have hqb:m/P≤m:=Nat.div_le_self _ _
 generalize m/P=q at *
 go_enter Try.func70,Try.ntmps70
 go_wp2_with fail
 refine HP.mono ?_
 rintro e w2 ⟨rfl,rfl⟩
 by_cases h1:q%2=1
 ·have Hr:=Lib.hid (Hy.out h1)
  have hd:((m:Int)/(P:Int)%2==1)=true:=by rw [beq_iff_eq];omega
  go_wp2
  go_ret
  exact⟨by rw [Hr.out];rfl,rfl⟩
 ·have Hr:=Lib.hid (Hn.out h1)
  have hd:((m:Int)/(P:Int)%2==1)=false:=by rw [beq_eq_false_iff_ne];omega
  go_wp2
  go_ret
  exact⟨by rw [Hr.out];rfl,rfl⟩
end Go.Proofs.Ytpomdoliblilfaa
namespace Go.Proofs.Ytpomdoliblilfaa
set_option linter.unusedVariables false
set_option linter.unusedSimpArgs false
open Go.RowKit
set_option maxHeartbeats 8000000 in
set_option maxRecDepth 100000 in
theorem tbucket_any (w:World) (ba:Option Addr) (n bc:Nat) (vw:Value) (s:Int) (p:List UInt8) (hp:p.length≤9223372036854775807) (h1:1≤n) (h2:n≤512):
  Calls Try.prog 54 #[.agg #[.slice ba n bc,vw,.int .i64 s],.string ⟨p.toArray⟩] w fun e w'=>e=.returned (.int .i64 (homeL p n))∧Below w.heap.size w w':=by
 have hr:=hashB_range p
 have hh:=Lib.hid (homeL_int p n)
 have hn0:((n:Int)==0)=false:=by rw [beq_eq_false_iff_ne];omega
 have HJ:=Lib.hid (fun w=>shash_any w p hp)
 have Hb:=Lib.hid ((Below.refl w.heap.size w).alloc (Nat.le_refl _) (.cells #[.slice ba n bc,vw,.int .i64 s] 38 (0,0)))
 generalize hashB p=g at *
 have ht:g.tmod (n:Int)=g%(n:Int):=Int.tmod_eq_emod_of_nonneg hr.1
 have hm0:0≤g%(n:Int):=Int.emod_nonneg _ (by omega)
 have hm1:g%(n:Int)<n:=Int.emod_lt_of_pos _ (by omega)
 have hnn:IntKind.u32.wrap (n:Int)=(n:Int):=by rw [IntKind.wrap];simp [IntKind.bits,IntKind.signed];omega
 go_enter Try.func54,Try.ntmps54
 go_wp2_with fail
 go_quiet ((go_at_call 89;exact Calls.quiet_of_same (HJ.out _)))
 go_wp2
 go_ret
 exact⟨by rw [hh.out];rfl,below_drewN Hb.out _⟩
end Go.Proofs.Ytpomdoliblilfaa
namespace Go.Proofs.Ytpomdoliblilfaa
set_option linter.unusedVariables false
set_option linter.unusedSimpArgs false
open Go.RowKit
theorem runB_long (im:ImgL) (l:List Int) (h:¬ l.length≤8):runB im l=false:=by simp [runB,h]
theorem runB_bad (im:ImgL) (l:List Int) (k:Nat) (x:Int) (hx:l[k]? =some x) (h:holdsB im.segs x 8 4=false):runB im l=false:=by
 have:l.all (fun a=>holdsB im.segs a 8 4)=false:=by rw [List.all_eq_false];exact⟨x,List.mem_of_getElem? hx,by simp [h]⟩
 rw [runB,this];simp
theorem runB_all (im:ImgL) (l:List Int) (h:l.length≤8) (ha:(l.all fun a=>holdsB im.segs a 8 4)=true):runB im l=true:=by rw [runB,ha];simp [h]
set_option maxHeartbeats 16000000 in
set_option maxRecDepth 100000 in
theorem iruns_any (w:World) (v:ImgV) (im:ImgL) (hs:LB kSeg (·<w.heap.size) w v.segs im.segs) (hok:∀ s∈im.segs,SegOk s)
  (hi:LB kInt (·<w.heap.size) w v.init im.init) (hf:LB kInt (·<w.heap.size) w v.fini im.fini)
  (hri:∀ x∈im.init,-9223372036854775808≤x∧x≤9223372036854775807) (hrf:∀ x∈im.fini,-9223372036854775808≤x∧x≤9223372036854775807):
  Calls Try.prog 61 #[.agg (imgCells v im)] w fun e w'=>e=.returned (.bool (runB im im.init&&runB im im.fini))∧Below w.heap.size w w':=by
 obtain⟨ia,ib,ioff,icap,hiv,him,hic,hiat⟩:=hi.at
 obtain⟨fa,fb,foff,fcap,hfv,hfm,hfc,hfat⟩:=hf.at
 obtain⟨vsegs,vneeded,vrunPath,vsyms,vbuckets,vwords,vrelocs,vslots,vinit,vfini,vtls⟩:=v
 simp only at hiv hfv
 subst hiv hfv
 have HH:Hid (∀ (w':World) (x:Int),Below w.heap.size w w'→ -9223372036854775808≤x∧x≤9223372036854775807→
  Calls Try.prog 93 #[.agg (imgCells ⟨vsegs,vneeded,vrunPath,vsyms,vbuckets,vwords,vrelocs,vslots,.slice ia im.init.length icap,.slice fa im.fini.length fcap,vtls⟩ im),.agg #[.int .i64 x,.int .i64 8,.int .i64 4]] w' fun e w''=>e=.returned (.bool (holdsB im.segs x 8 4))∧Below w'.heap.size w' w''):=Lib.hid (fun w' x hb hx=>holds_any w' _ im x 8 4 ((hs.below hb).mono hb.size) hok hx (by decide) (by decide))
 unfold imgCells at *
 have Hiat:=Lib.hid hiat
 have Hfat:=Lib.hid hfat
 have Hri:=Lib.hid hri
 have Hrf:=Lib.hid hrf
 clear hs hok hi hf hiat hfat hri hrf
 generalize hI:(Array.mk [.string ⟨im.name.toArray⟩,.int .i64 im.flags,vsegs,vneeded,vrunPath,vsyms,vbuckets,vwords,.int .i64 im.shift,vrelocs,vslots,.slice ia im.init.length icap,.slice fa im.fini.length fcap,vtls,.int .i64 im.tlsSize]:Array Value)=I at HH
 have F0:=Lib.hid (heap_alloc_new w (.cells I 44 (0,0)))
 subst hI
 go_enter Try.func61,Try.ntmps61
 go_wp2_with fail
 go_loopw [13] (fun i wr=>∃ k:Nat,i=.int .i64 k∧k≤2∧(1≤k→runB im im.init=true)∧(2≤k→runB im im.fini=true)∧Below w.heap.size w wr∧
  wr.heap[w.heap.size]? =some (.cells #[.string ⟨im.name.toArray⟩,.int .i64 im.flags,vsegs,vneeded,vrunPath,vsyms,vbuckets,vwords,.int .i64 im.shift,vrelocs,vslots,.slice ia im.init.length icap,.slice fa im.fini.length fcap,vtls,.int .i64 im.tlsSize] 44 (0,0))∧
  wr.cell? ⟨w.heap.size+1,0,none⟩=some (.slice ia im.init.length icap)∧wr.cell? ⟨w.heap.size+1,1,none⟩=some (.slice fa im.fini.length fcap)∧w.heap.size+1<wr.heap.size) (fun i _=>2-(intOf i).toNat)
 case atStart=>
  refine⟨0,rfl,by omega,fun h=>by omega,fun h=>by omega,((Below.refl _ _).alloc (Nat.le_refl _) _).alloc (by simp) _,?_,?_,?_,by simp⟩
  ·rw [heap_alloc_old _ _ (by simp)]
   exact F0.out
  all_goals
   have e2:=heap_alloc_new (w.alloc (.cells #[.string ⟨im.name.toArray⟩,.int .i64 im.flags,vsegs,vneeded,vrunPath,vsyms,vbuckets,vwords,.int .i64 im.shift,vrelocs,vslots,.slice ia im.init.length icap,.slice fa im.fini.length fcap,vtls,.int .i64 im.tlsSize] 44 (0,0))) (.cells #[.slice ia im.init.length icap,.slice fa im.fini.length fcap] 41 (0,0))
   simp only [World.size_alloc]at e2
   rw [Lib.cell_of_heap e2]
   rfl
 case round=>
  obtain⟨k,rfl,hk,h1,h2,hbel,hF,hc0,hc1,hz⟩:=hrel
  have H1:=Lib.hid h1
  have H2:=Lib.hid h2
  have Bw:=Lib.hid hbel
  have HF:=Lib.hid hF
  have hBr:=hbel.size
  by_cases hlt:k<2
  ·obtain⟨l,la,lb,loff,lcap,hcell,hlm,hlc,hat,hrange,hbad,hgood⟩:∃ (l:List Int) (la:Option Addr) (lb loff lcap:Nat),wr.cell? ⟨w.heap.size+1,k,none⟩=some (.slice la l.length lcap)∧l.length≤9223372036854775807∧l.length≤lcap∧LAt kInt (·<w.heap.size) w l la lb loff∧
     (∀ x∈l,-9223372036854775808≤x∧x≤9223372036854775807)∧(runB im l=false→(runB im im.init&&runB im im.fini)=false)∧(runB im l=true→(1≤k+1→runB im im.init=true)∧(2≤k+1→runB im im.fini=true)):=by
    have hk01:k=0∨k=1:=by omega
    rcases hk01 with rfl | rfl
    ·exact⟨im.init,ia,ib,ioff,icap,hc0,him,hic,Hiat.out,Hri.out,fun h=>by rw [h];rfl,fun h=>⟨fun _=>h,fun h2=>by omega⟩⟩
    ·exact⟨im.fini,fa,fb,foff,fcap,hc1,hfm,hfc,Hfat.out,Hrf.out,fun h=>by rw [h];simp,fun h=>⟨fun _=>H1.out (by omega),fun _=>h⟩⟩
   have Hat:=Lib.hid hat
   have Hrange:=Lib.hid hrange
   have Hbad:=Lib.hid hbad
   have Hgood:=Lib.hid hgood
   have Hc0:=Lib.hid hc0
   have Hc1:=Lib.hid hc1
   clear hat hrange hbad hgood h1 h2 hc0 hc1 hF hbel Hiat Hfat
   by_cases hl8:l.length≤8
   case neg=>
    have Hr:=Lib.hid (Hbad.out (runB_long im l hl8))
    have hl9:8<l.length:=by omega
    go_wp2
    go_ret
    exact⟨by rw [Hr.out];rfl,Bw.out⟩
   have hl9:¬ 8<l.length:=by omega
   have hkd:decide ((k:Int)<2)=true:=by rw [decide_eq_true_eq];omega
   go_wp2_with fail
   go_loopw [22] (fun i wi=>∃ q:Nat,i=.int .i64 q∧q≤l.length∧((l.take q).all fun a=>holdsB im.segs a 8 4)=true∧Below w.heap.size w wi∧Below wr.heap.size wr wi) (fun i _=>l.length-(intOf i).toNat)
   case atStart=>exact⟨0,rfl,Nat.zero_le _,rfl,Bw.out,Below.refl _ _⟩
   case round=>
    obtain⟨q,rfl,hq,hall,hb0,hb1⟩:=hrel
    have Hall:=Lib.hid hall
    have Hb0:=Lib.hid hb0
    have Hb1:=Lib.hid hb1
    have hzi:=hb1.size
    have hF2:=(hb1.block w.heap.size (by omega)).trans HF.out
    clear hall hb0 hb1
    by_cases hlt2:q<l.length
    ·obtain rfl:=Hat.out.addr (by omega)
     obtain⟨x,hx⟩:∃ x,l[q]? =some x:=⟨_,List.getElem?_eq_getElem hlt2⟩
     have hxc:=(Hat.out.below Hb0.out).int1 q x hx
     have hxr:=Hrange.out x (List.mem_of_getElem? hx)
     have Hyes:Hid (holdsB im.segs x 8 4=true→((l.take (q+1)).all fun a=>holdsB im.segs a 8 4)=true):=Lib.hid (fun h=>by rw [all_take_snoc _ l q x hx,Hall.out,h];rfl)
     have Hno:Hid (holdsB im.segs x 8 4=false→(runB im im.init&&runB im im.fini)=false):=Lib.hid (fun h=>Hbad.out (runB_bad im l q x hx h))
     obtain⟨q0,q1,q2,q3,q4,q5,q6,q7,q8,q9,q10,q11,q12,q13,q14⟩:=img_cells hF2
     have hHx:=HH.out wr x Hb0.out hxr
     go_wp2_with fail
     refine hHx.mono ?_
     rintro e w2 ⟨rfl,hb2⟩
     have Hb2:=Lib.hid (Hb0.out.trans (hb2.mono (by omega)))
     have Hb3:=Lib.hid (Hb1.out.trans (hb2.mono (by omega)))
     have hz2:=hb2.size
     clear hb2 q0 q1 q2 q3 q4 q5 q6 q7 q8 q9 q10 q11 q12 q13 q14 hF2 hHx hxc hx
     cases hh:holdsB im.segs x 8 4 with
     | false=>
      have Hr:=Lib.hid (Hno.out hh)
      clear hh
      go_wp2
      go_ret
      exact⟨by rw [Hr.out];rfl,Hb2.out⟩
     | true=>
      have Hy:=Lib.hid (Hyes.out hh)
      clear hh
      go_wp2
      go_round
      case rel=>
       exact⟨q+1,by go_num,by omega,Hy.out,Hb2.out,Hb3.out⟩
      case measure=>simp [intOf];omega
    ·have Hl:=Lib.hid (Hgood.out (runB_all im l hl8 (by have:=Hall.out;rwa [List.take_of_length_le (by omega)]at this)))
     go_wp2
     go_round
     case rel=>
      have e0:=Hb1.out.block (w.heap.size+1) hz
      exact⟨k+1,by go_num,by omega,Hl.out.1,Hl.out.2,Hb0.out,hF2,by rw [World.cell?_of_block (a:=⟨w.heap.size+1,0,none⟩) e0];exact Hc0.out,by rw [World.cell?_of_block (a:=⟨w.heap.size+1,1,none⟩) e0];exact Hc1.out,by omega⟩
     case measure=>simp [intOf];omega
  ·have Hr:Hid ((runB im im.init&&runB im im.fini)=true):=Lib.hid (by rw [H1.out (by omega),H2.out (by omega)];rfl)
   go_wp2
   go_ret
   exact⟨by rw [Hr.out];rfl,Bw.out⟩
end Go.Proofs.Ytpomdoliblilfaa
namespace Go.Proofs.Ytpomdoliblilfaa
set_option linter.unusedVariables false
set_option linter.unusedSimpArgs false
open Go.RowKit
set_option maxHeartbeats 16000000 in
set_option maxRecDepth 100000 in
theorem jruns_any (w:World) (v:ImgV) (im:ImgL) (hs:LB kSeg (·<w.heap.size) w v.segs im.segs) (hok:∀ s∈im.segs,SegOk s)
  (hi:LB kInt (·<w.heap.size) w v.init im.init) (hf:LB kInt (·<w.heap.size) w v.fini im.fini)
  (hri:∀ x∈im.init,-9223372036854775808≤x∧x≤9223372036854775807) (hrf:∀ x∈im.fini,-9223372036854775808≤x∧x≤9223372036854775807):
  Calls Try.prog 31 #[.agg (imgCells v im)] w fun e w'=>e=.returned (.bool (runB im im.init&&runB im im.fini))∧Below w.heap.size w w':=by
 obtain⟨ia,ib,ioff,icap,hiv,him,hic,hiat⟩:=hi.at
 obtain⟨fa,fb,foff,fcap,hfv,hfm,hfc,hfat⟩:=hf.at
 obtain⟨vsegs,vneeded,vrunPath,vsyms,vbuckets,vwords,vrelocs,vslots,vinit,vfini,vtls⟩:=v
 simp only at hiv hfv
 subst hiv hfv
 have HH:Hid (∀ (w':World) (x:Int),Below w.heap.size w w'→ -9223372036854775808≤x∧x≤9223372036854775807→
  Calls Try.prog 66 #[.agg (imgCells ⟨vsegs,vneeded,vrunPath,vsyms,vbuckets,vwords,vrelocs,vslots,.slice ia im.init.length icap,.slice fa im.fini.length fcap,vtls⟩ im),.int .i64 x,.int .i64 8,.int .i64 4] w' fun e w''=>e=.returned (.bool (holdsB im.segs x 8 4))∧Below w'.heap.size w' w''):=Lib.hid (fun w' x hb hx=>jstands_any w' _ im x 8 4 ((hs.below hb).mono hb.size) hok hx (by decide) (by decide))
 unfold imgCells at *
 have Hiat:=Lib.hid hiat
 have Hfat:=Lib.hid hfat
 have Hri:=Lib.hid hri
 have Hrf:=Lib.hid hrf
 clear hs hok hi hf hiat hfat hri hrf
 generalize hI:(Array.mk [.string ⟨im.name.toArray⟩,.int .i64 im.flags,vsegs,vneeded,vrunPath,vsyms,vbuckets,vwords,.int .i64 im.shift,vrelocs,vslots,.slice ia im.init.length icap,.slice fa im.fini.length fcap,vtls,.int .i64 im.tlsSize]:Array Value)=I at HH
 have F0:=Lib.hid (heap_alloc_new w (.cells I 44 (0,0)))
 subst hI
 go_enter Try.func31,Try.ntmps31
 go_wp2_with fail
 go_loopw [12] (fun i wr=>∃ k:Nat,i=.int .i64 k∧k≤2∧(1≤k→runB im im.init=true)∧(2≤k→runB im im.fini=true)∧Below w.heap.size w wr∧
  wr.heap[w.heap.size]? =some (.cells #[.string ⟨im.name.toArray⟩,.int .i64 im.flags,vsegs,vneeded,vrunPath,vsyms,vbuckets,vwords,.int .i64 im.shift,vrelocs,vslots,.slice ia im.init.length icap,.slice fa im.fini.length fcap,vtls,.int .i64 im.tlsSize] 44 (0,0))∧
  wr.cell? ⟨w.heap.size+1,0,none⟩=some (.slice ia im.init.length icap)∧wr.cell? ⟨w.heap.size+1,1,none⟩=some (.slice fa im.fini.length fcap)∧w.heap.size+1<wr.heap.size) (fun i _=>2-(intOf i).toNat)
 case atStart=>
  refine⟨0,rfl,by omega,fun h=>by omega,fun h=>by omega,((Below.refl _ _).alloc (Nat.le_refl _) _).alloc (by simp) _,?_,?_,?_,by simp⟩
  ·rw [heap_alloc_old _ _ (by simp)]
   exact F0.out
  all_goals
   have e2:=heap_alloc_new (w.alloc (.cells #[.string ⟨im.name.toArray⟩,.int .i64 im.flags,vsegs,vneeded,vrunPath,vsyms,vbuckets,vwords,.int .i64 im.shift,vrelocs,vslots,.slice ia im.init.length icap,.slice fa im.fini.length fcap,vtls,.int .i64 im.tlsSize] 44 (0,0))) (.cells #[.slice ia im.init.length icap,.slice fa im.fini.length fcap] 41 (0,0))
   simp only [World.size_alloc]at e2
   rw [Lib.cell_of_heap e2]
   rfl
 case round=>
  obtain⟨k,rfl,hk,h1,h2,hbel,hF,hc0,hc1,hz⟩:=hrel
  have H1:=Lib.hid h1
  have H2:=Lib.hid h2
  have Bw:=Lib.hid hbel
  have HF:=Lib.hid hF
  have hBr:=hbel.size
  by_cases hlt:k<2
  ·obtain⟨l,la,lb,loff,lcap,hcell,hlm,hlc,hat,hrange,hbad,hgood⟩:∃ (l:List Int) (la:Option Addr) (lb loff lcap:Nat),wr.cell? ⟨w.heap.size+1,k,none⟩=some (.slice la l.length lcap)∧l.length≤9223372036854775807∧l.length≤lcap∧LAt kInt (·<w.heap.size) w l la lb loff∧
     (∀ x∈l,-9223372036854775808≤x∧x≤9223372036854775807)∧(runB im l=false→(runB im im.init&&runB im im.fini)=false)∧(runB im l=true→(1≤k+1→runB im im.init=true)∧(2≤k+1→runB im im.fini=true)):=by
    have hk01:k=0∨k=1:=by omega
    rcases hk01 with rfl | rfl
    ·exact⟨im.init,ia,ib,ioff,icap,hc0,him,hic,Hiat.out,Hri.out,fun h=>by rw [h];rfl,fun h=>⟨fun _=>h,fun h2=>by omega⟩⟩
    ·exact⟨im.fini,fa,fb,foff,fcap,hc1,hfm,hfc,Hfat.out,Hrf.out,fun h=>by rw [h];simp,fun h=>⟨fun _=>H1.out (by omega),fun _=>h⟩⟩
   have Hat:=Lib.hid hat
   have Hrange:=Lib.hid hrange
   have Hbad:=Lib.hid hbad
   have Hgood:=Lib.hid hgood
   have Hc0:=Lib.hid hc0
   have Hc1:=Lib.hid hc1
   clear hat hrange hbad hgood h1 h2 hc0 hc1 hF hbel Hiat Hfat
   by_cases hl8:l.length≤8
   case neg=>
    have Hr:=Lib.hid (Hbad.out (runB_long im l hl8))
    have hl9:8<l.length:=by omega
    go_wp2
    go_ret
    exact⟨by rw [Hr.out];rfl,Bw.out⟩
   have hl9:¬ 8<l.length:=by omega
   have hkd:decide ((k:Int)<2)=true:=by rw [decide_eq_true_eq];omega
   go_wp2_with fail
   go_loopw [5] (fun i wi=>∃ q:Nat,i=.int .i64 q∧q≤l.length∧((l.take q).all fun a=>holdsB im.segs a 8 4)=true∧Below w.heap.size w wi∧Below wr.heap.size wr wi) (fun i _=>l.length-(intOf i).toNat)
   case atStart=>exact⟨0,rfl,Nat.zero_le _,rfl,Bw.out,Below.refl _ _⟩
   case round=>
    obtain⟨q,rfl,hq,hall,hb0,hb1⟩:=hrel
    have Hall:=Lib.hid hall
    have Hb0:=Lib.hid hb0
    have Hb1:=Lib.hid hb1
    have hzi:=hb1.size
    have hF2:=(hb1.block w.heap.size (by omega)).trans HF.out
    clear hall hb0 hb1
    by_cases hlt2:q<l.length
    ·obtain rfl:=Hat.out.addr (by omega)
     obtain⟨x,hx⟩:∃ x,l[q]? =some x:=⟨_,List.getElem?_eq_getElem hlt2⟩
     have hxc:=(Hat.out.below Hb0.out).int1 q x hx
     have hxr:=Hrange.out x (List.mem_of_getElem? hx)
     have Hyes:Hid (holdsB im.segs x 8 4=true→((l.take (q+1)).all fun a=>holdsB im.segs a 8 4)=true):=Lib.hid (fun h=>by rw [all_take_snoc _ l q x hx,Hall.out,h];rfl)
     have Hno:Hid (holdsB im.segs x 8 4=false→(runB im im.init&&runB im im.fini)=false):=Lib.hid (fun h=>Hbad.out (runB_bad im l q x hx h))
     obtain⟨q0,q1,q2,q3,q4,q5,q6,q7,q8,q9,q10,q11,q12,q13,q14⟩:=img_cells hF2
     have hHx:=HH.out wr.drew x Hb0.out.drew hxr
     go_wp2_with fail
     refine wp_region_phase 7 (by kernel_rfl) (by kernel_rfl) ?_
     simp only [List.take_succ_cons,List.take_zero,List.drop_succ_cons,List.drop_zero,List.take_nil,List.drop_nil]
     refine wpAny_of_held (S:=fun w'=>w'.cell? ⟨w.heap.size,0,none⟩=some (.string ⟨im.name.toArray⟩)∧w'.cell? ⟨w.heap.size,1,none⟩=some (.int .i64 im.flags)∧w'.cell? ⟨w.heap.size,2,none⟩=some vsegs∧w'.cell? ⟨w.heap.size,3,none⟩=some vneeded∧w'.cell? ⟨w.heap.size,4,none⟩=some vrunPath∧w'.cell? ⟨w.heap.size,5,none⟩=some vsyms∧w'.cell? ⟨w.heap.size,6,none⟩=some vbuckets∧w'.cell? ⟨w.heap.size,7,none⟩=some vwords∧w'.cell? ⟨w.heap.size,8,none⟩=some (.int .i64 im.shift)∧w'.cell? ⟨w.heap.size,9,none⟩=some vrelocs∧w'.cell? ⟨w.heap.size,10,none⟩=some vslots∧w'.cell? ⟨w.heap.size,11,none⟩=some (.slice ia im.init.length icap)∧w'.cell? ⟨w.heap.size,12,none⟩=some (.slice fa im.fini.length fcap)∧w'.cell? ⟨w.heap.size,13,none⟩=some vtls∧w'.cell? ⟨w.heap.size,14,none⟩=some (.int .i64 im.tlsSize)∧w'.cell? ⟨lb,loff+q,none⟩=some (.int .i64 x)) _ _ _ _ ?_
     have hHeld:(fun w':World=>w'.cell? ⟨w.heap.size,0,none⟩=some (.string ⟨im.name.toArray⟩)∧w'.cell? ⟨w.heap.size,1,none⟩=some (.int .i64 im.flags)∧w'.cell? ⟨w.heap.size,2,none⟩=some vsegs∧w'.cell? ⟨w.heap.size,3,none⟩=some vneeded∧w'.cell? ⟨w.heap.size,4,none⟩=some vrunPath∧w'.cell? ⟨w.heap.size,5,none⟩=some vsyms∧w'.cell? ⟨w.heap.size,6,none⟩=some vbuckets∧w'.cell? ⟨w.heap.size,7,none⟩=some vwords∧w'.cell? ⟨w.heap.size,8,none⟩=some (.int .i64 im.shift)∧w'.cell? ⟨w.heap.size,9,none⟩=some vrelocs∧w'.cell? ⟨w.heap.size,10,none⟩=some vslots∧w'.cell? ⟨w.heap.size,11,none⟩=some (.slice ia im.init.length icap)∧w'.cell? ⟨w.heap.size,12,none⟩=some (.slice fa im.fini.length fcap)∧w'.cell? ⟨w.heap.size,13,none⟩=some vtls∧w'.cell? ⟨w.heap.size,14,none⟩=some (.int .i64 im.tlsSize)∧w'.cell? ⟨lb,loff+q,none⟩=some (.int .i64 x)) wr.drew:=⟨q0,q1,q2,q3,q4,q5,q6,q7,q8,q9,q10,q11,q12,q13,q14,hxc⟩
     show wpAnyH _ _ _ _ _ _ _ _ wr.drew
     refine wpAnyH_take (i:=0) (v:= ?_) rfl (by kernel_rfl) (by kernel_rfl) (by kernel_rfl) (fun _ _ _ h=>h) (Or.inl ⟨by rfl,?_⟩) hHeld ?_
     rotate_left
     ·(intro w hSw;(try dsimp only at hSw);go_simp;try with_reducible rfl)
     try simp only [Act.put,List.setIfInBounds_toArray,List.set_cons_zero,List.set_cons_succ]
     refine wpAnyH_take (i:=1) (v:= ?_) rfl (by kernel_rfl) (by kernel_rfl) (by kernel_rfl) (fun _ _ _ h=>h) (Or.inl ⟨by rfl,?_⟩) hHeld ?_
     rotate_left
     ·(intro w hSw;(try dsimp only at hSw);go_simp;try with_reducible rfl)
     try simp only [Act.put,List.setIfInBounds_toArray,List.set_cons_zero,List.set_cons_succ]
     refine wpAnyH_take (i:=2) (v:= ?_) rfl (by kernel_rfl) (by kernel_rfl) (by kernel_rfl) (fun _ _ _ h=>h) (Or.inl ⟨by rfl,?_⟩) hHeld ?_
     rotate_left
     ·(intro w hSw;(try dsimp only at hSw);go_simp;try with_reducible rfl)
     try simp only [Act.put,List.setIfInBounds_toArray,List.set_cons_zero,List.set_cons_succ]
     refine wpAnyH_take (i:=3) (v:= ?_) rfl (by kernel_rfl) (by kernel_rfl) (by kernel_rfl) (fun _ _ _ h=>h) (Or.inl ⟨by rfl,?_⟩) hHeld ?_
     rotate_left
     ·(intro w hSw;(try dsimp only at hSw);go_simp;try with_reducible rfl)
     try simp only [Act.put,List.setIfInBounds_toArray,List.set_cons_zero,List.set_cons_succ]
     refine wpAnyH_take (i:=4) (v:= ?_) rfl (by kernel_rfl) (by kernel_rfl) (by kernel_rfl) (fun _ _ _ h=>h) (Or.inl ⟨by rfl,?_⟩) hHeld ?_
     rotate_left
     ·(intro w hSw;(try dsimp only at hSw);go_simp;try with_reducible rfl)
     try simp only [Act.put,List.setIfInBounds_toArray,List.set_cons_zero,List.set_cons_succ]
     refine wpAnyH_ready (rs:=[5]) (by kernel_rfl) (by simp) ?_
     refine AllReadyH.cons rfl (fun K hK=> ?_) AllReadyH.nil
     go_simp
     refine hHx.mono ?_
     rintro e w2 ⟨rfl,hb2'⟩
     have hb2:Below wr.heap.size wr w2:=((Below.refl _ wr).drew).trans hb2'
     have Hb2:=Lib.hid (Hb0.out.trans (hb2.mono (by omega)))
     have Hb3:=Lib.hid (Hb1.out.trans (hb2.mono (by omega)))
     have hz2:=hb2.size
     have hF3:=(hb2.block w.heap.size (by omega)).trans hF2
     have hxc2:=(Hat.out.below Hb2.out).int1 q x hx
     obtain⟨q0,q1,q2,q3,q4,q5,q6,q7,q8,q9,q10,q11,q12,q13,q14⟩:=img_cells hF3
     refine hK.out _ _ ⟨q0,q1,q2,q3,q4,q5,q6,q7,q8,q9,q10,q11,q12,q13,q14,hxc2⟩ (fun hHeld=> ?_)
     clear hK K q0 q1 q2 q3 q4 q5 q6 q7 q8 q9 q10 q11 q12 q13 q14
     try simp only [Act.put,List.setIfInBounds_toArray,List.set_cons_zero,List.set_cons_succ]
     cases hh:holdsB im.segs x 8 4 with
     | false=>
      have Hr:=Lib.hid (Hno.out hh)
      clear hh
      refine wpAnyH_take (i:=6) (v:= ?_) rfl (by kernel_rfl) (by kernel_rfl) (by kernel_rfl) (fun _ _ _ h=>h) (Or.inl ⟨by rfl,?_⟩) hHeld ?_
      rotate_left
      ·(intro w hSw;(try dsimp only at hSw);go_simp;try with_reducible rfl)
      try simp only [Act.put,List.setIfInBounds_toArray,List.set_cons_zero,List.set_cons_succ]
      refine wpAnyH_done (by kernel_rfl) ?_ _
      simp only [phaseQ]
      clear hHeld hxc2 hF3 hb2 hb2' hF2 hHx hxc hx
      go_wp2
      go_ret
      exact⟨by rw [Hr.out];rfl,Hb2.out⟩
     | true=>
      have Hy:=Lib.hid (Hyes.out hh)
      clear hh
      refine wpAnyH_take (i:=6) (v:= ?_) rfl (by kernel_rfl) (by kernel_rfl) (by kernel_rfl) (fun _ _ _ h=>h) (Or.inl ⟨by rfl,?_⟩) hHeld ?_
      rotate_left
      ·(intro w hSw;(try dsimp only at hSw);go_simp;try with_reducible rfl)
      try simp only [Act.put,List.setIfInBounds_toArray,List.set_cons_zero,List.set_cons_succ]
      refine wpAnyH_done (by kernel_rfl) ?_ _
      simp only [phaseQ]
      clear hHeld hxc2 hF3 hb2 hb2' hF2 hHx hxc hx
      go_wp2
      go_round
      case rel=>exact⟨q+1,by go_num,by omega,Hy.out,Hb2.out,Hb3.out⟩
      case measure=>simp [intOf];omega
    ·have Hl:=Lib.hid (Hgood.out (runB_all im l hl8 (by have:=Hall.out;rwa [List.take_of_length_le (by omega)]at this)))
     go_wp2
     go_round
     case rel=>
      have e0:=Hb1.out.block (w.heap.size+1) hz
      exact⟨k+1,by go_num,by omega,Hl.out.1,Hl.out.2,Hb0.out,hF2,by rw [World.cell?_of_block (a:=⟨w.heap.size+1,0,none⟩) e0];exact Hc0.out,by rw [World.cell?_of_block (a:=⟨w.heap.size+1,1,none⟩) e0];exact Hc1.out,by omega⟩
     case measure=>simp [intOf];omega
  ·have Hr:Hid ((runB im im.init&&runB im im.fini)=true):=Lib.hid (by rw [H1.out (by omega),H2.out (by omega)];rfl)
   go_wp2
   go_ret
   exact⟨by rw [Hr.out];rfl,Bw.out⟩
end Go.Proofs.Ytpomdoliblilfaa
namespace Go.Proofs.Ytpomdoliblilfaa
set_option linter.unusedVariables false
set_option linter.unusedSimpArgs false
open Go.RowKit
set_option maxHeartbeats 8000000 in
set_option maxRecDepth 100000 in
theorem smarks_any (w:World) (a:Option Addr) (n c:Nat) (s:Int) (h:Nat) (hh:h<4294967296) (h1:1≤n) (h2:n≤64) (h3:1≤s) (h4:s≤31):
  Calls Try.prog 109 #[.agg #[.slice a n c,.int .i64 s],.int .u32 h] w fun e w'=>e=.returned (.agg #[.int .i64 (bits .and .i64 ((h:Int)/64) ((n:Int)-1)),.int .u64 (bits .or .u64 (IntKind.u64.wrap (2 ^ (h%64))) (IntKind.u64.wrap (2 ^ (h/2 ^ s.toNat%64))))])∧Below w.heap.size w w':=by
 obtain⟨sn,rfl⟩:∃ sn:Nat,s=sn:=⟨s.toNat,by omega⟩
 have e1:((h:Int)).tmod 64=((h%64:Nat):Int):=by rw [Int.tmod_eq_emod_of_nonneg (by omega)];omega
 have e2:((h:Int)/2 ^ sn).tmod 64=((h/2 ^ sn%64:Nat):Int):=by
  rw [Int.tmod_eq_emod_of_nonneg (Int.ediv_nonneg (by omega) (Int.le_of_lt (Int.pow_pos (by decide)))),Int.natCast_emod,Int.natCast_ediv,Int.natCast_pow]
  rfl
 have k1:h%64<64:=Nat.mod_lt _ (by decide)
 have k2:h/2 ^ sn%64<64:=Nat.mod_lt _ (by decide)
 generalize hb1:h%64=b1 at *
 generalize hb2:h/2 ^ sn%64=b2 at *
 go_enter Try.func109,Try.ntmps109
 go_wp2_with fail
 refine wp_region_phase 19 (by kernel_rfl) (by kernel_rfl) ?_
 simp only [List.take_succ_cons,List.take_zero,List.drop_succ_cons,List.drop_zero,List.take_nil,List.drop_nil]
 have F0:((w.alloc (.cells #[.slice a n c,.int .i64 (sn:Int)] 36 (0,0))).alloc (.cells #[.int .i64 0,.int .u64 0] 180 (0,0))).heap[w.heap.size]? =some (.cells #[.slice a n c,.int .i64 (sn:Int)] 36 (0,0)):=by
  rw [heap_alloc_old _ _ (by simp)];exact heap_alloc_new w _
 have c0:=(Lib.cell_of_heap F0 0)
 have c1:=(Lib.cell_of_heap F0 1)
 refine wpAny_of_held (S:=fun w'=>w'.cell? ⟨w.heap.size,0,none⟩=some (.slice a n c)∧w'.cell? ⟨w.heap.size,1,none⟩=some (.int .i64 (sn:Int))) _ _ _ _ ?_
 have hHeld:(fun w':World=>w'.cell? ⟨w.heap.size,0,none⟩=some (.slice a n c)∧w'.cell? ⟨w.heap.size,1,none⟩=some (.int .i64 (sn:Int))) ((w.alloc (.cells #[.slice a n c,.int .i64 (sn:Int)] 36 (0,0))).alloc (.cells #[.int .i64 0,.int .u64 0] 180 (0,0))).drew:=⟨c0,c1⟩
 show wpAnyH _ _ _ _ _ _ _ _ (World.drew _)
 refine wpAnyH_take (i:=0) (v:= ?_) rfl (by kernel_rfl) (by kernel_rfl) (by kernel_rfl) (fun _ _ _ h=>h) (Or.inl ⟨by rfl,?_⟩) hHeld ?_
 rotate_left
 ·(intro w hSw;(try dsimp only at hSw);go_simp;try with_reducible rfl)
 try simp only [Act.put,List.setIfInBounds_toArray,List.set_cons_zero,List.set_cons_succ]
 refine wpAnyH_take (i:=1) (v:= ?_) rfl (by kernel_rfl) (by kernel_rfl) (by kernel_rfl) (fun _ _ _ h=>h) (Or.inl ⟨by rfl,?_⟩) hHeld ?_
 rotate_left
 ·(intro w hSw;(try dsimp only at hSw);go_simp;try with_reducible rfl)
 try simp only [Act.put,List.setIfInBounds_toArray,List.set_cons_zero,List.set_cons_succ]
 refine wpAnyH_take (i:=2) (v:= ?_) rfl (by kernel_rfl) (by kernel_rfl) (by kernel_rfl) (fun _ _ _ h=>h) (Or.inl ⟨by rfl,?_⟩) hHeld ?_
 rotate_left
 ·(intro w hSw;(try dsimp only at hSw);go_simp;try with_reducible rfl)
 try simp only [Act.put,List.setIfInBounds_toArray,List.set_cons_zero,List.set_cons_succ]
 refine wpAnyH_take (i:=3) (v:= ?_) rfl (by kernel_rfl) (by kernel_rfl) (by kernel_rfl) (fun _ _ _ h=>h) (Or.inl ⟨by rfl,?_⟩) hHeld ?_
 rotate_left
 ·(intro w hSw;(try dsimp only at hSw);go_simp;try with_reducible rfl)
 try simp only [Act.put,List.setIfInBounds_toArray,List.set_cons_zero,List.set_cons_succ]
 refine wpAnyH_take (i:=4) (v:= ?_) rfl (by kernel_rfl) (by kernel_rfl) (by kernel_rfl) (fun _ _ _ h=>h) (Or.inl ⟨by rfl,?_⟩) hHeld ?_
 rotate_left
 ·(intro w hSw;(try dsimp only at hSw);go_simp;try with_reducible rfl)
 try simp only [Act.put,List.setIfInBounds_toArray,List.set_cons_zero,List.set_cons_succ]
 refine wpAnyH_take (i:=5) (v:= ?_) rfl (by kernel_rfl) (by kernel_rfl) (by kernel_rfl) (fun _ _ _ h=>h) (Or.inl ⟨by rfl,?_⟩) hHeld ?_
 rotate_left
 ·(intro w hSw;(try dsimp only at hSw);go_simp;try with_reducible rfl)
 try simp only [Act.put,List.setIfInBounds_toArray,List.set_cons_zero,List.set_cons_succ]
 refine wpAnyH_take (i:=6) (v:= ?_) rfl (by kernel_rfl) (by kernel_rfl) (by kernel_rfl) (fun _ _ _ h=>h) (Or.inl ⟨by rfl,?_⟩) hHeld ?_
 rotate_left
 ·(intro w hSw;(try dsimp only at hSw);go_simp;try with_reducible rfl)
 try simp only [Act.put,List.setIfInBounds_toArray,List.set_cons_zero,List.set_cons_succ]
 refine wpAnyH_take (i:=7) (v:= ?_) rfl (by kernel_rfl) (by kernel_rfl) (by kernel_rfl) (fun _ _ _ h=>h) (Or.inl ⟨by rfl,?_⟩) hHeld ?_
 rotate_left
 ·(intro w hSw;(try dsimp only at hSw);go_simp;try with_reducible rfl)
 try simp only [Act.put,List.setIfInBounds_toArray,List.set_cons_zero,List.set_cons_succ]
 refine wpAnyH_take (i:=8) (v:= ?_) rfl (by kernel_rfl) (by kernel_rfl) (by kernel_rfl) (fun _ _ _ h=>h) (Or.inl ⟨by rfl,?_⟩) hHeld ?_
 rotate_left
 ·(intro w hSw;(try dsimp only at hSw);go_simp;try with_reducible rfl)
 try simp only [Act.put,List.setIfInBounds_toArray,List.set_cons_zero,List.set_cons_succ]
 refine wpAnyH_take (i:=9) (v:= ?_) rfl (by kernel_rfl) (by kernel_rfl) (by kernel_rfl) (fun _ _ _ h=>h) (Or.inl ⟨by rfl,?_⟩) hHeld ?_
 rotate_left
 ·(intro w hSw;(try dsimp only at hSw);go_simp;try with_reducible rfl)
 try simp only [Act.put,List.setIfInBounds_toArray,List.set_cons_zero,List.set_cons_succ]
 refine wpAnyH_take (i:=10) (v:= ?_) rfl (by kernel_rfl) (by kernel_rfl) (by kernel_rfl) (fun _ _ _ h=>h) (Or.inl ⟨by rfl,?_⟩) hHeld ?_
 rotate_left
 ·(intro w hSw;(try dsimp only at hSw);go_simp;try with_reducible rfl)
 try simp only [Act.put,List.setIfInBounds_toArray,List.set_cons_zero,List.set_cons_succ]
 refine wpAnyH_take (i:=11) (v:= ?_) rfl (by kernel_rfl) (by kernel_rfl) (by kernel_rfl) (fun _ _ _ h=>h) (Or.inl ⟨by rfl,?_⟩) hHeld ?_
 rotate_left
 ·(intro w hSw;(try dsimp only at hSw);go_simp;try with_reducible rfl)
 try simp only [Act.put,List.setIfInBounds_toArray,List.set_cons_zero,List.set_cons_succ]
 refine wpAnyH_take (i:=12) (v:= ?_) rfl (by kernel_rfl) (by kernel_rfl) (by kernel_rfl) (fun _ _ _ h=>h) (Or.inl ⟨by rfl,?_⟩) hHeld ?_
 rotate_left
 ·(intro w hSw;(try dsimp only at hSw);go_simp;try with_reducible rfl)
 try simp only [Act.put,List.setIfInBounds_toArray,List.set_cons_zero,List.set_cons_succ]
 refine wpAnyH_take (i:=13) (v:= ?_) rfl (by kernel_rfl) (by kernel_rfl) (by kernel_rfl) (fun _ _ _ h=>h) (Or.inl ⟨by rfl,?_⟩) hHeld ?_
 rotate_left
 ·(intro w hSw;(try dsimp only at hSw);go_simp;try with_reducible rfl)
 try simp only [Act.put,List.setIfInBounds_toArray,List.set_cons_zero,List.set_cons_succ]
 refine wpAnyH_take (i:=14) (v:= ?_) rfl (by kernel_rfl) (by kernel_rfl) (by kernel_rfl) (fun _ _ _ h=>h) (Or.inl ⟨by rfl,?_⟩) hHeld ?_
 rotate_left
 ·(intro w hSw;(try dsimp only at hSw);go_simp;try with_reducible rfl)
 try simp only [Act.put,List.setIfInBounds_toArray,List.set_cons_zero,List.set_cons_succ]
 refine wpAnyH_take (i:=15) (v:= ?_) rfl (by kernel_rfl) (by kernel_rfl) (by kernel_rfl) (fun _ _ _ h=>h) (Or.inl ⟨by rfl,?_⟩) hHeld ?_
 rotate_left
 ·(intro w hSw;(try dsimp only at hSw);go_simp;try with_reducible rfl)
 try simp only [Act.put,List.setIfInBounds_toArray,List.set_cons_zero,List.set_cons_succ]
 refine wpAnyH_take (i:=16) (v:= ?_) rfl (by kernel_rfl) (by kernel_rfl) (by kernel_rfl) (fun _ _ _ h=>h) (Or.inl ⟨by rfl,?_⟩) hHeld ?_
 rotate_left
 ·(intro w hSw;(try dsimp only at hSw);go_simp;try with_reducible rfl)
 try simp only [Act.put,List.setIfInBounds_toArray,List.set_cons_zero,List.set_cons_succ]
 refine wpAnyH_take (i:=17) (v:= ?_) rfl (by kernel_rfl) (by kernel_rfl) (by kernel_rfl) (fun _ _ _ h=>h) (Or.inl ⟨by rfl,?_⟩) hHeld ?_
 rotate_left
 ·(intro w hSw;(try dsimp only at hSw);go_simp;try with_reducible rfl)
 try simp only [Act.put,List.setIfInBounds_toArray,List.set_cons_zero,List.set_cons_succ]
 refine wpAnyH_take (i:=18) (v:= ?_) rfl (by kernel_rfl) (by kernel_rfl) (by kernel_rfl) (fun _ _ _ h=>h) (Or.inl ⟨by rfl,?_⟩) hHeld ?_
 rotate_left
 ·(intro w hSw;(try dsimp only at hSw);go_simp;try with_reducible rfl)
 try simp only [Act.put,List.setIfInBounds_toArray,List.set_cons_zero,List.set_cons_succ]
 refine wpAnyH_done (by kernel_rfl) ?_ _
 simp only [phaseQ]
 clear hHeld
 go_wp2
 have F1:((w.alloc (.cells #[.slice a n c,.int .i64 (sn:Int)] 36 (0,0))).alloc (.cells #[.int .i64 (bits .and .i64 ((h:Int)/64) ((n:Int)-1)),.int .u64 (bits .or .u64 (IntKind.u64.wrap (2 ^ b1)) (IntKind.u64.wrap (2 ^ b2)))] 180 (0,0))).drew.heap[w.heap.size+1]? =some (.cells #[.int .i64 (bits .and .i64 ((h:Int)/64) ((n:Int)-1)),.int .u64 (bits .or .u64 (IntKind.u64.wrap (2 ^ b1)) (IntKind.u64.wrap (2 ^ b2)))] 180 (0,0)):=by
  have:=heap_alloc_new (w.alloc (.cells #[.slice a n c,.int .i64 (sn:Int)] 36 (0,0))) (.cells #[.int .i64 (bits .and .i64 ((h:Int)/64) ((n:Int)-1)),.int .u64 (bits .or .u64 (IntKind.u64.wrap (2 ^ b1)) (IntKind.u64.wrap (2 ^ b2)))] 180 (0,0))
  rw [World.size_alloc]at this
  exact this
 have d0:((w.alloc (.cells #[.slice a n c,.int .i64 (sn:Int)] 36 (0,0))).alloc (.cells #[.int .i64 (bits .and .i64 ((h:Int)/64) ((n:Int)-1)),.int .u64 (bits .or .u64 (IntKind.u64.wrap (2 ^ b1)) (IntKind.u64.wrap (2 ^ b2)))] 180 (0,0))).drew.cell? ⟨w.heap.size+1,0,none⟩=some (.int .i64 (bits .and .i64 ((h:Int)/64) ((n:Int)-1))):=by rw [Lib.cell_of_heap F1];rfl
 have d1:((w.alloc (.cells #[.slice a n c,.int .i64 (sn:Int)] 36 (0,0))).alloc (.cells #[.int .i64 (bits .and .i64 ((h:Int)/64) ((n:Int)-1)),.int .u64 (bits .or .u64 (IntKind.u64.wrap (2 ^ b1)) (IntKind.u64.wrap (2 ^ b2)))] 180 (0,0))).drew.cell? ⟨w.heap.size+1,1,none⟩=some (.int .u64 (bits .or .u64 (IntKind.u64.wrap (2 ^ b1)) (IntKind.u64.wrap (2 ^ b2)))):=by rw [Lib.cell_of_heap F1];rfl
 refine bodyPost_ret (v:=.agg #[.int .i64 (bits .and .i64 ((h:Int)/64) ((n:Int)-1)),.int .u64 (bits .or .u64 (IntKind.u64.wrap (2 ^ b1)) (IntKind.u64.wrap (2 ^ b2)))]) (by simp [results,Try.results109,d0,d1,go_sem]) rfl ⟨by rw [Int.toNat_natCast,hb2],(((Below.refl _ _).alloc (Nat.le_refl _) _).alloc (by simp) _).drew⟩
end Go.Proofs.Ytpomdoliblilfaa
namespace Go.Proofs.Ytpomdoliblilfaa
set_option linter.unusedVariables false
set_option linter.unusedSimpArgs false
open Go.RowKit
theorem nat_two_bits (m k1 k2:Nat):m &&& (2 ^ k1|||2 ^ k2)=2 ^ k1|||2 ^ k2↔m.testBit k1=true∧m.testBit k2=true:=by
 constructor
 ·intro h
  have h1:=congrArg (fun x=>x.testBit k1) h
  have h2:=congrArg (fun x=>x.testBit k2) h
  simp only [Nat.testBit_and,Nat.testBit_or,Nat.testBit_two_pow_self]at h1 h2
  simp at h1 h2
  exact⟨h1,h2⟩
 ·rintro ⟨h1,h2⟩
  apply Nat.eq_of_testBit_eq
  intro i
  simp only [Nat.testBit_and,Nat.testBit_or,Nat.testBit_two_pow]
  by_cases e1:k1=i
  ·subst e1;simp [h1]
  ·by_cases e2:k2=i
   ·subst e2;simp [h2]
   ·simp [e1,e2]
theorem bitB_testBit (m k:Nat):bitB (m:Int) k=m.testBit k:=by
 rw [bitB,Int.toNat_natCast,Nat.testBit_eq_decide_div_mod_eq]
 rw [Bool.eq_iff_iff];simp
theorem wrap_pow (k:Nat) (h:k<64):IntKind.u64.wrap ((2:Int) ^ k)=((2 ^ k:Nat):Int):=by
 have:(2 ^ k:Nat)<2 ^ 64:=Nat.pow_lt_pow_right (by decide) h
 have e:(2:Nat) ^ 64=18446744073709551616:=by decide
 rw [show ((2:Int) ^ k)=((2 ^ k:Nat):Int) by rw [Int.natCast_pow];rfl]
 generalize 2 ^ k=P at *
 exact IntWalk.u64_in _ ⟨by omega,by omega⟩
theorem marks_bits (k1 k2:Nat) (h1:k1<64) (h2:k2<64):bits .or .u64 (IntKind.u64.wrap ((2:Int) ^ k1)) (IntKind.u64.wrap ((2:Int) ^ k2))=((2 ^ k1|||2 ^ k2:Nat):Int):=by
 have a1:(2 ^ k1:Nat)<2 ^ 64:=Nat.pow_lt_pow_right (by decide) h1
 have a2:(2 ^ k2:Nat)<2 ^ 64:=Nat.pow_lt_pow_right (by decide) h2
 have e:(2:Nat) ^ 64=18446744073709551616:=by decide
 rw [wrap_pow k1 h1,wrap_pow k2 h2,u64_or_nat _ _ (by omega) (by omega)]
theorem marks_lt (k1 k2:Nat) (h1:k1<64) (h2:k2<64):2 ^ k1|||2 ^ k2<18446744073709551616:=
 Nat.or_lt_two_pow (n:=64) (Nat.pow_lt_pow_right (by decide) h1) (Nat.pow_lt_pow_right (by decide) h2)
theorem marks_miss (m k1 k2:Nat) (hm:m<18446744073709551616) (h1:k1<64) (h2:k2<64):
  (bits .and .u64 (m:Int) ((2 ^ k1|||2 ^ k2:Nat):Int) != ((2 ^ k1|||2 ^ k2:Nat):Int))= !(bitB (m:Int) k1&&bitB (m:Int) k2):=by
 rw [u64_and_nat _ _ hm (marks_lt k1 k2 h1 h2),bitB_testBit,bitB_testBit]
 have h:=nat_two_bits m k1 k2
 rw [Bool.eq_iff_iff]
 simp only [bne_iff_ne,ne_eq,Int.natCast_inj,h,Bool.not_eq_true',Bool.and_eq_false_iff]
 cases m.testBit k1<;>cases m.testBit k2<;>simp
theorem i64_and_small (a b:Nat) (ha:a<9223372036854775808) (hb:b<9223372036854775808):bits .and .i64 (a:Int) (b:Int)=((a &&& b:Nat):Int):=by
 have h1:(BitVec.ofInt 64 (a:Int)).toNat=a:=ofInt_u64 a (by omega)
 have h2:(BitVec.ofInt 64 (b:Int)).toNat=b:=ofInt_u64 b (by omega)
 have h3:a &&& b<9223372036854775808:=Nat.lt_of_le_of_lt Nat.and_le_left ha
 show IntKind.i64.wrap ((BitVec.ofInt 64 (a:Int) &&& BitVec.ofInt 64 (b:Int)).toNat:Int)=_
 rw [BitVec.toNat_and,h1,h2]
 simp [IntKind.wrap,IntKind.bits,IntKind.signed]
 omega
theorem pow_word (h n:Nat) (hh:h<4294967296) (hp:powB n=true):bits .and .i64 ((h:Int)/64) ((n:Int)-1)=((h/64%n:Nat):Int):=by
 rw [powB_iff]at hp
 rw [show ((h:Int)/64)=((h/64:Nat):Int) by omega,show((n:Int)-1)=((n-1:Nat):Int) by omega,i64_and_small _ _ (by omega) (by omega)]
 congr 1
 rcases hp with rfl | rfl | rfl | rfl | rfl | rfl | rfl
 ·exact Nat.and_two_pow_sub_one_eq_mod _ 0
 ·exact Nat.and_two_pow_sub_one_eq_mod _ 1
 ·exact Nat.and_two_pow_sub_one_eq_mod _ 2
 ·exact Nat.and_two_pow_sub_one_eq_mod _ 3
 ·exact Nat.and_two_pow_sub_one_eq_mod _ 4
 ·exact Nat.and_two_pow_sub_one_eq_mod _ 5
 ·exact Nat.and_two_pow_sub_one_eq_mod _ 6
set_option maxHeartbeats 8000000 in
set_option maxRecDepth 100000 in
theorem slacks_any (w:World) (v:Value) (ws:List Int) (s:Int) (h:Nat) (hw:LB kWord (·<w.heap.size) w v ws) (hr:∀ x∈ws,0≤x∧x<18446744073709551616) (hh:h<4294967296) (hs:sieveB ws s=true):
  Calls Try.prog 94 #[.agg #[v,.int .i64 s],.int .u32 h] w fun e w'=>e=.returned (.bool (lacksB ws s (h:Int)))∧Below w.heap.size w w':=by
 obtain⟨a,b,off,c,rfl,hm,hc,hat⟩:=hw.at
 have hse:sieveErr ws s=0:=by rw [sieveErr,hs];rfl
 rw [sieveB_pow]at hs
 simp only [Bool.and_eq_true,decide_eq_true_eq]at hs
 obtain⟨⟨hp,hs1⟩,hs2⟩:=hs
 have hn:=(powB_iff _).1 hp
 have hn1:1≤ws.length∧ws.length≤64:=by omega
 obtain rfl:=hat.addr (by omega)
 have hk:h/64%ws.length<ws.length:=Nat.mod_lt _ (by omega)
 obtain⟨x,hx⟩:∃ x,ws[h/64%ws.length]? =some x:=⟨_,List.getElem?_eq_getElem hk⟩
 have hxr:=hr x (List.mem_of_getElem? hx)
 obtain⟨m,rfl⟩:∃ m:Nat,x=m:=⟨x.toNat,by omega⟩
 have k1:h%64<64:=Nat.mod_lt _ (by decide)
 have k2:h/2 ^ s.toNat%64<64:=Nat.mod_lt _ (by decide)
 have Hres:Hid (lacksB ws s (h:Int)=(bits .and .u64 (m:Int) ((2 ^ (h%64)|||2 ^ (h/2 ^ s.toNat%64):Nat):Int) != ((2 ^ (h%64)|||2 ^ (h/2 ^ s.toNat%64):Nat):Int))):=Lib.hid (by
  rw [marks_miss m _ _ (by omega) k1 k2,lacksB,Int.toNat_natCast,List.getD_eq_getElem?_getD,hx];rfl)
 have HR:=Lib.hid (sright_any (w.alloc (.cells #[.slice (some ⟨b,off,none⟩) ws.length c,.int .i64 s] 36 (0,0))) ws (some ⟨b,off,none⟩) c s (by omega))
 have HM:=Lib.hid (fun w=>smarks_any w (some ⟨b,off,none⟩) ws.length c s h hh hn1.1 hn1.2 hs1 hs2)
 have HW:=Lib.hid (pow_word h ws.length hh hp)
 have HB:=Lib.hid (marks_bits (h%64) (h/2 ^ s.toNat%64) k1 k2)
 have F1:=Lib.hid (heap_alloc_new w (.cells #[.slice (some ⟨b,off,none⟩) ws.length c,.int .i64 s] 36 (0,0)))
 have B1:=Lib.hid ((Below.refl w.heap.size w).alloc (Nat.le_refl _) (.cells #[.slice (some ⟨b,off,none⟩) ws.length c,.int .i64 s] 36 (0,0)))
 have Hat:=Lib.hid hat
 have hz1:w.heap.size<(w.alloc (.cells #[.slice (some ⟨b,off,none⟩) ws.length c,.int .i64 s] 36 (0,0))).heap.size:=by simp
 clear hat hr hw hp hn hc hm
 rw [hse]at HR
 go_enter Try.func94,Try.ntmps94
 go_wp2_with fail
 generalize w.alloc (.cells #[.slice (some ⟨b,off,none⟩) ws.length c,.int .i64 s] 36 (0,0))=w1 at *
 refine HR.out.mono ?_
 rintro e w2 ⟨rfl,hb2⟩
 have B2:=Lib.hid (B1.out.trans (hb2.mono (by omega)))
 have F2:=(hb2.block _ hz1).trans F1.out
 have c0:w2.cell? ⟨w.heap.size,0,none⟩=some (.slice (some ⟨b,off,none⟩) ws.length c):=by rw [Lib.cell_of_heap F2];rfl
 have c1:w2.cell? ⟨w.heap.size,1,none⟩=some (.int .i64 s):=by rw [Lib.cell_of_heap F2];rfl
 have hz2:=hb2.size
 clear hb2 HR F1
 go_wp2_with fail
 refine(HM.out _).mono ?_
 rintro e w3 ⟨rfl,hb3⟩
 have B3:=Lib.hid (B2.out.trans (hb3.mono (by omega)))
 have F3:=(hb3.block w.heap.size (by omega)).trans F2
 have d0:w3.cell? ⟨w.heap.size,0,none⟩=some (.slice (some ⟨b,off,none⟩) ws.length c):=by rw [Lib.cell_of_heap F3];rfl
 have d1:w3.cell? ⟨w.heap.size,1,none⟩=some (.int .i64 s):=by rw [Lib.cell_of_heap F3];rfl
 have hz3:=hb3.size
 have hc:=(Hat.out.below B3.out).word1 _ _ hx
 rw [HW.out,HB.out]
 clear hb3 F2 HM c0 c1 HW HB F3 hx
 generalize 2 ^ (h%64)|||2 ^ (h/2 ^ s.toNat%64)=K at *
 generalize h/64%ws.length=q at *
 have hsb:=World.block_lt_of_cell? _ _ hc
 have hsw:w.heap.size<w3.heap.size:=by omega
 go_wp2_with fail
 go_quiet (fail)
 go_wp2
 go_ret
 exact⟨by rw [Hres.out];rfl,below_drewN (B3.out.alloc (by omega) _) _⟩
end Go.Proofs.Ytpomdoliblilfaa
namespace Go.Proofs.Ytpomdoliblilfaa
set_option linter.unusedVariables false
set_option linter.unusedSimpArgs false
open Go.RowKit
set_option maxHeartbeats 8000000 in
set_option maxRecDepth 100000 in
theorem jlacks_any (w:World) (v:Value) (ws:List Int) (s:Int) (h:Nat) (hw:LB kWord (·<w.heap.size) w v ws) (hr:∀ x∈ws,0≤x∧x<18446744073709551616) (hh:h<4294967296) (hs:sieveB ws s=true):
  Calls Try.prog 36 #[.agg #[v,.int .i64 s],.int .u32 h] w fun e w'=>e=.returned (.bool (lacksB ws s (h:Int)))∧Below w.heap.size w w':=by
 obtain⟨a,b,off,c,rfl,hm,hc,hat⟩:=hw.at
 have hsB:=hs
 rw [sieveB_pow]at hs
 simp only [Bool.and_eq_true,decide_eq_true_eq]at hs
 obtain⟨⟨hp,hs1⟩,hs2⟩:=hs
 have hn:=(powB_iff _).1 hp
 have hn1:1≤ws.length∧ws.length≤64:=by omega
 obtain rfl:=hat.addr (by omega)
 have hk:h/64%ws.length<ws.length:=Nat.mod_lt _ (by omega)
 obtain⟨x,hx⟩:∃ x,ws[h/64%ws.length]? =some x:=⟨_,List.getElem?_eq_getElem hk⟩
 have hxr:=hr x (List.mem_of_getElem? hx)
 obtain⟨m,rfl⟩:∃ m:Nat,x=m:=⟨x.toNat,by omega⟩
 obtain⟨sn,rfl⟩:∃ sn:Nat,s=sn:=⟨s.toNat,by omega⟩
 have k1:h%64<64:=Nat.mod_lt _ (by decide)
 have k2:h/2 ^ sn%64<64:=Nat.mod_lt _ (by decide)
 have Hres:Hid (lacksB ws (sn:Int) (h:Int)=(!bitB (m:Int) (h%64)|| !bitB (m:Int) (h/2 ^ sn%64))):=Lib.hid (by
  rw [lacksB,Int.toNat_natCast,List.getD_eq_getElem?_getD,hx,Int.toNat_natCast,Bool.not_and];rfl)
 have HR:=Lib.hid (jfright_any (w.alloc (.cells #[.slice (some ⟨b,off,none⟩) ws.length c,.int .i64 (sn:Int)] 36 (0,0))) ws (some ⟨b,off,none⟩) c sn (by omega))
 rw [hsB]at HR
 have H1:=Lib.hid (fun w=>jhas_any w m (h%64) (by omega) (by omega))
 have H2:=Lib.hid (fun w=>jhas_any w m (h/2 ^ sn%64) (by omega) (by omega))
 have H3:=Lib.hid (fun w=>jshifted_any w h sn hh (by omega))
 have hq:h/2 ^ sn≤h:=Nat.div_le_self _ _
 have F1:=Lib.hid (heap_alloc_new w (.cells #[.slice (some ⟨b,off,none⟩) ws.length c,.int .i64 (sn:Int)] 36 (0,0)))
 have B1:=Lib.hid ((Below.refl w.heap.size w).alloc (Nat.le_refl _) (.cells #[.slice (some ⟨b,off,none⟩) ws.length c,.int .i64 (sn:Int)] 36 (0,0)))
 have Hat:=Lib.hid hat
 have hz1:w.heap.size<(w.alloc (.cells #[.slice (some ⟨b,off,none⟩) ws.length c,.int .i64 (sn:Int)] 36 (0,0))).heap.size:=by simp
 clear hat hr hw hp hn hc hm hsB
 go_enter Try.func36,Try.ntmps36
 go_wp2_with fail
 generalize w.alloc (.cells #[.slice (some ⟨b,off,none⟩) ws.length c,.int .i64 (sn:Int)] 36 (0,0))=w1 at *
 refine HR.out.mono ?_
 rintro e w2 ⟨rfl,hb2⟩
 have B2:=Lib.hid (B1.out.trans (hb2.mono (by omega)))
 have F2:=(hb2.block _ hz1).trans F1.out
 have c0:w2.cell? ⟨w.heap.size,0,none⟩=some (.slice (some ⟨b,off,none⟩) ws.length c):=by rw [Lib.cell_of_heap F2];rfl
 have c1:w2.cell? ⟨w.heap.size,1,none⟩=some (.int .i64 (sn:Int)):=by rw [Lib.cell_of_heap F2];rfl
 have hz2:=hb2.size
 have hcx:=(Hat.out.below B2.out).word1 _ _ hx
 have e1:((h:Int)/64).tmod (ws.length:Int)=((h/64%ws.length:Nat):Int):=by
  rw [Int.tmod_eq_emod_of_nonneg (by omega),Int.natCast_emod];rfl
 have hl0:((ws.length:Int)==0)=false:=by rw [beq_eq_false_iff_ne];omega
 clear hb2 HR F1 F2 hx
 generalize h/64%ws.length=q at *
 go_wp2_with fail
 go_quiet (fail)
 have e2:((h:Int)).tmod 64=((h%64:Nat):Int):=by rw [Int.tmod_eq_emod_of_nonneg (by omega)];omega
 generalize hb1:h%64=b1 at *
 generalize h/2 ^ sn=hd at *
 have e3:(hd:Int).tmod 64=((hd%64:Nat):Int):=by rw [Int.tmod_eq_emod_of_nonneg (by omega)];omega
 generalize hb2:hd%64=b2 at *
 go_wp2_with fail
 refine(H1.out _).mono ?_
 rintro e w3 ⟨rfl,rfl⟩
 go_wp2_with fail
 refine(H3.out _).mono ?_
 rintro e w3 ⟨rfl,rfl⟩
 go_wp2_with fail
 refine(H2.out _).mono ?_
 rintro e w3 ⟨rfl,rfl⟩
 cases hx1:bitB (m:Int) b1
 all_goals
  have Hx1:=Lib.hid hx1
  clear hx1
  go_wp2
  go_ret
  exact⟨by rw [Hres.out,Hx1.out];rfl,below_drewN B2.out _⟩
end Go.Proofs.Ytpomdoliblilfaa
namespace Go.Proofs.Ytpomdoliblilfaa
set_option linter.unusedVariables false
set_option linter.unusedSimpArgs false
open Go.RowKit
theorem info_int:(Try.prog.info? 3).map (fun i=>(i.zero,i.size,i.bytes))=some (some (.int .i64 0),1,8):=by kernel_rfl
def toInts (l:List Nat):List Int:=l.map fun(k:Nat)=>(k:Int)
theorem toInts_len (l:List Nat):(toInts l).length=l.length:=by simp [toInts]
theorem symN_at {syms:List SymL} {k:Nat} {s:SymL} (h:syms[k]? =some s):symN syms k=s:=by rw [symN,h];rfl
set_option maxHeartbeats 4000000 in
set_option maxRecDepth 100000 in
theorem jseenl_any (w:World) (v:Value) (syms:List SymL) (hs:LB kSym (·<w.heap.size) w v syms) (hz:syms.length≤512):
  Calls Try.prog 33 #[v] w fun e w'=>∃ r,e=.returned r∧OwnK 3 kInt w.heap.size (fun _=>False) w' r (toInts (seenIx syms))∧Below w.heap.size w w':=by
 obtain⟨sa,sb,soff,scap,rfl,hsm,hsc,hat⟩:=hs.at
 have Hat:=Lib.hid hat
 clear hs hat
 go_enter Try.func33,Try.ntmps33
 go_wp2
 go_loopw [3,4] (fun o i wr=>∃ k:Nat,i=.int .i64 k∧k≤syms.length∧OwnK 3 kInt w.heap.size (fun _=>False) wr o (toInts (seenK syms k))∧Below w.heap.size w wr) (fun _ i _=>syms.length-(intOf i).toNat)
 case atStart=>exact⟨0,rfl,Nat.zero_le _,by exact OwnK.nil _ _ _ _ _,Below.refl _ _⟩
 case round=>
  obtain⟨k,rfl,hk,hown,hbel⟩:=hrel
  have hBr:=hbel.size
  by_cases hlt:k<syms.length
  ·obtain rfl:=Hat.out.addr (by omega)
   obtain⟨s,hx⟩:∃ s,syms[k]? =some s:=⟨_,List.getElem?_eq_getElem hlt⟩
   obtain⟨_,g0,g1,g2,g3,g4,g5,g6,g7,g8⟩:=(Hat.out.below hbel).sym9 k s hx
   have HS:=Lib.hid (seenK_succ syms k)
   rw [symN_at hx]at HS
   have hl:=seenK_le syms k
   have hl2:=toInts_len (seenK syms k)
   obtain⟨oa,oc,rfl⟩:=hown.form
   rw [hl2]at hown ⊢
   have Hown:=Lib.hid hown
   have Hbel:=Lib.hid hbel
   clear hown hbel hx
   have hsb:=World.block_lt_of_cell? _ _ g0
   go_wp2_with fail
   refine(jseen_any wr s).mono ?_
   rintro e w2 ⟨rfl,hb2⟩
   have B2:=Lib.hid (Hbel.out.trans (hb2.mono hBr))
   have O2:=Lib.hid (Hown.out.below hb2)
   have hz2:=hb2.size
   clear hb2 g0 g1 g2 g3 g4 g5 g6 g7 g8 Hown Hbel
   cases hsn:seenB s with
   | false=>
    rw [hsn]at HS
    go_wp2
    go_roundw
    case rel=>
     have h1:=O2.out
     have h2:=HS.out
     simp only [Bool.false_eq_true,if_false,List.append_nil]at h2
     exact⟨k+1,by go_num,by omega,by rw [h2];exact h1,B2.out⟩
    case measure=>simp [intOf];omega
   | true=>
    rw [hsn]at HS
    go_wp2_with (at_builtin;refine wpList_appendK (α:=Int) (K:=kInt) (e:=3) (B:=w.heap.size) (E:=fun _=>False) 41 (.int .i64 0) 8 Try.underlying41 info_int rfl (by decide) rfl (.tmp 16) (.tmp 18) rfl (seenK syms k).length hl2 rfl (O2.out.alloc _) (fun _ h=>h.elim) w2.heap.size (k:Int) [.int .i64 (k:Int)] rfl ?c1 ?c2 rfl ?c3 ?c4 ?c5 ?_)
    case c1=>
     intro j u hu
     match j,hu with
     | 0,hu=>simp at hu;subst hu;simp
     | j+1,hu=>simp at hu
    case c2=>intro u hu;simp at hu;subst hu;rfl
    case c3=>omega
    case c4=>omega
    case c5=>simp;omega
    intro g c w3 hown3 hst3 _
    have Hown3:=Lib.hid hown3
    have hlo:=(O2.out.alloc (.cells #[.int .i64 (k:Int)] 3 (0,0))).lt
    have B3:=Lib.hid (((B2.out.alloc (by omega) (.cells #[.int .i64 (k:Int)] 3 (0,0))).trans (hst3.imp (S':=(·<w.heap.size)) (fun b hb=>⟨by have h1:b<w.heap.size:=hb;omega,fun e=>by have:=(hlo b e).1;have h1:b<w.heap.size:=hb;omega⟩)).below))
    clear hown3 hst3 hlo
    go_wp2
    go_roundw
    case rel=>
     have h2:=HS.out
     simp only [if_true]at h2
     exact⟨k+1,by go_num,by omega,by rw [h2,toInts,List.map_append];exact Hown3.out,B3.out⟩
    case measure=>simp [intOf];omega
  ·have he:k=syms.length:=by omega
   subst he
   have Hown:=Lib.hid hown
   have Hbel:=Lib.hid hbel
   clear hown hbel
   go_wp2
   go_ret
   exact⟨_,rfl,Hown.out,Hbel.out⟩
end Go.Proofs.Ytpomdoliblilfaa
namespace Go.Proofs.Ytpomdoliblilfaa
set_option linter.unusedVariables false
set_option linter.unusedSimpArgs false
open Go.RowKit
theorem info_hash:(Try.prog.info? 100).map (fun i=>(i.zero,i.size,i.bytes))=some (some (.int .u32 0),1,4):=by kernel_rfl
def hashesK (syms:List SymL) (n:Nat):List Int:=(seenK syms n).map fun k=>hashB (symN syms k).name
structure HInv (B:Nat) (w0 w:World) (va vl:Value) (at_ l:List Int) (pend:List (Nat × Value)):Prop where
 a:OwnK 3 kInt B (fun _=>False) w va at_
 l:OwnK 100 kHash B (fun _=>False) w vl l
 apart:∀ k,va.ownBlock=some k→vl.ownBlock≠some k
 pend:∀ p∈pend,w.cell? ⟨p.1,0,none⟩=some p.2∧va.ownBlock≠some p.1∧vl.ownBlock≠some p.1
 below:Below B w0 w
 hB:B≤w.heap.size
section
variable {B : Nat} {w0 w : World} {va vl : Value} {at_ l : List Int} {pend : List (Nat × Value)}
theorem HInv.drew (h:HInv B w0 w va vl at_ l pend):HInv B w0 w.drew va vl at_ l pend:=⟨h.a.drew,h.l.drew,h.apart,h.pend,h.below.drew,h.hB⟩
theorem HInv.less {p2:List (Nat × Value)} (h:HInv B w0 w va vl at_ l pend) (hp:∀ p∈p2,p∈pend):HInv B w0 w va vl at_ l p2:=⟨h.a,h.l,h.apart,fun p hx=>h.pend p (hp p hx),h.below,h.hB⟩
theorem HInv.alloc (h:HInv B w0 w va vl at_ l pend) (v:Value) (t:TypeId):HInv B w0 (w.alloc (.cells #[v] t (0,0))) va vl at_ l ((w.heap.size,v) :: pend):=
 ⟨h.a.alloc _,h.l.alloc _,h.apart,fun p hp=>by
  rcases List.mem_cons.1 hp with rfl | hp
  ·refine⟨by simp,fun e=> ?_,fun e=> ?_⟩
   ·have:=(h.a.lt _ e).2;simp at this
   ·have:=(h.l.lt _ e).2;simp at this
  ·obtain⟨h1,h2⟩:=h.pend p hp
   exact⟨by rw [World.cell?_alloc_lt _ _ _ (World.block_lt_of_cell? _ _ h1)];exact h1,h2⟩,h.below.alloc h.hB _,by have:=h.hB;rw [World.size_alloc];omega⟩
theorem HInv.alloc' (h:HInv B w0 w va vl at_ l pend) (o:Obj):HInv B w0 (w.alloc o) va vl at_ l pend:=
 ⟨h.a.alloc _,h.l.alloc _,h.apart,fun p hp=>by
  obtain⟨h1,h2⟩:=h.pend p hp
  exact⟨by rw [World.cell?_alloc_lt _ _ _ (World.block_lt_of_cell? _ _ h1)];exact h1,h2⟩,h.below.alloc h.hB _,by have:=h.hB;rw [World.size_alloc];omega⟩
theorem HInv.cell (h:HInv B w0 w va vl at_ l pend) {n:Nat} {v:Value} (hp:(n,v)∈pend):w.cell? ⟨n,0,none⟩=some v:=(h.pend _ hp).1
theorem step_flat {α:Type} {e:TypeId} {K:Kind α} {w':World} {v:Value} {xs:List α} {row:Option Nat} (hflat:∀ S S' w w' x r,K.R S w x r→K.R S' w' x r) (h:OwnK e K B (fun _=>False) w v xs) (hs:Step (fun b=>b<w.heap.size∧row≠some b) w w')
  (hne:∀ k,v.ownBlock=some k→row≠some k):OwnK e K B (fun _=>False) w' v xs:=by
 obtain⟨ys,h1,h2,h3⟩:=h
 have hlt:=World.ownsRow.lt h1
 refine⟨ys,⟨h1.1,?_⟩,?_,h3⟩
 ·rcases h1.2 with h0 | ⟨g,cap,cur,hv,hg,hh,r⟩
  ·exact Or.inl h0
  ·refine Or.inr ⟨g,cap,cur,hv,hg,?_,r⟩
   have ho:v.ownBlock=some g:=by rw [hv];rfl
   rw [hs.block g ⟨(hlt g ho).2,hne g ho⟩];exact hh
 ·have:∀ {l:List α} {xs:List Value} {S S':Nat→Prop},RowsOf K S w l xs→RowsOf K S' w' l xs:=by
   intro l
   induction l with
   | nil=>intro xs S S' h;exact h
   | cons x l ih=>rintro xs S S' ⟨r,ys,e,a1,a2⟩;exact⟨r,ys,e,hflat _ _ _ _ _ _ a1,ih a2⟩
  exact this h2
theorem HInv.stepA {o:Oper} {a:Act} {K:Act→World→Prop} {Q:Exit→Act→World→Prop} (h:HInv B w0 w va vl at_ l pend) (s x:Operand)
  (ho:o.op=.call {callee:=.builtin .append,args:=#[s,x],argTypes:=#[41,41]}) (n:Nat) (hn:at_.length=n) (hs:a.eval s=va) (nb:Nat) (y:Int) (hx:a.eval x=.slice (some ⟨nb,0,none⟩) 1 1) (hp:(nb,Value.int .i64 y)∈pend) (hlen:n≤1000000)
  (hk:∀ g c w',HInv B w0 w' (.slice (some ⟨g,0,none⟩) (n+1) c) vl (at_++[y]) l pend→K (a.put o.dst (.slice (some ⟨g,0,none⟩) (n+1) c)) w'):Oper.wp Try.prog o a w K Q:=by
 subst hn
 obtain⟨i0,hi,hz0,hz1,hz2⟩:=info_parts info_int
 obtain⟨xs,h1,h2,h3⟩:=h.a
 have hlt:=World.ownsRow.lt h1
 have hcell:=h.cell hp
 refine wp_append_lies w s x 41 ho B 3 i0 (.int .i64 0) 1 8 Try.underlying41 hi hz0 hz1 hz2 rfl (by decide) va at_.length xs hs h1 ⟨nb,0,none⟩ 1 1 [.int .i64 y] hx rfl ?_ ?_ (by decide) (by unfold maxLen;omega) (by omega) h.hB _ rfl ?_
 ·intro j u hj
  match j,hj with
  | 0,hj=>simp at hj;subst hj;simpa [Addr.add_lit] using hcell
  | j+1,hj=>simp at hj
 ·intro u hu;simp at hu;subst hu;rfl
 ·intro g c w' g1 g2 g3 g4
  have hst:Step (fun b=>b<w.heap.size∧va.ownBlock≠some b) w w':=Step.of_grown g2 (fun b hb=>⟨hb.1,hb.2⟩)
  refine hk g c w' ?_
  refine⟨⟨xs++[.int .i64 y],by have g5:=g1;simpa [kInt,kHash] using g5,by
   have hr:RowsOf kInt (fun b=>b<w.heap.size∧¬ False∧va.ownBlock≠some b) w at_ xs:=h2
   have:∀ {l:List Int} {xs:List Value} {S S':Nat→Prop} {w w':World},RowsOf kInt S w l xs→RowsOf kInt S' w' l xs:=by
    intro l
    induction l with
    | nil=>intro xs S S' w w' h;exact h
    | cons x l ih=>rintro xs S S' w w' ⟨r,ys,e,a1,a2⟩;exact⟨r,ys,e,a1,ih a2⟩
   exact(this hr).snoc rfl,fun _ _ hE=>hE⟩,step_flat (fun _ _ _ _ _ _ h=>h) h.l hst (fun k hk e=>h.apart k e hk),?_,fun p hp=> ?_,?_,Nat.le_trans h.hB hst.size⟩
  ·intro k hk e
   have:k=g:=by simpa [Value.ownBlock] using hk.symm
   subst this
   rcases g3 with h' | h'
   ·exact h.apart _ h' e
   ·have:=(h.l.lt _ e).2;omega
  ·obtain⟨q1,q2,q3⟩:=h.pend p hp
   have hq:p.1<w.heap.size:=World.block_lt_of_cell? _ _ q1
   refine⟨by rw [World.cell?_of_block (a:=⟨p.1,0,none⟩) (hst.block p.1 ⟨hq,q2⟩)];exact q1,?_,?_⟩
   ·intro e
    have:p.1=g:=by simpa [Value.ownBlock] using e.symm
    rcases g3 with h' | h'
    ·exact q2 (by rw [this];exact h')
    ·omega
   ·exact q3
  ·exact h.below.trans (hst.imp (S':=(·<B)) (fun b hb=>⟨Nat.lt_of_lt_of_le hb h.hB,fun e=>by have h5:=(hlt b e).1;have h6:b<B:=hb;omega⟩)).below
theorem HInv.stepL {o:Oper} {a:Act} {K:Act→World→Prop} {Q:Exit→Act→World→Prop} (h:HInv B w0 w va vl at_ l pend) (s x:Operand)
  (ho:o.op=.call {callee:=.builtin .append,args:=#[s,x],argTypes:=#[126,126]}) (n:Nat) (hn:l.length=n) (hs:a.eval s=vl) (nb:Nat) (y:Int) (hx:a.eval x=.slice (some ⟨nb,0,none⟩) 1 1) (hp:(nb,Value.int .u32 y)∈pend) (hlen:n≤1000000)
  (hk:∀ g c w',HInv B w0 w' va (.slice (some ⟨g,0,none⟩) (n+1) c) at_ (l++[y]) pend→K (a.put o.dst (.slice (some ⟨g,0,none⟩) (n+1) c)) w'):Oper.wp Try.prog o a w K Q:=by
 subst hn
 obtain⟨i0,hi,hz0,hz1,hz2⟩:=info_parts info_hash
 obtain⟨xs,h1,h2,h3⟩:=h.l
 have hlt:=World.ownsRow.lt h1
 have hcell:=h.cell hp
 refine wp_append_lies w s x 126 ho B 100 i0 (.int .u32 0) 1 4 Try.underlying126 hi hz0 hz1 hz2 rfl (by decide) vl l.length xs hs h1 ⟨nb,0,none⟩ 1 1 [.int .u32 y] hx rfl ?_ ?_ (by decide) (by unfold maxLen;omega) (by omega) h.hB _ rfl ?_
 ·intro j u hj
  match j,hj with
  | 0,hj=>simp at hj;subst hj;simpa [Addr.add_lit] using hcell
  | j+1,hj=>simp at hj
 ·intro u hu;simp at hu;subst hu;rfl
 ·intro g c w' g1 g2 g3 g4
  have hst:Step (fun b=>b<w.heap.size∧vl.ownBlock≠some b) w w':=Step.of_grown g2 (fun b hb=>⟨hb.1,hb.2⟩)
  refine hk g c w' ?_
  refine⟨step_flat (fun _ _ _ _ _ _ h=>h) h.a hst (fun k hk e=>h.apart k hk e),⟨xs++[.int .u32 y],by have g5:=g1;simpa [kInt,kHash] using g5,by
   have hr:RowsOf kHash (fun b=>b<w.heap.size∧¬ False∧vl.ownBlock≠some b) w l xs:=h2
   have:∀ {l:List Int} {xs:List Value} {S S':Nat→Prop} {w w':World},RowsOf kHash S w l xs→RowsOf kHash S' w' l xs:=by
    intro l
    induction l with
    | nil=>intro xs S S' w w' h;exact h
    | cons x l ih=>rintro xs S S' w w' ⟨r,ys,e,a1,a2⟩;exact⟨r,ys,e,a1,ih a2⟩
   exact(this hr).snoc rfl,fun _ _ hE=>hE⟩,?_,fun p hp=> ?_,?_,Nat.le_trans h.hB hst.size⟩
  ·intro k hk e
   have:k=g:=by simpa [Value.ownBlock] using e.symm
   subst this
   rcases g3 with h' | h'
   ·exact h.apart _ hk h'
   ·have:=(h.a.lt _ hk).2;omega
  ·obtain⟨q1,q2,q3⟩:=h.pend p hp
   have hq:p.1<w.heap.size:=World.block_lt_of_cell? _ _ q1
   refine⟨by rw [World.cell?_of_block (a:=⟨p.1,0,none⟩) (hst.block p.1 ⟨hq,q3⟩)];exact q1,?_,?_⟩
   ·exact q2
   ·intro e
    have:p.1=g:=by simpa [Value.ownBlock] using e.symm
    rcases g3 with h' | h'
    ·exact q3 (by rw [this];exact h')
    ·omega
  ·exact h.below.trans (hst.imp (S':=(·<B)) (fun b hb=>⟨Nat.lt_of_lt_of_le hb h.hB,fun e=>by have h5:=(hlt b e).1;have h6:b<B:=hb;omega⟩)).below
end
theorem hashesK_succ (syms:List SymL) (n:Nat):hashesK syms (n+1)=hashesK syms n++if seenB (symN syms n) then [hashB (symN syms n).name] else []:=by
 rw [hashesK,seenK_succ,List.map_append]
 by_cases h:seenB (symN syms n)=true
 ·rw [if_pos h,if_pos h];rfl
 ·rw [if_neg h,if_neg h];rfl
theorem hashesK_len (syms:List SymL) (n:Nat):(hashesK syms n).length=(seenK syms n).length:=by simp [hashesK]
set_option maxHeartbeats 32000000 in
set_option maxRecDepth 100000 in
theorem thashes_any (w:World) (v:Value) (syms:List SymL) (hs:LB kSym (·<w.heap.size) w v syms) (hz:syms.length≤512):
  Calls Try.prog 50 #[v] w fun e w'=>∃ r l,e=.returned (.tuple #[r,l])∧OwnK 3 kInt w.heap.size (fun _=>False) w' r (toInts (seenIx syms))∧OwnK 100 kHash w.heap.size (fun _=>False) w' l (hashesK syms syms.length)∧Below w.heap.size w w':=by
 obtain⟨sa,sb,soff,scap,rfl,hsm,hsc,hat⟩:=hs.at
 have Hat:=Lib.hid hat
 clear hs hat
 go_enter Try.func50,Try.ntmps50
 go_wp2
 go_loopw [4,5,10] (fun o p i wr=>∃ k:Nat,i=.int .i64 k∧k≤syms.length∧HInv w.heap.size w wr o p (toInts (seenK syms k)) (hashesK syms k) []) (fun _ _ i _=>syms.length-(intOf i).toNat)
 case atStart=>exact⟨0,rfl,Nat.zero_le _,⟨OwnK.nil _ _ _ _ _,OwnK.nil _ _ _ _ _,fun k h=>by simp [Value.ownBlock]at h,fun p hp=>by simp at hp,Below.refl _ _,Nat.le_refl _⟩⟩
 case round=>
  obtain⟨k,rfl,hk,hinv⟩:=hrel
  have hBr:=hinv.below.size
  have hlN:=seenK_le syms k
  have hl2:=toInts_len (seenK syms k)
  have hl3:=hashesK_len syms k
  obtain⟨oa,oc,ho⟩:=hinv.a.form
  obtain⟨pa,pc,hp⟩:=hinv.l.form
  rw [hl2]at ho
  rw [hl3]at hp
  subst ho hp
  by_cases hlt:k<syms.length
  ·obtain rfl:=Hat.out.addr (by omega)
   obtain⟨s,hx⟩:∃ s,syms[k]? =some s:=⟨_,List.getElem?_eq_getElem hlt⟩
   obtain⟨hso,g0,g1,g2,g3,g4,g5,g6,g7,g8⟩:=(Hat.out.below hinv.below).sym9 k s hx
   have HS:=Lib.hid (seenK_succ syms k)
   have HS2:=Lib.hid (hashesK_succ syms k)
   rw [symN_at hx]at HS HS2
   have Hinv:=Lib.hid hinv
   have HJ:=Lib.hid (fun w=>shash_any w s.name hso.name)
   have hsb:=World.block_lt_of_cell? _ _ g0
   have Fs:=heap_alloc_new wr (.cells #[.string ⟨s.name.toArray⟩,.string ⟨s.version.toArray⟩,.bool s.old,.int .i64 s.kind,.bool s.weak,.int .i64 s.vis,.bool s.defined,.int .i64 s.value,.int .i64 s.size] 52 (0,0))
   have I1:=Lib.hid (hinv.alloc' (.cells #[.string ⟨s.name.toArray⟩,.string ⟨s.version.toArray⟩,.bool s.old,.int .i64 s.kind,.bool s.weak,.int .i64 s.vis,.bool s.defined,.int .i64 s.value,.int .i64 s.size] 52 (0,0)))
   have hzs:(wr.alloc (.cells #[.string ⟨s.name.toArray⟩,.string ⟨s.version.toArray⟩,.bool s.old,.int .i64 s.kind,.bool s.weak,.int .i64 s.vis,.bool s.defined,.int .i64 s.value,.int .i64 s.size] 52 (0,0))).heap.size=wr.heap.size+1:=by simp
   have hown1:=fun k h=>(hinv.a.lt k h).2
   have hown2:=fun k h=>(hinv.l.lt k h).2
   clear hinv hx hso
   go_upto_region 6 with fail
   generalize wr.alloc (.cells #[.string ⟨s.name.toArray⟩,.string ⟨s.version.toArray⟩,.bool s.old,.int .i64 s.kind,.bool s.weak,.int .i64 s.vis,.bool s.defined,.int .i64 s.value,.int .i64 s.size] 52 (0,0))=w1 at *
   obtain⟨c0,c1,c2,c3,c4,c5,c6,c7,c8⟩:=sym_cells Fs
   go_wp2_with fail
   refine(vseen_any w1 s).mono ?_
   rintro e w2 ⟨rfl,hb2⟩
   have hz2:=hb2.size
   have cn:=(hb2.cell (World.block_lt_of_cell? _ _ c0)).trans c0
   have I2:HInv w.heap.size w w2 (.slice oa (seenK syms k).length oc) (.slice pa (seenK syms k).length pc) (toInts (seenK syms k)) (hashesK syms k) [(wr.heap.size,.string ⟨s.name.toArray⟩)]:=by
    refine⟨I1.out.a.below hb2,I1.out.l.below hb2,I1.out.apart,fun p hp=> ?_,I1.out.below.trans (hb2.mono (by omega)),by omega⟩
    simp at hp
    subst hp
    exact⟨cn,fun e=>by have:=hown1 _ e;omega,fun e=>by have:=hown2 _ e;omega⟩
   clear hb2 c0 c1 c2 c3 c4 c5 c6 c7 c8 Fs I1 g0 g1 g2 g3 g4 g5 g6 g7 g8 Hinv
   cases hsn:seenB s with
   | false=>
    rw [hsn]at HS HS2
    have I3:=Lib.hid I2
    clear I2 cn
    go_wp2
    go_roundw
    case rel=>
     have h1:=HS.out
     have h2:=HS2.out
     simp only [Bool.false_eq_true,if_false,List.append_nil]at h1 h2
     exact⟨k+1,by go_num,by omega,by rw [h1,h2];exact I3.out.less (by simp)⟩
    case measure=>simp [intOf];omega
   | true=>
    rw [hsn]at HS HS2
    have I3:=Lib.hid I2.drew
    have h1:=HS.out
    have h2:=HS2.out
    simp only [if_true]at h1 h2
    have HN1:Hid (toInts (seenK syms (k+1))=toInts (seenK syms k)++[(k:Int)]):=Lib.hid (by rw [h1,toInts,List.map_append];rfl)
    have HN2:=Lib.hid h2
    have hlw:=World.block_lt_of_cell? _ _ cn
    clear I2 h1 h2 HS HS2
    generalize wr.heap.size=zs at *
    go_wp2_with fail
    refine wp_region_held_drew (S:=fun w'=>w'.cell? ⟨zs,0,none⟩=some (.string ⟨s.name.toArray⟩)) (by kernel_rfl) (by exact I3.out.cell (by simp)) (fun hHeld=> ?_)
    generalize w2.drew=wd at *
    refine wpAnyH_take (i:=0) (v:= ?_) rfl (by kernel_rfl) (by kernel_rfl) (by kernel_rfl) (fun _ _ _ h=>h) (Or.inl ⟨by rfl,?_⟩) hHeld ?_
    rotate_left
    ·(intro w hSw;(try dsimp only at hSw);go_simp;try with_reducible rfl)
    try simp only [Act.put,List.setIfInBounds_toArray,List.set_cons_zero,List.set_cons_succ]
    refine wpAnyH_take (i:=1) (v:= ?_) rfl (by kernel_rfl) (by kernel_rfl) (by kernel_rfl) (fun _ _ _ h=>h) (Or.inl ⟨by rfl,?_⟩) hHeld ?_
    rotate_left
    ·(intro w hSw;(try dsimp only at hSw);go_simp;try with_reducible rfl)
    try simp only [Act.put,List.setIfInBounds_toArray,List.set_cons_zero,List.set_cons_succ]
    refine wpAnyH_take (i:=4) (v:= ?_) rfl (by kernel_rfl) (by kernel_rfl) (by kernel_rfl) (fun _ _ _ h=>h) (Or.inl ⟨by rfl,?_⟩) hHeld ?_
    rotate_left
    ·(intro w hSw;(try dsimp only at hSw);go_simp;try with_reducible rfl)
    try simp only [Act.put,List.setIfInBounds_toArray,List.set_cons_zero,List.set_cons_succ]
    refine wpAnyH_take (i:=5) (v:= ?_) rfl (by kernel_rfl) (by kernel_rfl) (by kernel_rfl) (fun _ _ _ h=>h) (Or.inl ⟨by rfl,?_⟩) hHeld ?_
    rotate_left
    ·(intro w hSw;(try dsimp only at hSw);go_simp;try with_reducible rfl)
    try simp only [Act.put,List.setIfInBounds_toArray,List.set_cons_zero,List.set_cons_succ]
    refine wpAnyH_take (i:=6) (v:= ?_) rfl (by kernel_rfl) (by kernel_rfl) (by kernel_rfl) (fun _ _ _ h=>h) (Or.inl ⟨by rfl,?_⟩) hHeld ?_
    rotate_left
    ·(intro w hSw;(try dsimp only at hSw);go_simp;try with_reducible rfl)
    try simp only [Act.put,List.setIfInBounds_toArray,List.set_cons_zero,List.set_cons_succ]
    refine wpAnyH_ready (rs:=[2]) (by kernel_rfl) (by simp) ?_
    refine AllReadyH.cons rfl (fun K hK=> ?_) AllReadyH.nil
    go_simp
    have IA:=Lib.hid (I3.out.alloc (.int .i64 (k:Int)) 3)
    refine hK.out _ _ (by exact IA.out.cell (by simp)) (fun hHeld=> ?_)
    clear hK K
    try simp only [Act.put,List.setIfInBounds_toArray,List.set_cons_zero,List.set_cons_succ]
    generalize wd.alloc (.cells #[.int .i64 (k:Int)] 3 (0,0))=wA at *
    refine wpAnyH_ready (rs:=[3]) (by kernel_rfl) (by simp) ?_
    refine AllReadyH.cons rfl (fun K hK=> ?_) AllReadyH.nil
    rw [if_pos (by rfl)]
    simp only [List.getElem_toArray,List.getElem_cons_succ,List.getElem_cons_zero]
    refine IA.out.stepA (.tmp 17) (.tmp 19) ?_ (seenK syms k).length hl2 ?_ wd.heap.size (k:Int) ?_ (by simp) (by omega) (fun g c wAA hI=> ?_)
    ·rfl
    ·rfl
    ·rfl
    have IAA:=Lib.hid hI
    clear hI
    refine hK.out _ _ (by exact IAA.out.cell (by simp)) (fun hHeld=> ?_)
    clear hK K
    try simp only [Act.put,List.setIfInBounds_toArray,List.set_cons_zero,List.set_cons_succ]
    refine wpAnyH_ready (rs:=[7]) (by kernel_rfl) (by simp) ?_
    refine AllReadyH.cons rfl (fun K hK=> ?_) AllReadyH.nil
    go_simp
    refine(HJ.out _).mono ?_
    rintro e w5 ⟨rfl,hw5⟩
    rw [hw5]
    refine hK.out _ _ (by exact IAA.out.cell (by simp)) (fun hHeld=> ?_)
    clear hK K
    try simp only [Act.put,List.setIfInBounds_toArray,List.set_cons_zero,List.set_cons_succ]
    have IAAB:=IAA
    refine wpAnyH_ready (rs:=[8]) (by kernel_rfl) (by simp) ?_
    refine AllReadyH.cons rfl (fun K hK=> ?_) AllReadyH.nil
    go_simp
    have IAABB:=Lib.hid (IAAB.out.alloc (.int .u32 (hashB s.name)) 100)
    refine hK.out _ _ (by exact IAABB.out.cell (by simp)) (fun hHeld=> ?_)
    clear hK K
    try simp only [Act.put,List.setIfInBounds_toArray,List.set_cons_zero,List.set_cons_succ]
    generalize wAA.alloc (.cells #[.int .u32 (hashB s.name)] 100 (0,0))=wAABB at *
    refine wpAnyH_ready (rs:=[9]) (by kernel_rfl) (by simp) ?_
    refine AllReadyH.cons rfl (fun K hK=> ?_) AllReadyH.nil
    rw [if_pos (by rfl)]
    simp only [List.getElem_toArray,List.getElem_cons_succ,List.getElem_cons_zero]
    refine IAABB.out.stepL (.tmp 21) (.tmp 25) ?_ (seenK syms k).length hl3 ?_ wAA.heap.size (hashB s.name) ?_ (by simp) (by omega) (fun g c wAABBB hI=> ?_)
    ·rfl
    ·rfl
    ·rfl
    have IAABBB:=Lib.hid hI
    clear hI
    refine hK.out _ _ (by exact IAABBB.out.cell (by simp)) (fun hHeld=> ?_)
    clear hK K
    try simp only [Act.put,List.setIfInBounds_toArray,List.set_cons_zero,List.set_cons_succ]
    refine wpAnyH_take (i:=10) (v:= ?_) rfl (by kernel_rfl) (by kernel_rfl) (by kernel_rfl) (fun _ _ _ h=>h) (Or.inl ⟨by rfl,?_⟩) hHeld ?_
    rotate_left
    ·(intro w hSw;(try dsimp only at hSw);go_simp;try with_reducible rfl)
    try simp only [Act.put,List.setIfInBounds_toArray,List.set_cons_zero,List.set_cons_succ]
    refine wpAnyH_take (i:=11) (v:= ?_) rfl (by kernel_rfl) (by kernel_rfl) (by kernel_rfl) (fun _ _ _ h=>h) (Or.inl ⟨by rfl,?_⟩) hHeld ?_
    rotate_left
    ·(intro w hSw;(try dsimp only at hSw);go_simp;try with_reducible rfl)
    try simp only [Act.put,List.setIfInBounds_toArray,List.set_cons_zero,List.set_cons_succ]
    refine wpAnyH_done (by kernel_rfl) ?_ _
    clear hHeld
    go_wp2
    go_roundw
    case rel=>exact⟨k+1,by go_num,by omega,by rw [HN1.out,HN2.out];exact IAABBB.out.less (by simp)⟩
    case measure=>simp [intOf];omega
  ·have he:k=syms.length:=by omega
   subst he
   have Hinv:=Lib.hid hinv
   clear hinv
   go_wp2
   go_ret2
   exact⟨_,_,rfl,Hinv.out.a,Hinv.out.l,Hinv.out.below⟩
end Go.Proofs.Ytpomdoliblilfaa
namespace Go.Proofs.Ytpomdoliblilfaa
set_option linter.unusedVariables false
set_option linter.unusedSimpArgs false
open Go.RowKit
theorem count_take_succ (c:List Int) (k:Nat) (x y:Int) (hx:c[k]? =some y):(c.take (k+1)).count x=(c.take k).count x+if y=x then 1 else 0:=by
 obtain⟨h,rfl⟩:=List.getElem?_eq_some_iff.1 hx
 rw [List.take_succ_eq_append_getElem h,List.count_append,List.count_singleton]
 by_cases e:c[k]=x<;>simp [e]
theorem sum_take_le:∀ (l:List Nat) (n:Nat),(l.take n).sum≤l.sum
 | [],n=>by simp
 | a :: l,0=>by simp
 | a :: l,n+1=>by have:=sum_take_le l n;simp only [List.take_succ_cons,List.sum_cons];omega
theorem sum_take_succ (l:List Nat) (k:Nat) (x:Nat) (hx:l[k]? =some x):(l.take (k+1)).sum=(l.take k).sum+x:=by
 obtain⟨h,rfl⟩:=List.getElem?_eq_some_iff.1 hx
 rw [List.take_succ_eq_append_getElem h,List.sum_append];simp
theorem rising_snoc:∀ (l:List Int) (a b:Int),risingB (l++[a])=true→risingB (l++[a,b])=decide (a<b)
 | [],a,b,_=>by simp [risingB]
 | [x],a,b,h=>by
  simp only [List.cons_append,List.nil_append,risingB,Bool.and_eq_true,decide_eq_true_eq]at h ⊢
  simp [h.1]
 | x :: y :: l,a,b,h=>by
  have e1:risingB (x :: y :: l++[a])=(decide (x<y)&&risingB (y :: l++[a])):=rfl
  have e2:risingB (x :: y :: l++[a,b])=(decide (x<y)&&risingB (y :: l++[a,b])):=rfl
  rw [e1,Bool.and_eq_true]at h
  rw [e2,h.1,rising_snoc (y :: l) a b h.2];rfl
theorem rising_step (c:List Int) (k:Nat) (a b:Int) (ha:c[k]? =some a) (hb:c[k+1]? =some b) (h:risingB (c.take (k+1))=true):risingB (c.take (k+2))=decide (a<b):=by
 obtain⟨h1,rfl⟩:=List.getElem?_eq_some_iff.1 ha
 obtain⟨h2,rfl⟩:=List.getElem?_eq_some_iff.1 hb
 rw [List.take_succ_eq_append_getElem h1]at h
 rw [List.take_succ_eq_append_getElem h2,List.take_succ_eq_append_getElem h1,List.append_assoc]
 exact rising_snoc _ _ _ h
theorem rising_bad (c:List Int) (k:Nat) (h:risingB (c.take k)=false):risingB c=false:=by
 cases hr:risingB c with
 | false=>rfl
 | true=>
  have:=((rising_pairwise c).1 hr).sublist (List.take_sublist k c)
  rw [(rising_pairwise _).2 this]at h;cases h
set_option maxHeartbeats 2000000 in
set_option maxRecDepth 100000 in
theorem jstandsn_any (w:World) (v:Value) (c:List Int) (x:Int) (hc:LB kInt (·<w.heap.size) w v c):
  Calls Try.prog 34 #[v,.int .i64 x] w fun e w'=>e=.returned (.int .i64 (c.count x:Nat))∧w'=w:=by
 obtain⟨sa,sb,soff,scap,rfl,hsm,hsc,hat⟩:=hc.at
 have Hat:=Lib.hid hat
 clear hc hat
 go_enter Try.func34,Try.ntmps34
 go_wp2
 go_loop [5,6] (fun n i=>∃ k:Nat,k≤c.length∧i=.int .i64 k∧n=.int .i64 (((c.take k).count x:Nat):Int)) (fun _ i=>c.length-(intOf i).toNat)
 case atStart=>exact⟨0,Nat.zero_le _,rfl,by simp⟩
 case round=>
  obtain⟨k,hk,rfl,rfl⟩:=hrel
  have hle:(c.take k).count x≤k:=by have:=List.count_le_length (a:=x) (l:=c.take k);rw [List.length_take]at this;omega
  by_cases hlt:k<c.length
  ·obtain rfl:=Hat.out.addr (by omega)
   obtain⟨y,hy⟩:∃ y,c[k]? =some y:=⟨_,List.getElem?_eq_getElem hlt⟩
   have g:=Hat.out.int1 k y hy
   have Hs:=Lib.hid (count_take_succ c k x y hy)
   clear hy
   generalize (c.take k).count x=m at *
   by_cases e:y=x
   ·have Hs2:Hid ((c.take (k+1)).count x=m+1):=Lib.hid (by rw [Hs.out,if_pos e])
    have hb:(y==x)=true:=by rw [beq_iff_eq];exact e
    clear e
    go_wp2
    go_round
    case rel=>exact⟨k+1,by omega,by go_num,by rw [Hs2.out];go_num⟩
    case measure=>simp [intOf];omega
   ·have Hs2:Hid ((c.take (k+1)).count x=m):=Lib.hid (by rw [Hs.out,if_neg e];omega)
    have hb:(y==x)=false:=by rw [beq_eq_false_iff_ne];exact e
    clear e
    go_wp2
    go_round
    case rel=>exact⟨k+1,by omega,by go_num,by rw [Hs2.out]⟩
    case measure=>simp [intOf];omega
  ·have He:Hid ((c.take k).count x=c.count x):=Lib.hid (by rw [List.take_of_length_le (by omega)])
   generalize (c.take k).count x=m at *
   go_wp2
   go_ret
   exact⟨by rw [← He.out];rfl,rfl⟩
end Go.Proofs.Ytpomdoliblilfaa
namespace Go.Proofs.Ytpomdoliblilfaa
set_option linter.unusedVariables false
set_option linter.unusedSimpArgs false
open Go.RowKit
def lensB (im:ImgL):List Nat:=im.buckets.map List.length
theorem tableJ_parts (im:ImgL):tableJ im=(decide (im.syms.length≤512)&&decide (1≤im.buckets.length)&&decide (im.buckets.length≤512)&&sieveB im.words im.shift&&im.buckets.all risingB&&
 decide ((lensB im).sum=(seenIx im.syms).length)&&(seenIx im.syms).all (standsB im)):=rfl
theorem tableJ_many (im:ImgL) (b:Nat) (h:(seenIx im.syms).length<((lensB im).take b).sum):tableJ im=false:=by
 have:=sum_take_le (lensB im) b
 rw [tableJ_parts,decide_eq_false (p:=(lensB im).sum=(seenIx im.syms).length) (by omega)];simp
theorem tableJ_rise (im:ImgL) (b:Nat) (c:List Int) (hc:im.buckets[b]? =some c) (h:risingB c=false):tableJ im=false:=by
 have:im.buckets.all risingB=false:=by rw [List.all_eq_false];exact⟨c,List.mem_of_getElem? hc,by simp [h]⟩
 rw [tableJ_parts,this];simp
theorem tableJ_stand (im:ImgL) (k:Nat) (i:Nat) (hi:(seenIx im.syms)[k]? =some i) (h:standsB im i=false):tableJ im=false:=by
 have:(seenIx im.syms).all (standsB im)=false:=by rw [List.all_eq_false];exact⟨i,List.mem_of_getElem? hi,by simp [h]⟩
 rw [tableJ_parts,this];simp
theorem toInts_at (l:List Nat) (k i:Nat) (h:l[k]? =some i):(toInts l)[k]? =some (i:Int):=by simp [toInts,h]
set_option maxHeartbeats 16000000 in
set_option maxRecDepth 100000 in
theorem jtright_any (w:World) (im:ImgL) (vb vw vs:Value) (hb:LB kInts (·<w.heap.size) w vb im.buckets) (hw:LB kWord (·<w.heap.size) w vw im.words) (hs:LB kSym (·<w.heap.size) w vs im.syms)
  (hr:∀ x∈im.words,0≤x∧x<18446744073709551616) (hbl:∀ c∈im.buckets,c.length≤140737488355328):
  Calls Try.prog 13 #[.agg #[vb,vw,.int .i64 im.shift],vs] w fun e w'=>e=.returned (.bool (tableJ im))∧Below w.heap.size w w':=by
 obtain⟨ba,bb,boff,bcap,rfl,hbm,hbc,hbat⟩:=hb.at
 obtain⟨sa,sb,soff,scap,rfl,hsm,hsc,hsat⟩:=hs.at
 obtain⟨wa,wc,hwv⟩:=hw.form
 subst hwv
 have Hw:=Lib.hid hw
 have HT:=Lib.hid (tableJ_parts im)
 have Hbat:=Lib.hid hbat
 have Hsat:=Lib.hid hsat
 have Hr:=Lib.hid hr
 have Hbl:=Lib.hid hbl
 have Hs:=Lib.hid hs
 have hwm:=hw.max
 clear hb hs hw hbat hsat hr hbl
 have B1:=Lib.hid ((Below.refl w.heap.size w).alloc (Nat.le_refl _) (.cells #[.slice ba im.buckets.length bcap,.slice wa im.words.length wc,.int .i64 im.shift] 38 (0,0)))
 have F1:=Lib.hid (heap_alloc_new w (.cells #[.slice ba im.buckets.length bcap,.slice wa im.words.length wc,.int .i64 im.shift] 38 (0,0)))
 by_cases p1:im.syms.length≤512
 case neg=>
  have Hn:Hid (tableJ im=false):=Lib.hid (by rw [HT.out,decide_eq_false (p:=im.syms.length≤512) p1];simp)
  have q1:512<im.syms.length:=by omega
  go_enter Try.func13,Try.ntmps13
  go_wp2
  go_ret
  exact⟨by rw [Hn.out];rfl,B1.out⟩
 have q1:¬ 512<im.syms.length:=by omega
 by_cases p2:1≤im.buckets.length
 case neg=>
  have Hn:Hid (tableJ im=false):=Lib.hid (by rw [HT.out,decide_eq_false (p:=1≤im.buckets.length) p2];simp)
  have q2:im.buckets.length<1:=by omega
  go_enter Try.func13,Try.ntmps13
  go_wp2
  go_ret
  exact⟨by rw [Hn.out];rfl,B1.out⟩
 have q2:¬ im.buckets.length<1:=by omega
 by_cases p3:im.buckets.length≤512
 case neg=>
  have Hn:Hid (tableJ im=false):=Lib.hid (by rw [HT.out,decide_eq_false (p:=im.buckets.length≤512) p3];simp)
  have q3:512<im.buckets.length:=by omega
  go_enter Try.func13,Try.ntmps13
  go_wp2
  go_ret
  exact⟨by rw [Hn.out];rfl,B1.out⟩
 have q3:¬ 512<im.buckets.length:=by omega
 have Hf:=Lib.hid (fun w=>jfright_any w im.words wa wc im.shift (by omega))
 go_enter Try.func13,Try.ntmps13
 go_wp2_with fail
 have hz1:w.heap.size<(w.alloc (.cells #[.slice ba im.buckets.length bcap,.slice wa im.words.length wc,.int .i64 im.shift] 38 (0,0))).heap.size:=by simp
 generalize w.alloc (.cells #[.slice ba im.buckets.length bcap,.slice wa im.words.length wc,.int .i64 im.shift] 38 (0,0))=w1 at *
 refine(Hf.out w1).mono ?_
 rintro e w2 ⟨rfl,hb2⟩
 have B2:=Lib.hid (B1.out.trans (hb2.mono (by omega)))
 have F2:=Lib.hid ((hb2.block _ hz1).trans F1.out)
 have hz2:=hb2.size
 clear hb2 B1 F1 Hf
 cases hsv:sieveB im.words im.shift with
 | false=>
  have Hn:Hid (tableJ im=false):=Lib.hid (by rw [HT.out,hsv];simp)
  clear hsv
  go_wp2
  go_ret
  exact⟨by rw [Hn.out];rfl,B2.out⟩
 | true=>
  have Hsv:=Lib.hid hsv
  clear hsv
  go_wp2_with fail
  refine(jseenl_any w2 _ im.syms ((Hs.out.below B2.out).mono B2.out.size) p1).mono ?_
  rintro e w3 ⟨r,rfl,hown,hb3⟩
  have B3:=Lib.hid (B2.out.trans (hb3.mono (by omega)))
  have F3:=Lib.hid ((hb3.block w.heap.size (by omega)).trans F2.out)
  have hz3:=hb3.size
  have hil:=toInts_len (seenIx im.syms)
  have hsl:(seenIx im.syms).length≤512:=by have:=seenK_le im.syms im.syms.length;rw [seenIx];omega
  obtain⟨oa,oc,rfl⟩:=hown.form
  have hlb:=hown.lb.imp (S':=(·<w3.heap.size)) (fun b h=>h.1)
  obtain⟨oa',ob,ooff,ocap',hov,hom,hoc,hoat⟩:=hlb.at
  cases hov
  rw [hil]
  have Hoat:=Lib.hid hoat
  have Hil:=Lib.hid (toInts_at (seenIx im.syms))
  have Hix:=Lib.hid (fun k i (h:(seenIx im.syms)[k]? =some i)=>(seenK_mem im.syms im.syms.length i).1 (List.mem_of_getElem? h))
  clear hb3 hown hlb hoat hom hoc F2 B2
  generalize hN:(seenIx im.syms).length=N at *
  have HN:=Lib.hid hN
  clear hN
  go_wp2_with fail
  go_loopw [6,7,8] (fun m i _ wr=>∃ (b:Nat),i=.int .i64 b∧b≤im.buckets.length∧m=.int .i64 ((((lensB im).take b).sum:Nat):Int)∧((lensB im).take b).sum≤N∧(im.buckets.take b).all risingB=true∧Below w3.heap.size w3 wr) (fun _ i _ _=>im.buckets.length-(intOf i).toNat)
  case atStart=>exact⟨0,rfl,Nat.zero_le _,rfl,by simp,rfl,Below.refl _ _⟩
  case round=>
   obtain⟨b,rfl,hbk,rfl,hmn,hall,hbel⟩:=hrel
   have Hall:=Lib.hid hall
   have Hbel:=Lib.hid hbel
   have F4:=(hbel.block w.heap.size (by omega)).trans F3.out
   have c0:wr.cell? ⟨w.heap.size,0,none⟩=some (.slice ba im.buckets.length bcap):=by rw [Lib.cell_of_heap F4];rfl
   have c1:wr.cell? ⟨w.heap.size,1,none⟩=some (.slice wa im.words.length wc):=by rw [Lib.cell_of_heap F4];rfl
   have c2:wr.cell? ⟨w.heap.size,2,none⟩=some (.int .i64 im.shift):=by rw [Lib.cell_of_heap F4];rfl
   have hzr:=hbel.size
   clear hall hbel
   by_cases hlt:b<im.buckets.length
   ·obtain rfl:=Hbat.out.addr (by omega)
    obtain⟨c,hc⟩:∃ c,im.buckets[b]? =some c:=⟨_,List.getElem?_eq_getElem hlt⟩
    have hcl:=Hbl.out c (List.mem_of_getElem? hc)
    obtain⟨cv,gc,hclb⟩:=(Hbat.out.below B3.out).ints1 b c hc
    have gc2:wr.cell? ⟨bb,boff+b,none⟩=some cv:=(Hbel.out.cell (p:=⟨bb,boff+b,none⟩) (World.block_lt_of_cell? _ _ gc)).trans gc
    obtain⟨ca,cb,coff,ccap,rfl,hcm,hcc,hcat⟩:=hclb.at
    have Hcat:=Lib.hid hcat
    have Hsum:=Lib.hid (sum_take_succ (lensB im) b c.length (by simp [lensB,hc]))
    have Hmany:=Lib.hid (tableJ_many im (b+1))
    have Hrise:=Lib.hid (tableJ_rise im b c hc)
    have Hsn:=Lib.hid (all_take_snoc risingB im.buckets b c hc)
    clear hc gc hclb hcat F4
    rw [Hsum.out,HN.out]at Hmany
    generalize hM:((lensB im).take b).sum=M at *
    clear hM
    by_cases hmany:N<M+c.length
    ·have Hn:=Lib.hid (Hmany.out hmany)
     go_wp2
     go_ret
     exact⟨by rw [Hn.out];rfl,B3.out.trans (Hbel.out.mono (by omega))⟩
    have hm2:¬ ((N:Int)<(M:Int)+(c.length:Int)):=by omega
    go_wp2_with fail
    obtain⟨wo,hwo⟩:∃ wo:World,wo=wr:=⟨_,rfl⟩
    go_loopw [8] (fun i wi=>∃ (k:Nat),i=.int .i64 (k+1:Nat)∧(k+1≤c.length∨k=0)∧risingB (c.take (k+1))=true∧Below wo.heap.size wo wi) (fun i _=>c.length-(intOf i).toNat)
    case atStart=>
     refine⟨0,rfl,Or.inr rfl,?_,by rw [hwo];exact Below.refl _ _⟩
     cases c with
     | nil=>rfl
     | cons x l=>simp [risingB]
    case round=>
     obtain⟨k,rfl,hk,hri,hbi⟩:=hrel
     have Hri:=Lib.hid hri
     have Hbi:=Lib.hid hbi
     have d0:=(hbi.cell (by rw [hwo];exact World.block_lt_of_cell? _ _ c0)).trans (hwo ▸ c0)
     have d1:=(hbi.cell (by rw [hwo];exact World.block_lt_of_cell? _ _ gc2)).trans (hwo ▸ gc2)
     have hbi3:Below w3.heap.size w3 wr:=(by rw [hwo]at *;exact Hbel.out:Below w3.heap.size w3 wo).trans (hbi.mono (by rw [hwo];omega))
     have Hbi3:=Lib.hid hbi3
     clear hri hbi hbi3
     by_cases hk2:k+1<c.length
     ·obtain rfl:=Hcat.out.addr (by omega)
      obtain⟨x,hx⟩:∃ x,c[k]? =some x:=⟨_,List.getElem?_eq_getElem (by omega)⟩
      obtain⟨y,hy⟩:∃ y,c[k+1]? =some y:=⟨_,List.getElem?_eq_getElem hk2⟩
      have gx:=(Hbi3.out.cell (World.block_lt_of_cell? _ _ (Hcat.out.int1 k x hx))).trans (Hcat.out.int1 k x hx)
      have gy:=(Hbi3.out.cell (World.block_lt_of_cell? _ _ (Hcat.out.int1 (k+1) y hy))).trans (Hcat.out.int1 (k+1) y hy)
      have hoff:coff+(k+1)=coff+k+1:=by omega
      rw [hoff]at gy
      have Hst:=Lib.hid (fun h=>rising_step c k x y hx hy h)
      have Hbadc:=Lib.hid (rising_bad c (k+2))
      clear hx hy
      by_cases hxy:x<y
      ·have Hr2:Hid (risingB (c.take (k+1+1))=true):=Lib.hid (by rw [Hst.out Hri.out];simp [hxy])
       have hge:¬ y≤x:=by omega
       go_wp2_with fail
       go_quiet (fail)
       go_wp2
       go_roundw
       case rel=>exact⟨k+1,by go_num,by omega,Hr2.out,below_drewN Hbi.out _⟩
       case measure=>simp [intOf];omega
      ·have Hn:=Lib.hid (Hrise.out (Hbadc.out (by rw [Hst.out Hri.out];simp [hxy])))
       have hge:y≤x:=by omega
       go_wp2_with fail
       go_quiet (fail)
       go_wp2
       go_ret
       exact⟨by rw [Hn.out];rfl,below_drewN (B3.out.trans (Hbi3.out.mono (by omega))) _⟩
     ·have Hc:Hid (risingB c=true):=Lib.hid (by
       have:=Hri.out
       rwa [List.take_of_length_le (by omega)]at this)
      go_wp2
      go_roundw
      case rel=>
       refine⟨b+1,by go_num,by omega,by rw [Hsum.out];go_num,by rw [Hsum.out];omega,by rw [Hsn.out,Hall.out,Hc.out];rfl,Hbi3.out⟩
      case measure=>simp [intOf];omega
   ·have Hris:Hid (im.buckets.all risingB=true):=Lib.hid (by have:=Hall.out;rwa [List.take_of_length_le (by omega)]at this)
    have Hsu:Hid (((lensB im).take b).sum=(lensB im).sum):=Lib.hid (by rw [List.take_of_length_le (by simp [lensB];omega)])
    have HF4:=Lib.hid F4
    have hM1:((lensB im).take b).sum≤512:=by omega
    rw [Hsu.out]at hmn hM1 ⊢
    generalize hM:(lensB im).sum=M at *
    clear hM Hall F4
    go_wp2_with fail
    go_loopw [9,10] (fun i _ wi=>∃ (k:Nat),i=.int .i64 k∧k≤N∧((seenIx im.syms).take k).all (standsB im)=true∧Below w3.heap.size w3 wi) (fun i _ _=>N-(intOf i).toNat)
    case atStart=>exact⟨0,rfl,Nat.zero_le _,rfl,Hbel.out⟩
    case round=>
     obtain⟨k,rfl,hk,hall,hbi⟩:=hrel
     have Hall:=Lib.hid hall
     have Hbi:=Lib.hid hbi
     clear hall c0 c1 c2 HF4 Hbel
     have F5:=(hbi.block w.heap.size (by omega)).trans F3.out
     have c0:wr.cell? ⟨w.heap.size,0,none⟩=some (.slice ba im.buckets.length bcap):=by rw [Lib.cell_of_heap F5];rfl
     have c1:wr.cell? ⟨w.heap.size,1,none⟩=some (.slice wa im.words.length wc):=by rw [Lib.cell_of_heap F5];rfl
     have c2:wr.cell? ⟨w.heap.size,2,none⟩=some (.int .i64 im.shift):=by rw [Lib.cell_of_heap F5];rfl
     have hzr2:=hbi.size
     clear hbi F5
     by_cases hlt2:k<N
     ·have hkN:k<(seenIx im.syms).length:=by rw [HN.out];exact hlt2
      obtain⟨i,hi⟩:∃ i,(seenIx im.syms)[k]? =some i:=⟨_,List.getElem?_eq_getElem hkN⟩
      obtain⟨hi1,hi2⟩:=Hix.out k i hi
      have hkl:k<(toInts (seenIx im.syms)).length:=by rw [toInts_len];exact hkN
      obtain rfl:=Hoat.out.addr (by omega)
      have go':=Hoat.out.int1 k _ (Hil.out k i hi)
      have go1:=(Hbi.out.cell (World.block_lt_of_cell? _ _ go')).trans go'
      obtain rfl:=Hsat.out.addr (by omega)
      obtain⟨s,hx⟩:∃ s,im.syms[i]? =some s:=⟨_,List.getElem?_eq_getElem hi1⟩
      have hsn:=symN_at hx
      obtain⟨hok,g0',_⟩:=(Hsat.out.below B3.out).sym9 i s hx
      have g0:=(Hbi.out.cell (World.block_lt_of_cell? _ _ g0')).trans g0'
      have hnl:=hok.name
      have hrange:=hashB_range s.name
      have hhome:=homeL_lt s.name im.buckets.length p2
      have Hst:Hid (standsB im i=(decide ((im.buckets.getD (homeL s.name im.buckets.length) []).count (i:Int)=1)&& !lacksB im.words im.shift (hashB s.name))):=Lib.hid (by rw [standsB,symHome,hsn])
      have Hbad:=Lib.hid (tableJ_stand im k i hi)
      have Hsn:=Lib.hid (all_take_snoc (standsB im) (seenIx im.syms) k i hi)
      obtain⟨c,hc⟩:∃ c,im.buckets[homeL s.name im.buckets.length]? =some c:=⟨_,List.getElem?_eq_getElem hhome⟩
      obtain rfl:=Hbat.out.addr (by omega)
      obtain⟨cv,gc',hclb⟩:=(Hbat.out.below B3.out).ints1 _ c hc
      have gc:=(Hbi.out.cell (World.block_lt_of_cell? _ _ gc')).trans gc'
      have HL:=Lib.hid (fun (w':World) (h:Below w3.heap.size w3 w')=>jlacks_any w' (.slice wa im.words.length wc) im.words im.shift (hashB s.name).toNat ((Hw.out.below (B3.out.trans (h.mono (by omega)))).mono (by have:=h.size;omega)) Hr.out (by omega) Hsv.out)
      have HS:=Lib.hid (fun (w':World) (h:Below w3.heap.size w3 w')=>jstandsn_any w' cv c (i:Int) ((hclb.mono (by omega:w.heap.size≤w3.heap.size)).below h |>.mono h.size))
      have HH:=Lib.hid (fun w'=>jhome_any w' s.name im.buckets.length hnl p2 p3)
      have HA:=Lib.hid (fun w'=>jhash_any w' s.name hnl)
      rw [Int.toNat_of_nonneg hrange.1]at HL
      obtain⟨ca,cc,rfl⟩:=hclb.form
      have Hgd:Hid (im.buckets.getD (homeL s.name im.buckets.length) []=c):=Lib.hid (by rw [List.getD_eq_getElem?_getD,hc];rfl)
      rw [Hgd.out]at Hst
      have hblt:=World.block_lt_of_cell? _ _ gc
      have holt:=World.block_lt_of_cell? _ _ go1
      clear hi hkN hkl go' hx hsn g0' hok hc gc' hclb Hgd
      generalize hashB s.name=hh at *
      generalize homeL s.name im.buckets.length=hm at *
      generalize hcn:c.count (i:Int)=cn at *
      have l0:=fun x:Later wr=>x.cell c0
      have l1:=fun x:Later wr=>x.cell c1
      have l2:=fun x:Later wr=>x.cell c2
      have l3:=fun x:Later wr=>x.cell go1
      have l4:=fun x:Later wr=>x.cell gc
      clear Hr Hs
      by_cases h1:cn=1
      ·have hd1:((cn:Int) != 1)=false:=by rw [bne_eq_false_iff_eq];omega
       go_wp2_with fail
       refine wp_region_later (by kernel_rfl) (by kernel_rfl) ?_
       repeat (go_big_quiet_step (first | (go_at_call 35;exact Later.call_same _ (HH.out _)) | (go_at_call 34;refine Later.call_same _ (HS.out _ ?_);exact Hbi.out.trans ((Later.h _).mono (by omega))) | (go_at_call 37;exact Later.call_same _ (HA.out _)) | (go_at_call 36;refine Later.call _ (HL.out _ ?_);exact Hbi.out.trans ((Later.h _).mono (by omega)))))
       refine wpQuiet_nil ?_
       rintro _ ⟨⟨wq,hq⟩,rfl⟩
       try simp only at hq
       have Hq:=Lib.hid (Hbi.out.trans (hq.mono (by omega)))
       clear hq l0 l1 l2 l3 l4 HL HS HH HA
       cases hlk:lacksB im.words im.shift hh with
       | true=>
        have Hn:=Lib.hid (Hbad.out (by rw [Hst.out,hlk];simp))
        clear hlk
        go_wp2
        go_ret
        exact⟨by rw [Hn.out];rfl,B3.out.trans (Hq.out.mono (by omega))⟩
       | false=>
        have Hy:Hid (standsB im i=true):=Lib.hid (by rw [Hst.out,hlk,h1];rfl)
        clear hlk
        go_wp2
        go_roundw
        case rel=>exact⟨k+1,by go_num,by omega,by rw [Hsn.out,Hall.out,Hy.out];rfl,Hq.out⟩
        case measure=>simp [intOf];omega
      ·have hd1:((cn:Int) != 1)=true:=by rw [bne_iff_ne];omega
       have Hn:=Lib.hid (Hbad.out (by rw [Hst.out,decide_eq_false (p:=cn=1) h1];rfl))
       go_wp2_with fail
       refine wp_region_later (by kernel_rfl) (by kernel_rfl) ?_
       repeat (go_big_quiet_step (first | (go_at_call 35;exact Later.call_same _ (HH.out _)) | (go_at_call 34;refine Later.call_same _ (HS.out _ ?_);exact Hbi.out.trans ((Later.h _).mono (by omega)))))
       refine wpQuiet_nil ?_
       rintro _ ⟨⟨wq,hq⟩,rfl⟩
       try simp only at hq
       have Hq:=Lib.hid (Hbi.out.trans (hq.mono (by omega)))
       clear hq l0 l1 l2 l3 l4 HL HS HH HA
       go_wp2
       go_ret
       exact⟨by rw [Hn.out];rfl,B3.out.trans (Hq.out.mono (by omega))⟩
     ·have Hr2:Hid (tableJ im=decide (M=N)):=Lib.hid (by
       have h:=Hall.out
       rw [List.take_of_length_le (by rw [HN.out];omega)]at h
       rw [HT.out,Hsv.out,Hris.out,h,decide_eq_true (p:=im.syms.length≤512) p1,decide_eq_true (p:=1≤im.buckets.length) p2,decide_eq_true (p:=im.buckets.length≤512) p3]
       simp)
      go_wp2
      go_ret
      exact⟨ret_bool' (by rw [Hr2.out,Bool.eq_iff_iff];simp;omega),B3.out.trans (Hbi.out.mono (by omega))⟩
end Go.Proofs.Ytpomdoliblilfaa
namespace Go.Proofs.Ytpomdoliblilfaa
set_option linter.unusedVariables false
set_option linter.unusedSimpArgs false
open Go.RowKit
def tableErr (im:ImgL):Int:=if tableB im=true then 0 else 80
theorem tableErr_bad {im:ImgL} (h:tableB im=false):tableErr im=80:=by rw [tableErr,h];rfl
theorem tableErr_ok {im:ImgL} (h:tableB im=true):tableErr im=0:=by rw [tableErr,h];rfl
abbrev chB (im:ImgL) (b:Nat) (last:Int) (l:List Int):Bool:=chainB im.syms im.words im.shift im.buckets.length b last l
abbrev chsB (im:ImgL) (b:Nat) (l:List (List Int)):Bool:=chainsB im.syms im.words im.shift im.buckets.length b l
theorem tableB_parts (im:ImgL):tableB im=(decide (im.syms.length≤512)&&decide (1≤im.buckets.length)&&decide (im.buckets.length≤512)&&sieveB im.words im.shift&&chsB im 0 im.buckets&&
 decide ((lensB im).sum=(seenIx im.syms).length)):=by rw [seenIx_length];rfl
theorem chB_cons (im:ImgL) (b:Nat) (last i:Int) (l:List Int):chB im b last (i :: l)=(decide (last<i)&&entryB im b i&&chB im b i l):=by unfold chB;rw [chainB];rfl
theorem chB_low {im:ImgL} {b:Nat} {last i:Int} {l:List Int} (h:¬ last<i):chB im b last (i :: l)=false:=by rw [chB_cons,decide_eq_false (p:=last<i) h];rfl
theorem chB_bad {im:ImgL} {b:Nat} {last i:Int} {l:List Int} (h:entryB im b i=false):chB im b last (i :: l)=false:=by rw [chB_cons,h];simp
theorem chB_ok {im:ImgL} {b:Nat} {last i:Int} {l:List Int} (h:last<i) (h2:entryB im b i=true):chB im b last (i :: l)=chB im b i l:=by rw [chB_cons,h2,decide_eq_true (p:=last<i) h];rfl
theorem chsB_bad {im:ImgL} {b:Nat} {c:List Int} {l:List (List Int)} (h:chB im b (-1) c=false):chsB im b (c :: l)=false:=by unfold chsB;rw [chainsB];unfold chB at h;rw [h];rfl
theorem chsB_ok {im:ImgL} {b:Nat} {c:List Int} {l:List (List Int)} (h:chB im b (-1) c=true):chsB im b (c :: l)=chsB im (b+1) l:=by unfold chsB;rw [chainsB];unfold chB at h;rw [h];rfl
theorem entryB_far {im:ImgL} {b:Nat} {i:Int} (h:(im.syms.length:Int)≤i):entryB im b i=false:=by
 unfold entryB
 rw [if_neg (by omega),List.getElem?_eq_none (by omega)]
theorem entryB_at {im:ImgL} {b k:Nat} {s:SymL} (h:im.syms[k]? =some s):entryB im b (k:Int)=(seenB s&&decide (homeL s.name im.buckets.length=b)&& !lacksB im.words im.shift (hashB s.name)):=by
 unfold entryB
 rw [if_neg (by omega),Int.toNat_natCast,h]
set_option maxHeartbeats 32000000 in
set_option maxRecDepth 100000 in
theorem tright_any (w:World) (im:ImgL) (vb vw vs:Value) (hb:LB kInts (·<w.heap.size) w vb im.buckets) (hw:LB kWord (·<w.heap.size) w vw im.words) (hs:LB kSym (·<w.heap.size) w vs im.syms)
  (hr:∀ x∈im.words,0≤x∧x<18446744073709551616):
  Calls Try.prog 58 #[.agg #[vb,vw,.int .i64 im.shift],vs] w fun e w'=>e=.returned (.int .i64 (tableErr im))∧Below w.heap.size w w':=by
 obtain⟨ba,bb,boff,bcap,rfl,hbm,hbc,hbat⟩:=hb.at
 obtain⟨sa,sb,soff,scap,rfl,hsm,hsc,hsat⟩:=hs.at
 obtain⟨wa,wc,hwv⟩:=hw.form
 subst hwv
 have Hw:=Lib.hid hw
 have HT:=Lib.hid (tableB_parts im)
 have Hbat:=Lib.hid hbat
 have Hsat:=Lib.hid hsat
 have Hr:=Lib.hid hr
 have Hs:=Lib.hid hs
 have hwm:=hw.max
 have Hbad:=Lib.hid (fun h=>tableErr_bad (im:=im) h)
 clear hb hs hw hbat hsat hr
 have B1:=Lib.hid ((Below.refl w.heap.size w).alloc (Nat.le_refl _) (.cells #[.slice ba im.buckets.length bcap,.slice wa im.words.length wc,.int .i64 im.shift] 38 (0,0)))
 have F1:=Lib.hid (heap_alloc_new w (.cells #[.slice ba im.buckets.length bcap,.slice wa im.words.length wc,.int .i64 im.shift] 38 (0,0)))
 by_cases p1:im.syms.length≤512
 case neg=>
  have Hn:=Lib.hid (Hbad.out (by rw [HT.out,decide_eq_false (p:=im.syms.length≤512) p1];simp))
  have q1:512<im.syms.length:=by omega
  go_enter Try.func58,Try.ntmps58
  go_wp2
  go_ret
  exact⟨by rw [Hn.out];rfl,B1.out⟩
 have q1:¬ 512<im.syms.length:=by omega
 by_cases p2:1≤im.buckets.length
 case neg=>
  have Hn:=Lib.hid (Hbad.out (by rw [HT.out,decide_eq_false (p:=1≤im.buckets.length) p2];simp))
  have q2:im.buckets.length<1:=by omega
  go_enter Try.func58,Try.ntmps58
  go_wp2
  go_ret
  exact⟨by rw [Hn.out];rfl,B1.out⟩
 have q2:¬ im.buckets.length<1:=by omega
 by_cases p3:im.buckets.length≤512
 case neg=>
  have Hn:=Lib.hid (Hbad.out (by rw [HT.out,decide_eq_false (p:=im.buckets.length≤512) p3];simp))
  have q3:512<im.buckets.length:=by omega
  go_enter Try.func58,Try.ntmps58
  go_wp2
  go_ret
  exact⟨by rw [Hn.out];rfl,B1.out⟩
 have q3:¬ 512<im.buckets.length:=by omega
 have Hf:=Lib.hid (fun w=>sright_any w im.words wa wc im.shift (by omega))
 go_enter Try.func58,Try.ntmps58
 go_wp2_with fail
 have hz1:w.heap.size<(w.alloc (.cells #[.slice ba im.buckets.length bcap,.slice wa im.words.length wc,.int .i64 im.shift] 38 (0,0))).heap.size:=by simp
 generalize w.alloc (.cells #[.slice ba im.buckets.length bcap,.slice wa im.words.length wc,.int .i64 im.shift] 38 (0,0))=w1 at *
 refine(Hf.out w1).mono ?_
 rintro e w2 ⟨rfl,hb2⟩
 have B2:=Lib.hid (B1.out.trans (hb2.mono (by omega)))
 have F2:=Lib.hid ((hb2.block _ hz1).trans F1.out)
 have hz2:=hb2.size
 clear hb2 B1 F1 Hf
 cases hsv:sieveB im.words im.shift with
 | false=>
  have Hn:=Lib.hid (Hbad.out (by rw [HT.out,hsv];simp))
  have he:sieveErr im.words im.shift=20:=by rw [sieveErr,hsv];rfl
  rw [he]
  clear hsv he
  go_wp2
  go_ret
  exact⟨by rw [Hn.out];rfl,B2.out⟩
 | true=>
  have Hsv:=Lib.hid hsv
  have he:sieveErr im.words im.shift=0:=by rw [sieveErr,hsv];rfl
  rw [he]
  have c0:w2.cell? ⟨w.heap.size,0,none⟩=some (.slice ba im.buckets.length bcap):=by rw [Lib.cell_of_heap F2.out];rfl
  clear hsv he
  go_wp2_with fail
  go_loopw [5,37] (fun n i wr=>∃ (b M:Nat),i=.int .i64 b∧b≤im.buckets.length∧n=.int .i64 (M:Int)∧M=((lensB im).take b).sum∧M≤513*b∧chsB im 0 im.buckets=chsB im b (im.buckets.drop b)∧Below w2.heap.size w2 wr) (fun _ i _=>im.buckets.length-(intOf i).toNat)
  case atStart=>exact⟨0,0,rfl,Nat.zero_le _,rfl,by simp,by simp,by simp,Below.refl _ _⟩
  case round=>
   obtain⟨b,M,rfl,hbk,rfl,hM,hMb,hch,hbel⟩:=hrel
   have HM:=Lib.hid hM
   have Hch:=Lib.hid hch
   have Hbel:=Lib.hid hbel
   have hzr:=hbel.size
   have F4:=(hbel.block w.heap.size (by omega)).trans F2.out
   clear hM hch hbel c0
   by_cases hlt:b<im.buckets.length
   ·obtain rfl:=Hbat.out.addr (by omega)
    obtain⟨c,hc⟩:∃ c,im.buckets[b]? =some c:=⟨_,List.getElem?_eq_getElem hlt⟩
    obtain⟨cv,gc,hclb⟩:=(Hbat.out.below B2.out).ints1 b c hc
    have gc2:wr.cell? ⟨bb,boff+b,none⟩=some cv:=(Hbel.out.cell (p:=⟨bb,boff+b,none⟩) (World.block_lt_of_cell? _ _ gc)).trans gc
    obtain⟨ca,cb,coff,ccap,rfl,hcm,hcc,hcat⟩:=hclb.at
    have Hcat:=Lib.hid hcat
    have Hsum:=Lib.hid (sum_take_succ (lensB im) b c.length (by simp [lensB,hc]))
    have Hdc:=Lib.hid (drop_cons im.buckets b c hc)
    have hMx:M≤513*512:=Nat.le_trans hMb (Nat.mul_le_mul_left _ (by omega))
    clear hc gc hclb hcat F4
    go_wp2_with fail
    go_loopw [5,8,44] (fun n la i wi=>∃ (k:Nat) (x:Int),i=.int .i64 k∧k≤c.length∧n=.int .i64 ((M+k:Nat):Int)∧la=.int .i64 x∧ -1≤x∧x≤512∧(k:Int)≤x+1∧chB im b (-1) c=chB im b x (c.drop k)∧Below w2.heap.size w2 wi) (fun _ _ i _=>c.length-(intOf i).toNat)
    case atStart=>exact⟨0,-1,rfl,Nat.zero_le _,rfl,rfl,by decide,by decide,by decide,by simp,Hbel.out⟩
    case round=>
     obtain⟨k,x,rfl,hk,rfl,rfl,hx0,hx1,hkx,hcx,hbi⟩:=hrel
     have Hcx:=Lib.hid hcx
     have Hbi:=Lib.hid hbi
     have hzi:=hbi.size
     have F5:=(hbi.block w.heap.size (by omega)).trans F2.out
     have c0:wr.cell? ⟨w.heap.size,0,none⟩=some (.slice (some ⟨bb,boff,none⟩) im.buckets.length bcap):=by rw [Lib.cell_of_heap F5];rfl
     have c1:wr.cell? ⟨w.heap.size,1,none⟩=some (.slice wa im.words.length wc):=by rw [Lib.cell_of_heap F5];rfl
     have c2:wr.cell? ⟨w.heap.size,2,none⟩=some (.int .i64 im.shift):=by rw [Lib.cell_of_heap F5];rfl
     clear hcx hbi F5
     by_cases hlt2:k<c.length
     ·obtain rfl:=Hcat.out.addr (by omega)
      obtain⟨i,hi⟩:∃ i,c[k]? =some i:=⟨_,List.getElem?_eq_getElem hlt2⟩
      have gi:=(Hbi.out.cell (World.block_lt_of_cell? _ _ (Hcat.out.int1 k i hi))).trans (Hcat.out.int1 k i hi)
      have Hdi:=Lib.hid (drop_cons c k i hi)
      have HnoC:Hid (chB im b x (i :: c.drop (k+1))=false→tableErr im=80):=Lib.hid (fun h=>Hbad.out (by rw [HT.out,Hch.out,Hdc.out,chsB_bad (by rw [Hcx.out,Hdi.out,h])];simp))
      have l0:=fun y:Later wr=>y.cell c0
      have l1:=fun y:Later wr=>y.cell c1
      have l2:=fun y:Later wr=>y.cell c2
      clear hi c0 c1 c2
      by_cases h1:x<i
      case neg=>
       have Hn:=Lib.hid (HnoC.out (chB_low h1))
       have hd1:decide (i≤x)=true:=by rw [decide_eq_true_eq];omega
       go_wp2_with fail
       refine wp_region_later (by kernel_rfl) (by kernel_rfl) ?_
       repeat (go_big_quiet_step (fail))
       refine wpQuiet_nil ?_
       rintro _ ⟨⟨wq,hq⟩,rfl⟩
       try simp only at hq
       have Hq:=Lib.hid hq
       clear hq
       go_wp2
       go_ret
       exact⟨by rw [Hn.out];rfl,B2.out.trans ((Hbi.out.trans (Hq.out.mono (by omega))).mono (by omega))⟩
      have hd1:decide (i≤x)=false:=by rw [decide_eq_false_iff_not];omega
      by_cases h2:(im.syms.length:Int)≤i
      case pos=>
       have Hn:=Lib.hid (HnoC.out (chB_bad (entryB_far h2)))
       have hd2:decide ((im.syms.length:Int)≤i)=true:=by rw [decide_eq_true_eq];exact h2
       go_wp2_with fail
       refine wp_region_later (by kernel_rfl) (by kernel_rfl) ?_
       repeat (go_big_quiet_step (fail))
       refine wpQuiet_nil ?_
       rintro _ ⟨⟨wq,hq⟩,rfl⟩
       try simp only at hq
       have Hq:=Lib.hid hq
       clear hq
       go_wp2
       go_ret
       exact⟨by rw [Hn.out];rfl,B2.out.trans ((Hbi.out.trans (Hq.out.mono (by omega))).mono (by omega))⟩
      have hd2:decide ((im.syms.length:Int)≤i)=false:=by rw [decide_eq_false_iff_not];exact h2
      obtain⟨j,rfl⟩:∃ j:Nat,i=j:=⟨i.toNat,by omega⟩
      have hj:j<im.syms.length:=by omega
      have hd2':decide (im.syms.length≤j)=false:=by rw [decide_eq_false_iff_not];omega
      obtain rfl:=Hsat.out.addr (by omega)
      obtain⟨s,hx⟩:∃ s,im.syms[j]? =some s:=⟨_,List.getElem?_eq_getElem hj⟩
      have He:=Lib.hid (entryB_at (b:=b) hx)
      obtain⟨hok,g0',g1',g2',g3',g4',g5',g6',g7',g8'⟩:=(Hsat.out.below B2.out).sym9 j s hx
      have hnl:=hok.name
      have hrange:=hashB_range s.name
      have Hlt:∀ {p:Addr} {v:Value},w2.cell? p=some v→wr.cell? p=some v:=fun {p v} h=>(Hbi.out.cell (World.block_lt_of_cell? _ _ h)).trans h
      have m0:=fun y:Later wr=>y.cell (Hlt g0')
      have m1:=fun y:Later wr=>y.cell (Hlt g1')
      have m2:=fun y:Later wr=>y.cell (Hlt g2')
      have m3:=fun y:Later wr=>y.cell (Hlt g3')
      have m4:=fun y:Later wr=>y.cell (Hlt g4')
      have m5:=fun y:Later wr=>y.cell (Hlt g5')
      have m6:=fun y:Later wr=>y.cell (Hlt g6')
      have m7:=fun y:Later wr=>y.cell (Hlt g7')
      have m8:=fun y:Later wr=>y.cell (Hlt g8')
      have HS:=Lib.hid (fun w'=>vseen_any w' s)
      have HH:=Lib.hid (fun w'=>tbucket_any w' (some ⟨bb,boff,none⟩) im.buckets.length bcap (.slice wa im.words.length wc) im.shift s.name hnl p2 p3)
      have HA:=Lib.hid (fun w'=>shash_any w' s.name hnl)
      have HL:=Lib.hid (fun (w':World) (h:Below w2.heap.size w2 w')=>slacks_any w' (.slice wa im.words.length wc) im.words im.shift (hashB s.name).toNat ((Hw.out.below (B2.out.trans (h.mono (by omega)))).mono (by have:=h.size;omega)) Hr.out (by omega) Hsv.out)
      rw [Int.toNat_of_nonneg hrange.1]at HL
      clear g0' g1' g2' g3' g4' g5' g6' g7' g8' Hlt hx hok
      generalize hashB s.name=hh at *
      generalize homeL s.name im.buckets.length=hm at *
      cases hsn:seenB s with
      | false=>
       have Hn:=Lib.hid (HnoC.out (chB_bad (by rw [He.out,hsn];rfl)))
       rw [hsn]at HS
       clear hsn
       go_wp2_with fail
       refine wp_region_later (by kernel_rfl) (by kernel_rfl) ?_
       repeat (go_big_quiet_step (first | (go_at_call 88;exact Later.call _ (HS.out _))))
       refine wpQuiet_nil ?_
       rintro _ ⟨⟨wq,hq⟩,rfl⟩
       try simp only at hq
       have Hq:=Lib.hid hq
       clear hq
       go_wp2
       go_ret
       exact⟨by rw [Hn.out];rfl,B2.out.trans ((Hbi.out.trans (Hq.out.mono (by omega))).mono (by omega))⟩
      | true=>
       rw [hsn]at HS He
       clear hsn
       by_cases h4:hm=b
       case neg=>
        have Hn:=Lib.hid (HnoC.out (chB_bad (by rw [He.out,decide_eq_false (p:=hm=b) h4];rfl)))
        have hd4:((hm:Int) != (b:Int))=true:=by rw [bne_iff_ne];omega
        go_wp2_with fail
        refine wp_region_later (by kernel_rfl) (by kernel_rfl) ?_
        repeat (go_big_quiet_step (first | (go_at_call 88;exact Later.call _ (HS.out _)) | (go_at_call 54;exact Later.call _ (HH.out _))))
        refine wpQuiet_nil ?_
        rintro _ ⟨⟨wq,hq⟩,rfl⟩
        try simp only at hq
        have Hq:=Lib.hid hq
        clear hq
        go_wp2
        go_ret
        exact⟨by rw [Hn.out];rfl,B2.out.trans ((Hbi.out.trans (Hq.out.mono (by omega))).mono (by omega))⟩
       have hd4:((hm:Int) != (b:Int))=false:=by rw [bne_eq_false_iff_eq];omega
       go_wp2_with fail
       refine wp_region_later (by kernel_rfl) (by kernel_rfl) ?_
       repeat (go_big_quiet_step (first | (go_at_call 88;exact Later.call _ (HS.out _)) | (go_at_call 54;exact Later.call _ (HH.out _)) | (go_at_call 89;exact Later.call_same _ (HA.out _)) | (go_at_call 94;refine Later.call _ (HL.out _ ?_);exact Hbi.out.trans ((Later.h _).mono (by omega)))))
       refine wpQuiet_nil ?_
       rintro _ ⟨⟨wq,hq⟩,rfl⟩
       try simp only at hq
       have Hq:=Lib.hid hq
       clear hq l0 l1 l2 m0 m1 m2 m3 m4 m5 m6 m7 m8 HS HH HA HL
       cases hlk:lacksB im.words im.shift hh with
       | true=>
        have Hn:=Lib.hid (HnoC.out (chB_bad (by rw [He.out,hlk];simp)))
        clear hlk
        go_wp2
        go_ret
        exact⟨by rw [Hn.out];rfl,B2.out.trans ((Hbi.out.trans (Hq.out.mono (by omega))).mono (by omega))⟩
       | false=>
        have Hy:Hid (chB im b (-1) c=chB im b (j:Int) (c.drop (k+1))):=Lib.hid (by rw [Hcx.out,Hdi.out,chB_ok h1 (by rw [He.out,hlk,decide_eq_true (p:=hm=b) h4];rfl)])
        clear hlk
        go_wp2
        go_roundw
        case rel=>exact⟨k+1,(j:Int),by go_num,by omega,by go_num,rfl,by omega,by omega,by omega,Hy.out,Hbi.out.trans (Hq.out.mono (by omega))⟩
        case measure=>simp [intOf];omega
     ·have Hcc:Hid (chB im b (-1) c=true):=Lib.hid (by rw [Hcx.out,List.drop_eq_nil_of_le (by omega)];rfl)
      have hkl:k=c.length:=by omega
      have Hck:Hid (k=c.length):=Lib.hid hkl
      clear hkl c0 c1 c2
      go_wp2
      go_roundw
      case rel=>exact⟨b+1,M+k,by go_num,by omega,by first | rfl | go_num,by rw [Hsum.out,← HM.out,Hck.out],by omega,by rw [Hch.out,Hdc.out,chsB_ok Hcc.out],Hbi.out⟩
      case measure=>simp [intOf];omega
   ·have Hcs:Hid (chsB im 0 im.buckets=true):=Lib.hid (by rw [Hch.out,List.drop_eq_nil_of_le (by omega)];rfl)
    have Hsu:Hid (M=(lensB im).sum):=Lib.hid (by rw [HM.out,List.take_of_length_le (by simp [lensB];omega)])
    have HR:Hid (tableB im=decide (M=(seenIx im.syms).length)):=Lib.hid (by rw [HT.out,Hcs.out,Hsv.out,Hsu.out,decide_eq_true (p:=im.syms.length≤512) p1,decide_eq_true (p:=1≤im.buckets.length) p2,decide_eq_true (p:=im.buckets.length≤512) p3];simp)
    have HO:=Lib.hid (fun h=>tableErr_ok (im:=im) h)
    have hsl:(seenIx im.syms).length≤512:=by have:=seenK_le im.syms im.syms.length;rw [seenIx];omega
    clear F4
    go_wp2_with fail
    refine(thashes_any wr _ im.syms ((Hs.out.below (B2.out.trans (Hbel.out.mono (by omega)))).mono (by omega)) p1).mono ?_
    rintro e w3 ⟨r,l,rfl,hown,hown2,hb3⟩
    have B3:=Lib.hid ((B2.out.trans (Hbel.out.mono (by omega))).trans (hb3.mono (by omega)))
    obtain⟨oa,oc,rfl⟩:=hown.form
    obtain⟨pa,pc,rfl⟩:=hown2.form
    rw [toInts_len]
    clear hown hown2 hb3
    generalize (seenIx im.syms).length=N at *
    by_cases hMN:M=N
    ·have Hn:=Lib.hid (HO.out (by rw [HR.out];simp [hMN]))
     have hd:((M:Int) != (N:Int))=false:=by rw [bne_eq_false_iff_eq];omega
     go_wp2
     go_ret
     exact⟨by rw [Hn.out];rfl,B3.out⟩
    ·have Hn:=Lib.hid (Hbad.out (by rw [HR.out];simp [hMN]))
     have hd:((M:Int) != (N:Int))=true:=by rw [bne_iff_ne];omega
     go_wp2
     go_ret
     exact⟨by rw [Hn.out];rfl,B3.out⟩
end Go.Proofs.Ytpomdoliblilfaa
