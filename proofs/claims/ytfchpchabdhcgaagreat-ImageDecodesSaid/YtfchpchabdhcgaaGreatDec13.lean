/- Lemmas. -/
import Derived.Test.YtfchpchabdhcgaaGreatDec7
import Derived.IntWalk
set_option linter.unusedVariables false
set_option linter.unusedSimpArgs false
set_option maxHeartbeats 64000000
set_option maxRecDepth 100000
namespace Go.Proofs.YtfchpchabdhcgaaGreat
open Go.RowKit
theorem hashL_app:∀ (a b:List UInt8) (h:Int),hashL h (a++b)=hashL (hashL h a) b
 | [],_,_=>rfl
 | c :: a,b,h=>hashL_app a b _
theorem hashL_snoc (h:Int) (p:List UInt8) (k:Nat) (c:UInt8) (hk:k<p.length) (hc:p[k]=c):hashL h (p.take (k+1))=(33*hashL h (p.take k)+c.toNat)%4294967296:=by
 rw [List.take_succ_eq_append_getElem hk,hashL_app,hc];rfl
theorem hashL_range:∀ (l:List UInt8) (h:Int),0≤h∧h<4294967296→0≤hashL h l∧hashL h l<4294967296
 | [],_,hh=>hh
 | c :: l,h,hh=>hashL_range l _ ⟨Int.emod_nonneg _ (by decide),Int.emod_lt_of_pos _ (by decide)⟩
theorem more_wrap (hh:Int) (c:UInt8) (h:0≤hh∧hh<4294967296):(IntKind.u64.wrap (hh*33+IntKind.u64.wrap (c.toNat:Int))).tmod 4294967296=(33*hh+(c.toNat:Int))%4294967296:=by
 have hc:=c.toNat_lt
 have h1:IntKind.u64.wrap (c.toNat:Int)=(c.toNat:Int):=IntWalk.u64_in _ ⟨by omega,by omega⟩
 have h2:IntKind.u64.wrap (hh*33+(c.toNat:Int))=hh*33+(c.toNat:Int):=IntWalk.u64_in _ ⟨by omega,by omega⟩
 rw [h1,h2,Int.tmod_eq_emod_of_nonneg (by omega),Int.mul_comm]
theorem hashB_range (s:List UInt8):0≤hashB s∧hashB s<4294967296:=hashL_range s 5381 (by decide)
theorem shash_any (w:World) (p:List UInt8) (hp:p.length≤9223372036854775807):
  Calls Tryz.prog 80 #[.string ⟨p.toArray⟩] w fun e w'=>e=.returned (.int .u32 (hashB p))∧w'=w:=by
 have hsz:=size_mk p
 go_enter Tryz.func80,Tryz.ntmps80
 go_wp2
 go_loop [3,7] (fun h i=>∃ k:Nat,k≤p.length∧i=.int .i64 k∧h=.int .u32 (hashL 5381 (p.take k))) (fun _ i=>p.length-(intOf i).toNat)
 case atStart=>exact⟨0,Nat.zero_le _,rfl,rfl⟩
 case round=>
  obtain⟨k,hk,rfl,rfl⟩:=hrel
  by_cases hlt:k<p.length
  ·obtain⟨c,hcx⟩:∃ c,p[k]=c:=⟨_,rfl⟩
   have hx:(⟨p.toArray⟩:ByteArray)[k]'(by omega)=c:=hcx
   have Hs:=Lib.hid (hashL_snoc 5381 p k c hlt hcx)
   have hr:=hashL_range (p.take k) 5381 (by decide)
   clear hcx
   generalize hashL 5381 (p.take k)=hh at *
   go_wp2
   go_round
   case rel=>exact⟨k+1,by omega,by go_num,by rw [Hs.out];go_num⟩
   case measure=>simp [intOf];omega
  ·have He:Hid (hashL 5381 (p.take k)=hashB p):=Lib.hid (by rw [List.take_of_length_le (by omega)];rfl)
   go_wp2
   go_ret
   exact⟨by rw [He.out];rfl,rfl⟩
theorem jmore_any (w:World) (h0:Int) (p:List UInt8) (hp:p.length≤9223372036854775807) (hh0:0≤h0∧h0<4294967296):
  Calls Tryz.prog 104 #[.int .u32 h0,.string ⟨p.toArray⟩] w fun e w'=>e=.returned (.int .u32 (hashL h0 p))∧w'=w:=by
 have hsz:=size_mk p
 go_enter Tryz.func104,Tryz.ntmps104
 go_wp2
 go_loop [5,6] (fun h i=>∃ k:Nat,k≤p.length∧i=.int .i64 k∧h=.int .u64 (hashL h0 (p.take k))) (fun _ i=>p.length-(intOf i).toNat)
 case atStart=>exact⟨0,Nat.zero_le _,rfl,by go_num⟩
 case round=>
  obtain⟨k,hk,rfl,rfl⟩:=hrel
  have hr:=hashL_range (p.take k) h0 hh0
  by_cases hlt:k<p.length
  ·obtain⟨c,hcx⟩:∃ c,p[k]=c:=⟨_,rfl⟩
   have hx:(⟨p.toArray⟩:ByteArray)[k]'(by omega)=c:=hcx
   have Hs:=Lib.hid (hashL_snoc h0 p k c hlt hcx)
   clear hcx
   generalize hashL h0 (p.take k)=hh at *
   go_wp2
   go_round
   case rel=>exact⟨k+1,by omega,by go_num,by rw [Hs.out,← more_wrap hh c hr]⟩
   case measure=>simp [intOf];omega
  ·have He:Hid (hashL h0 (p.take k)=hashL h0 p):=Lib.hid (by rw [List.take_of_length_le (by omega)])
   generalize hashL h0 (p.take k)=hh at *
   go_wp2
   go_ret
   exact⟨by rw [← He.out];go_num,rfl⟩
theorem jhash_any (w:World) (p:List UInt8) (hp:p.length≤9223372036854775807):
  Calls Tryz.prog 70 #[.string ⟨p.toArray⟩] w fun e w'=>e=.returned (.int .u32 (hashB p))∧w'=w:=by
 go_enter Tryz.func70,Tryz.ntmps70
 go_wp2_with fail
 refine(jmore_any _ 5381 p hp (by decide)).mono ?_
 rintro e w2 ⟨rfl,rfl⟩
 go_wp2
 go_ret
 exact⟨rfl,rfl⟩
end Go.Proofs.YtfchpchabdhcgaaGreat
