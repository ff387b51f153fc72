/- Lemmas. -/
import Derived.Test.YtfchpchabdhcgaaGreatDec15
set_option linter.unusedVariables false
set_option linter.unusedSimpArgs false
set_option maxHeartbeats 64000000
set_option maxRecDepth 100000
namespace Go.Proofs.YtfchpchabdhcgaaGreat
open Go.RowKit
theorem homeL_int (p:List UInt8) (n:Nat):((homeL p n:Nat):Int)=hashB p%(n:Int):=by
 have h:=(hashB_range p).1
 rw [homeL,Int.natCast_emod,Int.toNat_of_nonneg h]
theorem homeL_lt (p:List UInt8) (n:Nat) (h:1≤n):homeL p n<n:=Nat.mod_lt _ (by omega)
theorem jhome_any (w:World) (p:List UInt8) (n:Nat) (hp:p.length≤9223372036854775807) (h1:1≤n) (h2:n≤512):
  Calls Tryz.prog 68 #[.string ⟨p.toArray⟩,.int .i64 n] w fun e w'=>e=.returned (.int .i64 (homeL p n))∧w'=w:=by
 have hr:=hashB_range p
 have hh:=Lib.hid (homeL_int p n)
 have hlt:=homeL_lt p n h1
 have hn0:((n:Int)==0)=false:=by rw [beq_eq_false_iff_ne];omega
 have HJ:=jhash_any w p hp
 generalize hashB p=g at *
 have ht:g.tmod (n:Int)=g%(n:Int):=Int.tmod_eq_emod_of_nonneg hr.1
 have hm0:0≤g%(n:Int):=Int.emod_nonneg _ (by omega)
 have hm1:g%(n:Int)<n:=Int.emod_lt_of_pos _ (by omega)
 have hg:IntKind.u64.wrap g=g:=IntWalk.u64_in _ ⟨by omega,by omega⟩
 have hnn:IntKind.u64.wrap (n:Int)=(n:Int):=IntWalk.u64_in _ ⟨by omega,by omega⟩
 go_enter Tryz.func68,Tryz.ntmps68
 go_wp2_with fail
 refine HJ.mono ?_
 rintro e w2 ⟨rfl,rfl⟩
 go_wp2
 go_ret
 refine⟨?_,rfl⟩
 rw [hh.out]
 rfl
theorem jpower_any (w:World) (n:Nat) (h:n≤63):
  Calls Tryz.prog 109 #[.int .u32 n] w fun e w'=>e=.returned (.int .u64 ((2 ^ n:Nat):Int))∧w'=w:=by
 go_enter Tryz.func109,Tryz.ntmps109
 go_wp2
 go_loop [3,4] (fun x i=>∃ k:Nat,k≤n∧i=.int .u32 k∧x=.int .u64 ((2 ^ k:Nat):Int)) (fun _ i=>n-(intOf i).toNat)
 case atStart=>exact⟨0,Nat.zero_le _,rfl,rfl⟩
 case round=>
  obtain⟨k,hk,rfl,rfl⟩:=hrel
  by_cases hlt:k<n
  ·have hP:2 ^ k≤4611686018427387904:=Nat.le_trans (Nat.pow_le_pow_right (by decide) (show k≤62 by omega)) (by decide)
   have Hn:=Lib.hid (Nat.pow_succ 2 k)
   generalize 2 ^ k=P at *
   go_wp2
   go_round
   case rel=>exact⟨k+1,by omega,by go_num,by rw [Hn.out];go_num⟩
   case measure=>simp [intOf];omega
  ·have He:Hid (2 ^ k=2 ^ n):=Lib.hid (by rw [show k=n by omega])
   generalize 2 ^ k=P at *
   go_wp2
   go_ret
   refine⟨?_,rfl⟩
   show Ending.returned (.int .u64 (P:Int))=_
   rw [He.out,Int.natCast_pow]
   rfl
theorem jshifted_any (w:World) (h:Nat) (n:Nat) (hh:h<4294967296) (hn:n≤64):
  Calls Tryz.prog 103 #[.int .u32 h,.int .i64 n] w fun e w'=>e=.returned (.int .u32 ((h/2 ^ n:Nat):Int))∧w'=w:=by
 go_enter Tryz.func103,Tryz.ntmps103
 go_wp2
 go_loop [0,5] (fun x i=>∃ k:Nat,k≤n∧i=.int .i64 k∧x=.int .u32 ((h/2 ^ k:Nat):Int)) (fun _ i=>n-(intOf i).toNat)
 case atStart=>exact⟨0,Nat.zero_le _,rfl,by simp⟩
 case round=>
  obtain⟨k,hk,rfl,rfl⟩:=hrel
  have hP:h/2 ^ k<4294967296:=Nat.lt_of_le_of_lt (Nat.div_le_self _ _) hh
  by_cases hlt:k<n
  ·have Hn:Hid (h/2 ^ (k+1)=h/2 ^ k/2):=Lib.hid (by rw [Nat.pow_succ,Nat.div_div_eq_div_mul])
   generalize h/2 ^ k=P at *
   go_wp2
   go_round
   case rel=>exact⟨k+1,by omega,by go_num,by rw [Hn.out];go_num⟩
   case measure=>simp [intOf];omega
  ·have He:Hid (h/2 ^ k=h/2 ^ n):=Lib.hid (by rw [show k=n by omega])
   generalize h/2 ^ k=P at *
   go_wp2
   go_ret
   refine⟨?_,rfl⟩
   show Ending.returned (.int .u32 (P:Int))=_
   rw [He.out,Int.natCast_ediv,Int.natCast_pow]
   rfl
end Go.Proofs.YtfchpchabdhcgaaGreat
