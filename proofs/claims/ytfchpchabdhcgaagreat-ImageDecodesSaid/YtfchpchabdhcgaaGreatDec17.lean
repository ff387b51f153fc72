/- Lemmas. -/
import Derived.Test.YtfchpchabdhcgaaGreatDec16
set_option linter.unusedVariables false
set_option linter.unusedSimpArgs false
set_option maxHeartbeats 64000000
set_option maxRecDepth 100000
namespace Go.Proofs.YtfchpchabdhcgaaGreat
open Go.RowKit
theorem bitB_yes {m P k:Nat} (hP:P=2 ^ k) (h:m/P%2=1):bitB (m:Int) k=true:=by
 rw [bitB,Int.toNat_natCast,← hP,h];rfl
theorem bitB_no {m P k:Nat} (hP:P=2 ^ k) (h:¬ m/P%2=1):bitB (m:Int) k=false:=by
 rw [bitB,Int.toNat_natCast,← hP,beq_eq_false_iff_ne];exact h
theorem jhas_any (w:World) (m k:Nat) (hm:m<18446744073709551616) (hk:k≤63):
  Calls Tryz.prog 108 #[.int .u64 m,.int .u32 k] w fun e w'=>e=.returned (.bool (bitB (m:Int) k))∧w'=w:=by
 have HP:=jpower_any w k hk
 have Hy:=Lib.hid (@bitB_yes m (2 ^ k) k rfl)
 have Hn:=Lib.hid (@bitB_no m (2 ^ k) k rfl)
 have hp:1≤2 ^ k:=Nat.one_le_two_pow
 have hp2:2 ^ k≤9223372036854775808:=Nat.le_trans (Nat.pow_le_pow_right (by decide) hk) (by decide)
 generalize 2 ^ k=P at *
 have hp0:((P:Int)==0)=false:=by rw [beq_eq_false_iff_ne];omega
 have hq:((m/P:Nat):Int)=(m:Int)/(P:Int):=Int.natCast_ediv m P
 have hqb:m/P≤m:=Nat.div_le_self _ _
 generalize m/P=q at *
 go_enter Tryz.func108,Tryz.ntmps108
 go_wp2_with fail
 refine HP.mono ?_
 rintro e w2 ⟨rfl,rfl⟩
 by_cases h1:q%2=1
 ·have Hr:=Lib.hid (Hy.out h1)
  have hd:((m:Int)/(P:Int)%2==1)=true:=by rw [beq_iff_eq];omega
  go_wp2
  go_ret
  exact⟨by rw [Hr.out];rfl,rfl⟩
 ·have Hr:=Lib.hid (Hn.out h1)
  have hd:((m:Int)/(P:Int)%2==1)=false:=by rw [beq_eq_false_iff_ne];omega
  go_wp2
  go_ret
  exact⟨by rw [Hr.out];rfl,rfl⟩
end Go.Proofs.YtfchpchabdhcgaaGreat
