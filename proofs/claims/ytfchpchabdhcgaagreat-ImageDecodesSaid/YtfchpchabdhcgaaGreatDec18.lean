/- Lemmas. -/
import Derived.Test.YtfchpchabdhcgaaGreatDec17
set_option linter.unusedVariables false
set_option linter.unusedSimpArgs false
set_option maxHeartbeats 64000000
set_option maxRecDepth 100000
namespace Go.Proofs.YtfchpchabdhcgaaGreat
open Go.RowKit
theorem tbucket_any (w:World) (ba:Option Addr) (n bc:Nat) (vw:Value) (s:Int) (p:List UInt8) (hp:p.length≤9223372036854775807) (h1:1≤n) (h2:n≤512):
  Calls Tryz.prog 78 #[.agg #[.slice ba n bc,vw,.int .i64 s],.string ⟨p.toArray⟩] w fun e w'=>e=.returned (.int .i64 (homeL p n))∧Below w.heap.size w w':=by
 have hr:=hashB_range p
 have hh:=Lib.hid (homeL_int p n)
 have hn0:((n:Int)==0)=false:=by rw [beq_eq_false_iff_ne];omega
 have HJ:=Lib.hid (fun w=>shash_any w p hp)
 have Hb:=Lib.hid ((Below.refl w.heap.size w).alloc (Nat.le_refl _) (.cells #[.slice ba n bc,vw,.int .i64 s] 35 (0,0)))
 generalize hashB p=g at *
 have ht:g.tmod (n:Int)=g%(n:Int):=Int.tmod_eq_emod_of_nonneg hr.1
 have hm0:0≤g%(n:Int):=Int.emod_nonneg _ (by omega)
 have hm1:g%(n:Int)<n:=Int.emod_lt_of_pos _ (by omega)
 have hnn:IntKind.u32.wrap (n:Int)=(n:Int):=by rw [IntKind.wrap];simp [IntKind.bits,IntKind.signed];omega
 go_enter Tryz.func78,Tryz.ntmps78
 go_wp2_with fail
 go_quiet ((go_at_call 80;exact Calls.quiet_of_same (HJ.out _)))
 go_wp2
 go_ret
 exact⟨by rw [hh.out];rfl,below_drewN Hb.out _⟩
end Go.Proofs.YtfchpchabdhcgaaGreat
