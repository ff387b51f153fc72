/- Lemmas. -/
import Derived.Test.YtfchpchabdhcgaaGreatDec13
import Derived.Deep.QuietTactic
import Derived.BigQuiet
set_option linter.unusedVariables false
set_option linter.unusedSimpArgs false
set_option maxHeartbeats 64000000
set_option maxRecDepth 100000
namespace Go.Proofs.YtfchpchabdhcgaaGreat
open Go.RowKit
def powB (n:Nat):Bool:=decide (n=1)||decide (n=2)||decide (n=4)||decide (n=8)||decide (n=16)||decide (n=32)||decide (n=64)
theorem sieveB_pow (ws:List Int) (s:Int):sieveB ws s=(powB ws.length&&decide (1≤s)&&decide (s≤31)):=rfl
theorem powB_bits (n:Nat) (h0:1≤n) (h1:n≤64):(bits BinOp.and .i64 (n:Int) ((n:Int)-1) != 0)= !powB n:=by
 have h:∀ m:Nat,m≤64→1≤m→(bits BinOp.and .i64 (m:Int) ((m:Int)-1) != 0)= !powB m:=by decide +kernel
 exact h n h1 h0
theorem powB_small (n:Nat) (h:¬ (1≤n∧n≤64)):powB n=false:=by simp [powB];omega
def sieveErr (ws:List Int) (s:Int):Int:=if sieveB ws s then 0 else 20
theorem sieveErr_ok {ws:List Int} {s:Int} (h:powB ws.length=true) (h1:1≤s) (h2:s≤31):sieveErr ws s=0:=by rw [sieveErr,sieveB_pow,h];simp [h1,h2]
theorem sieveErr_no {ws:List Int} {s:Int} (h:¬ (powB ws.length=true∧1≤s∧s≤31)):sieveErr ws s=20:=by
 have:sieveB ws s=false:=by
  rw [sieveB_pow]
  cases hp:powB ws.length<;>simp
  by_cases h1:1≤s
  ·exact fun _=>by
    by_cases h2:s≤31
    ·exact absurd ⟨hp,h1,h2⟩ h
    ·omega
  ·intro h3;omega
 rw [sieveErr,this];rfl
theorem sright_any (w:World) (ws:List Int) (a:Option Addr) (c:Nat) (s:Int) (hz:ws.length≤9223372036854775807):
  Calls Tryz.prog 76 #[.agg #[.slice a ws.length c,.int .i64 s]] w fun e w'=>e=.returned (.int .i64 (sieveErr ws s))∧Below w.heap.size w w':=by
 have Hb:=Lib.hid ((Below.refl w.heap.size w).alloc (Nat.le_refl _) (.cells #[.slice a ws.length c,.int .i64 s] 33 (0,0)))
 by_cases h1:1≤ws.length
 case neg=>
  have Hr:=Lib.hid (sieveErr_no (ws:=ws) (s:=s) (fun h=>by have:=h.1;rw [powB_small _ (by omega)]at this;cases this))
  have hl:ws.length<1:=by omega
  go_enter Tryz.func76,Tryz.ntmps76
  go_wp2
  all_goals go_ret
  all_goals exact⟨by rw [Hr.out];rfl,Hb.out⟩
 by_cases h2:ws.length≤64
 case neg=>
  have Hr:=Lib.hid (sieveErr_no (ws:=ws) (s:=s) (fun h=>by have:=h.1;rw [powB_small _ (by omega)]at this;cases this))
  have hl:¬ ws.length<1:=by omega
  have hl2:64<ws.length:=by omega
  go_enter Tryz.func76,Tryz.ntmps76
  go_wp2
  all_goals go_ret
  all_goals exact⟨by rw [Hr.out];rfl,Hb.out⟩
 have hl:¬ ws.length<1:=by omega
 have hl2:¬ 64<ws.length:=by omega
 have hbits:=powB_bits ws.length h1 h2
 cases hp:powB ws.length with
 | false=>
  have Hr:=Lib.hid (sieveErr_no (ws:=ws) (s:=s) (fun h=>by have:=h.1;rw [hp]at this;cases this))
  rw [hp]at hbits
  clear hp
  simp only [Bool.not_false]at hbits
  go_enter Tryz.func76,Tryz.ntmps76
  go_wp2
  all_goals go_ret
  all_goals exact⟨by rw [Hr.out];rfl,Hb.out⟩
 | true=>
  have Hy:=Lib.hid (fun h3 h4=>sieveErr_ok (ws:=ws) (s:=s) hp h3 h4)
  have Hn:=Lib.hid (fun h3=>sieveErr_no (ws:=ws) (s:=s) h3)
  rw [hp]at hbits
  clear hp
  simp only [Bool.not_true]at hbits
  by_cases h3:s<1
  ·have Hr:=Lib.hid (Hn.out (fun h=>by omega))
   go_enter Tryz.func76,Tryz.ntmps76
   go_wp2
   all_goals go_ret
   all_goals exact⟨by rw [Hr.out];rfl,Hb.out⟩
  by_cases h4:31<s
  ·have Hr:=Lib.hid (Hn.out (fun h=>by omega))
   go_enter Tryz.func76,Tryz.ntmps76
   go_wp2
   all_goals go_ret
   all_goals exact⟨by rw [Hr.out];rfl,Hb.out⟩
  ·have Hr:=Lib.hid (Hy.out (by omega) (by omega))
   go_enter Tryz.func76,Tryz.ntmps76
   go_wp2
   all_goals go_ret
   all_goals exact⟨by rw [Hr.out];rfl,Hb.out⟩
end Go.Proofs.YtfchpchabdhcgaaGreat
