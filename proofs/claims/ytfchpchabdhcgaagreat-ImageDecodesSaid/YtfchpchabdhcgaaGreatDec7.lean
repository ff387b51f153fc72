/- Lemmas. -/
import Derived.Test.YtfchpchabdhcgaaGreatDec5
set_option linter.unusedVariables false
set_option linter.unusedSimpArgs false
set_option maxHeartbeats 64000000
set_option maxRecDepth 100000
namespace Go.Proofs.YtfchpchabdhcgaaGreat
open Go.RowKit
theorem symAt_neg (im:ImgL) (i:Int) (h:i<0):symAt im i=none:=by rw [symAt,if_pos h]
theorem symAt_far (im:ImgL) (i:Int) (h:(im.syms.length:Int)≤i):symAt im i=none:=by
 rw [symAt,if_neg (by omega)]
 exact List.getElem?_eq_none (by omega)
theorem symAt_in (im:ImgL) (k:Nat) (s:SymL) (h:im.syms[k]? =some s):symAt im k=some s:=by
 rw [symAt,if_neg (by omega),Int.toNat_natCast];exact h
def noSym:SymL:=⟨[],[],false,0,false,0,false,0,0⟩
def symD (im:ImgL) (i:Int):SymL:=(symAt im i).getD noSym
def symV (im:ImgL) (i:Int):Value:=.tuple #[.agg (symCells (symD im i)).toArray,.bool (symAt im i).isSome]
theorem isym_any (w:World) (v:ImgV) (im:ImgL) (i:Int) (hs:LB kSym (·<w.heap.size) w v.syms im.syms) (hi: -9223372036854775808≤i∧i≤9223372036854775807):
  Calls Tryz.prog 85 #[.agg (imgCells v im),.int .i64 i] w fun e w'=>e=.returned (symV im i)∧Below w.heap.size w w':=by
 unfold imgCells
 obtain⟨sa,sb,soff,scap,hsv,hsm,hsc,hat⟩:=hs.at
 rw [hsv]
 have Hat:=Lib.hid hat
 clear hs hat hsv
 by_cases h1:i<0
 ·have Hv:Hid (symV im i=.tuple #[.agg #[.string ⟨#[]⟩,.string ⟨#[]⟩,.bool false,.int .i64 0,.bool false,.int .i64 0,.bool false,.int .i64 0,.int .i64 0],.bool false]):=Lib.hid (by rw [symV,symD,symAt_neg im i h1];rfl)
  go_enter Tryz.func85,Tryz.ntmps85
  go_wp2
  refine bodyPost_ret (v:=.tuple #[.agg #[.string ⟨#[]⟩,.string ⟨#[]⟩,.bool false,.int .i64 0,.bool false,.int .i64 0,.bool false,.int .i64 0,.int .i64 0],.bool false]) (by simp [results,Tryz.results85,go_sem]) rfl ⟨by rw [Hv.out],((Below.refl _ _).alloc (Nat.le_refl _) _).alloc (by simp) _⟩
 by_cases h2:(im.syms.length:Int)≤i
 ·have Hv:Hid (symV im i=.tuple #[.agg #[.string ⟨#[]⟩,.string ⟨#[]⟩,.bool false,.int .i64 0,.bool false,.int .i64 0,.bool false,.int .i64 0,.int .i64 0],.bool false]):=Lib.hid (by rw [symV,symD,symAt_far im i h2];rfl)
  go_enter Tryz.func85,Tryz.ntmps85
  go_wp2
  refine bodyPost_ret (v:=.tuple #[.agg #[.string ⟨#[]⟩,.string ⟨#[]⟩,.bool false,.int .i64 0,.bool false,.int .i64 0,.bool false,.int .i64 0,.int .i64 0],.bool false]) (by simp [results,Tryz.results85,go_sem]) rfl ⟨by rw [Hv.out],((Below.refl _ _).alloc (Nat.le_refl _) _).alloc (by simp) _⟩
 ·obtain⟨k,rfl⟩:∃ k:Nat,i=k:=⟨i.toNat,by omega⟩
  have hlt:k<im.syms.length:=by omega
  obtain rfl:=Hat.out.addr (by omega)
  obtain⟨s,hx⟩:∃ s,im.syms[k]? =some s:=⟨_,List.getElem?_eq_getElem hlt⟩
  obtain⟨_,g0,g1,g2,g3,g4,g5,g6,g7,g8⟩:=Hat.out.sym9 k s hx
  have Hv:Hid (symV im (k:Int)=.tuple #[.agg #[.string ⟨s.name.toArray⟩,.string ⟨s.version.toArray⟩,.bool s.old,.int .i64 s.kind,.bool s.weak,.int .i64 s.vis,.bool s.defined,.int .i64 s.value,.int .i64 s.size],.bool true]):=Lib.hid (by rw [symV,symD,symAt_in im k s hx];rfl)
  have hsb:=World.block_lt_of_cell? _ _ g0
  clear hx h1 h2
  obtain⟨name,version,old,kind,weak,vis,defined,value,size⟩:=s
  simp only at *
  go_enter Tryz.func85,Tryz.ntmps85
  go_wp2
  refine bodyPost_ret (v:=.tuple #[.agg #[.string ⟨name.toArray⟩,.string ⟨version.toArray⟩,.bool old,.int .i64 kind,.bool weak,.int .i64 vis,.bool defined,.int .i64 value,.int .i64 size],.bool true]) (by simp [results,Tryz.results85,go_sem]) rfl ⟨by rw [Hv.out],((Below.refl _ _).alloc (Nat.le_refl _) _).alloc (by simp) _⟩
theorem ismall_any (w:World) (n:Int):
  Calls Tryz.prog 82 #[.int .i64 n] w fun e w'=>e=.returned (.bool (decide (-4294967296≤n)&&decide (n≤4294967296)))∧w'=w:=by
 by_cases h1: -4294967296≤n
 ·have hd1:decide (-4294967296≤n)=true:=by rw [decide_eq_true_eq];exact h1
  go_enter Tryz.func82,Tryz.ntmps82
  go_wp2
  go_ret
  exact⟨ret_bool' (by simp [h1]),rfl⟩
 ·have hd1:decide (-4294967296≤n)=false:=by rw [decide_eq_false_iff_not];exact h1
  go_enter Tryz.func82,Tryz.ntmps82
  go_wp2
  go_ret
  exact⟨ret_bool' (by simp [h1]),rfl⟩
theorem upL_same (n:Int) (h0:0≤n) (h:n%64=0):upL n=n:=by unfold upL;omega
theorem upL_next (n:Int) (h0:0≤n) (h:n%64≠0):upL n=n-n%64+64:=by unfold upL;omega
theorem jup_any (w:World) (n:Int) (h0:0≤n) (h1:n≤1000000):
  Calls Tryz.prog 91 #[.int .i64 n] w fun e w'=>e=.returned (.int .i64 (upL n))∧w'=w:=by
 by_cases h:n%64=0
 ·have hb:(n%64==0)=true:=by rw [beq_iff_eq];exact h
  have Hr:=Lib.hid (upL_same n h0 h)
  clear h
  go_enter Tryz.func91,Tryz.ntmps91
  go_wp2
  go_ret
  exact⟨by rw [Hr.out];rfl,rfl⟩
 ·have hb:(n%64==0)=false:=by rw [beq_eq_false_iff_ne];exact h
  have Hr:=Lib.hid (upL_next n h0 h)
  clear h
  go_enter Tryz.func91,Tryz.ntmps91
  go_wp2
  go_ret
  exact⟨by rw [Hr.out];rfl,rfl⟩
end Go.Proofs.YtfchpchabdhcgaaGreat
