/- played: a store behind some acts; texts -/
import Derived.Test.YtgoecmfjidcieaaDoorFK7
namespace Go.Proofs.YtgoecmfjidcieaaDoor
set_option linter.unusedVariables false
set_option linter.unusedSimpArgs false
open Go.RowKit

def ActAt (w : World) (blk off : Nat) (x : ActL) : Prop :=
  ∃ bv, w.cell? ⟨blk, off, none⟩ = some (.int .i64 x.what) ∧ w.cell? ⟨blk, off + 1, none⟩ = some (.string ⟨x.a.toArray⟩) ∧ w.cell? ⟨blk, off + 2, none⟩ = some (.string ⟨x.b.toArray⟩) ∧ w.cell? ⟨blk, off + 3, none⟩ = some bv ∧ BytesV w bv x.bytes ∧ x.bytes.length ≤ 140737488355328
def Acts (w : World) (v : Value) (l : List ActL) : Prop :=
  ∃ a blk off cap, v = .slice a l.length cap ∧ l.length ≤ 4611686018427387000 ∧ (0 < l.length → a = some ⟨blk, off, none⟩) ∧ ∀ i x, l[i]? = some x → ActAt w blk (off + i * 4) x
theorem ActAt.below {w w' : World} {blk off : Nat} {x : ActL} (h : ActAt w blk off x) (hb : Below w.heap.size w w') : ActAt w' blk off x := by
  obtain ⟨bv, h0, h1, h2, h3, h4, h5⟩ := h
  have hk : ∀ j v, w.cell? ⟨blk, j, none⟩ = some v → w'.cell? ⟨blk, j, none⟩ = some v := fun j v hv => (hb.cell (p := ⟨blk, j, none⟩) (World.block_lt_of_cell? _ _ hv)).trans hv
  exact ⟨bv, hk _ _ h0, hk _ _ h1, hk _ _ h2, hk _ _ h3, h4.below hb, h5⟩
theorem Acts.below {w w' : World} {v : Value} {l : List ActL} (h : Acts w v l) (hb : Below w.heap.size w w') : Acts w' v l := by
  obtain ⟨a, blk, off, cap, h1, h2, h3, h4⟩ := h
  exact ⟨a, blk, off, cap, h1, h2, h3, fun i x hx => (h4 i x hx).below hb⟩
theorem play_snoc (st : StL) (l : List ActL) (x : ActL) : playL st (l ++ [x]) = (doesL (playL st l) x).2 := by simp [playL]

set_option maxHeartbeats 4000000 in
set_option maxRecDepth 100000 in
theorem played_any (m : Int) (w : World) (v : Value) (l : List ActL) (hm : w.cell? ⟨0, 0, none⟩ = some (.int .i64 m)) (hv : Acts w v l) :
    Calls Tryd.prog 13 #[v] w fun e w' => ∃ s b, e = .returned (.pointer (some ⟨s, 0, none⟩)) ∧ Made w s b w' (playL StL.new l) := by
  obtain ⟨a, blk, off, cap, rfl, hlen, ha, hat⟩ := hv
  have Hm := Lib.hid hm
  have Hat := Lib.hid hat
  have HN := Lib.hid (new_any w)
  clear hm hat
  obtain ⟨n, hn⟩ : ∃ n, n = l.length := ⟨_, rfl⟩
  have Hn := Lib.hid hn
  rw [← hn] at hlen ha ⊢
  clear hn
  go_enter Tryd.func13, Tryd.ntmps13
  go_wp2_with fail
  refine HN.out.mono ?_
  rintro e w1 ⟨s, b, rfl, hS, hs, hb, hbel⟩
  have HMd := Lib.hid (show Made w s b w1 StL.new from ⟨hS, hbel, hs, hb⟩)
  clear hS hbel
  go_wp2
  go_loopw [4] (fun i wr => ∃ k : Nat, i = .int .i64 k ∧ k ≤ n ∧ Made w s b wr (playL StL.new (l.take k))) (fun i _ => n - (intOf i).toNat)
  case atStart => exact ⟨0, rfl, Nat.zero_le _, HMd.out⟩
  case round =>
    clear HMd
    obtain ⟨k, rfl, hk, hmd⟩ := hrel
    have Hmd := Lib.hid hmd
    by_cases hlt : k < n
    · obtain rfl := ha (by omega)
      obtain ⟨x, hx⟩ : ∃ x, l[k]? = some x := ⟨_, List.getElem?_eq_getElem (by rw [← Hn.out]; exact hlt)⟩
      have Htk : Hid (l.take (k + 1) = l.take k ++ [x]) := Lib.hid (by rw [List.take_add_one, hx]; rfl)
      have hA := Hat.out k x hx
      have hbd : Below w.heap.size w wr := hmd.bel
      obtain ⟨bv, h0, h1, h2, h3, h4, h5⟩ := hA.below hbd
      have hlast : (playL StL.new (l.take k)).last < 4611686018427387904 := by
        have h1 := play_last StL.new (l.take k)
        have h2 : (l.take k).length ≤ k := by rw [List.length_take]; exact Nat.min_le_left _ _
        have h3 : StL.new.last = 0 := rfl
        omega
      have HD := Lib.hid (does_any m wr s b _ x bv (hmd.cell Hm.out) hmd.sm (OkA.new.play _) hlast h4 h5)
      have hk2 : (k : Int) < (n : Int) := by omega
      clear hmd hx hA hbd h4 h5 hlast
      go_wp2_with fail
      refine HD.out.mono ?_
      rintro e w2 ⟨rfl, hS, hT⟩
      have HM2 := Lib.hid (Hmd.out.turn hT hS)
      clear hS hT h0 h1 h2 h3
      go_wp2
      go_roundw
      case rel => exact ⟨k + 1, by go_num, by omega, by rw [Htk.out, play_snoc]; exact HM2.out⟩
      case measure => simp [intOf]; omega
    · have hkn : k = n := by omega
      have HR : Hid (Made w s b wr (playL StL.new l)) := Lib.hid (by rw [List.take_of_length_le (by have := Hn.out; omega)] at hmd; exact hmd)
      clear hmd
      go_wp2
      go_ret
      exact ⟨_, _, rfl, HR.out⟩

set_option maxHeartbeats 4000000 in
set_option maxRecDepth 100000 in
theorem texts_same (w : World) (v1 v2 : Value) (l : List (List UInt8)) (h1 : Strs w v1 l) (h2 : Strs w v2 l) (hl : l.length ≤ 1000000) :
    Calls Tryd.prog 25 #[v1, v2] w fun e w' => e = .returned (.bool true) ∧ Below w.heap.size w w' := by
  obtain ⟨a1, b1, o1, c1, rfl, hm1, ha1, _, hc1⟩ := h1
  obtain ⟨a2, b2, o2, c2, rfl, hm2, ha2, _, hc2⟩ := h2
  have Hc1 := Lib.hid hc1
  have Hc2 := Lib.hid hc2
  clear hc1 hc2
  obtain ⟨n, hn⟩ : ∃ n, n = l.length := ⟨_, rfl⟩
  have Hn := Lib.hid hn
  rw [← hn] at hm1 ha1 hm2 ha2 hl Hc1 Hc2 ⊢
  clear hn
  have hnn : ((n : Int) != (n : Int)) = false := by simp
  go_enter Tryd.func25, Tryd.ntmps25
  go_wp2
  go_loopw [5] (fun i wr => ∃ k : Nat, i = .int .i64 k ∧ k ≤ n ∧ Below w.heap.size w wr) (fun i _ => n - (intOf i).toNat)
  case atStart => exact ⟨0, rfl, Nat.zero_le _, Below.refl _ _⟩
  case round =>
    obtain ⟨k, rfl, hk, hbel⟩ := hrel
    have Hbel := Lib.hid hbel
    by_cases hlt : k < n
    · obtain rfl := ha1 (by omega)
      obtain rfl := ha2 (by omega)
      have g1 := Hc1.out k hlt
      have g2 := Hc2.out k hlt
      have e1 : wr.cell? ⟨b1, o1 + k, none⟩ = some (.string ⟨(snth l k).toArray⟩) := (hbel.cell (p := ⟨b1, o1 + k, none⟩) (World.block_lt_of_cell? _ _ g1)).trans g1
      have e2 : wr.cell? ⟨b2, o2 + k, none⟩ = some (.string ⟨(snth l k).toArray⟩) := (hbel.cell (p := ⟨b2, o2 + k, none⟩) (World.block_lt_of_cell? _ _ g2)).trans g2
      have hk0 : (0 : Int) ≤ (k : Int) := Int.natCast_nonneg _
      have hk2 : (k : Int) < (n : Int) := by omega
      clear hbel g1 g2
      generalize snth l k = t at *
      have ht : (t != t) = false := by simp
      have ht2 : (t == t) = true := by simp
      go_wp2_with fail
      go_quiet (fail)
      have HB2 := Lib.hid (show Below w.heap.size w (wr.drewN nq) from ⟨Hbel.out.os, Hbel.out.tape, Hbel.out.output, Hbel.out.size, Hbel.out.block⟩)
      go_wp2
      go_roundw
      case rel => exact ⟨k + 1, by go_num, by omega, HB2.out⟩
      case measure => simp [intOf]; omega
    · clear hbel
      go_wp2
      go_ret
      exact ⟨rfl, Hbel.out⟩

end Go.Proofs.YtgoecmfjidcieaaDoor
