/-
  Contracts of package fuse, more: New, Len.
-/
import Derived.Test.YtpakdcgcgekcfaaDoorProg
import Derived.Test.YtpakdcgcgekcfaaDoorMem
import Derived.Test.YtpakdcgcgekcfaaDoorFuse
import Derived.Test.YtpakdcgcgekcfaaDoorFuse2
import Derived.Deep.LoopGhost
namespace Go.Proofs.YtpakdcgcgekcfaaDoor
open Go.RowKit

namespace Fuse
variable {w w' : World} {p b : Nat} {vs : List Nat} {ls : List Bool}

theorem word_info : (Tryd.prog.info? 129).map (fun i => (i.zero, i.size, i.bytes)) = some (some (.agg #[.int .u32 0, .bool false]), 2, 8) := by kernel_rfl

theorem fz_new (w : World) (n : Nat) (hn : n ≤ 4096) :
    Fz ((w.alloc (.cells (madeCells (#[.int .u32 0, .bool false]) (n * 2)) 129)).alloc (.cells #[.slice (some ⟨w.heap.size, 0, none⟩) n n] 127)) (w.heap.size + 1) w.heap.size (List.replicate n 0) (List.replicate n false) := by
  refine ⟨by simp, by simpa using hn, fun i x hx => ?_, ⟨n, by simp, ?_⟩, ⟨_, (Blk.new w _ _).alloc _, fun i x hx => ?_, fun i x hx => ?_⟩⟩
  · obtain ⟨_, rfl⟩ := List.getElem?_eq_some_iff.1 hx
    simp
  · have := Blk.new (w.alloc (.cells (madeCells (#[.int .u32 0, .bool false]) (n * 2)) 129)) 127 #[.slice (some ⟨w.heap.size, 0, none⟩) n n]
    simpa using this
  · obtain ⟨hl, rfl⟩ := List.getElem?_eq_some_iff.1 hx
    rw [List.length_replicate] at hl
    rw [made_get _ _ _ (by omega) (by decide)]
    simp
  · obtain ⟨hl, rfl⟩ := List.getElem?_eq_some_iff.1 hx
    rw [List.length_replicate] at hl
    rw [made_get _ _ _ (by omega) (by decide)]
    simp [Nat.add_mod]

set_option maxHeartbeats 400000 in
theorem new_nat (n : Nat) (w : World) (hn : n ≤ 4096) : Calls Tryd.prog 66 #[.int .i64 (n : Int)] w fun e w' => e = .returned (.tuple #[.pointer (some ⟨w.heap.size + 1, 0, none⟩), .int .i64 0]) ∧
    Fz w' (w.heap.size + 1) w.heap.size (List.replicate n 0) (List.replicate n false) ∧ Below w.heap.size w w' ∧ w'.heap.size = w.heap.size + 2 := by
  obtain ⟨i, hi, hz, hsz, hby⟩ := info_row word_info
  have hmk := fun W => run_make_rowN (P := Tryd.prog) 125 129 i _ Tryd.underlying125 hi hz .i64 .i64 n n (Nat.le_refl _) (by rw [hby]; omega) (by omega) W
  rw [hsz] at hmk
  have hF := Lib.hid (fz_new w n hn)
  clear hi hz hsz hby
  go_enter Tryd.func66, Tryd.ntmps66
  go_wp2
  go_light
  go_ret2
  exact ⟨rfl, hF.out, ((Below.refl _ _).alloc (Nat.le_refl _) _).alloc (by simp) _, by simp⟩

theorem new_any (n : Int) (w : World) (h0 : 0 ≤ n) (h1 : n ≤ 4096) : Calls Tryd.prog 66 #[.int .i64 n] w fun e w' => e = .returned (.tuple #[.pointer (some ⟨w.heap.size + 1, 0, none⟩), .int .i64 0]) ∧
    Fz w' (w.heap.size + 1) w.heap.size (List.replicate n.toNat 0) (List.replicate n.toNat false) ∧ Below w.heap.size w w' ∧ w'.heap.size = w.heap.size + 2 := by
  obtain ⟨n, rfl⟩ := Int.eq_ofNat_of_zero_le h0
  exact new_nat n w (by omega)
set_option maxHeartbeats 400000 in
theorem new_bad (n : Int) (w : World) (h : n < 0 ∨ 4096 < n) : Calls Tryd.prog 66 #[.int .i64 n] w fun e w' => e = .returned (.tuple #[.pointer none, .int .i64 1]) ∧ w = w' := by
  by_cases h0 : n < 0
  · clear h
    go_enter Tryd.func66, Tryd.ntmps66
    go_wp2
    go_light
    go_ret2
    exact ⟨rfl, rfl⟩
  · have h1 : 4096 < n := by omega
    clear h
    go_enter Tryd.func66, Tryd.ntmps66
    go_wp2
    go_light
    go_ret2
    exact ⟨rfl, rfl⟩

end Fuse
end Go.Proofs.YtpakdcgcgekcfaaDoor
