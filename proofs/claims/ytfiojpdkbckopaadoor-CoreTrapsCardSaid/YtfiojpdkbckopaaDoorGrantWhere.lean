/-
  Package grant: the regions' table, Where, Base; the reference's Where.
-/
import Derived.Test.YtfiojpdkbckopaaDoorProg
import Derived.Test.YtfiojpdkbckopaaDoorJ68c09f72
import Derived.Laws.Rows
import Derived.Deep.LoopGhost
set_option linter.unusedSimpArgs false
set_option linter.unusedVariables false
namespace Go.Proofs.YtfiojpdkbckopaaDoor
open Go.RowKit

namespace Grant
/-- The regions, as they begin and how long they are. -/
def sp : List (Nat × Nat) := [(0, 0), (536870912, 4096), (536875008, 4096), (268435456, 10240), (1073741824, 64), (1610612736, 256)]
def spCells : Array Value := #[.int .u32 0, .int .i64 0, .int .u32 536870912, .int .i64 4096, .int .u32 536875008, .int .i64 4096, .int .u32 268435456, .int .i64 10240, .int .u32 1073741824, .int .i64 64, .int .u32 1610612736, .int .i64 256]
def Spans (w : World) : Prop := ∃ ty, Blk w 1 ty spCells
theorem Spans.lt {w : World} (h : Spans w) : 1 < w.heap.size := by obtain ⟨_, h⟩ := h; exact h.lt
theorem Spans.below {B : Nat} {w w' : World} (h : Spans w) (hb : Below B w w') (hB : 1 < B) : Spans w' := by
  obtain ⟨ty, h⟩ := h
  exact ⟨ty, h.below hb hB⟩
theorem Spans.old {w w' : World} (h : Spans w) (hb : Below w.heap.size w w') : Spans w' := h.below hb h.lt
theorem Spans.drewN {w : World} (h : Spans w) (n : Nat) : Spans (w.drewN n) := h
theorem Spans.alloc {w : World} (h : Spans w) (o : Obj) : Spans (w.alloc o) := by
  obtain ⟨ty, h⟩ := h
  exact ⟨ty, h.alloc o⟩
/-- The region of an address, and the place in it. -/
def whereN (a : Nat) : Nat × Nat :=
  if 536870912 ≤ a ∧ a < 536875008 then (1, a - 536870912)
  else if 536875008 ≤ a ∧ a < 536879104 then (2, a - 536875008)
  else if 268435456 ≤ a ∧ a < 268445696 then (3, a - 268435456)
  else if 1073741824 ≤ a ∧ a < 1073741888 then (4, a - 1073741824)
  else if 1610612736 ≤ a ∧ a < 1610612992 then (5, a - 1610612736)
  else (0, 0)
theorem ix0 (w : World) : (Instr.index 155 (.agg spCells) (.int .i64 0)).run Tryd.prog w = .ok (.agg #[.int .u32 0, .int .i64 0]) w := by kernel_rfl
theorem ix1 (w : World) : (Instr.index 155 (.agg spCells) (.int .i64 1)).run Tryd.prog w = .ok (.agg #[.int .u32 536870912, .int .i64 4096]) w := by kernel_rfl
theorem ix2 (w : World) : (Instr.index 155 (.agg spCells) (.int .i64 2)).run Tryd.prog w = .ok (.agg #[.int .u32 536875008, .int .i64 4096]) w := by kernel_rfl
theorem ix3 (w : World) : (Instr.index 155 (.agg spCells) (.int .i64 3)).run Tryd.prog w = .ok (.agg #[.int .u32 268435456, .int .i64 10240]) w := by kernel_rfl
theorem ix4 (w : World) : (Instr.index 155 (.agg spCells) (.int .i64 4)).run Tryd.prog w = .ok (.agg #[.int .u32 1073741824, .int .i64 64]) w := by kernel_rfl
theorem ix5 (w : World) : (Instr.index 155 (.agg spCells) (.int .i64 5)).run Tryd.prog w = .ok (.agg #[.int .u32 1610612736, .int .i64 256]) w := by kernel_rfl
theorem spIdx (i : Nat) (f s : Nat) (h : sp[i]? = some (f, s)) (w : World) : (Instr.index 155 (.agg spCells) (.int .i64 (i : Int))).run Tryd.prog w = .ok (.agg #[.int .u32 (f : Int), .int .i64 (s : Int)]) w := by
  have hi : i < 6 := (List.getElem?_eq_some_iff.1 h).1
  have : i = 0 ∨ i = 1 ∨ i = 2 ∨ i = 3 ∨ i = 4 ∨ i = 5 := by omega
  rcases this with rfl | rfl | rfl | rfl | rfl | rfl <;> (simp [sp] at h; obtain ⟨rfl, rfl⟩ := h)
  · exact ix0 w
  · exact ix1 w
  · exact ix2 w
  · exact ix3 w
  · exact ix4 w
  · exact ix5 w
theorem where_hit (a i f s : Nat) (h : sp[i]? = some (f, s)) (h1 : f ≤ a) (h2 : a - f < s) : whereN a = (i, a - f) := by
  have hi : i < 6 := (List.getElem?_eq_some_iff.1 h).1
  have : i = 0 ∨ i = 1 ∨ i = 2 ∨ i = 3 ∨ i = 4 ∨ i = 5 := by omega
  unfold whereN
  rcases this with rfl | rfl | rfl | rfl | rfl | rfl <;> (simp [sp] at h; obtain ⟨rfl, rfl⟩ := h) <;> repeat' split
  all_goals first | rfl | omega
theorem where_miss (a : Nat) (h : ∀ j f s, j < 6 → sp[j]? = some (f, s) → ¬ (f ≤ a ∧ a < f + s)) : whereN a = (0, 0) := by
  have h1 := h 1 _ _ (by decide) rfl
  have h2 := h 2 _ _ (by decide) rfl
  have h3 := h 3 _ _ (by decide) rfl
  have h4 := h 4 _ _ (by decide) rfl
  have h5 := h 5 _ _ (by decide) rfl
  unfold whereN
  repeat' split
  all_goals first | rfl | omega
def missed (a i : Nat) : Prop := ∀ j f s, j < i → sp[j]? = some (f, s) → ¬ (f ≤ a ∧ a < f + s)
set_option maxHeartbeats 1000000 in
theorem where_any (a : Nat) (w : World) (ha : a < 4294967296) (hS : Spans w) :
    Calls Tryd.prog 65 #[.int .u32 (a : Int)] w fun e w' => e = .returned (.tuple #[.int .i64 ((whereN a).1 : Int), .int .i64 ((whereN a).2 : Int)]) ∧ Below w.heap.size w w' := by
  obtain ⟨ty, hS⟩ := hS
  have HS := Lib.hid hS
  have hix := Lib.hid spIdx
  clear hS
  go_enter Tryd.func65, Tryd.ntmps65
  go_wp2_with (refine wpList_load_row rfl 155 _ rfl 1 rfl ty spCells (0, 0) _ HS.out Tryd.underlying155 rfl (by kernel_rfl) ?_)
  go_loopg [8] 6 (fun g s8 wr => ∃ i : Nat, i + g = 6 ∧ s8 = .int .i64 (i : Int) ∧ Hid (missed a i) ∧ Below w.heap.size w wr)
  case atStart => exact ⟨0, by omega, rfl, Lib.hid (fun j f s hj => absurd hj (by omega)), Below.refl _ _⟩
  case round =>
    obtain ⟨i, hg, rfl, HM, hB⟩ := hrel
    have HG := Lib.hid hg
    have HB := Lib.hid hB
    have hwl := hB.size
    have hi : i ≤ 6 := by omega
    clear hg hB
    by_cases hlt : i < 6
    · obtain ⟨⟨f, s⟩, hx⟩ : ∃ x, sp[i]? = some x := ⟨_, List.getElem?_eq_getElem (show i < sp.length by exact hlt)⟩
      have h0 := hix.out i f s hx
      have HX := Lib.hid hx
      have hb : f < 4294967296 ∧ s < 65536 := by
        have : ∀ x ∈ sp, x.1 < 4294967296 ∧ x.2 < 65536 := by decide
        exact this _ (List.mem_of_getElem? hx)
      obtain ⟨hf, hs⟩ := hb
      clear hx
      have HH := Lib.hid (where_hit a i f s HX.out)
      have HN := Lib.hid (fun (h : ¬ (f ≤ a ∧ a < f + s)) => (show missed a (i + 1) from fun j f' s' hj hx => by
        rcases Nat.lt_or_ge j i with hji | hji
        · exact HM.out j f' s' hji hx
        · obtain rfl : j = i := by omega
          have hx2 := HX.out
          rw [hx] at hx2
          cases hx2
          exact h))
      by_cases h1 : f ≤ a
      · by_cases h2 : a - f < s
        · have HW := Lib.hid (HH.out h1 h2)
          have h3 : (a : Int) - (f : Int) < (s : Int) := by omega
          go_wp2_with fail
          go_light
          go_ret2
          rw [HW.out]
          exact ⟨ret2i rfl (by simp; omega), HB.out.alloc hwl _⟩
        · have HM2 := HN.out (by omega)
          have HM3 := Lib.hid HM2
          clear HM2
          have h3 : ¬ (a : Int) - (f : Int) < (s : Int) := by omega
          go_wp2_with fail
          go_light
          go_roundg (6 - (i + 1))
          case measure => have := HG.out; omega
          case rel => exact ⟨i + 1, by omega, by go_num, HM3, HB.out.alloc hwl _⟩
      · have HM2 := HN.out (by omega)
        have HM3 := Lib.hid HM2
        clear HM2
        go_wp2_with fail
        go_light
        go_roundg (6 - (i + 1))
        case measure => have := HG.out; omega
        case rel => exact ⟨i + 1, by omega, by go_num, HM3, HB.out.alloc hwl _⟩
    · have : i = 6 := by omega
      subst this
      have HW := Lib.hid (where_miss a HM.out)
      go_wp2_with fail
      go_light
      go_ret2
      rw [HW.out]
      exact ⟨rfl, HB.out⟩
theorem where_cases (z : Int) (a : Nat) (h : z = a) : (whereN a = (0, 0) ∧ (z < 268435456 ∨ (268445696 ≤ z ∧ z < 536870912) ∨ (536879104 ≤ z ∧ z < 1073741824) ∨ (1073741888 ≤ z ∧ z < 1610612736) ∨ 1610612992 ≤ z)) ∨ ∃ r o : Nat, whereN a = (r, o) ∧ ((r = 1 ∧ (o : Int) = z - 536870912 ∧ 536870912 ≤ z ∧ z < 536875008) ∨ (r = 2 ∧ (o : Int) = z - 536875008 ∧ 536875008 ≤ z ∧ z < 536879104) ∨
      (r = 3 ∧ (o : Int) = z - 268435456 ∧ 268435456 ≤ z ∧ z < 268445696) ∨ (r = 4 ∧ (o : Int) = z - 1073741824 ∧ 1073741824 ≤ z ∧ z < 1073741888) ∨ (r = 5 ∧ (o : Int) = z - 1610612736 ∧ 1610612736 ≤ z ∧ z < 1610612992)) := by
  unfold whereN
  repeat' split
  all_goals first | (exact .inr ⟨_, _, rfl, by omega⟩) | (exact .inl ⟨rfl, by omega⟩)
end Grant
end Go.Proofs.YtfiojpdkbckopaaDoor
