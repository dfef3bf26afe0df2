/-
  The reference's array (curtilageref10): in memory ('Rz'); New, bit.
-/
import Derived.Test.YtmcpppgnfmopoaaProg
import Derived.Test.YtmcpppgnfmopoaaMem
import Derived.Test.YtmcpppgnfmopoaaFuseWords
import Derived.Test.YtmcpppgnfmopoaaFuseSet2
import Derived.Deep.LoopGhost
import Derived.RegionTactic
import Derived.BigRegion
namespace Go.Proofs.Ytmcpppgnfmopoaa
open Go.RowKit

namespace Fuse
structure Rz (w : World) (x c d : Nat) (vs : List Nat) (ls : List Bool) : Prop where
  len : ls.length = vs.length
  most : vs.length ≤ 4096
  word : ∀ (i : Nat) (x : Nat), vs[i]? = some x → x < 4294967296
  head : Blk w x 58 #[.slice (some ⟨c, 0, none⟩) vs.length vs.length, .slice (some ⟨d, 0, none⟩) vs.length vs.length]
  row : ∃ cs, Blk w c 22 cs ∧ ∀ (i : Nat) (x : Nat), vs[i]? = some x → cs[i]? = some (.int .u32 (x : Int))
  lck : ∃ cs, Blk w d 4 cs ∧ ∀ (i : Nat) (x : Bool), ls[i]? = some x → cs[i]? = some (.bool x)
variable {w w' : World} {x c d : Nat} {vs : List Nat} {ls : List Bool}
theorem Rz.frm {S : List Nat} (h : Rz w x c d vs ls) (hf : Frm S w w') (hx : x ∉ S) (hc : c ∉ S) (hd : d ∉ S) : Rz w' x c d vs ls := by
  obtain ⟨cs, h2, h3⟩ := h.row
  obtain ⟨cs', h4, h5⟩ := h.lck
  exact ⟨h.len, h.most, h.word, h.head.frm hf hx, ⟨cs, h2.frm hf hc, h3⟩, ⟨cs', h4.frm hf hd, h5⟩⟩
theorem Rz.drewN (h : Rz w x c d vs ls) (n : Nat) : Rz (w.drewN n) x c d vs ls := ⟨h.len, h.most, h.word, h.head, h.row, h.lck⟩
theorem Rz.drew (h : Rz w x c d vs ls) : Rz w.drew x c d vs ls := ⟨h.len, h.most, h.word, h.head, h.row, h.lck⟩
theorem Rz.alloc (h : Rz w x c d vs ls) (o : Obj) : Rz (w.alloc o) x c d vs ls := h.frm ((Frm.refl [] w).alloc o) (by simp) (by simp) (by simp)
theorem Rz.lts (h : Rz w x c d vs ls) : x < w.heap.size ∧ c < w.heap.size ∧ d < w.heap.size := by
  obtain ⟨cs, h2, h3⟩ := h.row
  obtain ⟨cs', h4, h5⟩ := h.lck
  exact ⟨h.head.lt, h2.lt, h4.lt⟩
theorem Rz.nes (h : Rz w x c d vs ls) : x ≠ c ∧ x ≠ d ∧ c ≠ d := by
  obtain ⟨cs, h2, h3⟩ := h.row
  obtain ⟨cs', h4, h5⟩ := h.lck
  exact ⟨h.head.ne h2 (by decide), h.head.ne h4 (by decide), h2.ne h4 (by decide)⟩
theorem Rz.fz {p b : Nat} {vs' : List Nat} {ls' : List Bool} (h : Rz w x c d vs ls) (hf : Fz w p b vs' ls') : x ≠ p ∧ x ≠ b ∧ c ≠ p ∧ c ≠ b ∧ d ≠ p ∧ d ≠ b := by
  obtain ⟨cs, h2, h3⟩ := h.row
  obtain ⟨cs', h4, h5⟩ := h.lck
  obtain ⟨_, _, h6⟩ := hf.head
  obtain ⟨_, h7, _⟩ := hf.row
  exact ⟨h.head.ne h6 (by decide), h.head.ne h7 (by decide), h2.ne h6 (by decide), h2.ne h7 (by decide), h4.ne h6 (by decide), h4.ne h7 (by decide)⟩
theorem Rz.set (h : Rz w x c d vs ls) {i : Nat} (hi : i < vs.length) (y : Nat) (hy : y < 4294967296) : Rz (w.setCell ⟨c, i, none⟩ (.int .u32 (y : Int))) x c d (vs.set i y) ls := by
  obtain ⟨n1, n2, n3⟩ := h.nes
  obtain ⟨cs, h2, h3⟩ := h.row
  obtain ⟨cs', h4, h5⟩ := h.lck
  refine ⟨by simpa using h.len, by simpa using h.most, ?_, by simpa using h.head.far' c i n1 _, ⟨_, h2.set i _, ?_⟩, ⟨cs', h4.far' c i (Ne.symm n3) _, h5⟩⟩
  · intro j z hz
    rw [List.getElem?_set] at hz
    simp only [hi, if_true] at hz
    split at hz
    · cases hz; exact hy
    · exact h.word j z hz
  · intro j z hz
    rw [List.getElem?_set] at hz
    split at hz
    · rename_i hij
      subst hij
      cases hz
      have := h3 i _ (List.getElem?_eq_getElem hi)
      have hlt := (Array.getElem?_eq_some_iff.1 this).1
      simp [hlt]
    · rw [Array.getElem?_setIfInBounds_ne (by omega)]
      exact h3 j z hz
theorem Rz.lock (h : Rz w x c d vs ls) {i : Nat} (hi : i < vs.length) (y : Bool) : Rz (w.setCell ⟨d, i, none⟩ (.bool y)) x c d vs (ls.set i y) := by
  obtain ⟨n1, n2, n3⟩ := h.nes
  obtain ⟨cs, h2, h3⟩ := h.row
  obtain ⟨cs', h4, h5⟩ := h.lck
  refine ⟨by simpa using h.len, h.most, h.word, h.head.far' d i n2 _, ⟨cs, h2.far' d i n3 _, h3⟩, ⟨_, h4.set i _, ?_⟩⟩
  intro j z hz
  rw [List.getElem?_set] at hz
  split at hz
  · rename_i hij
    subst hij
    simp only [h.len, hi, if_true] at hz
    cases hz
    have := h5 i (ls[i]'(by rw [h.len]; exact hi)) (List.getElem?_eq_getElem _)
    have hlt := (Array.getElem?_eq_some_iff.1 this).1
    simp [hlt]
  · rw [Array.getElem?_setIfInBounds_ne (by omega)]
    exact h5 j z hz
theorem Rz.hd0 (h : Rz w x c d vs ls) : w.cell? ⟨x, 0, none⟩ = some (.slice (some ⟨c, 0, none⟩) vs.length vs.length) ∧ w.cell? ⟨x, 1, none⟩ = some (.slice (some ⟨d, 0, none⟩) vs.length vs.length) :=
  ⟨by rw [h.head.cell]; rfl, by rw [h.head.cell]; rfl⟩
theorem Rz.at_ (h : Rz w x c d vs ls) {i : Nat} (hi : i < vs.length) : ∃ y l, vs[i]? = some y ∧ ls[i]? = some l ∧ y < 4294967296 ∧ w.cell? ⟨c, i, none⟩ = some (.int .u32 ((y : Nat) : Int)) ∧ w.cell? ⟨d, i, none⟩ = some (.bool l) ∧ w.frozen? ⟨c, i, none⟩ = false ∧ w.frozen? ⟨d, i, none⟩ = false := by
  obtain ⟨cs, h2, h3⟩ := h.row
  obtain ⟨cs', h4, h5⟩ := h.lck
  have hil : i < ls.length := by rw [h.len]; exact hi
  refine ⟨vs[i], ls[i], List.getElem?_eq_getElem hi, List.getElem?_eq_getElem hil, h.word i _ (List.getElem?_eq_getElem hi), ?_, ?_, h2.frozen i, h4.frozen i⟩
  · rw [h2.cell]; exact h3 i _ (List.getElem?_eq_getElem hi)
  · rw [h4.cell]; exact h5 i _ (List.getElem?_eq_getElem hil)

theorem Rz.nats (h : Rz w x c d vs ls) : Nats .u32 4294967296 w w.heap.size (some ⟨c, 0, none⟩) vs := fun i z hz => by
  have hi := (List.getElem?_eq_some_iff.1 hz).1
  obtain ⟨y, l, hy, _, hy2, hcy, _⟩ := h.at_ hi
  rw [hz] at hy
  cases hy
  exact ⟨hy2, c, 0, rfl, h.lts.2.1, by rw [Nat.zero_add]; exact hcy⟩
theorem bool_info : (Try.prog.info? 4).map (fun i => (i.zero, i.size, i.bytes)) = some (some (.bool false), 1, 1) := by kernel_rfl

def RNewOut (w : World) (n : Nat) (e : Ending) (w' : World) : Prop := ∃ x c d, e = .returned (.pointer (some ⟨x, 0, none⟩)) ∧ Rz w' x c d (List.replicate n 0) (List.replicate n false) ∧ w.heap.size ≤ x ∧ w.heap.size ≤ c ∧ w.heap.size ≤ d ∧ Below w.heap.size w w'

theorem rz_made {w : World} {x c d n : Nat} (hn : n ≤ 4096) (h1 : Blk w x 58 #[.slice (some ⟨c, 0, none⟩) n n, .slice (some ⟨d, 0, none⟩) n n]) (h2 : Blk w c 22 (madeCells (#[.int .u32 0]) n)) (h3 : Blk w d 4 (madeCells (#[.bool false]) n)) :
    Rz w x c d (List.replicate n 0) (List.replicate n false) := by
  refine ⟨by simp, by simpa using hn, fun i x hx => ?_, by simpa using h1, ⟨_, h2, fun i x hx => ?_⟩, ⟨_, h3, fun i x hx => ?_⟩⟩
  · obtain ⟨_, rfl⟩ := List.getElem?_eq_some_iff.1 hx; simp
  · obtain ⟨hl, rfl⟩ := List.getElem?_eq_some_iff.1 hx
    rw [List.length_replicate] at hl
    rw [made_get _ _ _ hl (by decide)]
    simp [Nat.mod_one]
  · obtain ⟨hl, rfl⟩ := List.getElem?_eq_some_iff.1 hx
    rw [List.length_replicate] at hl
    rw [made_get _ _ _ hl (by decide)]
    simp [Nat.mod_one]

set_option maxHeartbeats 400000 in
theorem rnew_any (n : Nat) (w : World) (hn : n ≤ 4096) : Calls Try.prog 19 #[.int .i64 (n : Int)] w (RNewOut w n) := by
  obtain ⟨i, hi, hz, hsz, hby⟩ := info_row u32_info
  obtain ⟨j, hj, jz, jsz, jby⟩ := info_row bool_info
  have hmk := fun W => run_make_rowN (P := Try.prog) 33 22 i _ Try.underlying33 hi hz .i64 .i64 n n (Nat.le_refl _) (by rw [hby]; omega) (by omega) W
  have hmk2 := fun W => run_make_rowN (P := Try.prog) 56 4 j _ Try.underlying56 hj jz .i64 .i64 n n (Nat.le_refl _) (by rw [jby]; omega) (by omega) W
  rw [hsz] at hmk
  rw [jsz] at hmk2
  simp only [Nat.mul_one] at hmk hmk2
  clear hi hz hsz hby hj jz jsz jby
  go_enter Try.func19, Try.ntmps19
  go_wp2_with fail
  go_region
  all_goals (go_wp2_with fail)
  all_goals go_light
  · go_ret
    have h2 := (Blk.new w 22 (madeCells (#[.int .u32 0]) n))
    have h3 := (Blk.new (w.alloc (.cells (madeCells (#[.int .u32 0]) n) 22)) 4 (madeCells (#[.bool false]) n))
    have hs : ∀ o, (w.alloc o).heap.size = w.heap.size + 1 := fun o => by simp
    rw [hs] at h3
    refine ⟨w.heap.size + 1 + 1, w.heap.size, w.heap.size + 1, rfl, rz_made hn ?_ ((h2.alloc _).alloc _).drew (h3.alloc _).drew, by omega, by omega, by omega, ?_⟩
    · have h1 := Blk.new ((w.alloc (.cells (madeCells (#[.int .u32 0]) n) 22)).alloc (.cells (madeCells (#[.bool false]) n) 4)) 58 #[.slice (some ⟨w.heap.size, 0, none⟩) n n, .slice (some ⟨w.heap.size + 1, 0, none⟩) n n]
      simpa using h1.drew
    · (repeat' (first | (with_reducible exact Below.refl _ _) | (with_reducible refine Below.setCell ?_ ?_ _) | (with_reducible refine Below.alloc ?_ ?_ _) | (with_reducible refine Below.drew ?_) | (with_reducible refine Below.drewN ?_ _) | (with_reducible exact Nat.le_refl _) | (simp; done) | (simp; omega) | omega))
  · go_ret
    have h2 := (Blk.new w 4 (madeCells (#[.bool false]) n))
    have h3 := (Blk.new (w.alloc (.cells (madeCells (#[.bool false]) n) 4)) 22 (madeCells (#[.int .u32 0]) n))
    have hs : ∀ o, (w.alloc o).heap.size = w.heap.size + 1 := fun o => by simp
    rw [hs] at h3
    refine ⟨w.heap.size + 1 + 1, w.heap.size + 1, w.heap.size, rfl, rz_made hn ?_ (h3.alloc _).drew ((h2.alloc _).alloc _).drew, by omega, by omega, by omega, ?_⟩
    · have h1 := Blk.new ((w.alloc (.cells (madeCells (#[.bool false]) n) 4)).alloc (.cells (madeCells (#[.int .u32 0]) n) 22)) 58 #[.slice (some ⟨w.heap.size + 1, 0, none⟩) n n, .slice (some ⟨w.heap.size, 0, none⟩) n n]
      simpa using h1.drew
    · (repeat' (first | (with_reducible exact Below.refl _ _) | (with_reducible refine Below.setCell ?_ ?_ _) | (with_reducible refine Below.alloc ?_ ?_ _) | (with_reducible refine Below.drew ?_) | (with_reducible refine Below.drewN ?_ _) | (with_reducible exact Nat.le_refl _) | (simp; done) | (simp; omega) | omega))
end Fuse
end Go.Proofs.Ytmcpppgnfmopoaa
