/-
  RV32IM, word by word: the word of an instruction. No program in sight.
-/
import Derived.Test.YtgmomkinbfajkaaDoorRvA
set_option linter.unusedSimpArgs false
set_option linter.unusedVariables false
namespace Go.Proofs.YtgmomkinbfajkaaDoor
open Go.RowKit

namespace Rv
/-- The shape that an op has. -/
def sOf (op : Nat) : Option Sh := if op = 0 then none else (tab.find? (fun e => e.2 == op)).map (·.1)
def word0 (s : Sh) (i : In) : Nat := ((s.1 ||| i.rd * 128) ||| i.a * 32768) ||| i.b * 1048576
def word1 (s : Sh) (i : In) : Nat := if s.1 = 55 ∨ s.1 = 23 ∨ s.1 = 111 then word0 s i else word0 s i ||| (s.2.1 * 4096 ||| s.2.2 * 33554432)
def word (s : Sh) (i : In) : Nat :=
  if s.1 = 55 ∨ s.1 = 23 then word1 s i ||| (i.imm - i.imm % 4096)
  else if s.1 = 111 then word1 s i ||| (((cut i.imm 20 1 * 2147483648 ||| cut i.imm 1 10 * 2097152) ||| cut i.imm 11 1 * 1048576) ||| cut i.imm 12 8 * 4096)
  else if s.1 = 99 then word1 s i ||| (((cut i.imm 12 1 * 2147483648 ||| cut i.imm 5 6 * 33554432) ||| cut i.imm 1 4 * 256) ||| cut i.imm 11 1 * 128)
  else if s.1 = 35 then word1 s i ||| (cut i.imm 5 7 * 33554432 ||| cut i.imm 0 5 * 128)
  else if s.1 = 115 then (if 46 ≤ i.op then (word1 s i ||| i.csr * 1048576 % 4294967296) ||| i.imm * 32768 % 4294967296 else word1 s i ||| i.csr * 1048576 % 4294967296)
  else if s.1 = 19 ∨ s.1 = 3 ∨ s.1 = 103 then word1 s i ||| i.imm * 1048576 % 4294967296
  else word1 s i
/-- The word that is told of a shape. -/
def encS (i : In) : Option Sh → Nat × Bool
  | none => (0, false)
  | some s => if dec (word s i) = (i, true) then (word s i, true) else (0, false)
theorem encS_some (i : In) (s : Sh) : encS i (some s) = if dec (word s i) = (i, true) then (word s i, true) else (0, false) := rfl
/-- The program's word of an instruction. -/
def enc (i : In) : Nat × Bool :=
  if i = opIn 39 then (115, true) else if i = opIn 40 then (1048691, true) else if i = opIn 41 then (807403635, true) else if i = opIn 42 then (273678451, true)
  else encS i (sOf i.op)
theorem or_at {x y : Nat} (k : Nat) (h : x < 2 ^ k) : x ||| y * 2 ^ k = x + y * 2 ^ k := by
  rw [Nat.mul_comm, Nat.or_comm, ← Nat.two_pow_add_eq_or_of_lt h]; omega
theorem or7 {x y : Nat} (h : x < 128) : x ||| y * 128 = x + y * 128 := or_at 7 h
theorem or8 {x y : Nat} (h : x < 256) : x ||| y * 256 = x + y * 256 := or_at 8 h
theorem or12 {x y : Nat} (h : x < 4096) : x ||| y * 4096 = x + y * 4096 := or_at 12 h
theorem or15 {x y : Nat} (h : x < 32768) : x ||| y * 32768 = x + y * 32768 := or_at 15 h
theorem or20 {x y : Nat} (h : x < 1048576) : x ||| y * 1048576 = x + y * 1048576 := or_at 20 h
theorem or21 {x y : Nat} (h : x < 2097152) : x ||| y * 2097152 = x + y * 2097152 := or_at 21 h
theorem or25 {x y : Nat} (h : x < 33554432) : x ||| y * 33554432 = x + y * 33554432 := or_at 25 h
theorem or31 {x y : Nat} (h : x < 2147483648) : x ||| y * 2147483648 = x + y * 2147483648 := or_at 31 h
theorem mod15 {x : Nat} (h : x < 2 ^ 5) : x * 32768 % 4294967296 = x * 32768 := by omega
theorem immI_cut {w : Nat} (h : w < 4294967296) : immI w * 1048576 % 4294967296 = (w / 1048576) * 1048576 := by
  unfold immI ext
  simp only [Nat.reducePow, Nat.reduceSub]
  split <;> omega
theorem immS_cut (w : Nat) : cut (immS w) 5 7 = cut w 25 7 ∧ cut (immS w) 0 5 = cut w 7 5 := by
  have h1 := cut_lt w 25 7
  have h2 := cut_lt w 7 5
  unfold immS ext
  revert h1 h2
  generalize cut w 25 7 = x
  generalize cut w 7 5 = y
  intro h1 h2
  unfold cut
  simp only [Nat.reducePow, Nat.reduceSub] at h1 h2 ⊢
  split <;> constructor <;> omega
theorem immB_cut (w : Nat) : cut (immB w) 12 1 = cut w 31 1 ∧ cut (immB w) 5 6 = cut w 25 6 ∧ cut (immB w) 1 4 = cut w 8 4 ∧ cut (immB w) 11 1 = cut w 7 1 := by
  have h1 := cut_lt w 31 1
  have h2 := cut_lt w 25 6
  have h3 := cut_lt w 8 4
  have h4 := cut_lt w 7 1
  unfold immB ext
  revert h1 h2 h3 h4
  generalize cut w 31 1 = x
  generalize cut w 25 6 = y
  generalize cut w 8 4 = z
  generalize cut w 7 1 = u
  intro h1 h2 h3 h4
  unfold cut
  simp only [Nat.reducePow, Nat.reduceSub] at h1 h2 h3 h4 ⊢
  split <;> refine ⟨?_, ?_, ?_, ?_⟩ <;> omega
theorem immJ_cut (w : Nat) : cut (immJ w) 20 1 = cut w 31 1 ∧ cut (immJ w) 1 10 = cut w 21 10 ∧ cut (immJ w) 11 1 = cut w 20 1 ∧ cut (immJ w) 12 8 = cut w 12 8 := by
  have h1 := cut_lt w 31 1
  have h2 := cut_lt w 21 10
  have h3 := cut_lt w 20 1
  have h4 := cut_lt w 12 8
  unfold immJ ext
  revert h1 h2 h3 h4
  generalize cut w 31 1 = x
  generalize cut w 21 10 = y
  generalize cut w 20 1 = z
  generalize cut w 12 8 = u
  intro h1 h2 h3 h4
  unfold cut
  simp only [Nat.reducePow, Nat.reduceSub] at h1 h2 h3 h4 ⊢
  split <;> refine ⟨?_, ?_, ?_, ?_⟩ <;> omega
theorem key_shape : ∀ e ∈ tab, e.2 ≠ 0 → sOf e.2 = some e.1 := by decide +kernel
theorem lookup_mem {s : Sh} {v : Nat} : ∀ {l : List (Sh × Nat)}, l.lookup s = some v → (s, v) ∈ l
  | [], h => by cases h
  | (k, u) :: l, h => by
    rw [List.lookup_cons] at h
    split at h
    · rename_i e
      rw [beq_iff_eq] at e
      cases h
      rw [e]
      exact List.mem_cons_self ..
    · exact List.mem_cons_of_mem _ (lookup_mem h)
theorem sOf_op {s : Sh} (h : opAt s ≠ 0) : sOf (opAt s) = some s := by
  unfold opAt at h ⊢
  cases e : tab.lookup s with
  | none => rw [e] at h; exact absurd rfl h
  | some v => rw [e] at h; exact key_shape _ (lookup_mem e) h
theorem sOf_mem {op : Nat} {s : Sh} (h : sOf op = some s) : (s, op) ∈ tab ∧ op ≠ 0 := by
  unfold sOf at h
  split at h
  · cases h
  · rename_i h0
    obtain ⟨⟨k, v⟩, he, rfl⟩ := Option.map_eq_some_iff.1 h
    have := List.find?_some he
    rw [beq_iff_eq] at this
    subst this
    exact ⟨List.mem_of_find?_eq_some he, h0⟩
/-- A word that is read is the word of what is read, but a fence. -/
theorem word_dec {w : Nat} (h : w < 4294967296) (hs : cut w 0 7 ≠ 15) (h0 : opAt (form w) ≠ 0) : word (form w) (decI (opAt (form w)) w) = w := by
  have hin : cut w 0 7 ∈ [55, 23, 111, 103, 99, 3, 35, 19, 51, 15, 115] := Classical.byContradiction fun hn => h0 (by
    unfold form
    split
    · exact op_else hn
    · split <;> exact op_else hn)
  simp only [List.mem_cons, List.not_mem_nil, or_false] at hin
  obtain ⟨op, hop⟩ : ∃ c, opAt (form w) = c := ⟨_, rfl⟩
  rw [hop] at h0 ⊢
  rcases hin with hc | hc | hc | hc | hc | hc | hc | hc | hc | hc | hc
  · have hf : form w = (55, 0, 0) := by unfold form; rw [hc]; rfl
    have hd : decI op w = ⟨op, cut w 7 5, 0, 0, w - w % 4096, 0⟩ := by unfold decI; simp [hc]
    rw [hf, hd]
    unfold word word1 word0
    simp only [true_or, if_true, Nat.zero_mul, Nat.or_zero]
    rw [or7 (by omega), show w - w % 4096 - (w - w % 4096) % 4096 = (w / 4096) * 4096 by omega, or12 (by unfold cut; simp only [Nat.reducePow]; omega)]
    unfold cut at hc ⊢
    simp only [Nat.reducePow] at hc ⊢
    omega
  · have hf : form w = (23, 0, 0) := by unfold form; rw [hc]; rfl
    have hd : decI op w = ⟨op, cut w 7 5, 0, 0, w - w % 4096, 0⟩ := by unfold decI; simp [hc]
    rw [hf, hd]
    unfold word word1 word0
    simp only [true_or, or_true, if_true, Nat.zero_mul, Nat.or_zero]
    rw [or7 (by omega), show w - w % 4096 - (w - w % 4096) % 4096 = (w / 4096) * 4096 by omega, or12 (by unfold cut; simp only [Nat.reducePow]; omega)]
    unfold cut at hc ⊢
    simp only [Nat.reducePow] at hc ⊢
    omega
  · have hf : form w = (111, 0, 0) := by unfold form; rw [hc]; rfl
    have hd : decI op w = ⟨op, cut w 7 5, 0, 0, immJ w, 0⟩ := by unfold decI; simp [hc]
    obtain ⟨e1, e2, e3, e4⟩ := immJ_cut w
    rw [hf, hd]
    unfold word word1 word0
    simp only [e1, e2, e3, e4, or_true, if_true, Nat.zero_mul, Nat.or_zero, Nat.reduceEqDiff, or_self, if_false]
    rw [show (111 ||| cut w 7 5 * 128) ||| (((cut w 31 1 * 2147483648 ||| cut w 21 10 * 2097152) ||| cut w 20 1 * 1048576) ||| cut w 12 8 * 4096) = (((111 ||| cut w 7 5 * 128) ||| cut w 12 8 * 4096) ||| cut w 20 1 * 1048576) ||| cut w 21 10 * 2097152 ||| cut w 31 1 * 2147483648 by ac_rfl]
    unfold cut at hc ⊢
    simp only [Nat.reducePow] at hc ⊢
    rw [or7 (by omega), or12 (by omega), or20 (by omega), or21 (by omega), or31 (by omega)]
    omega
  · have hf : form w = (103, cut w 12 3, 0) := by unfold form; rw [hc]; simp
    have hd : decI op w = ⟨op, cut w 7 5, cut w 15 5, 0, immI w, 0⟩ := by
      unfold decI
      have : ¬ (op = 25 ∨ op = 26 ∨ op = 27) := by
        rw [← hop, hf, op_flat 103 (by decide) ⟨cut w 12 3, cut_lt w 12 3⟩]
        unfold rOp
        simp
        split <;> simp
      simp [hc, this]
    rw [hf, hd]
    unfold word word1 word0
    simp only [immI_cut h, or_true, if_true, Nat.zero_mul, Nat.or_zero, Nat.reduceEqDiff, or_self, if_false]
    rw [show ((103 ||| cut w 7 5 * 128) ||| cut w 15 5 * 32768) ||| cut w 12 3 * 4096 ||| w / 1048576 * 1048576 = (((103 ||| cut w 7 5 * 128) ||| cut w 12 3 * 4096) ||| cut w 15 5 * 32768) ||| w / 1048576 * 1048576 by ac_rfl]
    unfold cut at hc ⊢
    simp only [Nat.reducePow] at hc ⊢
    rw [or7 (by omega), or12 (by omega), or15 (by omega), or20 (by omega)]
    omega
  · have hf : form w = (99, cut w 12 3, 0) := by unfold form; rw [hc]; simp
    have hd : decI op w = ⟨op, 0, cut w 15 5, cut w 20 5, immB w, 0⟩ := by unfold decI; simp [hc]
    obtain ⟨e1, e2, e3, e4⟩ := immB_cut w
    rw [hf, hd]
    unfold word word1 word0
    simp only [e1, e2, e3, e4, or_true, if_true, Nat.zero_mul, Nat.or_zero, Nat.zero_or, Nat.reduceEqDiff, or_self, if_false]
    rw [show ((99 ||| cut w 15 5 * 32768) ||| cut w 20 5 * 1048576) ||| cut w 12 3 * 4096 ||| (((cut w 31 1 * 2147483648 ||| cut w 25 6 * 33554432) ||| cut w 8 4 * 256) ||| cut w 7 1 * 128) = ((((((99 ||| cut w 7 1 * 128) ||| cut w 8 4 * 256) ||| cut w 12 3 * 4096) ||| cut w 15 5 * 32768) ||| cut w 20 5 * 1048576) ||| cut w 25 6 * 33554432) ||| cut w 31 1 * 2147483648 by ac_rfl]
    unfold cut at hc ⊢
    simp only [Nat.reducePow] at hc ⊢
    rw [or7 (by omega), or8 (by omega), or12 (by omega), or15 (by omega), or20 (by omega), or25 (by omega), or31 (by omega)]
    omega
  · have hf : form w = (3, cut w 12 3, 0) := by unfold form; rw [hc]; simp
    have hd : decI op w = ⟨op, cut w 7 5, cut w 15 5, 0, immI w, 0⟩ := by
      unfold decI
      have : ¬ (op = 25 ∨ op = 26 ∨ op = 27) := by
        rw [← hop, hf]
        have : ∀ x : Fin 8, ¬ (opAt (3, x.1, 0) = 25 ∨ opAt (3, x.1, 0) = 26 ∨ opAt (3, x.1, 0) = 27) := by decide +kernel
        exact this ⟨cut w 12 3, cut_lt w 12 3⟩
      simp [hc, this]
    rw [hf, hd]
    unfold word word1 word0
    simp only [immI_cut h, or_true, true_or, if_true, Nat.zero_mul, Nat.or_zero, Nat.reduceEqDiff, or_self, if_false]
    rw [show ((3 ||| cut w 7 5 * 128) ||| cut w 15 5 * 32768) ||| cut w 12 3 * 4096 ||| w / 1048576 * 1048576 = (((3 ||| cut w 7 5 * 128) ||| cut w 12 3 * 4096) ||| cut w 15 5 * 32768) ||| w / 1048576 * 1048576 by ac_rfl]
    unfold cut at hc ⊢
    simp only [Nat.reducePow] at hc ⊢
    rw [or7 (by omega), or12 (by omega), or15 (by omega), or20 (by omega)]
    omega
  · have hf : form w = (35, cut w 12 3, 0) := by unfold form; rw [hc]; simp
    have hd : decI op w = ⟨op, 0, cut w 15 5, cut w 20 5, immS w, 0⟩ := by unfold decI; simp [hc]
    obtain ⟨e1, e2⟩ := immS_cut w
    rw [hf, hd]
    unfold word word1 word0
    simp only [e1, e2, or_true, if_true, Nat.zero_mul, Nat.or_zero, Nat.zero_or, Nat.reduceEqDiff, or_self, if_false]
    rw [show ((35 ||| cut w 15 5 * 32768) ||| cut w 20 5 * 1048576) ||| cut w 12 3 * 4096 ||| (cut w 25 7 * 33554432 ||| cut w 7 5 * 128) = ((((35 ||| cut w 7 5 * 128) ||| cut w 12 3 * 4096) ||| cut w 15 5 * 32768) ||| cut w 20 5 * 1048576) ||| cut w 25 7 * 33554432 by ac_rfl]
    unfold cut at hc ⊢
    simp only [Nat.reducePow] at hc ⊢
    rw [or7 (by omega), or12 (by omega), or15 (by omega), or20 (by omega), or25 (by omega)]
    omega
  · by_cases h15 : cut w 12 3 = 1 ∨ cut w 12 3 = 5
    · have hf : form w = (19, cut w 12 3, cut w 25 7) := by unfold form; rw [hc, if_neg (by decide), if_pos (.inr ⟨rfl, h15⟩)]
      have hd : decI op w = ⟨op, cut w 7 5, cut w 15 5, 0, cut w 20 5, 0⟩ := by
        unfold decI
        have : op = 25 ∨ op = 26 ∨ op = 27 := by
          rw [← hop, hf] at h0 ⊢
          rcases h15 with e | e <;> rw [e] at h0 ⊢
          · have : ∀ x : Fin 128, opAt (19, 1, x.1) ≠ 0 → (opAt (19, 1, x.1) = 25 ∨ opAt (19, 1, x.1) = 26 ∨ opAt (19, 1, x.1) = 27) := by decide +kernel
            exact this ⟨_, cut_lt w 25 7⟩ h0
          · have : ∀ x : Fin 128, opAt (19, 5, x.1) ≠ 0 → (opAt (19, 5, x.1) = 25 ∨ opAt (19, 5, x.1) = 26 ∨ opAt (19, 5, x.1) = 27) := by decide +kernel
            exact this ⟨_, cut_lt w 25 7⟩ h0
        simp [hc, this]
      rw [hf, hd]
      unfold word word1 word0
      simp only [true_or, if_true, Nat.zero_mul, Nat.or_zero, Nat.reduceEqDiff, or_self, if_false]
      rw [show cut w 20 5 * 1048576 % 4294967296 = cut w 20 5 * 1048576 by have := cut_lt w 20 5; simp only [Nat.reducePow] at this; omega]
      rw [show ((19 ||| cut w 7 5 * 128) ||| cut w 15 5 * 32768) ||| (cut w 12 3 * 4096 ||| cut w 25 7 * 33554432) ||| cut w 20 5 * 1048576 = ((((19 ||| cut w 7 5 * 128) ||| cut w 12 3 * 4096) ||| cut w 15 5 * 32768) ||| cut w 20 5 * 1048576) ||| cut w 25 7 * 33554432 by ac_rfl]
      unfold cut at hc ⊢
      simp only [Nat.reducePow] at hc ⊢
      rw [or7 (by omega), or12 (by omega), or15 (by omega), or20 (by omega), or25 (by omega)]
      omega
    · have hf : form w = (19, cut w 12 3, 0) := by unfold form; rw [hc, if_neg (by decide), if_neg (by simp [h15])]
      have hd : decI op w = ⟨op, cut w 7 5, cut w 15 5, 0, immI w, 0⟩ := by
        unfold decI
        have : ¬ (op = 25 ∨ op = 26 ∨ op = 27) := by
          rw [← hop, hf]
          have : ∀ x : Fin 8, x.1 ≠ 1 → x.1 ≠ 5 → ¬ (opAt (19, x.1, 0) = 25 ∨ opAt (19, x.1, 0) = 26 ∨ opAt (19, x.1, 0) = 27) := by decide +kernel
          exact this ⟨cut w 12 3, cut_lt w 12 3⟩ (fun q => h15 (.inl q)) (fun q => h15 (.inr q))
        simp [hc, this]
      rw [hf, hd]
      unfold word word1 word0
      simp only [immI_cut h, true_or, if_true, Nat.zero_mul, Nat.or_zero, Nat.reduceEqDiff, or_self, if_false]
      rw [show ((19 ||| cut w 7 5 * 128) ||| cut w 15 5 * 32768) ||| cut w 12 3 * 4096 ||| w / 1048576 * 1048576 = (((19 ||| cut w 7 5 * 128) ||| cut w 12 3 * 4096) ||| cut w 15 5 * 32768) ||| w / 1048576 * 1048576 by ac_rfl]
      unfold cut at hc ⊢
      simp only [Nat.reducePow] at hc ⊢
      rw [or7 (by omega), or12 (by omega), or15 (by omega), or20 (by omega)]
      omega
  · have hf : form w = (51, cut w 12 3, cut w 25 7) := by unfold form; rw [hc]; simp
    have hd : decI op w = ⟨op, cut w 7 5, cut w 15 5, cut w 20 5, 0, 0⟩ := by unfold decI; simp [hc]
    rw [hf, hd]
    unfold word word1 word0
    simp only [Nat.zero_mul, Nat.or_zero, Nat.reduceEqDiff, or_self, if_false]
    rw [show (((51 ||| cut w 7 5 * 128) ||| cut w 15 5 * 32768) ||| cut w 20 5 * 1048576) ||| (cut w 12 3 * 4096 ||| cut w 25 7 * 33554432) = ((((51 ||| cut w 7 5 * 128) ||| cut w 12 3 * 4096) ||| cut w 15 5 * 32768) ||| cut w 20 5 * 1048576) ||| cut w 25 7 * 33554432 by ac_rfl]
    unfold cut at hc ⊢
    simp only [Nat.reducePow] at hc ⊢
    rw [or7 (by omega), or12 (by omega), or15 (by omega), or20 (by omega), or25 (by omega)]
    omega
  · exact absurd hc hs
  · have hf : form w = (115, cut w 12 3, 0) := by unfold form; rw [hc]; simp
    rw [hf]
    have e20 : cut w 20 12 * 1048576 % 4294967296 = w / 1048576 * 1048576 := by unfold cut; simp only [Nat.reducePow]; omega
    by_cases h46 : 46 ≤ op
    · have hd : decI op w = ⟨op, cut w 7 5, 0, 0, cut w 15 5, cut w 20 12⟩ := by unfold decI; simp [hc, h46]
      rw [hd]
      unfold word word1 word0
      simp only [Nat.zero_mul, Nat.or_zero, Nat.reduceEqDiff, or_self, if_false, if_true, h46, e20]
      rw [show cut w 15 5 * 32768 % 4294967296 = cut w 15 5 * 32768 from mod15 (cut_lt w 15 5)]
      rw [show (115 ||| cut w 7 5 * 128) ||| cut w 12 3 * 4096 ||| w / 1048576 * 1048576 ||| cut w 15 5 * 32768 = (((115 ||| cut w 7 5 * 128) ||| cut w 12 3 * 4096) ||| cut w 15 5 * 32768) ||| w / 1048576 * 1048576 by ac_rfl]
      unfold cut at hc ⊢
      simp only [Nat.reducePow] at hc ⊢
      rw [or7 (by omega), or12 (by omega), or15 (by omega), or20 (by omega)]
      omega
    · have hd : decI op w = ⟨op, cut w 7 5, cut w 15 5, 0, 0, cut w 20 12⟩ := by unfold decI; simp [hc, h46]
      rw [hd]
      unfold word word1 word0
      simp only [Nat.zero_mul, Nat.or_zero, Nat.reduceEqDiff, or_self, if_false, if_true, h46, e20]
      rw [show ((115 ||| cut w 7 5 * 128) ||| cut w 15 5 * 32768) ||| cut w 12 3 * 4096 ||| w / 1048576 * 1048576 = (((115 ||| cut w 7 5 * 128) ||| cut w 12 3 * 4096) ||| cut w 15 5 * 32768) ||| w / 1048576 * 1048576 by ac_rfl]
      unfold cut at hc ⊢
      simp only [Nat.reducePow] at hc ⊢
      rw [or7 (by omega), or12 (by omega), or15 (by omega), or20 (by omega)]
      omega
theorem dec_alone : dec 115 = (opIn 39, true) ∧ dec 1048691 = (opIn 40, true) ∧ dec 807403635 = (opIn 41, true) ∧ dec 273678451 = (opIn 42, true) := by decide +kernel
/-- What enc tells is so. -/
theorem enc_ok (i : In) : (enc i).2 = true → dec (enc i).1 = (i, true) := by
  unfold enc
  intro h
  split at h
  · subst_vars; exact dec_alone.1
  · split at h
    · subst_vars; exact dec_alone.2.1
    · split at h
      · subst_vars; exact dec_alone.2.2.1
      · split at h
        · subst_vars; exact dec_alone.2.2.2
        · rename_i h1 h2 h3 h4
          rw [if_neg h1, if_neg h2, if_neg h3, if_neg h4]
          revert h
          generalize sOf i.op = s
          cases s with
          | none => exact fun h => by cases h
          | some s =>
            rw [encS_some]
            split
            · rename_i e; exact fun _ => e
            · exact fun h => by cases h
theorem enc_no (i : In) : (enc i).2 = false → (enc i).1 = 0 := by
  unfold enc
  split
  · exact fun h => by cases h
  · split
    · exact fun h => by cases h
    · split
      · exact fun h => by cases h
      · split
        · exact fun h => by cases h
        · generalize sOf i.op = s
          cases s with
          | none => exact fun _ => rfl
          | some s =>
            rw [encS_some]
            split
            · exact fun h => by cases h
            · exact fun _ => rfl
theorem dec_zero : dec 0 = (zIn, false) := by decide +kernel
/-- Each instruction that there is has a word. -/
theorem enc_dec {w : Nat} (h : w < 4294967296) {j : In} (hd : dec w = (j, true)) : (enc j).2 = true := by
  unfold dec at hd
  by_cases hp : plainN w ≠ 0
  · rw [if_pos hp] at hd
    cases hd
    unfold plainN at hp ⊢
    split
    · decide +kernel
    · split
      · decide +kernel
      · split
        · decide +kernel
        · split
          · decide +kernel
          · simp_all
  · rw [if_neg hp] at hd
    by_cases h0 : opAt (form w) = 0
    · rw [if_pos h0] at hd; cases hd
    · rw [if_neg h0] at hd
      cases hd
      have hdw : dec w = (decI (opAt (form w)) w, true) := by
        unfold dec
        rw [if_neg hp, if_neg h0]
      unfold enc
      split
      · rfl
      · split
        · rfl
        · split
          · rfl
          · split
            · rfl
            · have hop : (decI (opAt (form w)) w).op = opAt (form w) := by
                unfold decI
                repeat' split
                all_goals rfl
              rw [hop, sOf_op h0]
              rw [encS_some]
              by_cases hc : cut w 0 7 = 15
              · have hf : form w = (15, cut w 12 3, 0) := by unfold form; rw [hc]; simp
                have h38 : opAt (form w) = 38 ∧ cut w 12 3 = 0 := by
                  rw [hf] at h0 ⊢
                  have : ∀ x : Fin 8, opAt (15, x.1, 0) ≠ 0 → opAt (15, x.1, 0) = 38 ∧ x.1 = 0 := by decide +kernel
                  exact this ⟨_, cut_lt w 12 3⟩ h0
                have hd : decI (opAt (form w)) w = opIn 38 := by rw [h38.1]; unfold decI; simp [hc]
                rw [hd, hf, h38.2, if_pos (by decide +kernel)]
              · rw [word_dec h hc h0, if_pos hdw]
end Rv
end Go.Proofs.YtgmomkinbfajkaaDoor
