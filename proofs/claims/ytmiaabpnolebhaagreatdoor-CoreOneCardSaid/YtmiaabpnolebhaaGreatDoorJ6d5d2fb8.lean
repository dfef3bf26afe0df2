/-
  Texts of this claim, joined: RvA, RvB.
-/
import Derived.Test.YtmiaabpnolebhaaGreatDoorJ0cfb92a8
set_option linter.unusedSimpArgs false
set_option linter.unusedVariables false
namespace Go.Proofs.YtmiaabpnolebhaaGreatDoor
open Go.RowKit

namespace Rv
structure In where
 op : Nat
 rd : Nat
 a : Nat
 b : Nat
 imm : Nat
 csr : Nat
instance : DecidableEq In := fun x y => decidable_of_iff (x.op = y.op ∧ x.rd = y.rd ∧ x.a = y.a ∧ x.b = y.b ∧ x.imm = y.imm ∧ x.csr = y.csr) ⟨fun ⟨h1, h2, h3, h4, h5, h6⟩ => by
 cases x; cases y
 simp only at h1 h2 h3 h4 h5 h6
 subst h1 h2 h3 h4 h5 h6
 rfl, fun h => by subst h; exact ⟨rfl, rfl, rfl, rfl, rfl, rfl⟩⟩
def zIn : In := ⟨0, 0, 0, 0, 0, 0⟩
def opIn (op : Nat) : In := ⟨op, 0, 0, 0, 0, 0⟩
structure In.Ok (i : In) : Prop where
 op : i.op < 256
 rd : i.rd < 256
 a : i.a < 256
 b : i.b < 256
 imm : i.imm < 4294967296
 csr : i.csr < 65536
def cut (w f n : Nat) : Nat := w / 2 ^ f % 2 ^ n
def ext (v n : Nat) : Nat := if v / 2 ^ (n - 1) % 2 = 1 then v % 2 ^ n + (4294967296 - 2 ^ n) else v % 2 ^ n
def immI (w : Nat) : Nat := ext (w / 2 ^ 20) 12
def immS (w : Nat) : Nat := ext (cut w 25 7 * 32 + cut w 7 5) 12
def immB (w : Nat) : Nat := ext (cut w 31 1 * 4096 + cut w 7 1 * 2048 + cut w 25 6 * 32 + cut w 8 4 * 2) 13
def immJ (w : Nat) : Nat := ext (cut w 31 1 * 1048576 + cut w 12 8 * 4096 + cut w 20 1 * 2048 + cut w 21 10 * 2) 21
abbrev Sh := Nat × Nat × Nat
def rows (c f7 : Nat) (l : List Nat) : Nat → List (Sh × Nat)
 | 0 => []
 | i + 1 => ((c, i, f7), l.getD i 0) :: rows c f7 l i
def rowsNz (c f7 : Nat) (l : List Nat) : Nat → List (Sh × Nat)
 | 0 => []
 | i + 1 => if l.getD i 0 = 0 then rowsNz c f7 l i else ((c, i, f7), l.getD i 0) :: rowsNz c f7 l i
def rows2 (l : List Nat) : Nat → List (Sh × Nat)
 | 0 => []
 | i + 1 => ((51, i, 1), 49 + i) :: ((51, i, 0), l.getD i 0) :: rows2 l i
def lBr : List Nat := [5, 6, 0, 0, 7, 8, 9, 10]
def lLd : List Nat := [11, 12, 13, 0, 14, 15]
def lSt : List Nat := [16, 17, 18]
def lIm : List Nat := [19, 0, 20, 21, 22, 0, 23, 24]
def lRg : List Nat := [28, 30, 31, 32, 33, 34, 36, 37]
def lSy : List Nat := [0, 43, 44, 45, 0, 46, 47, 48]
def base : List (Sh × Nat) := [((51, 5, 32), 35), ((51, 0, 32), 29), ((19, 5, 32), 27), ((19, 5, 0), 26), ((19, 1, 0), 25), ((15, 0, 0), 38), ((103, 0, 0), 4), ((111, 0, 0), 3), ((23, 0, 0), 2), ((55, 0, 0), 1)]
def tab1 : List (Sh × Nat) := rows 99 0 lBr 8 ++ base
def tab2 : List (Sh × Nat) := rows 3 0 lLd 6 ++ tab1
def tab3 : List (Sh × Nat) := rows 35 0 lSt 3 ++ tab2
def tab4 : List (Sh × Nat) := rowsNz 19 0 lIm 8 ++ tab3
def tab5 : List (Sh × Nat) := rows2 lRg 8 ++ tab4
def tab : List (Sh × Nat) := rows 115 0 lSy 8 ++ tab5
def opAt (s : Sh) : Nat := (tab.lookup s).getD 0
def plainN (w : Nat) : Nat := if w = 115 then 39 else if w = 1048691 then 40 else if w = 807403635 then 41 else if w = 273678451 then 42 else 0
def form (w : Nat) : Sh :=
 if cut w 0 7 = 55 ∨ cut w 0 7 = 23 ∨ cut w 0 7 = 111 then (cut w 0 7, 0, 0)
 else if cut w 0 7 = 51 ∨ (cut w 0 7 = 19 ∧ (cut w 12 3 = 1 ∨ cut w 12 3 = 5)) then (cut w 0 7, cut w 12 3, cut w 25 7)
 else (cut w 0 7, cut w 12 3, 0)
def decI (op w : Nat) : In :=
 if cut w 0 7 = 55 ∨ cut w 0 7 = 23 then ⟨op, cut w 7 5, 0, 0, w - w % 4096, 0⟩
 else if cut w 0 7 = 111 then ⟨op, cut w 7 5, 0, 0, immJ w, 0⟩
 else if cut w 0 7 = 99 then ⟨op, 0, cut w 15 5, cut w 20 5, immB w, 0⟩
 else if cut w 0 7 = 35 then ⟨op, 0, cut w 15 5, cut w 20 5, immS w, 0⟩
 else if cut w 0 7 = 51 then ⟨op, cut w 7 5, cut w 15 5, cut w 20 5, 0, 0⟩
 else if cut w 0 7 = 15 then opIn op
 else if cut w 0 7 = 115 then (if 46 ≤ op then ⟨op, cut w 7 5, 0, 0, cut w 15 5, cut w 20 12⟩ else ⟨op, cut w 7 5, cut w 15 5, 0, 0, cut w 20 12⟩)
 else if op = 25 ∨ op = 26 ∨ op = 27 then ⟨op, cut w 7 5, cut w 15 5, 0, cut w 20 5, 0⟩
 else ⟨op, cut w 7 5, cut w 15 5, 0, immI w, 0⟩
def dec (w : Nat) : In × Bool := if plainN w ≠ 0 then (opIn (plainN w), true) else if opAt (form w) = 0 then (zIn, false) else (decI (opAt (form w)) w, true)
def rAt (f3 : Nat) (l : List Nat) : Nat := l.getD f3 0
def rOp (c f3 f7 : Nat) : Nat :=
 if c = 55 then 1 else if c = 23 then 2 else if c = 111 then 3
 else if c = 103 then (if f3 = 0 then 4 else 0)
 else if c = 99 then rAt f3 [5, 6, 0, 0, 7, 8, 9, 10]
 else if c = 3 then rAt f3 [11, 12, 13, 0, 14, 15]
 else if c = 35 then rAt f3 [16, 17, 18]
 else if c = 19 then (if f3 = 1 ∨ f3 = 5 then (if f3 = 5 ∧ f7 = 32 then 27 else if f7 ≠ 0 then 0 else rAt f3 [19, 25, 20, 21, 22, 26, 23, 24]) else rAt f3 [19, 25, 20, 21, 22, 26, 23, 24])
 else if c = 51 then (if f7 = 0 then rAt f3 [28, 30, 31, 32, 33, 34, 36, 37] else if f7 = 1 then 49 + f3 else if f7 = 32 ∧ f3 = 0 then 29 else if f7 = 32 ∧ f3 = 5 then 35 else 0)
 else if c = 15 then (if f3 = 0 then 38 else 0)
 else if c = 115 then rAt f3 [0, 43, 44, 45, 0, 46, 47, 48]
 else 0
def nz (i : In) : In := if i.op = 0 then zIn else i
def ref (w : Nat) : In :=
 if cut w 0 7 = 55 then ⟨1, cut w 7 5, 0, 0, w - w % 4096, 0⟩
 else if cut w 0 7 = 23 then ⟨2, cut w 7 5, 0, 0, w - w % 4096, 0⟩
 else if cut w 0 7 = 111 then ⟨3, cut w 7 5, 0, 0, immJ w, 0⟩
 else if cut w 0 7 = 103 then (if cut w 12 3 = 0 then ⟨4, cut w 7 5, cut w 15 5, 0, immI w, 0⟩ else zIn)
 else if cut w 0 7 = 99 then nz ⟨rAt (cut w 12 3) [5, 6, 0, 0, 7, 8, 9, 10], 0, cut w 15 5, cut w 20 5, immB w, 0⟩
 else if cut w 0 7 = 3 then nz ⟨rAt (cut w 12 3) [11, 12, 13, 0, 14, 15], cut w 7 5, cut w 15 5, 0, immI w, 0⟩
 else if cut w 0 7 = 35 then nz ⟨rAt (cut w 12 3) [16, 17, 18], 0, cut w 15 5, cut w 20 5, immS w, 0⟩
 else if cut w 0 7 = 19 then
  (if cut w 12 3 = 1 ∨ cut w 12 3 = 5 then nz ⟨if cut w 12 3 = 5 ∧ cut w 25 7 = 32 then 27 else if cut w 25 7 ≠ 0 then 0 else rAt (cut w 12 3) [19, 25, 20, 21, 22, 26, 23, 24], cut w 7 5, cut w 15 5, 0, cut w 20 5, 0⟩
   else nz ⟨rAt (cut w 12 3) [19, 25, 20, 21, 22, 26, 23, 24], cut w 7 5, cut w 15 5, 0, immI w, 0⟩)
 else if cut w 0 7 = 51 then nz ⟨if cut w 25 7 = 0 then rAt (cut w 12 3) [28, 30, 31, 32, 33, 34, 36, 37] else if cut w 25 7 = 1 then 49 + cut w 12 3 else if cut w 25 7 = 32 ∧ cut w 12 3 = 0 then 29 else if cut w 25 7 = 32 ∧ cut w 12 3 = 5 then 35 else 0, cut w 7 5, cut w 15 5, cut w 20 5, 0, 0⟩
 else if cut w 0 7 = 15 then (if cut w 12 3 = 0 then opIn 38 else zIn)
 else if cut w 0 7 = 115 then
  (if cut w 12 3 = 0 then opIn (plainN w)
   else nz (if 4 < cut w 12 3 then ⟨rAt (cut w 12 3) [0, 43, 44, 45, 0, 46, 47, 48], cut w 7 5, 0, 0, cut w 15 5, cut w 20 12⟩ else ⟨rAt (cut w 12 3) [0, 43, 44, 45, 0, 46, 47, 48], cut w 7 5, cut w 15 5, 0, 0, cut w 20 12⟩))
 else zIn
theorem cut_lt (w f n : Nat) : cut w f n < 2 ^ n := Nat.mod_lt _ (Nat.two_pow_pos n)
theorem op_codes : ∀ c ∈ [55, 23, 111], opAt (c, 0, 0) = rOp c 0 0 := by decide +kernel
theorem op_flat : ∀ c ∈ [103, 99, 3, 35, 15, 115], ∀ f3 : Fin 8, opAt (c, f3.1, 0) = rOp c f3.1 0 := by decide +kernel
theorem op_imm : ∀ f3 : Fin 8, f3.1 ≠ 1 → f3.1 ≠ 5 → opAt (19, f3.1, 0) = rOp 19 f3.1 0 := by decide +kernel
theorem op_imm1 : ∀ f7 : Fin 128, opAt (19, 1, f7.1) = rOp 19 1 f7.1 := by decide +kernel
theorem op_imm5 : ∀ f7 : Fin 128, opAt (19, 5, f7.1) = rOp 19 5 f7.1 := by decide +kernel
theorem op_reg : ∀ f3 : Fin 8, ∀ f7 : Fin 128, opAt (51, f3.1, f7.1) = rOp 51 f3.1 f7.1 := by decide +kernel
theorem tab_codes : ∀ e ∈ tab, e.1.1 ∈ [55, 23, 111, 103, 99, 3, 35, 19, 51, 15, 115] := by decide +kernel
theorem lookup_none {s : Sh} {l : List (Sh × Nat)} (h : ∀ e ∈ l, e.1 ≠ s) : l.lookup s = none := by
 induction l with
 | nil => rfl
 | cons e l ih =>
  obtain ⟨k, v⟩ := e
  have : (s == k) = false := by
   rw [beq_eq_false_iff_ne]
   exact fun q => h (k, v) (List.mem_cons_self ..) q.symm
  rw [List.lookup_cons, this]
  exact ih fun e he => h e (List.mem_cons_of_mem _ he)
theorem op_else {c f3 f7 : Nat} (h : c ∉ [55, 23, 111, 103, 99, 3, 35, 19, 51, 15, 115]) : opAt (c, f3, f7) = 0 := by
 unfold opAt
 rw [lookup_none (fun e he q => h (by have := tab_codes e he; rw [q] at this; exact this))]
 rfl
theorem plain_not {w : Nat} (h : plainN w ≠ 0) : cut w 0 7 = 115 ∧ cut w 12 3 = 0 := by
 unfold plainN at h
 split at h
 ·subst_vars; decide
 ·split at h
  ·subst_vars; decide
  ·split at h
   ·subst_vars; decide
   ·split at h
    ·subst_vars; decide
    ·exact absurd rfl h
theorem dec_ref (w : Nat) : (dec w).1 = ref w ∧ ((dec w).2 = true ↔ (ref w).op ≠ 0) := by
 have h3 := cut_lt w 12 3
 have h7 := cut_lt w 25 7
 unfold dec
 by_cases hp : plainN w ≠ 0
 ·obtain ⟨hc, hf⟩ := plain_not hp
  have : ref w = opIn (plainN w) := by
   unfold ref
   simp [hc, hf]
  rw [if_pos hp, this]
  exact ⟨rfl, fun _ => hp, fun _ => rfl⟩
 ·rw [if_neg hp]
  have hp0 : plainN w = 0 := by simpa using hp
  have out : ∀ {i : In} {o : Nat}, opAt (form w) = o → decI o w = i → i.op = o → ref w = nz i → (if opAt (form w) = 0 then (zIn, false) else (decI (opAt (form w)) w, true)).1 = ref w ∧ ((if opAt (form w) = 0 then (zIn, false) else (decI (opAt (form w)) w, true)).2 = true ↔ (ref w).op ≠ 0) := by
   intro i o h1 h2 h4 h5
   rw [h1, h2, h5]
   unfold nz
   rw [h4]
   by_cases h0 : o = 0
   ·rw [if_pos h0, if_pos h0]
    exact ⟨rfl, fun h => (by cases h), fun h => absurd rfl h⟩
   ·rw [if_neg h0, if_neg h0]
    exact ⟨rfl, fun _ => by rw [h4]; exact h0, fun _ => rfl⟩
  obtain ⟨c, hc⟩ : ∃ c, cut w 0 7 = c := ⟨_, rfl⟩
  obtain ⟨f3, hf3⟩ : ∃ c, cut w 12 3 = c := ⟨_, rfl⟩
  obtain ⟨f7, hf7⟩ : ∃ c, cut w 25 7 = c := ⟨_, rfl⟩
  rw [hf3] at h3
  rw [hf7] at h7
  by_cases hin : c ∈ [55, 23, 111, 103, 99, 3, 35, 19, 51, 15, 115]
  ·simp only [List.mem_cons, List.not_mem_nil, or_false] at hin
   rcases hin with rfl | rfl | rfl | rfl | rfl | rfl | rfl | rfl | rfl | rfl | rfl
   ·exact out (o := 1) (by unfold form; rw [hc, if_pos (by decide)]; exact op_codes 55 (by decide)) rfl (by unfold decI; simp [hc]) (by unfold ref nz decI; simp [hc])
   ·exact out (o := 2) (by unfold form; rw [hc, if_pos (by decide)]; exact op_codes 23 (by decide)) rfl (by unfold decI; simp [hc]) (by unfold ref nz decI; simp [hc])
   ·exact out (o := 3) (by unfold form; rw [hc, if_pos (by decide)]; exact op_codes 111 (by decide)) rfl (by unfold decI; simp [hc]) (by unfold ref nz decI; simp [hc])
   ·have e := op_flat 103 (by decide) ⟨f3, h3⟩
    refine out (o := rOp 103 f3 0) (by unfold form; rw [hc, hf3, if_neg (by decide), if_neg (by simp)]; exact e) rfl (by unfold decI; simp [hc]; split <;> rfl) ?_
    have e2 : ¬ (rOp 103 f3 0 = 25 ∨ rOp 103 f3 0 = 26 ∨ rOp 103 f3 0 = 27) := by
     unfold rOp
     simp
     split <;> simp
    have e3 : rOp 103 f3 0 = if f3 = 0 then 4 else 0 := by unfold rOp; simp
    unfold ref nz decI
    simp [hc, hf3, e2]
    rw [e3]
    split <;> simp_all [zIn]
   ·have e := op_flat 99 (by decide) ⟨f3, h3⟩
    refine out (o := rOp 99 f3 0) (by unfold form; rw [hc, hf3, if_neg (by decide), if_neg (by simp)]; exact e) rfl (by unfold decI; simp [hc]) ?_
    unfold ref decI rOp
    simp [hc, hf3]
   ·have e := op_flat 3 (by decide) ⟨f3, h3⟩
    have e2 : ¬ (rAt f3 [11, 12, 13, 0, 14, 15] = 25 ∨ rAt f3 [11, 12, 13, 0, 14, 15] = 26 ∨ rAt f3 [11, 12, 13, 0, 14, 15] = 27) := by
     have : ∀ x : Fin 8, ¬ (rAt x.1 [11, 12, 13, 0, 14, 15] = 25 ∨ rAt x.1 [11, 12, 13, 0, 14, 15] = 26 ∨ rAt x.1 [11, 12, 13, 0, 14, 15] = 27) := by decide
     exact this ⟨f3, h3⟩
    have e3 : rOp 3 f3 0 = rAt f3 [11, 12, 13, 0, 14, 15] := by unfold rOp; simp
    refine out (o := rAt f3 [11, 12, 13, 0, 14, 15]) (by unfold form; rw [hc, hf3, if_neg (by decide), if_neg (by simp)]; exact e.trans e3) rfl (by unfold decI; simp [hc, e2]) ?_
    unfold ref decI
    simp [hc, hf3, e2]
   ·have e := op_flat 35 (by decide) ⟨f3, h3⟩
    refine out (o := rOp 35 f3 0) (by unfold form; rw [hc, hf3, if_neg (by decide), if_neg (by simp)]; exact e) rfl (by unfold decI; simp [hc]) ?_
    unfold ref decI rOp
    simp [hc, hf3]
   ·by_cases h15 : f3 = 1 ∨ f3 = 5
    ·have e : opAt (19, f3, f7) = rOp 19 f3 f7 := by
      rcases h15 with rfl | rfl
      ·exact op_imm1 ⟨f7, h7⟩
      ·exact op_imm5 ⟨f7, h7⟩
     have e2 : rOp 19 f3 f7 = 0 ∨ rOp 19 f3 f7 = 25 ∨ rOp 19 f3 f7 = 26 ∨ rOp 19 f3 f7 = 27 := by
      have e1 : ∀ x : Fin 128, rOp 19 1 x.1 = 0 ∨ rOp 19 1 x.1 = 25 ∨ rOp 19 1 x.1 = 26 ∨ rOp 19 1 x.1 = 27 := by decide +kernel
      have e5 : ∀ x : Fin 128, rOp 19 5 x.1 = 0 ∨ rOp 19 5 x.1 = 25 ∨ rOp 19 5 x.1 = 26 ∨ rOp 19 5 x.1 = 27 := by decide +kernel
      rcases h15 with rfl | rfl
      ·exact e1 ⟨f7, h7⟩
      ·exact e5 ⟨f7, h7⟩
     have e3 : opAt (form w) = rOp 19 f3 f7 := by unfold form; rw [hc, hf3, hf7, if_neg (by decide), if_pos (.inr ⟨rfl, h15⟩)]; exact e
     have e4 : ref w = nz ⟨rOp 19 f3 f7, cut w 7 5, cut w 15 5, 0, cut w 20 5, 0⟩ := by
      unfold ref rOp
      simp only [hc, hf3, hf7]
      simp [h15]
     by_cases h0 : rOp 19 f3 f7 = 0
     ·rw [e3, h0, if_pos rfl, e4, h0]
      exact ⟨rfl, fun h => (by cases h), fun h => absurd rfl h⟩
     ·refine out e3 (i := ⟨rOp 19 f3 f7, cut w 7 5, cut w 15 5, 0, cut w 20 5, 0⟩) ?_ rfl e4
      unfold decI
      rw [hc]
      simp [e2.resolve_left h0]
    ·have e := op_imm ⟨f3, h3⟩ (fun q => h15 (.inl q)) (fun q => h15 (.inr q))
     have e2 : ¬ (rOp 19 f3 0 = 25 ∨ rOp 19 f3 0 = 26 ∨ rOp 19 f3 0 = 27) := by
      have : ∀ x : Fin 8, x.1 ≠ 1 → x.1 ≠ 5 → ¬ (rOp 19 x.1 0 = 25 ∨ rOp 19 x.1 0 = 26 ∨ rOp 19 x.1 0 = 27) := by decide
      exact this ⟨f3, h3⟩ (fun q => h15 (.inl q)) (fun q => h15 (.inr q))
     have e3 : rOp 19 f3 0 = rAt f3 [19, 25, 20, 21, 22, 26, 23, 24] := by unfold rOp; simp [h15]
     rw [e3] at e2
     refine out (o := rAt f3 [19, 25, 20, 21, 22, 26, 23, 24]) (by unfold form; rw [hc, hf3, if_neg (by decide), if_neg (by simp [h15])]; exact e.trans e3) rfl (by unfold decI; simp [hc, e2]) ?_
     unfold ref decI
     simp [hc, hf3, e2, h15]
   ·have e := op_reg ⟨f3, h3⟩ ⟨f7, h7⟩
    refine out (o := rOp 51 f3 f7) (by unfold form; rw [hc, hf3, hf7, if_neg (by decide), if_pos (.inl rfl)]; exact e) rfl (by unfold decI; simp [hc]) ?_
    unfold ref decI rOp
    simp [hc, hf3, hf7]
   ·have e := op_flat 15 (by decide) ⟨f3, h3⟩
    refine out (o := rOp 15 f3 0) (by unfold form; rw [hc, hf3, if_neg (by decide), if_neg (by simp)]; exact e) rfl (by unfold decI; simp [hc, opIn]) ?_
    unfold ref decI rOp nz
    simp [hc, hf3]
    split <;> simp_all [opIn]
   ·have e := op_flat 115 (by decide) ⟨f3, h3⟩
    have e3 : rOp 115 f3 0 = rAt f3 [0, 43, 44, 45, 0, 46, 47, 48] := by unfold rOp; simp
    have e5 : 46 ≤ rAt f3 [0, 43, 44, 45, 0, 46, 47, 48] ↔ 4 < f3 := by
     have : ∀ x : Fin 8, 46 ≤ rAt x.1 [0, 43, 44, 45, 0, 46, 47, 48] ↔ 4 < x.1 := by decide
     exact this ⟨f3, h3⟩
    by_cases hz : f3 = 0
    ·subst hz
     rw [show opAt (form w) = 0 by unfold form; rw [hc, hf3, if_neg (by decide), if_neg (by simp)]; exact e, if_pos rfl]
     have : ref w = zIn := by
      unfold ref
      simp [hc, hf3, hp0, opIn, zIn]
     rw [this]
     exact ⟨rfl, fun h => (by cases h), fun h => absurd rfl h⟩
    ·refine out (o := rAt f3 [0, 43, 44, 45, 0, 46, 47, 48]) (by unfold form; rw [hc, hf3, if_neg (by decide), if_neg (by simp)]; exact e.trans e3) rfl (by unfold decI; simp [hc]; split <;> rfl) ?_
     unfold ref decI
     simp [hc, hf3, hz, e5]
  ·have h0 : opAt (form w) = 0 := by
    unfold form
    rw [hc]
    split
    ·exact op_else hin
    ·split <;> exact op_else hin
   rw [h0, if_pos rfl]
   simp only [List.mem_cons, List.not_mem_nil, or_false, not_or] at hin
   have : ref w = zIn := by
    unfold ref
    rw [hc]
    simp [hin]
   rw [this]
   exact ⟨rfl, fun h => (by cases h), fun h => absurd rfl h⟩
def sOf (op : Nat) : Option Sh := if op = 0 then none else (tab.find? (fun e => e.2 == op)).map (·.1)
def word0 (s : Sh) (i : In) : Nat := ((s.1 ||| i.rd * 128) ||| i.a * 32768) ||| i.b * 1048576
def word1 (s : Sh) (i : In) : Nat := if s.1 = 55 ∨ s.1 = 23 ∨ s.1 = 111 then word0 s i else word0 s i ||| (s.2.1 * 4096 ||| s.2.2 * 33554432)
def word (s : Sh) (i : In) : Nat :=
 if s.1 = 55 ∨ s.1 = 23 then word1 s i ||| (i.imm - i.imm % 4096)
 else if s.1 = 111 then word1 s i ||| (((cut i.imm 20 1 * 2147483648 ||| cut i.imm 1 10 * 2097152) ||| cut i.imm 11 1 * 1048576) ||| cut i.imm 12 8 * 4096)
 else if s.1 = 99 then word1 s i ||| (((cut i.imm 12 1 * 2147483648 ||| cut i.imm 5 6 * 33554432) ||| cut i.imm 1 4 * 256) ||| cut i.imm 11 1 * 128)
 else if s.1 = 35 then word1 s i ||| (cut i.imm 5 7 * 33554432 ||| cut i.imm 0 5 * 128)
 else if s.1 = 115 then (if 46 ≤ i.op then (word1 s i ||| i.csr * 1048576 % 4294967296) ||| i.imm * 32768 % 4294967296 else word1 s i ||| i.csr * 1048576 % 4294967296)
 else if s.1 = 19 ∨ s.1 = 3 ∨ s.1 = 103 then word1 s i ||| i.imm * 1048576 % 4294967296
 else word1 s i
def encS (i : In) : Option Sh → Nat × Bool
 | none => (0, false)
 | some s => if dec (word s i) = (i, true) then (word s i, true) else (0, false)
theorem encS_some (i : In) (s : Sh) : encS i (some s) = if dec (word s i) = (i, true) then (word s i, true) else (0, false) := rfl
def enc (i : In) : Nat × Bool :=
 if i = opIn 39 then (115, true) else if i = opIn 40 then (1048691, true) else if i = opIn 41 then (807403635, true) else if i = opIn 42 then (273678451, true)
 else encS i (sOf i.op)
theorem or_at {x y : Nat} (k : Nat) (h : x < 2 ^ k) : x ||| y * 2 ^ k = x + y * 2 ^ k := by
 rw [Nat.mul_comm, Nat.or_comm, ← Nat.two_pow_add_eq_or_of_lt h]; omega
theorem key_shape : ∀ e ∈ tab, e.2 ≠ 0 → sOf e.2 = some e.1 := by decide +kernel
theorem lookup_mem {s : Sh} {v : Nat} : ∀ {l : List (Sh × Nat)}, l.lookup s = some v → (s, v) ∈ l
 | [], h => by cases h
 | (k, u) :: l, h => by
  rw [List.lookup_cons] at h
  split at h
  ·rename_i e
   rw [beq_iff_eq] at e
   cases h
   rw [e]
   exact List.mem_cons_self ..
  ·exact List.mem_cons_of_mem _ (lookup_mem h)
theorem sOf_mem {op : Nat} {s : Sh} (h : sOf op = some s) : (s, op) ∈ tab ∧ op ≠ 0 := by
 unfold sOf at h
 split at h
 ·cases h
 ·rename_i h0
  obtain ⟨⟨k, v⟩, he, rfl⟩ := Option.map_eq_some_iff.1 h
  have := List.find?_some he
  rw [beq_iff_eq] at this
  subst this
  exact ⟨List.mem_of_find?_eq_some he, h0⟩
end Rv
end Go.Proofs.YtmiaabpnolebhaaGreatDoor
