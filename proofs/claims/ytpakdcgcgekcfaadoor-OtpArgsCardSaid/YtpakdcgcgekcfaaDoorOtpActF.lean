/-
  An act, and words, as a law's frame gives them.
-/
import Derived.Test.YtpakdcgcgekcfaaDoorProg
import Derived.Test.YtpakdcgcgekcfaaDoorMem
import Derived.Test.YtpakdcgcgekcfaaDoorOtpAct
import Derived.OpenShut
namespace Go.Proofs.YtpakdcgcgekcfaaDoor
open Go.RowKit

namespace Otp
open Fuse
theorem c32_ints (zs : List Int) (h : ∀ z ∈ zs, (Lit.int .u32 z).wf = true) : (zs.map (Value.int .u32)).toArray = c32 (zs.map Int.toNat) := by
  unfold c32
  rw [List.map_map]
  congr 1
  apply List.map_congr_left
  intro z hz
  have := (bounds_u32 (h z hz)).1
  simp [Int.toNat_of_nonneg this]
theorem u32_nats (zs : List Int) (h : ∀ z ∈ zs, (Lit.int .u32 z).wf = true) (i x : Nat) (hx : (zs.map Int.toNat)[i]? = some x) : x < 4294967296 := by
  rw [List.getElem?_map] at hx
  cases hz : zs[i]? with
  | none => rw [hz] at hx; cases hx
  | some z =>
    rw [hz] at hx
    obtain rfl := Option.some.inj hx
    have := bounds_u32 (h z (List.mem_of_getElem? hz))
    omega
theorem act_cells (d n : Int) (ks : List Int) (m : Int) (tn : Bool) (g : Int) (h : ∀ z ∈ ks, (Lit.int .u8 z).wf = true) : #[Value.int .u8 d, .int .i64 n] ++ (ks.map (Value.int .u8)).toArray ++ #[.int .u8 m, .bool tn, .int .u32 g] = actC d n (ks.map Int.toNat) m tn g := by
  unfold actC b8
  rw [List.map_map]
  congr 2
  congr 1
  apply List.map_congr_left
  intro z hz
  have := (bounds_u8 (h z hz)).1
  simp [Int.toNat_of_nonneg this]
theorem u8_nats (ks : List Int) (h : ∀ z ∈ ks, (Lit.int .u8 z).wf = true) : ∀ x ∈ ks.map Int.toNat, x < 256 := by
  intro x hx
  obtain ⟨z, hz, rfl⟩ := List.mem_map.1 hx
  have := bounds_u8 (h z hz)
  omega
theorem act_lit (d n k0 k1 k2 k3 k4 k5 k6 k7 k8 k9 k10 k11 k12 k13 k14 k15 k16 k17 k18 k19 k20 k21 k22 k23 k24 k25 k26 k27 k28 k29 k30 k31 m : Int) (tn : Bool) (g : Int) : (#[.int .u8 d, .int .i64 n, .int .u8 k0, .int .u8 k1, .int .u8 k2, .int .u8 k3, .int .u8 k4, .int .u8 k5, .int .u8 k6, .int .u8 k7, .int .u8 k8, .int .u8 k9, .int .u8 k10, .int .u8 k11, .int .u8 k12, .int .u8 k13, .int .u8 k14, .int .u8 k15, .int .u8 k16, .int .u8 k17, .int .u8 k18, .int .u8 k19, .int .u8 k20, .int .u8 k21, .int .u8 k22, .int .u8 k23, .int .u8 k24, .int .u8 k25, .int .u8 k26, .int .u8 k27, .int .u8 k28, .int .u8 k29, .int .u8 k30, .int .u8 k31, .int .u8 m, .bool tn, .int .u32 g] : Array Value) = #[Value.int .u8 d, .int .i64 n] ++ ([k0, k1, k2, k3, k4, k5, k6, k7, k8, k9, k10, k11, k12, k13, k14, k15, k16, k17, k18, k19, k20, k21, k22, k23, k24, k25, k26, k27, k28, k29, k30, k31].map (Value.int .u8)).toArray ++ #[.int .u8 m, .bool tn, .int .u32 g] := by
  apply Array.toList_inj.1
  simp only [Array.toList_append, List.map_cons, List.map_nil, List.cons_append, List.nil_append]
theorem all32 {k0 k1 k2 k3 k4 k5 k6 k7 k8 k9 k10 k11 k12 k13 k14 k15 k16 k17 k18 k19 k20 k21 k22 k23 k24 k25 k26 k27 k28 k29 k30 k31 : Int} (q0 : (Lit.int .u8 k0).wf = true) (q1 : (Lit.int .u8 k1).wf = true) (q2 : (Lit.int .u8 k2).wf = true) (q3 : (Lit.int .u8 k3).wf = true) (q4 : (Lit.int .u8 k4).wf = true) (q5 : (Lit.int .u8 k5).wf = true) (q6 : (Lit.int .u8 k6).wf = true) (q7 : (Lit.int .u8 k7).wf = true) (q8 : (Lit.int .u8 k8).wf = true) (q9 : (Lit.int .u8 k9).wf = true) (q10 : (Lit.int .u8 k10).wf = true) (q11 : (Lit.int .u8 k11).wf = true) (q12 : (Lit.int .u8 k12).wf = true) (q13 : (Lit.int .u8 k13).wf = true) (q14 : (Lit.int .u8 k14).wf = true) (q15 : (Lit.int .u8 k15).wf = true) (q16 : (Lit.int .u8 k16).wf = true) (q17 : (Lit.int .u8 k17).wf = true) (q18 : (Lit.int .u8 k18).wf = true) (q19 : (Lit.int .u8 k19).wf = true) (q20 : (Lit.int .u8 k20).wf = true) (q21 : (Lit.int .u8 k21).wf = true) (q22 : (Lit.int .u8 k22).wf = true) (q23 : (Lit.int .u8 k23).wf = true) (q24 : (Lit.int .u8 k24).wf = true) (q25 : (Lit.int .u8 k25).wf = true) (q26 : (Lit.int .u8 k26).wf = true) (q27 : (Lit.int .u8 k27).wf = true) (q28 : (Lit.int .u8 k28).wf = true) (q29 : (Lit.int .u8 k29).wf = true) (q30 : (Lit.int .u8 k30).wf = true) (q31 : (Lit.int .u8 k31).wf = true) : ∀ z ∈ [k0, k1, k2, k3, k4, k5, k6, k7, k8, k9, k10, k11, k12, k13, k14, k15, k16, k17, k18, k19, k20, k21, k22, k23, k24, k25, k26, k27, k28, k29, k30, k31], (Lit.int .u8 z).wf = true := by
  simp only [List.mem_cons, List.not_mem_nil, or_false, forall_eq_or_imp, forall_eq]
  exact ⟨q0, q1, q2, q3, q4, q5, q6, q7, q8, q9, q10, q11, q12, q13, q14, q15, q16, q17, q18, q19, q20, q21, q22, q23, q24, q25, q26, q27, q28, q29, q30, q31⟩
end Otp
end Go.Proofs.YtpakdcgcgekcfaaDoor
