/-
  OtpArgs, its arguments as the law's frame gives them.
-/
import Derived.Test.YtpakdcgcgekcfaaDoorOtpActF
import Derived.Test.YtpakdcgcgekcfaaDoorOtpArgs
namespace Go.Proofs.YtpakdcgcgekcfaaDoor
open Go.RowKit

namespace Otp
open Fuse
theorem args_frame (A : Option Addr) (len cap : Nat) (l : List Nat) (d n k0 k1 k2 k3 k4 k5 k6 k7 k8 k9 k10 k11 k12 k13 k14 k15 k16 k17 k18 k19 k20 k21 k22 k23 k24 k25 k26 k27 k28 k29 k30 k31 m : Int) (tn : Bool) (g : Int) (W : World) (hT : Tab W) (hl : l.length = len) (hlc : len ≤ cap) (hcm : cap ≤ maxLen) (hN : Nats .u32 4294967296 W W.heap.size A l)
    (hd : (Lit.int .u8 d).wf = true) (q0 : (Lit.int .u8 k0).wf = true) (q1 : (Lit.int .u8 k1).wf = true) (q2 : (Lit.int .u8 k2).wf = true) (q3 : (Lit.int .u8 k3).wf = true) (q4 : (Lit.int .u8 k4).wf = true) (q5 : (Lit.int .u8 k5).wf = true) (q6 : (Lit.int .u8 k6).wf = true) (q7 : (Lit.int .u8 k7).wf = true) (q8 : (Lit.int .u8 k8).wf = true) (q9 : (Lit.int .u8 k9).wf = true) (q10 : (Lit.int .u8 k10).wf = true) (q11 : (Lit.int .u8 k11).wf = true) (q12 : (Lit.int .u8 k12).wf = true) (q13 : (Lit.int .u8 k13).wf = true) (q14 : (Lit.int .u8 k14).wf = true) (q15 : (Lit.int .u8 k15).wf = true) (q16 : (Lit.int .u8 k16).wf = true) (q17 : (Lit.int .u8 k17).wf = true) (q18 : (Lit.int .u8 k18).wf = true) (q19 : (Lit.int .u8 k19).wf = true) (q20 : (Lit.int .u8 k20).wf = true) (q21 : (Lit.int .u8 k21).wf = true) (q22 : (Lit.int .u8 k22).wf = true) (q23 : (Lit.int .u8 k23).wf = true) (q24 : (Lit.int .u8 k24).wf = true) (q25 : (Lit.int .u8 k25).wf = true) (q26 : (Lit.int .u8 k26).wf = true) (q27 : (Lit.int .u8 k27).wf = true) (q28 : (Lit.int .u8 k28).wf = true) (q29 : (Lit.int .u8 k29).wf = true) (q30 : (Lit.int .u8 k30).wf = true) (q31 : (Lit.int .u8 k31).wf = true) (hm : (Lit.int .u8 m).wf = true) (hg : (Lit.int .u32 g).wf = true) :
    Calls Tryd.prog 5 #[.slice A len cap, .agg #[.int .u8 d, .int .i64 n, .int .u8 k0, .int .u8 k1, .int .u8 k2, .int .u8 k3, .int .u8 k4, .int .u8 k5, .int .u8 k6, .int .u8 k7, .int .u8 k8, .int .u8 k9, .int .u8 k10, .int .u8 k11, .int .u8 k12, .int .u8 k13, .int .u8 k14, .int .u8 k15, .int .u8 k16, .int .u8 k17, .int .u8 k18, .int .u8 k19, .int .u8 k20, .int .u8 k21, .int .u8 k22, .int .u8 k23, .int .u8 k24, .int .u8 k25, .int .u8 k26, .int .u8 k27, .int .u8 k28, .int .u8 k29, .int .u8 k30, .int .u8 k31, .int .u8 m, .bool tn, .int .u32 g]] W (TrueBelow W) := by
  have hk := all32 q0 q1 q2 q3 q4 q5 q6 q7 q8 q9 q10 q11 q12 q13 q14 q15 q16 q17 q18 q19 q20 q21 q22 q23 q24 q25 q26 q27 q28 q29 q30 q31
  have bd := bounds_u8 hd
  have bm := bounds_u8 hm
  have bg := bounds_u32 hg
  rw [act_lit, act_cells _ _ _ _ _ _ hk]
  have := args_any A len cap l ⟨d.toNat, n, [k0, k1, k2, k3, k4, k5, k6, k7, k8, k9, k10, k11, k12, k13, k14, k15, k16, k17, k18, k19, k20, k21, k22, k23, k24, k25, k26, k27, k28, k29, k30, k31].map Int.toNat, m.toNat, tn, g.toNat⟩ W hT hl hlc hcm hN
    ⟨by simp only; omega, rfl, u8_nats _ hk, by simp only; omega, by simp only; omega⟩
  unfold ActV.cells at this
  simp only [Int.toNat_of_nonneg bd.1, Int.toNat_of_nonneg bm.1, Int.toNat_of_nonneg bg.1] at this
  exact this
end Otp
end Go.Proofs.YtpakdcgcgekcfaaDoor
