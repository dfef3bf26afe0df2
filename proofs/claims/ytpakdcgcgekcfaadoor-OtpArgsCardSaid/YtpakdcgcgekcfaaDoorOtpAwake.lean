/-
  The law package's 'awake' (otp).
-/
import Derived.Test.YtpakdcgcgekcfaaDoorProg
import Derived.Test.YtpakdcgcgekcfaaDoorMem
import Derived.Test.YtpakdcgcgekcfaaDoorOtpTo
import Derived.Test.YtpakdcgcgekcfaaDoorOtpDo
import Derived.Test.YtpakdcgcgekcfaaDoorOtpLife
namespace Go.Proofs.YtpakdcgcgekcfaaDoor
open Go.RowKit

namespace Otp
open Fuse
variable {w w' : World} {c p b : Nat} {vs : List Nat} {ls : List Bool} {sd : Bool}
theorem tocounter_to (n : Int) (er : Int) (l : List (Nat × Nat)) (w : World) (h : Cz w c p b vs ls sd) (hT : Tab w) (he : tcE vs n = er) (hl : tcL vs n = l) :
    Calls Tryd.prog 65 #[.pointer (some ⟨c, 0, none⟩), .int .i64 n] w (ToOut w er l) := by
  subst he; subst hl
  exact tocounter_any n w h hT
theorem counter_to (n : Nat) (w : World) (h : Cz w c p b vs ls sd) (hT : Tab w) (hn : counter vs = n) : Calls Tryd.prog 27 #[.pointer (some ⟨c, 0, none⟩)] w
    fun e w' => e = .returned (.int .i64 ((n : Nat) : Int)) ∧ Below w.heap.size w w' := by
  subst hn
  exact counter_any w h hT
theorem life_to (n : Nat) (w : World) (h : Cz w c p b vs ls sd) (hn : life vs = n) : Calls Tryd.prog 26 #[.pointer (some ⟨c, 0, none⟩)] w
    fun e w' => e = .returned (.int .i64 ((n : Nat) : Int)) ∧ Below w.heap.size w w' := by
  subst hn
  exact life_any w h
theorem do_to (v : Value) (B : Nat) (l : List (Nat × Nat)) (w : World) (er : Int) (vs' : List Nat) (h : Cz w c p b vs ls sd) (hO : OwnW w B v l) (hB : b < B) (hM : ∀ x ∈ l, x.2 < 4294967296) (hI : ∀ x ∈ l, x.1 < 64) (hd : doL vs l = (er, vs')) :
    Calls Tryd.prog 18 #[.pointer (some ⟨c, 0, none⟩), v] w fun e w' => e = .returned (.int .i64 er) ∧ Cz w' c p b vs' ls sd ∧ Frm [b] w w' := by
  have := do_any v B l w h hO hB hM hI
  rw [hd] at this
  exact this
/-- The chip's words behind a counter of n. -/
def cv (n : Nat) : List Nat := [0] ++ lw n ++ List.replicate 55 0
theorem cv0 : z64 = cv 0 := by decide +kernel
theorem aw1 : tcE (cv 0) 3 = 0 ∧ tcL (cv 0) 3 = [(1, 7)] := by decide +kernel
theorem aw2 : doL (cv 0) [(1, 7)] = (0, cv 3) := by decide +kernel
theorem aw3 : counter (cv 3) = 3 ∧ life (cv 3) = 0 := by decide +kernel

set_option maxHeartbeats 1000000 in
theorem awake_any (w : World) (hT : Tab w) : Calls Tryd.prog 15 #[] w (TrueBelow w) := by
  have HT := Lib.hid hT
  clear hT
  go_enter Tryd.func15, Tryd.ntmps15
  go_wp2_with fail
  (with_reducible refine (new_chip _).mono ?_); rintro e w1 ⟨c, p, b, rfl, hC, hc, hp, hb, hB⟩
  rw [cv0] at hC
  have HC := Lib.hid hC
  have HB := Lib.hid hB
  have HT1 := Lib.hid (HT.out.old hB)
  have hbl := hC.fz.ltb
  have hpl := hC.fz.ltp
  have hcl := hC.head.lt
  clear hC hB
  go_wp2_with fail
  (with_reducible refine (tocounter_to 3 0 [(1, 7)] _ HC.out HT1.out aw1.1 aw1.2).mono ?_); rintro e w2 ⟨v, rfl, hO, hB⟩
  have HC2 := Lib.hid (HC.out.old hB)
  have HT2 := Lib.hid (HT1.out.old hB)
  have HB2 := Lib.hid (below_then HB.out hB (Nat.le_refl _))
  have hwl := hB.size
  have HO := Lib.hid hO
  obtain ⟨A, cp, rfl, hc1, hc2, hat⟩ := hO.at_
  obtain ⟨g, rfl, hg1, hg2, hx, hy⟩ := hat 0 1 7 rfl
  simp only [Nat.zero_mul, Nat.zero_add, List.length_cons, List.length_nil] at hx hy hc1 HO ⊢
  clear hB hO hat
  go_wp2_with fail
  (with_reducible refine (do_to _ w1.heap.size [(1, 7)] _ 0 (cv 3) HC2.out HO.out hbl (by simp) (by simp) aw2).mono ?_); rintro e w3 ⟨rfl, hC, hF⟩
  have HC3 := Lib.hid hC
  have HT3 := Lib.hid (HT2.out.frm hF (by have := HT1.out.lt; have := HT.out.lt; simp; omega))
  have HB3 := Lib.hid (Below.frm HB2.out hF (by have := HB2.out.size; omega) (by simpa using hb))
  clear hC hF
  go_wp2_with fail
  (with_reducible refine (counter_to 3 _ HC3.out HT3.out aw3.1).mono ?_); rintro e w4 ⟨rfl, hB⟩
  have HC4 := Lib.hid (HC3.out.old hB)
  have HB4 := Lib.hid (below_then HB3.out hB (Nat.le_refl _))
  clear hB
  go_wp2_with fail
  (with_reducible refine (life_to 0 _ HC4.out aw3.2).mono ?_); rintro e w5 ⟨rfl, hB⟩
  have HB5 := Lib.hid (below_then HB4.out hB (Nat.le_refl _))
  clear hB
  go_wp2_with fail
  go_light
  go_ret
  exact ⟨rfl, HB5.out⟩
end Otp
end Go.Proofs.YtpakdcgcgekcfaaDoor
