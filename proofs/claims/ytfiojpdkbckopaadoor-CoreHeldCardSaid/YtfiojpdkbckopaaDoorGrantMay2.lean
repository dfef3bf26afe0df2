/-
  Package grant: May: what is read of the map of rights.
-/
import Derived.Test.YtfiojpdkbckopaaDoorProg
import Derived.Test.YtfiojpdkbckopaaDoorJ55314620
import Derived.Test.YtfiojpdkbckopaaDoorGrantMay
set_option linter.unusedSimpArgs false
set_option linter.unusedVariables false
namespace Go.Proofs.YtfiojpdkbckopaaDoor
open Go.RowKit

namespace Grant
/-- What may be done: the map's word. -/
def mayW (a b c : Int) : ByteArray := match (L5 2).lookup (a, b, c) with
  | some (.agg #[.string s]) => s
  | _ => ⟨#[]⟩
theorem look_word : ∀ p ∈ L5 2, ∃ s, p.2 = wd s := by
  intro p hp
  simp [L5, L4, L3, L2, L1] at hp
  rcases hp with rfl | rfl | rfl | rfl | rfl | rfl | rfl | rfl | rfl | rfl | rfl | rfl | rfl | rfl | rfl | rfl | rfl | rfl | rfl | rfl | rfl | rfl | rfl | rfl | rfl | rfl | rfl | rfl | rfl | rfl | rfl | rfl | rfl <;> exact ⟨_, rfl⟩
theorem look_may (a b c : Int) : ((L5 2).lookup (a, b, c)).getD (wd ⟨#[]⟩) = wd (mayW a b c) := by
  unfold mayW
  cases h : (L5 2).lookup (a, b, c) with
  | none => rfl
  | some v =>
    have hm : ∃ k, (k, v) ∈ L5 2 := by
      generalize L5 2 = l at h
      induction l with
      | nil => simp at h
      | cons x r ih =>
        obtain ⟨k, u⟩ := x
        rw [List.lookup_cons] at h
        split at h
        · cases h; exact ⟨k, by simp⟩
        · obtain ⟨k', hk⟩ := ih h; exact ⟨k', by simp [hk]⟩
    obtain ⟨k, hk⟩ := hm
    obtain ⟨s, hs⟩ := look_word _ hk
    simp only at hs
    subst hs
    rfl
theorem zeroW (w : World) : (zeroValue 159).run Tryd.prog w = .ok (wd ⟨#[]⟩) w := by kernel_rfl
theorem lkup {w : World} {ops : Array Oper} {rest : List Oper} {o : Oper} {a : Act} {Q : Exit → Act → World → Prop}
    (hg : o.guard = none) (m x : Operand) (hop : o.op = Op.lookup 160 m x false)
    (b n : Nat) (L : List ((Int × Int × Int) × Value)) (hm : a.eval m = .map (some b)) (hown : RMp w b n L) (k1 k2 k3 : Int) (hkey : a.eval x = .agg #[.int .i64 k1, .int .i64 k2, .int .i64 k3]) (hok : ok3 (k1, k2, k3) = true) (v : Value) (hv : (L.lookup (k1, k2, k3)).getD (wd ⟨#[]⟩) = v)
    (hK : wpList Tryd.prog ops Q rest (a.put o.dst v) w) :
    wpList Tryd.prog ops Q (o :: rest) a w := by
  subst hv
  exact wpList_lookup_mp (K := (Int × Int × Int)) w hg m x _ hop _ _ ok3 ky keyMap Tryd.underlying160 (wd ⟨#[]⟩) (zeroW w) b n L hm hown (k1, k2, k3) hkey hok hK
theorem fieldW (s : ByteArray) (w : World) : (Instr.field 159 (.agg #[.string s]) 0).run Tryd.prog w = .ok (.string s) w := by kernel_rfl
set_option maxHeartbeats 1000000 in
theorem may_any (a b c : Int) (w : World) (h : ok3 (a, b, c) = true) : Calls Tryd.prog 67 #[.int .i64 a, .int .i64 b, .int .i64 c] w fun e w' => e = .returned (.string (mayW a b c)) ∧ Below w.heap.size w w' := by
  have HL := Lib.hid (look_may a b c)
  have hfw := fieldW
  generalize mayW a b c = s at HL ⊢
  have HH := Lib.hid h
  clear h
  go_enter Tryd.func67, Tryd.ntmps67
  go_wp2_with fail
  (with_reducible refine (rights_any _).mono ?_); rintro e w1 ⟨b0, rfl, hM, hB⟩
  have HM := Lib.hid hM
  have HB := Lib.hid hB
  clear hM hB
  generalize L5 2 = L at *
  go_wp2_with (at_lookup; refine lkup rfl _ _ rfl _ _ _ rfl HM.out _ _ _ rfl HH.out (.agg #[.string s]) HL.out ?_)
  go_light
  go_ret
  exact ⟨rfl, HB.out⟩
end Grant
end Go.Proofs.YtfiojpdkbckopaaDoor
