/-
  Plain law of OtpRises: what a plan's writes, some of them, and one that is torn, leave.
-/
import Derived.Test.YtpakdcgcgekcfaaDoorMem
import Derived.Test.YtpakdcgcgekcfaaDoorOtpLaw
import Derived.Test.YtpakdcgcgekcfaaDoorOtpOps
import Derived.Test.YtpakdcgcgekcfaaDoorOtpKey
import Derived.Test.YtpakdcgcgekcfaaDoorOtpRise
import Derived.Test.YtpakdcgcgekcfaaDoorRowD
namespace Go.Proofs.YtpakdcgcgekcfaaDoor
open Go.RowKit

namespace Otp
open Fuse
theorem rowKey_far {vs vs' : List Nat} {r : Nat} (h : ∀ i, 27 + 9 * r ≤ i → i < 35 + 9 * r → vs'[i]? = vs[i]?) : rowKey vs' r = rowKey vs r := by
  unfold rowKey
  apply List.ext_getElem?
  intro j
  rw [List.getElem?_take, List.getElem?_take]
  split
  · rw [List.getElem?_drop, List.getElem?_drop]
    exact h _ (by omega) (by omega)
  · rfl
/-- What an act would program. -/
def plE (vs : List Nat) (d : Nat) (n : Int) (ks : List Nat) : Int :=
  if d % 5 = 0 then tlE vs n else if d % 5 = 1 then tcE vs n else if d % 5 = 2 then tkE vs (ks ++ ks.take 24) (ks.take 16) else if d % 5 = 3 then trE vs n else atE n
def plL (vs : List Nat) (d : Nat) (n : Int) (ks : List Nat) : List (Nat × Nat) :=
  if d % 5 = 0 then tlL vs n else if d % 5 = 1 then tcL vs n else if d % 5 = 2 then tkL vs (ks ++ ks.take 24) (ks.take 16) else if d % 5 = 3 then trL vs n ks else klL vs n
/-- Words that have kept their bits, and their keys. -/
def Keeps (vs vs' : List Nat) : Prop := More vs vs' ∧ ∀ r, r < 4 → rowE vs r = 0 → rowKey vs' r = rowKey vs r
/-- Writes that may be done, and touch no key. -/
def GoodL (vs : List Nat) (l : List (Nat × Nat)) : Prop := okL vs l ∧ (∀ q ∈ l, q.1 < 64 ∧ q.2 < 4294967296) ∧ ∀ r, r < 4 → rowE vs r = 0 → ∀ q ∈ l, ¬ (27 + 9 * r ≤ q.1 ∧ q.1 < 35 + 9 * r)
theorem good_nil (vs : List Nat) : GoodL vs [] := ⟨trivial, fun _ h => by simp at h, fun _ _ _ _ h => by simp at h⟩
theorem good_planOf {vs : List Nat} (hl : vs.length = 64) (hw : ∀ (i x : Nat), vs[i]? = some x → x < 4294967296) (f : Nat) (l : List Nat) (hf : f + l.length ≤ 64) (hb : ∀ x ∈ l, x < 4294967296)
    (hfar : ∀ i r, r < 4 → f ≤ i → i < f + l.length → ¬ (27 + 9 * r ≤ i ∧ i < 35 + 9 * r)) : GoodL vs (planOf vs f l) :=
  ⟨okL_plan l vs f (by omega) hw hb, fun q hq => by have := planOf_mem hw l f hb q hq; omega, fun r hr _ q hq => by have := planOf_mem hw l f hb q hq; exact hfar _ r hr this.2.1 this.2.2⟩
theorem good_row {vs : List Nat} (hl : vs.length = 64) (k : Nat) (ws : List Nat) (hk : k < 4) (hz : rowZ vs k = true) (hw : ws.length = 8) (hb : ∀ x ∈ ws, x < 4294967296) : GoodL vs (rowL k ws) := by
  have hm : ∀ q ∈ rowL k ws, 27 + 9 * k ≤ q.1 ∧ q.1 ≤ 35 + 9 * k ∧ q.2 < 4294967296 := by
    intro q hq
    unfold rowL at hq
    simp only [List.cons_append, List.mem_cons, List.mem_append, List.not_mem_nil, or_false] at hq
    rcases hq with rfl | hq | rfl
    · exact ⟨by simp only; omega, by simp only; omega, show (16711680 : Nat) < 4294967296 by decide⟩
    · have := numb_mem ws _ q hq
      refine ⟨this.1, by omega, ?_⟩
      have : ∀ (ws : List Nat) (f : Nat), (∀ x ∈ ws, x < 4294967296) → ∀ q ∈ numb f ws, q.2 < 4294967296 := by
        intro ws
        induction ws with
        | nil => intro f _ q hq; simp [numb] at hq
        | cons x r ih =>
          intro f hb q hq
          simp only [numb, List.mem_cons] at hq
          rcases hq with rfl | hq
          · exact hb x (by simp)
          · exact ih (f + 1) (fun y hy => hb y (by simp [hy])) q hq
      exact this ws _ hb q hq
    · exact ⟨by simp only; omega, by simp only; omega, show (16711935 : Nat) < 4294967296 by decide⟩
  refine ⟨okL_row vs k ws hl hk hz hw hb, fun q hq => ⟨by have := hm q hq; omega, (hm q hq).2.2⟩, fun r hr he q hq hh => ?_⟩
  have := hm q hq
  have hrk : r = k := by omega
  subst hrk
  rw [rowE_full hl hr he] at hz
  cases hz
theorem life_word (n : Nat) : 255 * 2 ^ (8 * n) < 4294967296 ↔ n < 4 ∨ 255 * 2 ^ (8 * n) < 4294967296 := by
  constructor
  · exact fun h => .inr h
  · rintro (h | h)
    · have : n = 0 ∨ n = 1 ∨ n = 2 ∨ n = 3 := by omega
      rcases this with rfl | rfl | rfl | rfl <;> decide
    · exact h
theorem good_plan {vs : List Nat} (hl : vs.length = 64) (hw : ∀ (i x : Nat), vs[i]? = some x → x < 4294967296) (d : Nat) (n : Int) (ks : List Nat) (hkl : ks.length = 32) (hk : ∀ x ∈ ks, x < 256) : GoodL vs (plL vs d n ks) := by
  have h24 : (ks.take 24).length = 24 := by rw [List.length_take]; omega
  have h16 : (ks.take 16).length = 16 := by rw [List.length_take]; omega
  unfold plL
  split
  · unfold tlL
    split
    · rename_i he
      have hn : 1 ≤ n ∧ n ≤ 4 := by
        unfold tlE at he
        split at he
        · cases he
        · omega
      refine good_planOf hl hw 0 _ (by simp) (fun x hx => ?_) (fun i r hr h0 h1 h2 => ?_)
      · simp only [List.mem_cons, List.not_mem_nil, or_false] at hx
        subst hx
        exact (life_word _).2 (.inl (by omega))
      · simp only [List.length_cons, List.length_nil] at h1
        omega
    · exact good_nil vs
  split
  · unfold tcL
    split
    · refine good_planOf hl hw 1 _ (by rw [lw_length]; omega) (fun x hx => ?_) (fun i r hr h0 h1 h2 => ?_)
      · obtain ⟨j, hj⟩ := List.mem_iff_getElem?.1 hx
        exact lw_word _ j x hj
      · rw [lw_length] at h1
        omega
    · exact good_nil vs
  split
  · unfold tkL
    split
    · have hb1 : ∀ x ∈ ks ++ ks.take 24, x < 256 := fun x hx => by
        rcases List.mem_append.1 hx with h | h
        · exact hk x h
        · exact hk x (List.mem_of_mem_take h)
      have hlen : (tkW (ks ++ ks.take 24) (ks.take 16)).length = 18 := by
        unfold tkW
        rw [List.length_append, words4_length, words4_length, List.length_append, h24, h16, hkl]
      refine good_planOf hl hw 9 _ (by omega) (fun x hx => ?_) (fun i r hr h0 h1 h2 => by omega)
      unfold tkW at hx
      rcases List.mem_append.1 hx with h | h
      · exact words4_lt _ hb1 x h
      · exact words4_lt _ (fun y hy => hk y (List.mem_of_mem_take hy)) x h
    · exact good_nil vs
  split
  · unfold trL
    split
    · rename_i he
      unfold trE at he
      split at he
      · rename_i hn
        split at he
        · rename_i hz
          exact good_row hl _ _ (by omega) hz (by rw [words4_length, hkl]) (words4_lt _ hk)
        · cases he
      · cases he
    · exact good_nil vs
  · unfold klL
    split
    · rename_i hn
      refine good_planOf hl hw _ _ (by simp only [List.length_cons, List.length_nil]; omega) (fun x hx => ?_) (fun i r hr h0 h1 h2 => ?_)
      · simp only [List.mem_cons, List.not_mem_nil, or_false] at hx
        subst hx
        decide
      · simp only [List.length_cons, List.length_nil] at h1
        omega
    · exact good_nil vs
theorem Keeps.refl (vs : List Nat) : Keeps vs vs := ⟨More.refl vs, fun _ _ _ => rfl⟩
/-- Some of the writes. -/
theorem keeps_take {vs : List Nat} {l : List (Nat × Nat)} (hl : vs.length = 64) (h : GoodL vs l) (n : Nat) : doL vs (l.take n) = (0, setAll vs (l.take n)) ∧ Keeps vs (setAll vs (l.take n)) := by
  have ho := okL_take l vs n h.1
  refine ⟨doL_ok _ _ ho (fun q hq => by rw [hl]; exact (h.2.1 q (List.mem_of_mem_take hq)).1), setAll_more _ _ ho, fun r hr he => rowKey_far fun i h0 h1 => setAll_far _ _ _ fun q hq hqi => ?_⟩
  exact h.2.2 r hr he q (List.mem_of_mem_take hq) (by omega)
/-- And one that is torn. -/
theorem keeps_tear {vs : List Nat} {l : List (Nat × Nat)} (hl : vs.length = 64) (h : GoodL vs l) (n x y : Nat) (hx : l[n]? = some (x, y)) (g : Nat) : cutE (setAll vs (l.take n)) (x : Int) y = 0 ∧ Keeps vs (cutV (setAll vs (l.take n)) (x : Int) y g) := by
  obtain ⟨old, ho, hs, hb⟩ := okL_at l vs n (x, y) h.1 hx
  obtain ⟨-, hm, hk⟩ := keeps_take hl h n
  simp only at ho hs hb
  have hlt : x < (setAll vs (l.take n)).length := (List.getElem?_eq_some_iff.1 ho).1
  have hc : cutE (setAll vs (l.take n)) (x : Int) y = 0 := by
    unfold cutE
    rw [if_pos (by simp [inR]; omega)]
    simp [ho, sub_and hs hb]
  refine ⟨hc, ?_⟩
  unfold cutV
  rw [if_pos hc]
  simp only [Int.toNat_natCast, ho, Option.getD_some]
  refine ⟨hm.trans (More.set ho (Sub.or _ _)), fun r hr he => ?_⟩
  rw [← hk r hr he]
  refine rowKey_far fun i h0 h1 => List.getElem?_set_ne fun hxi => ?_
  exact h.2.2 r hr he (x, y) (List.mem_of_getElem? hx) ⟨by simp only; omega, by simp only; omega⟩
/-- What the law asks of the words ahead and behind. -/
theorem Keeps.law {vs vs' : List Nat} (h : Keeps vs vs') (hl : vs.length = 64) (hw : ∀ (i x : Nat), vs[i]? = some x → x < 4294967296) (hw' : ∀ (i x : Nat), vs'[i]? = some x → x < 4294967296) :
    life vs ≤ life vs' ∧ counter vs ≤ counter vs' ∧ ∀ r, r < 4 → (rowE vs r = 0 → rowE vs' r = 17 ∨ (rowE vs' r = 0 ∧ rowD vs' r = rowD vs r)) ∧ (rowE vs r = 17 → rowE vs' r = 17) := by
  have hm : ∀ {l : List Nat}, (∀ (i x : Nat), l[i]? = some x → x < 4294967296) → ∀ x ∈ l, x < 4294967296 := fun h x hx => by
    obtain ⟨j, hj⟩ := List.mem_iff_getElem?.1 hx
    exact h j x hj
  refine ⟨life_mono h.1 (by omega), counter_mono h.1 hl (hm hw) (hm hw'), fun r hr => ?_⟩
  obtain ⟨h1, h2⟩ := row_mono h.1 hl hr (h.2 r hr)
  refine ⟨fun he => ?_, h2⟩
  rcases h1 he with h | ⟨h, hk⟩
  · exact .inl h
  · right
    refine ⟨h, ?_⟩
    unfold rowD
    rw [if_pos h, if_pos he, hk]
end Otp
end Go.Proofs.YtpakdcgcgekcfaaDoor
