/-
  Package grant: Any; slices.ContainsFunc at a list of accesses, over 'formed' and over Any's closure.
-/
import Derived.Test.YtmcpppgnfmopoaaDoorProg
import Derived.Test.YtmcpppgnfmopoaaDoorMem
import Derived.Test.YtmcpppgnfmopoaaDoorNext
import Derived.Test.YtmcpppgnfmopoaaDoorGrantAw
import Derived.Deep.LoopGhost
namespace Go.Proofs.YtmcpppgnfmopoaaDoor
open Go.RowKit

namespace Grant
/-- An access. -/
structure Acc where
  who : Int
  stage : Int
  at_ : Int
  size : Int
  wr : Bool
  fe : Bool
def Acc.cs (x : Acc) : List Value := [.int .i64 x.who, .int .i64 x.stage, .int .u32 x.at_, .int .i64 x.size, .bool x.wr, .bool x.fe]
def Acc.good (x : Acc) : Prop := 0 ≤ x.at_ ∧ x.at_ < 4294967296 ∧ (Lit.int .i64 x.who).wf = true ∧ (Lit.int .i64 x.stage).wf = true
def Acc.fm (x : Acc) : Bool := formB x.who x.stage x.size x.wr x.fe
def Acc.ck (x : Acc) : Nat × Nat × Nat := chk x.who x.stage x.at_.toNat x.size x.wr x.fe
def Acc.lets (r : Int) (x : Acc) : Bool := decide (x.ck.2.2 = 0) && decide ((x.ck.1 : Int) = r)
def accCells (l : List Acc) : Array Value := (l.flatMap Acc.cs).toArray
theorem accCells_at (l : List Acc) : ∀ (i : Nat) (x : Acc), l[i]? = some x → (accCells l)[i * 6]? = some (.int .i64 x.who) ∧ (accCells l)[i * 6 + 1]? = some (.int .i64 x.stage) ∧ (accCells l)[i * 6 + 2]? = some (.int .u32 x.at_) ∧ (accCells l)[i * 6 + 3]? = some (.int .i64 x.size) ∧ (accCells l)[i * 6 + 4]? = some (.bool x.wr) ∧ (accCells l)[i * 6 + 5]? = some (.bool x.fe) := by
  unfold accCells
  simp only [List.getElem?_toArray]
  induction l with
  | nil => intro i x h; simp at h
  | cons y r ih =>
    intro i x h
    cases i with
    | zero =>
      simp only [List.getElem?_cons_zero, Option.some.injEq] at h
      subst h
      exact ⟨rfl, rfl, rfl, rfl, rfl, rfl⟩
    | succ j =>
      have := ih j x (by simpa using h)
      rw [show (j + 1) * 6 = j * 6 + 6 by omega]
      exact this
/-- A list of accesses in a block of its own. -/
def Lst (w : World) (g : Nat) (l : List Acc) : Prop := Blk w g 40 (accCells l)
theorem Lst.at_ {w : World} {g : Nat} {l : List Acc} (h : Lst w g l) {i : Nat} {x : Acc} (hx : l[i]? = some x) : w.cell? ⟨g, i * 6, none⟩ = some (.int .i64 x.who) ∧ w.cell? ⟨g, i * 6 + 1, none⟩ = some (.int .i64 x.stage) ∧ w.cell? ⟨g, i * 6 + 2, none⟩ = some (.int .u32 x.at_) ∧ w.cell? ⟨g, i * 6 + 3, none⟩ = some (.int .i64 x.size) ∧ w.cell? ⟨g, i * 6 + 4, none⟩ = some (.bool x.wr) ∧ w.cell? ⟨g, i * 6 + 5, none⟩ = some (.bool x.fe) := by
  obtain ⟨h0, h1, h2, h3, h4, h5⟩ := accCells_at l i x hx
  refine ⟨?_, ?_, ?_, ?_, ?_, ?_⟩
  · rw [Blk.cell h]; exact h0
  · rw [Blk.cell h]; exact h1
  · rw [Blk.cell h]; exact h2
  · rw [Blk.cell h]; exact h3
  · rw [Blk.cell h]; exact h4
  · rw [Blk.cell h]; exact h5
theorem formed_to (x : Acc) (r : Bool) (w : World) (h : x.fm = r) :
    Calls Tryd.prog 44 #[.agg #[.int .i64 x.who, .int .i64 x.stage, .int .u32 x.at_, .int .i64 x.size, .bool x.wr, .bool x.fe]] w fun e w' => e = .returned (.bool r) ∧ Below w.heap.size w w' := by
  subst h
  exact formed_any x.who x.stage x.at_ x.size x.wr x.fe w
theorem any_snoc {α : Type} (l : List α) (p : α → Bool) (i : Nat) (x : α) (hx : l[i]? = some x) (h : (l.take i).any p = false) : (l.take (i + 1)).any p = p x := by
  rw [take_snoc hx, List.any_append, h]
  simp
theorem any_hit {α : Type} {l : List α} {p : α → Bool} {i : Nat} {x : α} (hx : l[i]? = some x) (h : p x = true) : l.any p = true := List.any_eq_true.2 ⟨x, List.mem_of_getElem? hx, h⟩
def IxOut (w : World) (r : Bool) (e : Ending) (w' : World) : Prop := ∃ z : Int, e = .returned (.int .i64 z) ∧ decide (0 ≤ z) = r ∧ Below w.heap.size w w'
set_option maxHeartbeats 2000000 in
theorem index_fm (g cap : Nat) (l : List Acc) (w : World) (hL : Lst w g l) (hc : l.length ≤ 1000) :
    Calls Tryd.prog 60 #[.slice (some ⟨g, 0, none⟩) l.length cap, .func (.func 44) #[] #[]] w (IxOut w (l.any Acc.fm)) := by
  have HL := Lib.hid hL
  clear hL
  go_enter Tryd.func60, Tryd.ntmps60
  go_wp2_with fail
  go_loopg [5, 8] l.length (fun gg s5 s8 wr => ∃ i : Nat, i + gg = l.length ∧ s8 = .int .i64 (i : Int) ∧ Hid ((l.take i).any Acc.fm = false) ∧ Hid (Lst wr g l) ∧ Hid (Below w.heap.size w wr))
  case atStart => exact ⟨0, by omega, rfl, Lib.hid rfl, HL, Lib.hid (Below.refl _ _)⟩
  case round =>
    clear HL
    obtain ⟨i, hg, rfl, HN, HL, HB⟩ := hrel
    have HG := Lib.hid hg
    have hi : i ≤ l.length := by omega
    clear hg
    by_cases hlt : i < l.length
    · obtain ⟨x, hx⟩ : ∃ x, l[i]? = some x := ⟨_, List.getElem?_eq_getElem hlt⟩
      obtain ⟨c0, c1, c2, c3, c4, c5⟩ := HL.out.at_ hx
      have HX := Lib.hid hx
      clear hx
      obtain ⟨r, hr⟩ : ∃ r, x.fm = r := ⟨_, rfl⟩
      have HR := Lib.hid hr
      clear hr
      go_wp2_with fail
      (with_reducible refine (formed_to x r _ HR.out).mono ?_); rintro e w2 ⟨rfl, hB⟩
      have HL2 := Lib.hid (show Lst w2 g l from Blk.next HL.out hB rfl)
      have HB2 := Lib.hid (below_then HB.out hB (Nat.le_refl _))
      clear hB c0 c1 c2 c3 c4 c5
      cases r with
      | true =>
        have HE := Lib.hid (any_hit HX.out HR.out)
        go_wp2_with fail
        go_light
        go_ret
        exact ⟨_, rfl, by rw [HE.out]; simp, HB2.out⟩
      | false =>
        have HE := Lib.hid (any_snoc l Acc.fm i x HX.out HN.out)
        rw [HR.out] at HE
        go_wp2_with fail
        go_light
        go_roundg (l.length - (i + 1))
        case measure => have := HG.out; omega
        case rel => exact ⟨i + 1, by omega, by go_num, HE, HL2, HB2⟩
    · have : i = l.length := by omega
      subst this
      have hn := HN.out
      rw [List.take_length] at hn
      have HN2 := Lib.hid hn
      clear hn
      go_wp2_with fail
      go_light
      go_ret
      exact ⟨_, rfl, by rw [HN2.out]; rfl, HB.out⟩
set_option maxHeartbeats 1000000 in
theorem contains_fm (g cap : Nat) (l : List Acc) (w : World) (hL : Lst w g l) (hc : l.length ≤ 1000) :
    Calls Tryd.prog 48 #[.slice (some ⟨g, 0, none⟩) l.length cap, .func (.func 44) #[] #[]] w fun e w' => e = .returned (.bool (l.any Acc.fm)) ∧ Below w.heap.size w w' := by
  have HL := Lib.hid hL
  clear hL
  go_enter Tryd.func48, Tryd.ntmps48
  go_wp2_with fail
  (with_reducible refine (index_fm g cap l _ HL.out hc).mono ?_); rintro e w1 ⟨z, rfl, hz, hB⟩
  have HZ := Lib.hid hz
  have HB := Lib.hid hB
  clear hz hB
  go_wp2_with fail
  go_light
  go_ret
  exact ⟨by rw [← HZ.out]; rfl, HB.out⟩
set_option maxHeartbeats 1000000 in
theorem clo_any (x : Acc) (r : Int) (v : Bool) (rb : Nat) (w : World) (hx : x.good) (hr : w.cell? ⟨rb, 0, none⟩ = some (.int .i64 r)) (hS : Spans w) (hv : x.lets r = v) :
    Calls Tryd.prog 49 #[.agg #[.int .i64 x.who, .int .i64 x.stage, .int .u32 x.at_, .int .i64 x.size, .bool x.wr, .bool x.fe], .pointer (some ⟨rb, 0, none⟩)] w fun e w' => e = .returned (.bool v) ∧ Below w.heap.size w w' := by
  obtain ⟨g1, g2, g3, g4⟩ := hx
  have HS := Lib.hid (hS.alloc (.cells #[.int .i64 x.who, .int .i64 x.stage, .int .u32 x.at_, .int .i64 x.size, .bool x.wr, .bool x.fe] 40))
  have HC := Lib.hid (show x.at_ = ((x.at_.toNat : Nat) : Int) by omega)
  have H3 := Lib.hid g3
  have H4 := Lib.hid g4
  have hlt := cell_lt hr
  obtain ⟨ro, hro⟩ : ∃ ro, x.ck = ro := ⟨_, rfl⟩
  unfold Acc.lets at hv
  rw [hro] at hv
  obtain ⟨a, b, c⟩ := ro
  have HR := Lib.hid (show chk x.who x.stage x.at_.toNat x.size x.wr x.fe = (a, b, c) from hro)
  simp only at hv
  clear hS g3 g4 hro
  go_enter Tryd.func49, Tryd.ntmps49
  go_wp2_with fail
  (with_reducible refine (check_to x.who x.stage x.size x.at_ _ x.wr x.fe _ _ HC.out g2 H3.out H4.out HS.out HR.out).mono ?_); rintro e w1 ⟨rfl, hB⟩
  have hr1 : w1.cell? ⟨rb, 0, none⟩ = some (.int .i64 r) := cell_later hB (cell_later ((Below.refl _ w).alloc (Nat.le_refl _) _) hr)
  have HB := Lib.hid (((Below.refl _ w).alloc (Nat.le_refl _) _).trans (hB.mono (by simp)))
  clear hB hr
  by_cases hc0 : c = 0
  · subst hc0
    have hv2 : ((a : Int) == r) = v := by rw [← hv]; simp only [decide_true, Bool.true_and]; by_cases h : (a : Int) = r <;> simp [h]
    clear hv
    go_wp2_with fail
    go_light
    go_ret
    exact ⟨rfl, HB.out⟩
  · have hv2 : v = false := by rw [← hv]; simp [hc0]
    subst hv2
    have hcc : (((c : Nat) : Int) == 0) = false := by rw [beq_eq_false_iff_ne]; omega
    clear hv hc0
    go_wp2_with fail
    go_light
    go_ret
    exact ⟨rfl, HB.out⟩
set_option maxHeartbeats 2000000 in
theorem index_ck (g cap : Nat) (l : List Acc) (w : World) (hL : Lst w g l) (hc : l.length ≤ 1000) (r : Int) (rb : Nat) (hr : w.cell? ⟨rb, 0, none⟩ = some (.int .i64 r)) (hS : Spans w) (hgood : ∀ x ∈ l, x.good) :
    Calls Tryd.prog 60 #[.slice (some ⟨g, 0, none⟩) l.length cap, .func (.func 49) #[] #[.pointer (some ⟨rb, 0, none⟩)]] w (IxOut w (l.any (Acc.lets r))) := by
  have HL := Lib.hid hL
  have HGD := Lib.hid hgood
  have HC0 := Lib.hid hr
  have HS0 := Lib.hid hS
  have hrb := cell_lt hr
  clear hL hgood hr hS
  go_enter Tryd.func60, Tryd.ntmps60
  go_wp2_with fail
  go_loopg [5, 8] l.length (fun gg s5 s8 wr => ∃ i : Nat, i + gg = l.length ∧ s8 = .int .i64 (i : Int) ∧ Hid ((l.take i).any (Acc.lets r) = false) ∧ Hid (Lst wr g l) ∧ Hid (Below w.heap.size w wr))
  case atStart => exact ⟨0, by omega, rfl, Lib.hid rfl, HL, Lib.hid (Below.refl _ _)⟩
  case round =>
    clear HL
    obtain ⟨i, hg, rfl, HN, HL, HB⟩ := hrel
    have HG := Lib.hid hg
    have hi : i ≤ l.length := by omega
    clear hg
    by_cases hlt : i < l.length
    · obtain ⟨x, hx⟩ : ∃ x, l[i]? = some x := ⟨_, List.getElem?_eq_getElem hlt⟩
      obtain ⟨c0, c1, c2, c3, c4, c5⟩ := HL.out.at_ hx
      have HX := Lib.hid hx
      clear hx
      obtain ⟨v, hv⟩ : ∃ v, x.lets r = v := ⟨_, rfl⟩
      have HR := Lib.hid hv
      clear hv
      go_wp2_with fail
      (with_reducible refine (clo_any x r v rb _ (HGD.out x (List.mem_of_getElem? HX.out)) (cell_later HB.out HC0.out) (HS0.out.old HB.out) HR.out).mono ?_); rintro e w2 ⟨rfl, hB⟩
      have HL2 := Lib.hid (show Lst w2 g l from Blk.next HL.out hB rfl)
      have HB2 := Lib.hid (below_then HB.out hB (Nat.le_refl _))
      clear hB c0 c1 c2 c3 c4 c5
      cases v with
      | true =>
        have HE := Lib.hid (any_hit HX.out HR.out)
        go_wp2_with fail
        go_light
        go_ret
        exact ⟨_, rfl, by rw [HE.out]; simp, HB2.out⟩
      | false =>
        have HE := Lib.hid (any_snoc l (Acc.lets r) i x HX.out HN.out)
        rw [HR.out] at HE
        go_wp2_with fail
        go_light
        go_roundg (l.length - (i + 1))
        case measure => have := HG.out; omega
        case rel => exact ⟨i + 1, by omega, by go_num, HE, HL2, HB2⟩
    · have : i = l.length := by omega
      subst this
      have hn := HN.out
      rw [List.take_length] at hn
      have HN2 := Lib.hid hn
      clear hn
      go_wp2_with fail
      go_light
      go_ret
      exact ⟨_, rfl, by rw [HN2.out]; rfl, HB.out⟩
set_option maxHeartbeats 1000000 in
theorem contains_ck (g cap : Nat) (l : List Acc) (w : World) (hL : Lst w g l) (hc : l.length ≤ 1000) (r : Int) (rb : Nat) (hr : w.cell? ⟨rb, 0, none⟩ = some (.int .i64 r)) (hS : Spans w) (hgood : ∀ x ∈ l, x.good) :
    Calls Tryd.prog 48 #[.slice (some ⟨g, 0, none⟩) l.length cap, .func (.func 49) #[] #[.pointer (some ⟨rb, 0, none⟩)]] w fun e w' => e = .returned (.bool (l.any (Acc.lets r))) ∧ Below w.heap.size w w' := by
  have HL := Lib.hid hL
  have HGD := Lib.hid hgood
  have HC0 := Lib.hid hr
  have HS0 := Lib.hid hS
  clear hL hgood hr hS
  go_enter Tryd.func48, Tryd.ntmps48
  go_wp2_with fail
  (with_reducible refine (index_ck g cap l _ HL.out hc r rb HC0.out HS0.out HGD.out).mono ?_); rintro e w1 ⟨z, rfl, hz, hB⟩
  have HZ := Lib.hid hz
  have HB := Lib.hid hB
  clear hz hB
  go_wp2_with fail
  go_light
  go_ret
  exact ⟨by rw [← HZ.out]; rfl, HB.out⟩
def anyB (r : Int) (l : List Acc) : Bool := l.any Acc.fm && l.any (Acc.lets r)
set_option maxHeartbeats 1000000 in
theorem any_any (g cap : Nat) (l : List Acc) (r : Int) (w : World) (hL : Lst w g l) (hc : l.length ≤ 1000) (hS : Spans w) (hgood : ∀ x ∈ l, x.good) :
    Calls Tryd.prog 25 #[.int .i64 r, .slice (some ⟨g, 0, none⟩) l.length cap] w fun e w' => e = .returned (.bool (anyB r l)) ∧ Below w.heap.size w w' := by
  have HL := Lib.hid (show Lst (w.alloc (.cells #[.int .i64 r] 3)) g l from Blk.alloc hL _)
  have HGD := Lib.hid hgood
  have HS := Lib.hid (hS.alloc (.cells #[.int .i64 r] 3))
  have HK := Lib.hid (Blk.new w 3 #[.int .i64 r])
  clear hL hgood hS
  unfold anyB
  obtain ⟨b, hb⟩ : ∃ b, l.any Acc.fm = b := ⟨_, rfl⟩
  have HF := Lib.hid hb
  rw [hb]
  clear hb
  generalize hq : l.any (Acc.lets r) = q
  have HQ := Lib.hid hq
  clear hq
  go_enter Tryd.func25, Tryd.ntmps25
  go_wp2_with fail
  (with_reducible refine (contains_fm g cap l _ HL.out hc).mono ?_); rintro e w1 ⟨rfl, hB⟩
  have HL1 := Lib.hid (show Lst w1 g l from Blk.next HL.out hB rfl)
  have HK1 := Lib.hid (Blk.next HK.out hB rfl)
  have HS1 := Lib.hid (HS.out.old hB)
  have HK2 := Lib.hid (show w1.cell? ⟨w.heap.size, 0, none⟩ = some (.int .i64 r) by rw [HK1.out.cell]; rfl)
  have HB := Lib.hid (((Below.refl _ w).alloc (Nat.le_refl _) _).trans (hB.mono (by simp)))
  clear hB
  rw [HF.out]
  cases b with
  | false =>
    go_wp2_with fail
    go_light
    go_ret
    exact ⟨rfl, HB.out⟩
  | true =>
    go_wp2_with fail
    (with_reducible refine (contains_ck g cap l _ HL1.out hc r w.heap.size HK2.out HS1.out HGD.out).mono ?_); rintro e w2 ⟨rfl, hB⟩
    have HB2 := Lib.hid (below_then HB.out hB (Nat.le_refl _))
    clear hB
    rw [HQ.out]
    go_wp2_with fail
    go_light
    go_ret
    exact ⟨rfl, HB2.out⟩
end Grant
end Go.Proofs.YtmcpppgnfmopoaaDoor
