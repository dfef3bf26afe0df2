/-
  Texts of this claim, joined: Buf, Clone.
-/
import Derived.Test.YtmiaabpnolebhaaGreatDoorJ34d7c24d
import Derived.Lib.BufferMore
set_option linter.unusedSimpArgs false
set_option linter.unusedVariables false
/-
  Bytes of the call's own: a byte behind them, others behind them.
-/
namespace Go.Proofs.YtmiaabpnolebhaaGreatDoor
open Go.RowKit

namespace R1
theorem wpList_append_byte {ops : Array Oper} {rest : List Oper} {o : Oper} {a : Act} {W : World} {Q : Exit → Act → World → Prop} (hgd : o.guard = none) (s x : Operand) (ho : o.op = .call { callee := .builtin .append, args := #[s, x], argTypes := #[24, 24] })
    (B : Nat) (v : Value) (l : List Nat) (hs : a.eval s = v) (hO : OwnB W B v l) (y : Nat) (hx : a.eval x = .slice (some ⟨W.heap.size, 0, none⟩) 1 1) (hl : l.length ≤ 1000000) (hB : B ≤ W.heap.size)
    (h : ∀ v' w', OwnB w' B v' (l ++ [y]) → Below B W w' → wpList Tryz.prog ops Q rest (a.put o.dst v') w') : wpList Tryz.prog ops Q (o :: rest) a (W.alloc (.cells #[.int .u8 (y : Int)] 5)) := by
  obtain ⟨i0, hi0, hz0, hz1, hz2⟩ := info_row u8_info
  refine wpList_append_own _ hgd s x 24 ho B 5 i0 (.int .u8 0) 1 1 Tryz.underlying24 hi0 hz0 hz1 hz2 rfl (by decide) v _ _ hs (hO.alloc _) ⟨W.heap.size, 0, none⟩ 1 1 [.int .u8 (y : Int)] hx rfl (by simpa using cell_one_new W (.int .u8 (y : Int)) 5) (fun u hu => by simp at hu; subst hu; rfl) (by simp only [maxLen]; omega) (by omega) (by simp; omega) (fun v1 w1 hO1 hg1 _ => ?_)
  refine h v1 w1 ?_ ((((Below.refl W.heap.size W).alloc (Nat.le_refl _) _).mono hB).grown hg1 (by simp; omega) (fun k hk => (World.ownsRow.lt hO k hk).1))
  unfold OwnB
  rw [List.length_append, List.map_append]
  exact hO1
theorem wpList_append_bytes {ops : Array Oper} {rest : List Oper} {o : Oper} {a : Act} {W : World} {Q : Exit → Act → World → Prop} (hgd : o.guard = none) (s x : Operand) (ho : o.op = .call { callee := .builtin .append, args := #[s, x], argTypes := #[24, 24] })
    (B : Nat) (v : Value) (l : List Nat) (hs : a.eval s = v) (hO : OwnB W B v l) (A : Option Addr) (n c : Nat) (l' : List Nat) (hx : a.eval x = .slice A n c) (hn : l'.length = n) (hN : ∃ B', Nats .u8 256 W B' A l') (hnil : A = none → c = 0) (hl : l.length + n ≤ 1000000) (hB : B ≤ W.heap.size)
    (h : ∀ v' w', OwnB w' B v' (l ++ l') → Below B W w' → wpList Tryz.prog ops Q rest (a.put o.dst v') w') : wpList Tryz.prog ops Q (o :: rest) a W := by
  obtain ⟨i0, hi0, hz0, hz1, hz2⟩ := info_row u8_info
  obtain ⟨B', hN⟩ := hN
  refine wpList_append_src hgd s x 24 ho B 5 i0 (.int .u8 0) 1 Tryz.underlying24 hi0 hz0 hz1 hz2 rfl v _ _ hs hO A n c (l'.map fun x => Value.int .u8 ((x : Nat) : Int)) hx (by simpa using hn) (nats_src hN) hnil (fun u hu => by obtain ⟨_, _, rfl⟩ := List.mem_map.1 hu; rfl) (by simp only [maxLen]; omega) (by omega) hB (fun v1 w1 hO1 hg1 _ => ?_)
  refine h v1 w1 ?_ ((Below.refl B W).grown hg1 hB (fun k hk => (World.ownsRow.lt hO k hk).1))
  unfold OwnB
  rw [List.length_append, List.map_append, hn]
  exact hO1
theorem own_nil {w : World} {B : Nat} {l : List Nat} {A : Option Addr} {n c : Nat} (h : OwnB w B (.slice A n c) l) : A = none → c = 0 := fun hA => by
  rcases h.2 with ⟨h1, _⟩ | ⟨g, cap, cur, h1, _⟩
  · cases h1; rfl
  · cases h1; cases hA
end R1
end Go.Proofs.YtmiaabpnolebhaaGreatDoor

/-
  bytes.Clone.
-/
namespace Go.Proofs.YtmiaabpnolebhaaGreatDoor
open Go.RowKit

namespace Cln
open Otp R1 Sha
theorem own_less {w : World} {B B' : Nat} {v : Value} {l : List Nat} (h : OwnB w B v l) (hB : B' ≤ B) : OwnB w B' v l := by
  refine ⟨h.1, ?_⟩
  rcases h.2 with hn | ⟨q, cap, cur, hv, hbg, hq, rest⟩
  · exact .inl hn
  · exact .inr ⟨q, cap, cur, hv, Nat.le_trans hB hbg, hq, rest⟩
theorem own_zero (w : World) : OwnB (w.alloc (.cells #[] 5)) w.heap.size (.slice (some ⟨w.heap.size, 0, none⟩) 0 0) [] :=
  ⟨rfl, .inr ⟨w.heap.size, 0, #[], rfl, Nat.le_refl _, heap_alloc_new w _, Nat.le_refl _, by decide, rfl, rfl⟩⟩
set_option maxRecDepth 100000 in
set_option maxHeartbeats 1000000 in
theorem clone_any (A : Option Addr) (n c : Nat) (l : List Nat) (w : World) (hl : l.length = n) (hn : n ≤ 1000000) (hc : n ≤ c) (hnil : A = none → c = 0) (hz : Nats .u8 256 w w.heap.size A l) :
    Calls Tryz.prog 72 #[.slice A n c] w (BytesOut w l) := by
  cases A with
  | none =>
    have hc0 := hnil rfl
    subst hc0
    have hn0 : n = 0 := by omega
    subst hn0
    have hl0 : l = [] := List.length_eq_zero_iff.1 hl
    subst hl0
    have hq : ∀ W, (binOp .eql 24 (.slice none 0 0) (.slice none 0 0)).run Tryz.prog W = .ok (.bool true) W := fun W => Lib.run_eql_slice_nil_nil W _ _ Tryz.underlying24
    clear hnil hz hl hn hc
    go_enter Tryz.func72, Tryz.ntmps72
    go_wp2_with fail
    go_light
    go_ret
    exact ⟨_, rfl, World.ownsRow_nil _ _ _ _, Below.refl _ _⟩
  | some ad =>
    have hq : ∀ W, (binOp .eql 24 (.slice (some ad) n c) (.slice none 0 0)).run Tryz.prog W = .ok (.bool false) W := fun W => Lib.run_eql_slice_some_nil W _ _ _ Tryz.underlying24
    have HZ := wall hz
    clear hz hnil
    have HO := wall (show OwnB (w.alloc (.cells #[] 5)) w.heap.size (.slice (some ⟨w.heap.size, 0, none⟩) 0 0) [] from own_zero w)
    have HBZ := wall (show Below w.heap.size w (w.alloc (.cells #[] 5)) from (Below.refl _ _).alloc (Nat.le_refl _) _)
    have HZ2 := wall ((HZ.out.below HBZ.out).more HBZ.out.size)
    go_enter Tryz.func72, Tryz.ntmps72
    go_wp2_with (refine wpList_append_bytes rfl (.tmp 5) (.tmp 6) rfl w.heap.size (.slice (some ⟨w.heap.size, 0, none⟩) 0 0) [] rfl HO.out (some ad) n c l rfl hl ⟨_, HZ2.out⟩ (fun h => nomatch h) (by simp; omega) HBZ.out.size ?_; intro v' w' hO' hB')
    go_light
    go_ret
    exact ⟨v', rfl, by simpa using hO', HBZ.out.trans hB'⟩
end Cln
end Go.Proofs.YtmiaabpnolebhaaGreatDoor
