/-
  Package grant: rights, May: what the map of rights holds, and what is read of it.
-/
import Derived.Test.YtfiojpdkbckopaaDoorProg
import Derived.Test.YtfiojpdkbckopaaDoorJ68c09f72
import Derived.Test.YtfiojpdkbckopaaDoorJcf4690e9
import Derived.Deep.LoopGhost
set_option linter.unusedSimpArgs false
set_option linter.unusedVariables false
namespace Go.Proofs.YtfiojpdkbckopaaDoor
open Go.RowKit

namespace Grant

def ky (x : (Int × Int × Int)) : Value := .agg #[.int .i64 x.1, .int .i64 x.2.1, .int .i64 x.2.2]
def ok3 (x : (Int × Int × Int)) : Bool := (Lit.int .i64 x.1).wf && (Lit.int .i64 x.2.1).wf && (Lit.int .i64 x.2.2).wf
theorem kLaid : laidOutB Tryd.prog = true := by kernel_rfl
theorem kKey : Tryd.prog.keyType 163 = true := by kernel_rfl
theorem kRow : (163 : TypeId) < Tryd.prog.types.size := of_decide_eq_true (by kernel_rfl)
theorem kAt : Tryd.prog.keyTypeAt 2 163 = true := by kernel_rfl
theorem kLaw0 : WideMaps.KeyLaw Tryd.prog 163 := deep_law_laid (m := 2) kLaid (Nat.le_of_ble_eq_true rfl) kRow kAt (by kernel_rfl)
theorem kLaw : Maps.Keyed Tryd.prog 163 := Maps.Keyed.of_law kLaw0
theorem kCells : Tryd.prog.cellsOf 163 = 3 := by kernel_rfl
theorem kFormed (cs : Array Value) (h : cs.size = 3) : (Value.agg cs).formed Tryd.prog 163 = true := by
  simp [Value.formed, Tryd.underlying163, kCells, h]
theorem kLits (m : Nat) (a b c : Int) (h1 : (Lit.int .i64 a).wf = true) (h2 : (Lit.int .i64 b).wf = true) (h3 : (Lit.int .i64 c).wf = true) : Tryd.prog.keyLits (m + 2) 163 [.int .i64 a, .int .i64 b, .int .i64 c] = some [.int .i64 a, .int .i64 b, .int .i64 c] := by
  have hu := Tryd.underlying163
  have hc1 : Tryd.prog.cellsOf 3 = 1 := by kernel_rfl
  have hi := Tryd.underlying3
  have hk := kCells
  unfold Program.keyLits
  simp only [hu, hk]
  unfold Program.keyLits
  simp [hi, hc1, h1, h2, h3]
theorem kSize : ∃ m, Tryd.prog.types.size + 1 = m + 2 := by
  obtain ⟨m, hm⟩ := Nat.exists_eq_add_of_lt kRow
  exact ⟨163 + m, by rw [hm]⟩
theorem keyMap : KeyMap Tryd.prog 163 ok3 ky where
  law := kLaw
  lit x hx := by
    obtain ⟨a, b, c⟩ := x
    simp only [ok3, Bool.and_eq_true] at hx
    obtain ⟨⟨h1, h2⟩, h3⟩ := hx
    obtain ⟨m, hm⟩ := kSize
    exact keyOf_ints (ls := [.int .i64 a, .int .i64 b, .int .i64 c]) kKey (by kernel_rfl) (kFormed _ rfl) (by rw [hm]; exact kLits m a b c h1 h2 h3)
  inj x y h := by
    obtain ⟨a, b, c⟩ := x
    obtain ⟨a', b', c'⟩ := y
    simp [ky] at h
    obtain ⟨rfl, rfl, rfl⟩ := h
    rfl

def RMp (w : World) (b n : Nat) (L : List ((Int × Int × Int) × Value)) : Prop := Mp Tryd.prog 163 ok3 ky w b n L
def wd (s : ByteArray) : Value := .agg #[.string s]
def sRW : ByteArray := ⟨#[114, 119]⟩
def sR : ByteArray := ⟨#[114]⟩
def sRX : ByteArray := ⟨#[114, 120]⟩
def sRWX : ByteArray := ⟨#[114, 119, 120]⟩
def L1 : Nat → List ((Int × Int × Int) × Value)
  | 0 => []
  | i + 1 => ((0, 0, (i : Int) + 1), wd sRW) :: L1 i
def L2 : Nat → List ((Int × Int × Int) × Value)
  | 0 => L1 5
  | i + 1 => ((3, (i : Int), 4), wd sRW) :: ((2, (i : Int), 3), wd sR) :: ((2, (i : Int), 2), wd sRW) :: ((2, (i : Int), 1), wd sR) :: L2 i
def L3 : Nat → List ((Int × Int × Int) × Value)
  | 0 => ((2, 0, 1), wd sRW) :: L2 3
  | i + 1 => ((1, (i : Int) + 1, 5), wd sR) :: ((1, (i : Int) + 1, 4), wd sRW) :: ((1, (i : Int) + 1, 3), wd sR) :: ((1, (i : Int) + 1, 2), wd sRW) :: ((1, (i : Int) + 1, 1), wd sRX) :: L3 i
def L4 : Nat → List ((Int × Int × Int) × Value)
  | 0 => ((1, 2, 1), wd sRWX) :: L3 2
  | i + 1 => ((3, 2, (i : Int) + 1), wd sRW) :: L4 i
def L5 : Nat → List ((Int × Int × Int) × Value)
  | 0 => L4 2
  | i + 1 => ((3, 2, 2 * (i : Int) + 3), wd sR) :: L5 i
def RightsOut (w : World) (e : Ending) (w' : World) : Prop := ∃ b, e = .returned (.map (some b)) ∧ RMp w' b 33 (L5 2) ∧ Below w.heap.size w w'
theorem below_grown {B : Nat} {a w w' : World} {row : Option Nat} (h : Below B a w) (hg : w.grownBy w' row) (hB : B ≤ a.heap.size) (hr : ∀ k, row = some k → B ≤ k) : Below B a w' := h.grown hg (by have := h.size; omega) hr

theorem upd {w : World} {ops : Array Oper} {rest : List Oper} {o : Oper} {a : Act} {Q : Exit → Act → World → Prop}
    (hg : o.guard = none) (m x v : Operand) (hop : o.op = Op.mapUpdate 160 m x v)
    (b n : Nat) (L : List ((Int × Int × Int) × Value)) (hm : a.eval m = .map (some b)) (hown : RMp w b n L) (hn : n ≤ 1000) (W : World) (B : Nat) (hB : Below B W w) (hb : B ≤ b) (hBW : B ≤ W.heap.size) (k1 k2 k3 : Int) (hkey : a.eval x = .agg #[.int .i64 k1, .int .i64 k2, .int .i64 k3]) (hok : ok3 (k1, k2, k3) = true) (val : Value) (hv : a.eval v = val)
    (hK : ∀ w', RMp w' b (n + 1) (((k1, k2, k3), val) :: L) → Below B W w' → w.heap.size ≤ w'.heap.size → Hid (∀ g t cs, g ≠ b → Blk w g t cs → Blk w' g t cs) → wpList Tryd.prog ops Q rest (a.put o.dst undef) w') :
    wpList Tryd.prog ops Q (o :: rest) a w :=
  wpList_mapUpdate_mp (K := (Int × Int × Int)) w hg m x v _ hop _ _ ok3 ky keyMap Tryd.underlying160 b n L hm hown (by unfold maxLen; omega) (k1, k2, k3) hkey hok val hv
    (fun w' h1 h2 => hK w' h1 (below_grown hB h2 hBW (fun k hk => by cases hk; exact hb)) h2.size (Lib.hid fun g t cs hg hc => (h2.block g hc.lt (fun e => hg (Option.some.inj e))).trans hc))
theorem ok3_of {a b c : Int} (ha : 0 ≤ a ∧ a < 1000) (hb : 0 ≤ b ∧ b < 1000) (hc : 0 ≤ c ∧ c < 1000) : ok3 (a, b, c) = true := by
  simp only [ok3, Bool.and_eq_true]
  refine ⟨⟨?_, ?_⟩, ?_⟩ <;> exact WalkArith.wf_i64 (by omega)

set_option maxHeartbeats 4000000 in
theorem rights_any (w : World) : Calls Tryd.prog 79 #[] w (RightsOut w) := by
  have hmm := @run_makeMap Tryd.prog
  go_enter Tryd.func79, Tryd.ntmps79
  go_wp2_with fail
  go_loopg [2] 5 (fun g s2 wr => ∃ i : Nat, i + g = 5 ∧ s2 = .int .i64 ((i : Int) + 1) ∧ RMp wr w.heap.size i (L1 i) ∧ Below w.heap.size w wr)
  case atStart => exact ⟨0, by omega, rfl, Mp.made _, (Below.refl _ w).alloc (Nat.le_refl _) _⟩
  case round =>
    obtain ⟨i, hg, rfl, hM, hB⟩ := hrel
    have HG := Lib.hid hg
    have hi5 : i ≤ 5 := by omega
    clear hg
    by_cases hlt : i < 5
    · go_wp2_with (at_mapUpdate; refine upd rfl _ _ _ rfl _ _ _ rfl hM (by omega) w _ hB (Nat.le_refl _) (Nat.le_refl _) _ _ _ rfl (ok3_of (by omega) (by omega) (by omega)) _ rfl ?_; clear hM hB; intro w1 hM hB _ _)
      go_light
      go_roundg (5 - (i + 1))
      case measure => have := HG.out; omega
      case rel => exact ⟨i + 1, by omega, by go_num, hM, hB⟩
    · have : i = 5 := by omega
      subst this
      go_wp2_with fail
      go_loopg [3, 18] 3 (fun g s3 s18 wr => ∃ i : Nat, i + g = 3 ∧ s18 = .int .i64 (i : Int) ∧ RMp wr w.heap.size (5 + 4 * i) (L2 i) ∧ Below w.heap.size w wr)
      case atStart => exact ⟨0, by omega, rfl, hM, hB⟩
      case round =>
        clear hM hB
        obtain ⟨i, hg, rfl, hM, hB⟩ := hrel
        have HG := Lib.hid hg
        have hi5 : i ≤ 3 := by omega
        clear hg
        by_cases hlt : i < 3
        · go_wp2_with (at_mapUpdate; refine upd rfl _ _ _ rfl _ _ _ rfl hM (by omega) w _ hB (Nat.le_refl _) (Nat.le_refl _) _ _ _ rfl (ok3_of (by omega) (by omega) (by omega)) _ rfl ?_; clear hM hB; intro w1 hM hB _ _)
          go_light
          go_roundg (3 - (i + 1))
          case measure => have := HG.out; omega
          case rel => exact ⟨i + 1, by omega, by go_num, hM, hB⟩
        · have : i = 3 := by omega
          subst this
          go_wp2_with (at_mapUpdate; refine upd rfl _ _ _ rfl _ _ _ rfl hM (by omega) w _ hB (Nat.le_refl _) (Nat.le_refl _) _ _ _ rfl (ok3_of (by omega) (by omega) (by omega)) _ rfl ?_; clear hM hB; intro w1 hM hB _ _)
          go_loopg [4] 2 (fun g s4 wr => ∃ i : Nat, i + g = 2 ∧ s4 = .int .i64 ((i : Int) + 1) ∧ RMp wr w.heap.size (18 + 5 * i) (L3 i) ∧ Below w.heap.size w wr)
          case atStart => exact ⟨0, by omega, rfl, hM, hB⟩
          case round =>
            clear hM hB
            obtain ⟨i, hg, rfl, hM, hB⟩ := hrel
            have HG := Lib.hid hg
            have hi5 : i ≤ 2 := by omega
            clear hg
            by_cases hlt : i < 2
            · go_wp2_with (at_mapUpdate; refine upd rfl _ _ _ rfl _ _ _ rfl hM (by omega) w _ hB (Nat.le_refl _) (Nat.le_refl _) _ _ _ rfl (ok3_of (by omega) (by omega) (by omega)) _ rfl ?_; clear hM hB; intro w1 hM hB _ _)
              go_light
              go_roundg (2 - (i + 1))
              case measure => have := HG.out; omega
              case rel => exact ⟨i + 1, by omega, by go_num, hM, hB⟩
            · have : i = 2 := by omega
              subst this
              go_wp2_with (at_mapUpdate; refine upd rfl _ _ _ rfl _ _ _ rfl hM (by omega) w _ hB (Nat.le_refl _) (Nat.le_refl _) _ _ _ rfl (ok3_of (by omega) (by omega) (by omega)) _ rfl ?_; clear hM hB; intro w1 hM hB _ _)
              have hwl := hB.size
              have hne : w.heap.size < w1.heap.size := hM.lt
              have HM := Lib.hid hM
              have HB := Lib.hid hB
              have HK := Lib.hid (Blk.new w1 3 #[.int .i64 1, .int .i64 2])
              clear hM hB
              go_loopg [6, 70] 2 (fun g s6 s70 wr => ∃ i : Nat, i + g = 2 ∧ s70 = .int .i64 (i : Int) ∧ RMp wr w.heap.size (29 + i) (L4 i) ∧ Below w.heap.size w wr ∧ Blk wr w1.heap.size 3 #[.int .i64 1, .int .i64 2])
              case atStart => exact ⟨0, by omega, rfl, HM.out.alloc _, HB.out.alloc hwl _, HK.out⟩
              case round =>
                clear HM HB HK
                obtain ⟨i, hg, rfl, hM, hB, hK⟩ := hrel
                have HG := Lib.hid hg
                have HK := Lib.hid hK
                have hi5 : i ≤ 2 := by omega
                clear hg hK
                by_cases hlt : i < 2
                · have hc : wr.cell? ⟨w1.heap.size, i, none⟩ = some (.int .i64 ((i : Int) + 1)) := by
                    rw [HK.out.cell]
                    have : i = 0 ∨ i = 1 := by omega
                    rcases this with rfl | rfl <;> rfl
                  go_wp2_with (at_mapUpdate; refine upd rfl _ _ _ rfl _ _ _ rfl hM (by omega) w _ hB (Nat.le_refl _) (Nat.le_refl _) _ _ _ rfl (ok3_of (by omega) (by omega) (by omega)) _ rfl ?_; clear hM hB; intro w1 hM hB _ _)
                  have HK2 := Lib.hid ((‹Hid (∀ g t cs, g ≠ w.heap.size → Blk wr g t cs → Blk _ g t cs)›).out _ _ _ (by omega) HK.out)
                  go_light
                  go_roundg (2 - (i + 1))
                  case measure => have := HG.out; omega
                  case rel => exact ⟨i + 1, by omega, by go_num, hM, hB, HK2.out⟩
                · have : i = 2 := by omega
                  subst this
                  have hwr := hB.size
                  have hne : w.heap.size < wr.heap.size := hM.lt
                  have HM := Lib.hid hM
                  have HB := Lib.hid hB
                  clear hM hB
                  go_wp2_with fail
                  obtain ⟨wo, rfl⟩ : ∃ wo : World, wo = wr := ⟨_, rfl⟩
                  have HK := Lib.hid (Blk.new wo 3 #[.int .i64 3, .int .i64 5])
                  go_loopg [8, 81] 2 (fun g s8 s81 wr => ∃ i : Nat, i + g = 2 ∧ s81 = .int .i64 (i : Int) ∧ RMp wr w.heap.size (31 + i) (L5 i) ∧ Below w.heap.size w wr ∧ Blk wr wo.heap.size 3 #[.int .i64 3, .int .i64 5])
                  case atStart => exact ⟨0, by omega, rfl, HM.out.alloc _, HB.out.alloc hwr _, HK.out⟩
                  case round =>
                    clear HM HB HK
                    obtain ⟨i, hg, rfl, hM, hB, hK⟩ := hrel
                    have HG := Lib.hid hg
                    have HK := Lib.hid hK
                    have hi5 : i ≤ 2 := by omega
                    clear hg hK
                    by_cases hlt : i < 2
                    · have hc : wr.cell? ⟨wo.heap.size, i, none⟩ = some (.int .i64 (2 * (i : Int) + 3)) := by
                        rw [HK.out.cell]
                        have : i = 0 ∨ i = 1 := by omega
                        rcases this with rfl | rfl <;> rfl
                      go_wp2_with (at_mapUpdate; refine upd rfl _ _ _ rfl _ _ _ rfl hM (by omega) w _ hB (Nat.le_refl _) (Nat.le_refl _) _ _ _ rfl (ok3_of (by omega) (by omega) (by omega)) _ rfl ?_; clear hM hB; intro w1 hM hB _ _)
                      have HK2 := Lib.hid ((‹Hid (∀ g t cs, g ≠ w.heap.size → Blk wr g t cs → Blk _ g t cs)›).out _ _ _ (by omega) HK.out)
                      go_light
                      go_roundg (2 - (i + 1))
                      case measure => have := HG.out; omega
                      case rel => exact ⟨i + 1, by omega, by go_num, hM, hB, HK2.out⟩
                    · have : i = 2 := by omega
                      subst this
                      go_wp2_with fail
                      go_light
                      go_ret
                      exact ⟨_, rfl, hM, hB⟩
end Grant
end Go.Proofs.YtfiojpdkbckopaaDoor
