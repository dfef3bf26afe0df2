/-
  Texts of this claim, joined: GrantMay, GrantWhere.
-/
import Derived.Test.YtmiaabpnolebhaaGreatDoorProg
import Derived.Test.YtmiaabpnolebhaaGreatDoorMaps
import Derived.Deep.LoopGhost
import Derived.Laws.Rows
set_option linter.unusedSimpArgs false
set_option linter.unusedVariables false
/-
  Package grant: rights, May: what the map of rights holds, and what is read of it.
-/
namespace Go.Proofs.YtmiaabpnolebhaaGreatDoor
open Go.RowKit

namespace Grant

def ky (x : (Int × Int × Int)) : Value := .agg #[.int .i64 x.1, .int .i64 x.2.1, .int .i64 x.2.2]
def ok3 (x : (Int × Int × Int)) : Bool := (Lit.int .i64 x.1).wf && (Lit.int .i64 x.2.1).wf && (Lit.int .i64 x.2.2).wf
theorem kLaid : laidOutB Tryz.prog = true := by kernel_rfl
theorem kKey : Tryz.prog.keyType 409 = true := by kernel_rfl
theorem kRow : (409 : TypeId) < Tryz.prog.types.size := of_decide_eq_true (by kernel_rfl)
theorem kAt : Tryz.prog.keyTypeAt 2 409 = true := by kernel_rfl
theorem kLaw0 : WideMaps.KeyLaw Tryz.prog 409 := deep_law_laid (m := 2) kLaid (Nat.le_of_ble_eq_true rfl) kRow kAt (by kernel_rfl)
theorem kLaw : Maps.Keyed Tryz.prog 409 := Maps.Keyed.of_law kLaw0
theorem kCells : Tryz.prog.cellsOf 409 = 3 := by kernel_rfl
theorem kFormed (cs : Array Value) (h : cs.size = 3) : (Value.agg cs).formed Tryz.prog 409 = true := by
  simp [Value.formed, Tryz.underlying409, kCells, h]
theorem kLits (m : Nat) (a b c : Int) (h1 : (Lit.int .i64 a).wf = true) (h2 : (Lit.int .i64 b).wf = true) (h3 : (Lit.int .i64 c).wf = true) : Tryz.prog.keyLits (m + 2) 409 [.int .i64 a, .int .i64 b, .int .i64 c] = some [.int .i64 a, .int .i64 b, .int .i64 c] := by
  have hu := Tryz.underlying409
  have hc1 : Tryz.prog.cellsOf 3 = 1 := by kernel_rfl
  have hi := Tryz.underlying3
  have hk := kCells
  unfold Program.keyLits
  simp only [hu, hk]
  unfold Program.keyLits
  simp [hi, hc1, h1, h2, h3]
theorem kSize : ∃ m, Tryz.prog.types.size + 1 = m + 2 := by
  obtain ⟨m, hm⟩ := Nat.exists_eq_add_of_lt kRow
  exact ⟨409 + m, by rw [hm]⟩
theorem keyMap : KeyMap Tryz.prog 409 ok3 ky where
  law := kLaw
  lit x hx := by
    obtain ⟨a, b, c⟩ := x
    simp only [ok3, Bool.and_eq_true] at hx
    obtain ⟨⟨h1, h2⟩, h3⟩ := hx
    obtain ⟨m, hm⟩ := kSize
    exact keyOf_ints (ls := [.int .i64 a, .int .i64 b, .int .i64 c]) kKey (by kernel_rfl) (kFormed _ rfl) (by rw [hm]; exact kLits m a b c h1 h2 h3)
  inj x y h := by
    obtain ⟨a, b, c⟩ := x
    obtain ⟨a', b', c'⟩ := y
    simp [ky] at h
    obtain ⟨rfl, rfl, rfl⟩ := h
    rfl

def RMp (w : World) (b n : Nat) (L : List ((Int × Int × Int) × Value)) : Prop := Mp Tryz.prog 409 ok3 ky w b n L
def wd (s : ByteArray) : Value := .agg #[.string s]
def sRW : ByteArray := ⟨#[114, 119]⟩
def sR : ByteArray := ⟨#[114]⟩
def sRX : ByteArray := ⟨#[114, 120]⟩
def sRWX : ByteArray := ⟨#[114, 119, 120]⟩
def L1 : Nat → List ((Int × Int × Int) × Value)
  | 0 => []
  | i + 1 => ((0, 0, (i : Int) + 1), wd sRW) :: L1 i
def L2 : Nat → List ((Int × Int × Int) × Value)
  | 0 => L1 5
  | i + 1 => ((3, (i : Int), 4), wd sRW) :: ((2, (i : Int), 3), wd sR) :: ((2, (i : Int), 2), wd sRW) :: ((2, (i : Int), 1), wd sR) :: L2 i
def L3 : Nat → List ((Int × Int × Int) × Value)
  | 0 => ((2, 0, 1), wd sRW) :: L2 3
  | i + 1 => ((1, (i : Int) + 1, 5), wd sR) :: ((1, (i : Int) + 1, 4), wd sRW) :: ((1, (i : Int) + 1, 3), wd sR) :: ((1, (i : Int) + 1, 2), wd sRW) :: ((1, (i : Int) + 1, 1), wd sRX) :: L3 i
def L4 : Nat → List ((Int × Int × Int) × Value)
  | 0 => ((1, 2, 1), wd sRWX) :: L3 2
  | i + 1 => ((3, 2, (i : Int) + 1), wd sRW) :: L4 i
def L5 : Nat → List ((Int × Int × Int) × Value)
  | 0 => L4 2
  | i + 1 => ((3, 2, 2 * (i : Int) + 3), wd sR) :: L5 i
def RightsOut (w : World) (e : Ending) (w' : World) : Prop := ∃ b, e = .returned (.map (some b)) ∧ RMp w' b 33 (L5 2) ∧ Below w.heap.size w w'
theorem below_grown {B : Nat} {a w w' : World} {row : Option Nat} (h : Below B a w) (hg : w.grownBy w' row) (hB : B ≤ a.heap.size) (hr : ∀ k, row = some k → B ≤ k) : Below B a w' := h.grown hg (by have := h.size; omega) hr

theorem upd {w : World} {ops : Array Oper} {rest : List Oper} {o : Oper} {a : Act} {Q : Exit → Act → World → Prop}
    (hg : o.guard = none) (m x v : Operand) (hop : o.op = Op.mapUpdate 406 m x v)
    (b n : Nat) (L : List ((Int × Int × Int) × Value)) (hm : a.eval m = .map (some b)) (hown : RMp w b n L) (hn : n ≤ 1000) (W : World) (B : Nat) (hB : Below B W w) (hb : B ≤ b) (hBW : B ≤ W.heap.size) (k1 k2 k3 : Int) (hkey : a.eval x = .agg #[.int .i64 k1, .int .i64 k2, .int .i64 k3]) (hok : ok3 (k1, k2, k3) = true) (val : Value) (hv : a.eval v = val)
    (hK : ∀ w', RMp w' b (n + 1) (((k1, k2, k3), val) :: L) → Below B W w' → w.heap.size ≤ w'.heap.size → Hid (∀ g t cs, g ≠ b → Blk w g t cs → Blk w' g t cs) → wpList Tryz.prog ops Q rest (a.put o.dst undef) w') :
    wpList Tryz.prog ops Q (o :: rest) a w :=
  wpList_mapUpdate_mp (K := (Int × Int × Int)) w hg m x v _ hop _ _ ok3 ky keyMap Tryz.underlying406 b n L hm hown (by unfold maxLen; omega) (k1, k2, k3) hkey hok val hv
    (fun w' h1 h2 => hK w' h1 (below_grown hB h2 hBW (fun k hk => by cases hk; exact hb)) h2.size (Lib.hid fun g t cs hg hc => (h2.block g hc.lt (fun e => hg (Option.some.inj e))).trans hc))
theorem ok3_of {a b c : Int} (ha : 0 ≤ a ∧ a < 1000) (hb : 0 ≤ b ∧ b < 1000) (hc : 0 ≤ c ∧ c < 1000) : ok3 (a, b, c) = true := by
  simp only [ok3, Bool.and_eq_true]
  refine ⟨⟨?_, ?_⟩, ?_⟩ <;> exact WalkArith.wf_i64 (by omega)

set_option maxHeartbeats 4000000 in
theorem rights_any (w : World) : Calls Tryz.prog 265 #[] w (RightsOut w) := by
  have hmm := @run_makeMap Tryz.prog
  go_enter Tryz.func265, Tryz.ntmps265
  go_wp2_with fail
  go_loopg [2] 5 (fun g s2 wr => ∃ i : Nat, i + g = 5 ∧ s2 = .int .i64 ((i : Int) + 1) ∧ RMp wr w.heap.size i (L1 i) ∧ Below w.heap.size w wr)
  case atStart => exact ⟨0, by omega, rfl, Mp.made _, (Below.refl _ w).alloc (Nat.le_refl _) _⟩
  case round =>
    obtain ⟨i, hg, rfl, hM, hB⟩ := hrel
    have HG := Lib.hid hg
    have hi5 : i ≤ 5 := by omega
    clear hg
    by_cases hlt : i < 5
    · go_wp2_with (at_mapUpdate; refine upd rfl _ _ _ rfl _ _ _ rfl hM (by omega) w _ hB (Nat.le_refl _) (Nat.le_refl _) _ _ _ rfl (ok3_of (by omega) (by omega) (by omega)) _ rfl ?_; clear hM hB; intro w1 hM hB _ _)
      go_light
      go_roundg (5 - (i + 1))
      case measure => have := HG.out; omega
      case rel => exact ⟨i + 1, by omega, by go_num, hM, hB⟩
    · have : i = 5 := by omega
      subst this
      go_wp2_with fail
      go_loopg [3, 18] 3 (fun g s3 s18 wr => ∃ i : Nat, i + g = 3 ∧ s18 = .int .i64 (i : Int) ∧ RMp wr w.heap.size (5 + 4 * i) (L2 i) ∧ Below w.heap.size w wr)
      case atStart => exact ⟨0, by omega, rfl, hM, hB⟩
      case round =>
        clear hM hB
        obtain ⟨i, hg, rfl, hM, hB⟩ := hrel
        have HG := Lib.hid hg
        have hi5 : i ≤ 3 := by omega
        clear hg
        by_cases hlt : i < 3
        · go_wp2_with (at_mapUpdate; refine upd rfl _ _ _ rfl _ _ _ rfl hM (by omega) w _ hB (Nat.le_refl _) (Nat.le_refl _) _ _ _ rfl (ok3_of (by omega) (by omega) (by omega)) _ rfl ?_; clear hM hB; intro w1 hM hB _ _)
          go_light
          go_roundg (3 - (i + 1))
          case measure => have := HG.out; omega
          case rel => exact ⟨i + 1, by omega, by go_num, hM, hB⟩
        · have : i = 3 := by omega
          subst this
          go_wp2_with (at_mapUpdate; refine upd rfl _ _ _ rfl _ _ _ rfl hM (by omega) w _ hB (Nat.le_refl _) (Nat.le_refl _) _ _ _ rfl (ok3_of (by omega) (by omega) (by omega)) _ rfl ?_; clear hM hB; intro w1 hM hB _ _)
          go_loopg [4] 2 (fun g s4 wr => ∃ i : Nat, i + g = 2 ∧ s4 = .int .i64 ((i : Int) + 1) ∧ RMp wr w.heap.size (18 + 5 * i) (L3 i) ∧ Below w.heap.size w wr)
          case atStart => exact ⟨0, by omega, rfl, hM, hB⟩
          case round =>
            clear hM hB
            obtain ⟨i, hg, rfl, hM, hB⟩ := hrel
            have HG := Lib.hid hg
            have hi5 : i ≤ 2 := by omega
            clear hg
            by_cases hlt : i < 2
            · go_wp2_with (at_mapUpdate; refine upd rfl _ _ _ rfl _ _ _ rfl hM (by omega) w _ hB (Nat.le_refl _) (Nat.le_refl _) _ _ _ rfl (ok3_of (by omega) (by omega) (by omega)) _ rfl ?_; clear hM hB; intro w1 hM hB _ _)
              go_light
              go_roundg (2 - (i + 1))
              case measure => have := HG.out; omega
              case rel => exact ⟨i + 1, by omega, by go_num, hM, hB⟩
            · have : i = 2 := by omega
              subst this
              go_wp2_with (at_mapUpdate; refine upd rfl _ _ _ rfl _ _ _ rfl hM (by omega) w _ hB (Nat.le_refl _) (Nat.le_refl _) _ _ _ rfl (ok3_of (by omega) (by omega) (by omega)) _ rfl ?_; clear hM hB; intro w1 hM hB _ _)
              have hwl := hB.size
              have hne : w.heap.size < w1.heap.size := hM.lt
              have HM := Lib.hid hM
              have HB := Lib.hid hB
              have HK := Lib.hid (Blk.new w1 3 #[.int .i64 1, .int .i64 2])
              clear hM hB
              go_loopg [6, 70] 2 (fun g s6 s70 wr => ∃ i : Nat, i + g = 2 ∧ s70 = .int .i64 (i : Int) ∧ RMp wr w.heap.size (29 + i) (L4 i) ∧ Below w.heap.size w wr ∧ Blk wr w1.heap.size 3 #[.int .i64 1, .int .i64 2])
              case atStart => exact ⟨0, by omega, rfl, HM.out.alloc _, HB.out.alloc hwl _, HK.out⟩
              case round =>
                clear HM HB HK
                obtain ⟨i, hg, rfl, hM, hB, hK⟩ := hrel
                have HG := Lib.hid hg
                have HK := Lib.hid hK
                have hi5 : i ≤ 2 := by omega
                clear hg hK
                by_cases hlt : i < 2
                · have hc : wr.cell? ⟨w1.heap.size, i, none⟩ = some (.int .i64 ((i : Int) + 1)) := by
                    rw [HK.out.cell]
                    have : i = 0 ∨ i = 1 := by omega
                    rcases this with rfl | rfl <;> rfl
                  go_wp2_with (at_mapUpdate; refine upd rfl _ _ _ rfl _ _ _ rfl hM (by omega) w _ hB (Nat.le_refl _) (Nat.le_refl _) _ _ _ rfl (ok3_of (by omega) (by omega) (by omega)) _ rfl ?_; clear hM hB; intro w1 hM hB _ _)
                  have HK2 := Lib.hid ((‹Hid (∀ g t cs, g ≠ w.heap.size → Blk wr g t cs → Blk _ g t cs)›).out _ _ _ (by omega) HK.out)
                  go_light
                  go_roundg (2 - (i + 1))
                  case measure => have := HG.out; omega
                  case rel => exact ⟨i + 1, by omega, by go_num, hM, hB, HK2.out⟩
                · have : i = 2 := by omega
                  subst this
                  have hwr := hB.size
                  have hne : w.heap.size < wr.heap.size := hM.lt
                  have HM := Lib.hid hM
                  have HB := Lib.hid hB
                  clear hM hB
                  go_wp2_with fail
                  obtain ⟨wo, rfl⟩ : ∃ wo : World, wo = wr := ⟨_, rfl⟩
                  have HK := Lib.hid (Blk.new wo 3 #[.int .i64 3, .int .i64 5])
                  go_loopg [8, 81] 2 (fun g s8 s81 wr => ∃ i : Nat, i + g = 2 ∧ s81 = .int .i64 (i : Int) ∧ RMp wr w.heap.size (31 + i) (L5 i) ∧ Below w.heap.size w wr ∧ Blk wr wo.heap.size 3 #[.int .i64 3, .int .i64 5])
                  case atStart => exact ⟨0, by omega, rfl, HM.out.alloc _, HB.out.alloc hwr _, HK.out⟩
                  case round =>
                    clear HM HB HK
                    obtain ⟨i, hg, rfl, hM, hB, hK⟩ := hrel
                    have HG := Lib.hid hg
                    have HK := Lib.hid hK
                    have hi5 : i ≤ 2 := by omega
                    clear hg hK
                    by_cases hlt : i < 2
                    · have hc : wr.cell? ⟨wo.heap.size, i, none⟩ = some (.int .i64 (2 * (i : Int) + 3)) := by
                        rw [HK.out.cell]
                        have : i = 0 ∨ i = 1 := by omega
                        rcases this with rfl | rfl <;> rfl
                      go_wp2_with (at_mapUpdate; refine upd rfl _ _ _ rfl _ _ _ rfl hM (by omega) w _ hB (Nat.le_refl _) (Nat.le_refl _) _ _ _ rfl (ok3_of (by omega) (by omega) (by omega)) _ rfl ?_; clear hM hB; intro w1 hM hB _ _)
                      have HK2 := Lib.hid ((‹Hid (∀ g t cs, g ≠ w.heap.size → Blk wr g t cs → Blk _ g t cs)›).out _ _ _ (by omega) HK.out)
                      go_light
                      go_roundg (2 - (i + 1))
                      case measure => have := HG.out; omega
                      case rel => exact ⟨i + 1, by omega, by go_num, hM, hB, HK2.out⟩
                    · have : i = 2 := by omega
                      subst this
                      go_wp2_with fail
                      go_light
                      go_ret
                      exact ⟨_, rfl, hM, hB⟩
end Grant
end Go.Proofs.YtmiaabpnolebhaaGreatDoor

/-
  Package grant: the regions' table, Where, Base; the reference's Where.
-/
namespace Go.Proofs.YtmiaabpnolebhaaGreatDoor
open Go.RowKit

namespace Grant
/-- The regions, as they begin and how long they are. -/
def sp : List (Nat × Nat) := [(0, 0), (536870912, 4096), (536875008, 4096), (268435456, 10240), (1073741824, 64), (1610612736, 256)]
def spCells : Array Value := #[.int .u32 0, .int .i64 0, .int .u32 536870912, .int .i64 4096, .int .u32 536875008, .int .i64 4096, .int .u32 268435456, .int .i64 10240, .int .u32 1073741824, .int .i64 64, .int .u32 1610612736, .int .i64 256]
def Spans (w : World) : Prop := ∃ ty, Blk w 3 ty spCells
theorem Spans.lt {w : World} (h : Spans w) : 3 < w.heap.size := by obtain ⟨_, h⟩ := h; exact h.lt
theorem Spans.below {B : Nat} {w w' : World} (h : Spans w) (hb : Below B w w') (hB : 3 < B) : Spans w' := by
  obtain ⟨ty, h⟩ := h
  exact ⟨ty, h.below hb hB⟩
theorem Spans.old {w w' : World} (h : Spans w) (hb : Below w.heap.size w w') : Spans w' := h.below hb h.lt
theorem Spans.drewN {w : World} (h : Spans w) (n : Nat) : Spans (w.drewN n) := h
theorem Spans.alloc {w : World} (h : Spans w) (o : Obj) : Spans (w.alloc o) := by
  obtain ⟨ty, h⟩ := h
  exact ⟨ty, h.alloc o⟩
/-- The region of an address, and the place in it. -/
def whereN (a : Nat) : Nat × Nat :=
  if 536870912 ≤ a ∧ a < 536875008 then (1, a - 536870912)
  else if 536875008 ≤ a ∧ a < 536879104 then (2, a - 536875008)
  else if 268435456 ≤ a ∧ a < 268445696 then (3, a - 268435456)
  else if 1073741824 ≤ a ∧ a < 1073741888 then (4, a - 1073741824)
  else if 1610612736 ≤ a ∧ a < 1610612992 then (5, a - 1610612736)
  else (0, 0)
theorem ix0 (w : World) : (Instr.index 370 (.agg spCells) (.int .i64 0)).run Tryz.prog w = .ok (.agg #[.int .u32 0, .int .i64 0]) w := by kernel_rfl
theorem ix1 (w : World) : (Instr.index 370 (.agg spCells) (.int .i64 1)).run Tryz.prog w = .ok (.agg #[.int .u32 536870912, .int .i64 4096]) w := by kernel_rfl
theorem ix2 (w : World) : (Instr.index 370 (.agg spCells) (.int .i64 2)).run Tryz.prog w = .ok (.agg #[.int .u32 536875008, .int .i64 4096]) w := by kernel_rfl
theorem ix3 (w : World) : (Instr.index 370 (.agg spCells) (.int .i64 3)).run Tryz.prog w = .ok (.agg #[.int .u32 268435456, .int .i64 10240]) w := by kernel_rfl
theorem ix4 (w : World) : (Instr.index 370 (.agg spCells) (.int .i64 4)).run Tryz.prog w = .ok (.agg #[.int .u32 1073741824, .int .i64 64]) w := by kernel_rfl
theorem ix5 (w : World) : (Instr.index 370 (.agg spCells) (.int .i64 5)).run Tryz.prog w = .ok (.agg #[.int .u32 1610612736, .int .i64 256]) w := by kernel_rfl
theorem spIdx (i : Nat) (f s : Nat) (h : sp[i]? = some (f, s)) (w : World) : (Instr.index 370 (.agg spCells) (.int .i64 (i : Int))).run Tryz.prog w = .ok (.agg #[.int .u32 (f : Int), .int .i64 (s : Int)]) w := by
  have hi : i < 6 := (List.getElem?_eq_some_iff.1 h).1
  have : i = 0 ∨ i = 1 ∨ i = 2 ∨ i = 3 ∨ i = 4 ∨ i = 5 := by omega
  rcases this with rfl | rfl | rfl | rfl | rfl | rfl <;> (simp [sp] at h; obtain ⟨rfl, rfl⟩ := h)
  · exact ix0 w
  · exact ix1 w
  · exact ix2 w
  · exact ix3 w
  · exact ix4 w
  · exact ix5 w
theorem where_hit (a i f s : Nat) (h : sp[i]? = some (f, s)) (h1 : f ≤ a) (h2 : a - f < s) : whereN a = (i, a - f) := by
  have hi : i < 6 := (List.getElem?_eq_some_iff.1 h).1
  have : i = 0 ∨ i = 1 ∨ i = 2 ∨ i = 3 ∨ i = 4 ∨ i = 5 := by omega
  unfold whereN
  rcases this with rfl | rfl | rfl | rfl | rfl | rfl <;> (simp [sp] at h; obtain ⟨rfl, rfl⟩ := h) <;> repeat' split
  all_goals first | rfl | omega
theorem where_miss (a : Nat) (h : ∀ j f s, j < 6 → sp[j]? = some (f, s) → ¬ (f ≤ a ∧ a < f + s)) : whereN a = (0, 0) := by
  have h1 := h 1 _ _ (by decide) rfl
  have h2 := h 2 _ _ (by decide) rfl
  have h3 := h 3 _ _ (by decide) rfl
  have h4 := h 4 _ _ (by decide) rfl
  have h5 := h 5 _ _ (by decide) rfl
  unfold whereN
  repeat' split
  all_goals first | rfl | omega
def missed (a i : Nat) : Prop := ∀ j f s, j < i → sp[j]? = some (f, s) → ¬ (f ≤ a ∧ a < f + s)
set_option maxHeartbeats 1000000 in
theorem where_any (a : Nat) (w : World) (ha : a < 4294967296) (hS : Spans w) :
    Calls Tryz.prog 233 #[.int .u32 (a : Int)] w fun e w' => e = .returned (.tuple #[.int .i64 ((whereN a).1 : Int), .int .i64 ((whereN a).2 : Int)]) ∧ Below w.heap.size w w' := by
  obtain ⟨ty, hS⟩ := hS
  have HS := Lib.hid hS
  have hix := Lib.hid spIdx
  clear hS
  go_enter Tryz.func233, Tryz.ntmps233
  go_wp2_with (refine wpList_load_row rfl 370 _ rfl 3 rfl ty spCells (0, 0) _ HS.out Tryz.underlying370 rfl (by kernel_rfl) ?_)
  go_loopg [8] 6 (fun g s8 wr => ∃ i : Nat, i + g = 6 ∧ s8 = .int .i64 (i : Int) ∧ Hid (missed a i) ∧ Below w.heap.size w wr)
  case atStart => exact ⟨0, by omega, rfl, Lib.hid (fun j f s hj => absurd hj (by omega)), Below.refl _ _⟩
  case round =>
    obtain ⟨i, hg, rfl, HM, hB⟩ := hrel
    have HG := Lib.hid hg
    have HB := Lib.hid hB
    have hwl := hB.size
    have hi : i ≤ 6 := by omega
    clear hg hB
    by_cases hlt : i < 6
    · obtain ⟨⟨f, s⟩, hx⟩ : ∃ x, sp[i]? = some x := ⟨_, List.getElem?_eq_getElem (show i < sp.length by exact hlt)⟩
      have h0 := hix.out i f s hx
      have HX := Lib.hid hx
      have hb : f < 4294967296 ∧ s < 65536 := by
        have : ∀ x ∈ sp, x.1 < 4294967296 ∧ x.2 < 65536 := by decide
        exact this _ (List.mem_of_getElem? hx)
      obtain ⟨hf, hs⟩ := hb
      clear hx
      have HH := Lib.hid (where_hit a i f s HX.out)
      have HN := Lib.hid (fun (h : ¬ (f ≤ a ∧ a < f + s)) => (show missed a (i + 1) from fun j f' s' hj hx => by
        rcases Nat.lt_or_ge j i with hji | hji
        · exact HM.out j f' s' hji hx
        · obtain rfl : j = i := by omega
          have hx2 := HX.out
          rw [hx] at hx2
          cases hx2
          exact h))
      by_cases h1 : f ≤ a
      · by_cases h2 : a - f < s
        · have HW := Lib.hid (HH.out h1 h2)
          have h3 : (a : Int) - (f : Int) < (s : Int) := by omega
          go_wp2_with fail
          go_light
          go_ret2
          rw [HW.out]
          exact ⟨ret2i rfl (by simp; omega), HB.out.alloc hwl _⟩
        · have HM2 := HN.out (by omega)
          have HM3 := Lib.hid HM2
          clear HM2
          have h3 : ¬ (a : Int) - (f : Int) < (s : Int) := by omega
          go_wp2_with fail
          go_light
          go_roundg (6 - (i + 1))
          case measure => have := HG.out; omega
          case rel => exact ⟨i + 1, by omega, by go_num, HM3, HB.out.alloc hwl _⟩
      · have HM2 := HN.out (by omega)
        have HM3 := Lib.hid HM2
        clear HM2
        go_wp2_with fail
        go_light
        go_roundg (6 - (i + 1))
        case measure => have := HG.out; omega
        case rel => exact ⟨i + 1, by omega, by go_num, HM3, HB.out.alloc hwl _⟩
    · have : i = 6 := by omega
      subst this
      have HW := Lib.hid (where_miss a HM.out)
      go_wp2_with fail
      go_light
      go_ret2
      rw [HW.out]
      exact ⟨rfl, HB.out⟩
theorem where_cases (z : Int) (a : Nat) (h : z = a) : (whereN a = (0, 0) ∧ (z < 268435456 ∨ (268445696 ≤ z ∧ z < 536870912) ∨ (536879104 ≤ z ∧ z < 1073741824) ∨ (1073741888 ≤ z ∧ z < 1610612736) ∨ 1610612992 ≤ z)) ∨ ∃ r o : Nat, whereN a = (r, o) ∧ ((r = 1 ∧ (o : Int) = z - 536870912 ∧ 536870912 ≤ z ∧ z < 536875008) ∨ (r = 2 ∧ (o : Int) = z - 536875008 ∧ 536875008 ≤ z ∧ z < 536879104) ∨
      (r = 3 ∧ (o : Int) = z - 268435456 ∧ 268435456 ≤ z ∧ z < 268445696) ∨ (r = 4 ∧ (o : Int) = z - 1073741824 ∧ 1073741824 ≤ z ∧ z < 1073741888) ∨ (r = 5 ∧ (o : Int) = z - 1610612736 ∧ 1610612736 ≤ z ∧ z < 1610612992)) := by
  unfold whereN
  repeat' split
  all_goals first | (exact .inr ⟨_, _, rfl, by omega⟩) | (exact .inl ⟨rfl, by omega⟩)
set_option maxHeartbeats 1000000 in
theorem ref_where (z : Int) (a : Nat) (w : World) (hz : z = a) (ha : z < 4294967296) :
    Calls Tryz.prog 177 #[.int .u32 z] w fun e w' => e = .returned (.tuple #[.int .i64 ((whereN a).1 : Int), .int .i64 ((whereN a).2 : Int)]) ∧ w = w' := by
  have hc := where_cases z a hz
  have h0 : 0 ≤ z := by omega
  clear hz
  generalize whereN a = r at *
  rcases hc with ⟨e, h1 | ⟨h1, h2⟩ | ⟨h1, h2⟩ | ⟨h1, h2⟩ | h1⟩ | ⟨r', o, e, ⟨e1, e2, h1, h2⟩ | ⟨e1, e2, h1, h2⟩ | ⟨e1, e2, h1, h2⟩ | ⟨e1, e2, h1, h2⟩ | ⟨e1, e2, h1, h2⟩⟩
  all_goals have HE := Lib.hid e
  all_goals clear e
  all_goals try have HE1 := Lib.hid e1
  all_goals try have HE2 := Lib.hid e2
  all_goals try clear e1 e2
  all_goals
    go_enter Tryz.func177, Tryz.ntmps177
    go_wp2_with fail
    go_light
    go_ret2
    rw [HE.out]
    first | exact ⟨rfl, rfl⟩ | exact ⟨ret2i (by rw [HE1.out]; rfl) HE2.out.symm, rfl⟩
end Grant
end Go.Proofs.YtmiaabpnolebhaaGreatDoor
