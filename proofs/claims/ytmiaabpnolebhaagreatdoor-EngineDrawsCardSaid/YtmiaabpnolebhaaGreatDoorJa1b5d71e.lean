/-
  Texts of this claim, joined: Laid, GrantLaid, TabVars, ShaTab, EngTab.
-/
import Derived.LaidLaws
import Derived.MapViews
import Derived.Test.YtmiaabpnolebhaaGreatDoorJ9adcd0ab
import Derived.Lib.LaidTab
import Derived.Test.YtmiaabpnolebhaaGreatDoorShaPress
set_option linter.unusedSimpArgs false
set_option linter.unusedVariables false
/-
  What a row's list gives: a package-level variable of plain data (arrays, structs, of integers, to whatever depth) is just its initialiser's cells. No program in sight.
-/
namespace Go.Proofs.YtmiaabpnolebhaaGreatDoor
open Go.RowKit

theorem laidVars_mem {P : Program} {w : World} : ∀ {l : List (String × DataW Unit)} {ps : List MemPlace}, DataW.LaidVars P w l ps → ∀ {n : String} {d : DataW Unit}, (n, d) ∈ l →
    ∃ g t cs fuel p, P.globalNamed n = some g ∧ (P.globals[g]?).map (·.type) = some t ∧ w.var? P n = some cs ∧ DataW.trod (fun _ => ()) P w 0 (fun _ => true) false fuel t cs.toList = some (d, p) ∧ ∀ x ∈ MemPlace.row ⟨g, 0, none⟩ cs.size, x ∈ ps
  | [], _, _, n, d, hm => by simp at hm
  | (m, e) :: r, ps, h, n, d, hm => by
    obtain ⟨g, t, cs, fuel, p, q, h1, h2, h3, h4, h5, h6⟩ := h
    rcases List.mem_cons.1 hm with h0 | h0
    · cases h0
      exact ⟨g, t, cs, fuel, p, h1, h2, h3, h4, fun x hx => by rw [h6]; simp [hx]⟩
    · obtain ⟨g', t', cs', fuel', p', i1, i2, i3, i4, i5⟩ := laidVars_mem h5 h0
      exact ⟨g', t', cs', fuel', p', i1, i2, i3, i4, fun x hx => by rw [h6]; simp [i5 x hx]⟩
theorem laid_blk {P : Program} {l : List (String × DataW Unit)} {W : World} (h : laidMetH P l W) (hh : (l.filter fun x => x.2.handleName?.isSome) = []) {n : String} {d : DataW Unit} (hm : (n, d) ∈ l)
    {g : Nat} {t : TypeId} (hg : P.globalNamed n = some g) (hty : (P.globals[g]?).map (·.type) = some t) (hk : P.keyTypeAt (P.types.size + 1) t = true)
    (hwide : (match P.underlying t with | some (.array _ _) | some (.struct _) => true | _ => false) = true) (K : WideMaps.KeyLaw P t) (cs0 : Array Value) (hpos : 0 < cs0.size) (h0 : keyOf P t (.agg cs0) = some d.asKey) : ∃ ty, Blk W g ty cs0 := by
  unfold laidMetH at h
  rw [hh] at h
  obtain ⟨ps, hv, _, hb⟩ := h
  obtain ⟨g', t', cs, fuel, p, h1, h2, h3, h4, h5⟩ := laidVars_mem hv hm
  obtain rfl := Option.some.inj (hg.symm.trans h1)
  obtain rfl := Option.some.inj (hty.symm.trans h2)
  have hlen : cs.size = P.cellsOf t := by
    split at hwide
    · rename_i hu
      obtain ⟨_, _, _, _, hl, _⟩ := DataW.trod_array hu h4
      simpa using hl
    · rename_i hu
      obtain ⟨_, _, _, _, hl, _⟩ := DataW.trod_struct hu h4
      simpa using hl
    · cases hwide
  have hf : (Value.agg cs).formed P t = true := by
    unfold Value.formed
    split at hwide
    · rename_i hu; simp [hu, hlen]
    · rename_i hu; simp [hu, hlen]
    · cases hwide
  have hkey := (keyOf_asKey hk hwide hf (d := d) (ps := p) ⟨fuel, by simpa [Value.cells] using h4⟩).1
  have e := K.inj hkey h0
  simp only [Value.agg.injEq] at e
  subst e
  have hin : MemPlace.cell g 0 ∈ ps := h5 _ (by unfold MemPlace.row; exact List.mem_map.2 ⟨0, by simpa using hpos, rfl⟩)
  obtain ⟨⟨c, ty, hc⟩, _⟩ := hb g 0 hin
  refine ⟨ty, ?_⟩
  unfold World.var? at h3
  rw [hg] at h3
  simp only [Option.bind_some, hc] at h3
  obtain rfl := Option.some.inj h3
  exact hc
end Go.Proofs.YtmiaabpnolebhaaGreatDoor

/-
  What a row's list gives: the table of regions in its variable.
-/
namespace Go.Proofs.YtmiaabpnolebhaaGreatDoor
open Go.RowKit

namespace Grant
theorem sLaid : laidOutB Tryz.prog = true := by kernel_rfl
theorem sRow : (370 : TypeId) < Tryz.prog.types.size := of_decide_eq_true (by kernel_rfl)
theorem sAt : Tryz.prog.keyTypeAt 4 370 = true := by kernel_rfl
theorem sLaw : WideMaps.KeyLaw Tryz.prog 370 := deep_law_laid (m := 4) sLaid (Nat.le_of_ble_eq_true rfl) sRow sAt (by kernel_rfl)
theorem sName : Tryz.prog.globalNamed "curtilage/grant.spans" = some 3 := by kernel_rfl
theorem sType : (Tryz.prog.globals[3]?).map (·.type) = some 370 := by kernel_rfl
theorem sKey : keyOf Tryz.prog 370 (.agg spCells) = some (DataW.asKey (H := Unit) (.agg [.agg [.lit (.int .u32 0), .lit (.int .i64 0)], .agg [.lit (.int .u32 536870912), .lit (.int .i64 4096)], .agg [.lit (.int .u32 536875008), .lit (.int .i64 4096)], .agg [.lit (.int .u32 268435456), .lit (.int .i64 10240)], .agg [.lit (.int .u32 1073741824), .lit (.int .i64 64)], .agg [.lit (.int .u32 1610612736), .lit (.int .i64 256)]])) := by kernel_rfl
theorem spans_of {l : List (String × DataW Unit)} {W : World} (h : laidMetH Tryz.prog l W) (hh : (l.filter fun x => x.2.handleName?.isSome) = [])
    (hm : ("curtilage/grant.spans", (.agg [.agg [.lit (.int .u32 0), .lit (.int .i64 0)], .agg [.lit (.int .u32 536870912), .lit (.int .i64 4096)], .agg [.lit (.int .u32 536875008), .lit (.int .i64 4096)], .agg [.lit (.int .u32 268435456), .lit (.int .i64 10240)], .agg [.lit (.int .u32 1073741824), .lit (.int .i64 64)], .agg [.lit (.int .u32 1610612736), .lit (.int .i64 256)]] : DataW Unit)) ∈ l) : Spans W :=
  laid_blk h hh hm sName sType (by kernel_rfl) (by kernel_rfl) sLaw spCells (by decide) sKey
end Grant
end Go.Proofs.YtmiaabpnolebhaaGreatDoor

/-
  A table among the variables that a row's list tells. No program in sight.
-/
namespace Go.Proofs.YtmiaabpnolebhaaGreatDoor
open Go.RowKit

theorem tabIs_of_vars {P : Program} {W : World} {name : String} {k : IntKind} {zs : List Int} {g : Nat} {t e : TypeId} {n : Nat}
    (hg : P.globalNamed name = some g) (hty : (P.globals[g]?).map (·.type) = some t) (ht : P.underlying t = some (.array n e)) (he : P.underlying e = some (.int k)) (hce : P.cellsOf e = 1) (hct : P.cellsOf t = n) :
    ∀ (laid : List (String × DataW Unit)) (ps : List MemPlace), DataW.LaidVars P W laid ps → (name, Lib.tabData k zs) ∈ laid → Lib.TabIs P W name k zs
  | [], _, _, hm => by cases hm
  | x :: rest, ps, h, hm => by
    obtain ⟨g', t', cs, fuel, p, q, hg', ht', hvar, hd, hr, _⟩ := h
    rcases List.mem_cons.1 hm with rfl | hm
    · obtain rfl := Option.some.inj (hg.symm.trans hg')
      obtain rfl := Option.some.inj (hty.symm.trans ht')
      unfold Lib.TabIs
      rw [hvar, ← Lib.cells_of_tab ht he hce hct hd]
    · exact tabIs_of_vars hg hty ht he hce hct rest q hr hm
theorem tabIs_old {P : Program} {w w' : World} {name : String} {k : IntKind} {zs : List Int} (h : Lib.TabIs P w name k zs) (hb : Below w.heap.size w w') : Lib.TabIs P w' name k zs := by
  unfold Lib.TabIs World.var? at h ⊢
  cases hg : P.globalNamed name with
  | none => rw [hg] at h; cases h
  | some g =>
    rw [hg] at h
    simp only [Option.bind_some] at h ⊢
    have hlt : g < w.heap.size := by
      rcases Nat.lt_or_ge g w.heap.size with q | q
      · exact q
      · rw [Array.getElem?_eq_none q] at h; cases h
    rw [hb.block g hlt]
    exact h
end Go.Proofs.YtmiaabpnolebhaaGreatDoor

/-
  What a row's list gives: the tables of package sha in their variables.
-/
namespace Go.Proofs.YtmiaabpnolebhaaGreatDoor
open Go.RowKit

namespace Sha
open Otp R1
theorem gFirst : Tryz.prog.globalNamed "curtilage/sha.first" = some 1 := by kernel_rfl
theorem gFirstType : (Tryz.prog.globals[1]?).map (·.type) = some 72 := by kernel_rfl
theorem gFirstCells : Tryz.prog.cellsOf 72 = 8 := by kernel_rfl
theorem gRounds : Tryz.prog.globalNamed "curtilage/sha.rounds" = some 5 := by kernel_rfl
theorem gRoundsType : (Tryz.prog.globals[5]?).map (·.type) = some 295 := by kernel_rfl
theorem gRoundsCells : Tryz.prog.cellsOf 295 = 64 := by kernel_rfl
theorem u32Cells : Tryz.prog.cellsOf 52 = 1 := by kernel_rfl
def zI (l : List Nat) : List Int := l.map fun x => ((x : Nat) : Int)
theorem range_of {W : World} {name : String} {l : List Nat} {g : Nat} (h : Lib.TabIs Tryz.prog W name .u32 (zI l)) (hg : Tryz.prog.globalNamed name = some g) : W.rangeAt g 0 (c32 l).toList := fun j v hv => by
  have hv' : (l.map fun x => Value.int .u32 ((x : Nat) : Int))[j]? = some v := by simpa [c32] using hv
  rw [List.getElem?_map] at hv'
  cases hx : l[j]? with
  | none => rw [hx] at hv'; cases hv'
  | some x =>
    rw [hx] at hv'
    obtain rfl := Option.some.inj hv'
    have hj := (List.getElem?_eq_some_iff.1 hx).1
    have := h.cell hg j (by simpa [zI] using hj)
    rw [Nat.zero_add, this]
    simp [zI, List.getD, hx]
theorem stab_of {W : World} {laid : List (String × DataW Unit)} (h : laidMet Tryz.prog laid W) (h1 : ("curtilage/sha.first", Lib.tabData .u32 (zI rH)) ∈ laid) (h2 : ("curtilage/sha.rounds", Lib.tabData .u32 (zI rK)) ∈ laid) : STab W := by
  obtain ⟨ps, hv, _⟩ := h
  exact ⟨range_of (tabIs_of_vars gRounds gRoundsType Tryz.underlying295 Tryz.underlying52 u32Cells gRoundsCells _ _ hv h2) gRounds, range_of (tabIs_of_vars gFirst gFirstType Tryz.underlying72 Tryz.underlying52 u32Cells gFirstCells _ _ hv h1) gFirst⟩
def errLarge : DataW Unit := .iface "*errors.errorString" (.ptr (.agg [.lit (.string [98, 121, 116, 101, 115, 46, 66, 117, 102, 102, 101, 114, 58, 32, 116, 111, 111, 32, 108, 97, 114, 103, 101])]))
theorem stab2 {W : World} (h : laidMetH Tryz.prog [("curtilage/sha.first", Lib.tabData .u32 (zI rH)), ("curtilage/sha.rounds", Lib.tabData .u32 (zI rK))] W) : STab W :=
  stab_of (laid := [("curtilage/sha.first", Lib.tabData .u32 (zI rH)), ("curtilage/sha.rounds", Lib.tabData .u32 (zI rK))]) h (by simp) (by simp)
theorem stab3 {W : World} (h : laidMetH Tryz.prog [("bytes.ErrTooLarge", errLarge), ("curtilage/sha.first", Lib.tabData .u32 (zI rH)), ("curtilage/sha.rounds", Lib.tabData .u32 (zI rK))] W) : STab W :=
  stab_of (laid := [("bytes.ErrTooLarge", errLarge), ("curtilage/sha.first", Lib.tabData .u32 (zI rH)), ("curtilage/sha.rounds", Lib.tabData .u32 (zI rK))]) h (by simp) (by simp)
end Sha
end Go.Proofs.YtmiaabpnolebhaaGreatDoor

/-
  Law 18: what a row's list gives.
-/
namespace Go.Proofs.YtmiaabpnolebhaaGreatDoor
open Go.RowKit

namespace Eng
open Sha Grant
def spansD : DataW Unit := .agg [.agg [.lit (.int .u32 0), .lit (.int .i64 0)], .agg [.lit (.int .u32 536870912), .lit (.int .i64 4096)], .agg [.lit (.int .u32 536875008), .lit (.int .i64 4096)], .agg [.lit (.int .u32 268435456), .lit (.int .i64 10240)], .agg [.lit (.int .u32 1073741824), .lit (.int .i64 64)], .agg [.lit (.int .u32 1610612736), .lit (.int .i64 256)]]
def laidL : List (String × DataW Unit) := [("bytes.ErrTooLarge", errLarge), ("curtilage/sha.first", Lib.tabData .u32 (zI rH)), ("curtilage/sha.rounds", Lib.tabData .u32 (zI rK)), ("curtilage/grant.spans", spansD)]
theorem laid4 {W : World} (h : laidMetH Tryz.prog laidL W) : STab W ∧ Spans W :=
  ⟨stab_of (laid := laidL) h (by simp [laidL]) (by simp [laidL]), spans_of (l := laidL) h rfl (by simp [laidL, spansD])⟩
end Eng
end Go.Proofs.YtmiaabpnolebhaaGreatDoor
