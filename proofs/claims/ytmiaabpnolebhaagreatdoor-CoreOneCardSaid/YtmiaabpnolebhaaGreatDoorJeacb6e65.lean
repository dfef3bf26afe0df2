/-
  Texts of this claim, joined: Laid, GrantLaid.
-/
import Derived.LaidLaws
import Derived.MapViews
import Derived.Test.YtmiaabpnolebhaaGreatDoorJcdfa063d
set_option linter.unusedSimpArgs false
set_option linter.unusedVariables false
namespace Go.Proofs.YtmiaabpnolebhaaGreatDoor
open Go.RowKit

theorem laidVars_mem {P : Program} {w : World} : ∀ {l : List (String × DataW Unit)} {ps : List MemPlace}, DataW.LaidVars P w l ps → ∀ {n : String} {d : DataW Unit}, (n, d) ∈ l →
  ∃ g t cs fuel p, P.globalNamed n = some g ∧ (P.globals[g]?).map (·.type) = some t ∧ w.var? P n = some cs ∧ DataW.trod (fun _ => ()) P w 0 (fun _ => true) false fuel t cs.toList = some (d, p) ∧ ∀ x ∈ MemPlace.row ⟨g, 0, none⟩ cs.size, x ∈ ps
 | [], _, _, n, d, hm => by simp at hm
 | (m, e) :: r, ps, h, n, d, hm => by
  obtain ⟨g, t, cs, fuel, p, q, h1, h2, h3, h4, h5, h6⟩ := h
  rcases List.mem_cons.1 hm with h0 | h0
  ·cases h0
   exact ⟨g, t, cs, fuel, p, h1, h2, h3, h4, fun x hx => by rw [h6]; simp [hx]⟩
  ·obtain ⟨g', t', cs', fuel', p', i1, i2, i3, i4, i5⟩ := laidVars_mem h5 h0
   exact ⟨g', t', cs', fuel', p', i1, i2, i3, i4, fun x hx => by rw [h6]; simp [i5 x hx]⟩
theorem laid_blk {P : Program} {l : List (String × DataW Unit)} {W : World} (h : laidMetH P l W) (hh : (l.filter fun x => x.2.handleName?.isSome) = []) {n : String} {d : DataW Unit} (hm : (n, d) ∈ l)
  {g : Nat} {t : TypeId} (hg : P.globalNamed n = some g) (hty : (P.globals[g]?).map (·.type) = some t) (hk : P.keyTypeAt (P.types.size + 1) t = true)
  (hwide : (match P.underlying t with | some (.array _ _) | some (.struct _) => true | _ => false) = true) (K : WideMaps.KeyLaw P t) (cs0 : Array Value) (hpos : 0 < cs0.size) (h0 : keyOf P t (.agg cs0) = some d.asKey) : ∃ ty, Blk W g ty cs0 := by
 unfold laidMetH at h
 rw [hh] at h
 obtain ⟨ps, hv, _, hb⟩ := h
 obtain ⟨g', t', cs, fuel, p, h1, h2, h3, h4, h5⟩ := laidVars_mem hv hm
 obtain rfl := Option.some.inj (hg.symm.trans h1)
 obtain rfl := Option.some.inj (hty.symm.trans h2)
 have hlen : cs.size = P.cellsOf t := by
  split at hwide
  ·rename_i hu
   obtain ⟨_, _, _, _, hl, _⟩ := DataW.trod_array hu h4
   simpa using hl
  ·rename_i hu
   obtain ⟨_, _, _, _, hl, _⟩ := DataW.trod_struct hu h4
   simpa using hl
  ·cases hwide
 have hf : (Value.agg cs).formed P t = true := by
  unfold Value.formed
  split at hwide
  ·rename_i hu; simp [hu, hlen]
  ·rename_i hu; simp [hu, hlen]
  ·cases hwide
 have hkey := (keyOf_asKey hk hwide hf (d := d) (ps := p) ⟨fuel, by simpa [Value.cells] using h4⟩).1
 have e := K.inj hkey h0
 simp only [Value.agg.injEq] at e
 subst e
 have hin : MemPlace.cell g 0 ∈ ps := h5 _ (by unfold MemPlace.row; exact List.mem_map.2 ⟨0, by simpa using hpos, rfl⟩)
 obtain ⟨⟨c, ty, hc⟩, _⟩ := hb g 0 hin
 refine ⟨ty, ?_⟩
 unfold World.var? at h3
 rw [hg] at h3
 simp only [Option.bind_some, hc] at h3
 obtain rfl := Option.some.inj h3
 exact hc
end Go.Proofs.YtmiaabpnolebhaaGreatDoor
namespace Go.Proofs.YtmiaabpnolebhaaGreatDoor
open Go.RowKit

namespace Grant
theorem sLaid : laidOutB Tryz.prog = true := by kernel_rfl
theorem sRow : (370 : TypeId) < Tryz.prog.types.size := of_decide_eq_true (by kernel_rfl)
theorem sAt : Tryz.prog.keyTypeAt 4 370 = true := by kernel_rfl
theorem sLaw : WideMaps.KeyLaw Tryz.prog 370 := deep_law_laid (m := 4) sLaid (Nat.le_of_ble_eq_true rfl) sRow sAt (by kernel_rfl)
theorem sName : Tryz.prog.globalNamed "curtilage/grant.spans" = some 3 := by kernel_rfl
theorem sType : (Tryz.prog.globals[3]?).map (·.type) = some 370 := by kernel_rfl
theorem sKey : keyOf Tryz.prog 370 (.agg spCells) = some (DataW.asKey (H := Unit) (.agg [.agg [.lit (.int .u32 0), .lit (.int .i64 0)], .agg [.lit (.int .u32 536870912), .lit (.int .i64 4096)], .agg [.lit (.int .u32 536875008), .lit (.int .i64 4096)], .agg [.lit (.int .u32 268435456), .lit (.int .i64 10240)], .agg [.lit (.int .u32 1073741824), .lit (.int .i64 64)], .agg [.lit (.int .u32 1610612736), .lit (.int .i64 256)]])) := by kernel_rfl
theorem spans_of {l : List (String × DataW Unit)} {W : World} (h : laidMetH Tryz.prog l W) (hh : (l.filter fun x => x.2.handleName?.isSome) = [])
  (hm : ("curtilage/grant.spans", (.agg [.agg [.lit (.int .u32 0), .lit (.int .i64 0)], .agg [.lit (.int .u32 536870912), .lit (.int .i64 4096)], .agg [.lit (.int .u32 536875008), .lit (.int .i64 4096)], .agg [.lit (.int .u32 268435456), .lit (.int .i64 10240)], .agg [.lit (.int .u32 1073741824), .lit (.int .i64 64)], .agg [.lit (.int .u32 1610612736), .lit (.int .i64 256)]] : DataW Unit)) ∈ l) : Spans W :=
 laid_blk h hh hm sName sType (by kernel_rfl) (by kernel_rfl) sLaw spCells (by decide) sKey
end Grant
end Go.Proofs.YtmiaabpnolebhaaGreatDoor
