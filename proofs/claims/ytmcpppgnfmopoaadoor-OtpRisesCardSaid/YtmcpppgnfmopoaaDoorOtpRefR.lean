/-
  The reference's Row (curtilageref11).
-/
import Derived.Test.YtmcpppgnfmopoaaDoorProg
import Derived.Test.YtmcpppgnfmopoaaDoorMem
import Derived.Test.YtmcpppgnfmopoaaDoorNext
import Derived.Test.YtmcpppgnfmopoaaDoorOtpRef
import Derived.Test.YtmcpppgnfmopoaaDoorOtpRise
import Derived.Test.YtmcpppgnfmopoaaDoorOtpBytes
import Derived.Test.YtmcpppgnfmopoaaDoorShaWord
import Derived.Deep.LoopGhost
import Derived.Deep.MidRow
import Derived.Deep.AppendLies
import Derived.Laws.Rows
import Derived.Laws.Tables
import Derived.Laws.Cover3
import Derived.Laws.CopyOwn
import Derived.Laws.ResultCell
namespace Go.Proofs.YtmcpppgnfmopoaaDoor
open Go.RowKit

namespace Otp
open R1
/-- What Row answers: a row's key. -/
def rowD (vs : List Nat) (k : Nat) : List Nat := if rowE vs k = 0 then wordsB (rowKey vs k) else List.replicate 32 0
def RowOut (w : World) (D : List Nat) (E : Int) (e : Ending) (w' : World) : Prop := e = .returned (.tuple #[.agg (b8 D), .int .i64 E]) ∧ Below w.heap.size w w'
theorem b8_one (l : List Nat) : (b8 l).all (·.oneCell') = true := all_oneCell_toArray (fun v hv => by
  obtain ⟨a, _, rfl⟩ := List.mem_map.1 hv
  rfl)
theorem b8_size (l : List Nat) : (b8 l).size = l.length := by simp [b8]
theorem row_end {tmps : Array Value} {w : World} (g : Nat) (E : Int) (D : List Nat) (h1 : tmps.getD 4 undef = .pointer (some ⟨g, 0, none⟩)) (h2 : tmps.getD 5 undef = .int .i64 E) (hb : Blk w g 57 (b8 D)) (hl : D.length = 32) :
    (results Tryd.f37 tmps).run Tryd.prog w = .ok (.tuple #[.agg (b8 D), .int .i64 E]) w := by
  rw [results_cell_tmp Tryd.results37, h1, h2]
  have := run_loadVar_row (P := Tryd.prog) w g 57 57 (b8 D) (0, 0) _ hb Tryd.underlying57 rfl (by rw [b8_size, hl]; kernel_rfl)
  simp only [asAddr, Sem.run_pure, Result.andThen_ok, this]
theorem dig_info : (Tryd.prog.info? 57).map (·.size) = some 32 := by kernel_rfl
set_option maxRecDepth 100000 in
set_option maxHeartbeats 1000000 in
theorem refrow_any (A : Option Addr) (cap : Nat) (vs : List Nat) (zk : Int) (k : Nat) (w : World) (B : Nat) (hcap : 64 ≤ cap) (hzk : zk = k) (hk : k < 4) (hl : vs.length = 64) (hB : B ≤ w.heap.size) (hz : Nats .u32 4294967296 w B A vs) :
    Calls Tryd.prog 37 #[.slice A 64 cap, .int .i64 zk] w (RowOut w (rowD vs k) (rowE vs k)) := by
  subst hzk
  obtain ⟨x, hx⟩ : ∃ x, vs[35 + 9 * k]? = some x := ⟨_, List.getElem?_eq_getElem (by omega)⟩
  obtain ⟨hxM, g0, off, rfl, hg0, hcx⟩ := (hz.more hB) _ x hx
  have HN := Lib.hid (hz.more hB)
  have HX := Lib.hid hx
  have HL := Lib.hid hl
  have hg0' : g0 < w.heap.size := by omega
  clear hx hl hz hB hg0
  go_enter Tryd.func37, Tryd.ntmps37
  go_wp2_with fail
  have HK := Lib.hid (show Blk (w.alloc (.cells (b8 (List.replicate 32 0)) 57)) w.heap.size 57 (b8 (List.replicate 32 0)) from Blk.new w _ _)
  have HB := Lib.hid ((Below.refl _ w).alloc (Nat.le_refl _) (.cells (b8 (List.replicate 32 0)) 57))
  have hcx1 := (HB.out.cell (p := ⟨g0, off + (35 + 9 * k), none⟩) hg0').trans hcx
  have hsz : w.heap.size < (w.alloc (.cells (b8 (List.replicate 32 0)) 57)).heap.size := by simp
  change Calls _ _ _ (w.alloc (.cells (b8 (List.replicate 32 0)) 57)) _
  generalize w.alloc (.cells (b8 (List.replicate 32 0)) 57) = w1 at *
  clear hcx
  have HA := Lib.hid (show (b8 (List.replicate 32 0)).all (·.oneCell') = true from b8_one _)
  (with_reducible refine (ref_on _ 1 x 1 _ rfl rfl hxM (by omega)).mono ?_); rintro e w2 ⟨rfl, rfl⟩
  have HE0 : Hid (rowE vs k = if onB x 1 = true then 17 else if onB x 0 = true then 0 else 3) := Lib.hid (by unfold rowE; rw [HX.out]; rfl)
  have HD0 : Hid (rowD vs k = if rowE vs k = 0 then wordsB (rowKey vs k) else List.replicate 32 0) := Lib.hid rfl
  cases h1 : onB x 1 with
  | true =>
    have hE := HE0.out
    have hD := HD0.out
    rw [h1, if_pos rfl] at hE
    rw [hE] at hD
    rw [if_neg (by decide)] at hD
    have HD := Lib.hid hD
    have HE := Lib.hid hE
    clear hD hE HE0 HD0
    go_wp2_with (refine wpList_store_row rfl 57 (.tmp 4) _ rfl w.heap.size (b8 (List.replicate 32 0)) rfl rfl 57 (b8 (List.replicate 32 0)) HK.out (by kernel_rfl) rfl HA.out ?_)
    have hb := setRow_heap _ _ _ (b8 (List.replicate 32 0)) _ _ HK.out
    have hB := below_setRow HB.out (Nat.le_refl _) (b8 (List.replicate 32 0))
    go_light
    exact bodyPost_ret (v := .tuple #[.agg (b8 (List.replicate 32 0)), .int .i64 17]) (row_end w.heap.size 17 (List.replicate 32 0) rfl rfl hb rfl) rfl ⟨by rw [HD.out, HE.out], hB⟩
  | false =>
    go_wp2_with fail
    (with_reducible refine (ref_on _ 0 x 0 _ rfl rfl hxM (by omega)).mono ?_); rintro e w2 ⟨rfl, rfl⟩
    cases h0 : onB x 0 with
    | false =>
      have hE := HE0.out
      have hD := HD0.out
      rw [h1, if_neg (by decide), h0, if_neg (by decide)] at hE
      rw [hE] at hD
      rw [if_neg (by decide)] at hD
      have HD := Lib.hid hD
      have HE := Lib.hid hE
      clear hD hE HE0 HD0
      go_wp2_with (refine wpList_store_row rfl 57 (.tmp 4) _ rfl w.heap.size (b8 (List.replicate 32 0)) rfl rfl 57 (b8 (List.replicate 32 0)) HK.out (by kernel_rfl) rfl HA.out ?_)
      have hb := setRow_heap _ _ _ (b8 (List.replicate 32 0)) _ _ HK.out
      have hB := below_setRow HB.out (Nat.le_refl _) (b8 (List.replicate 32 0))
      go_light
      exact bodyPost_ret (v := .tuple #[.agg (b8 (List.replicate 32 0)), .int .i64 3]) (row_end w.heap.size 3 (List.replicate 32 0) rfl rfl hb rfl) rfl ⟨by rw [HD.out, HE.out], hB⟩
    | true =>
      have hE := HE0.out
      have hD := HD0.out
      rw [h1, if_neg (by decide), h0, if_pos rfl] at hE
      rw [hE] at hD
      rw [if_pos rfl] at hD
      have HD := Lib.hid hD
      have HE := Lib.hid hE
      clear hD hE hcx1 HE0 HD0
      go_wp2_with fail
      have hkl : (rowKey vs k).length = 35 + 9 * k - (27 + 9 * k) := by unfold rowKey; rw [List.length_take, List.length_drop, HL.out]; omega
      have hnk : Nats .u32 4294967296 w1 w.heap.size (some ⟨g0, off + (27 + 9 * k), none⟩) (rowKey vs k) := fun i z hz => by
        unfold rowKey at hz
        rw [List.getElem?_take] at hz
        split at hz
        · rw [List.getElem?_drop] at hz
          obtain ⟨h1, b, o, hb, hlt, hc⟩ := (HN.out.below HB.out) _ z hz
          cases hb
          exact ⟨h1, g0, _, rfl, hlt, by rw [Nat.add_assoc]; exact hc⟩
        · cases hz
      have hwl : (wordsB (rowKey vs k)).length = 32 := by rw [wordsB_length, hkl]; omega
      (with_reducible refine (bytes_any _ _ _ (rowKey vs k) _ w.heap.size hkl (by omega) (by omega) hnk).mono ?_); rintro e w2 ⟨v, rfl, hv, hB1⟩
      obtain ⟨g1, c1, rfl, hg1, hg1l⟩ := World.ownsRow.form hv (by rw [hwl]; omega)
      have HR : Hid (w2.rangeAt g1 0 ((wordsB (rowKey vs k)).map fun x => Value.int .u8 ((x : Nat) : Int))) := Lib.hid (fun j u hu => by
        have := hv.cells (g := g1) rfl j u hu
        rw [Addr.add_mid] at this
        exact this)
      rw [hwl]
      have hsa := fun W => run_arrayAt (P := Tryd.prog) (w := W) 57 5 32 (some ⟨g1, 0, none⟩) 32 c1 Tryd.underlying57 (Nat.le_refl _)
      have HSZ := Lib.hid (show (Tryd.prog.info? 57).map (·.size) = some ((wordsB (rowKey vs k)).map fun x => Value.int .u8 ((x : Nat) : Int)).length by rw [List.length_map, hwl]; exact dig_info)
      have HSZ' := Lib.hid (show (Tryd.prog.info? 57).map (·.size) = some (b8 (wordsB (rowKey vs k))).size by rw [b8_size, hwl]; exact dig_info)
      have HK2 := Lib.hid (HK.out.below hB1 hsz)
      have HB2 := Lib.hid (below_then HB.out hB1 (Nat.le_refl _))
      have HWL := Lib.hid hwl
      have HO := Lib.hid (show (b8 (List.replicate 32 0)).size = (b8 (wordsB (rowKey vs k))).size by rw [b8_size, b8_size, hwl]; rfl)
      have HA2 := Lib.hid (b8_one (wordsB (rowKey vs k)))
      clear hkl hnk hwl hv hB1
      go_wp2_with (first | refine wpList_load_mid rfl 57 _ rfl g1 0 rfl _ _ HR.out Tryd.underlying57 rfl HSZ.out ?_ | refine wpList_store_row rfl 57 (.tmp 4) _ rfl w.heap.size (b8 (wordsB (rowKey vs k))) rfl rfl 57 (b8 (List.replicate 32 0)) HK2.out HSZ'.out HO.out HA2.out ?_)
      have hb := setRow_heap _ _ _ (b8 (wordsB (rowKey vs k))) _ _ HK2.out
      have hB := below_setRow HB2.out (Nat.le_refl _) (b8 (wordsB (rowKey vs k)))
      go_light
      exact bodyPost_ret (v := .tuple #[.agg (b8 (wordsB (rowKey vs k))), .int .i64 0]) (row_end w.heap.size 0 (wordsB (rowKey vs k)) rfl rfl hb HWL.out) rfl ⟨by rw [HD.out, HE.out], hB⟩
end Otp
end Go.Proofs.YtmcpppgnfmopoaaDoor
