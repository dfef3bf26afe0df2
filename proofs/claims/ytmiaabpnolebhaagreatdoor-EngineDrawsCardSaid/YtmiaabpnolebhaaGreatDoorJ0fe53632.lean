/-
  Texts of this claim, joined: EngA, EngB, EngC.
-/
import Derived.Test.YtmiaabpnolebhaaGreatDoorJcf9972df
import Derived.Test.YtmiaabpnolebhaaGreatDoorJb4aadd81
set_option linter.unusedSimpArgs false
set_option linter.unusedVariables false
/-
  Package engine: an engine in memory; New, Stir, Keyed. Package meas: New.
-/
namespace Go.Proofs.YtmiaabpnolebhaaGreatDoor
open Go.RowKit

namespace Eng
open Otp Sha R1 Slot
def zm : List Nat := List.replicate 128 0
def zp : List Nat := List.replicate 32 0
def enC (s : Nat) (ms pl : List Nat) (k : Nat) : List Value := .pointer (some ⟨s, 0, none⟩) :: (v8 ms ++ (v8 pl ++ [.int .i64 (k : Int)]))
/-- An engine: its slots, its registers, its pool, how many jobs with keys were done. -/
structure EnV where
  x : Slt
  ms : List Nat
  pl : List Nat
  k : Nat
structure EnV.Ok (v : EnV) : Prop where
  lm : v.ms.length = 128
  lp : v.pl.length = 32
  bm : ∀ y ∈ v.ms, y < 256
  bp : ∀ y ∈ v.pl, y < 256
structure Eg (w : World) (g s : Nat) (v : EnV) : Prop where
  ok : v.Ok
  blk : Blk w g 128 (enC s v.ms v.pl v.k).toArray
  sl : Sl w s v.x
  ne : g ≠ s
section
variable {w w' : World} {g s : Nat} {v : EnV}
theorem enC_parts (s : Nat) (ms pl : List Nat) (k : Nat) : enC s ms pl k = (.pointer (some ⟨s, 0, none⟩) :: v8 ms) ++ (v8 pl ++ [.int .i64 (k : Int)]) := rfl
theorem EnV.Ok.size (h : v.Ok) (s : Nat) : (enC s v.ms v.pl v.k).length = 162 := by
  simp [enC, v8_length, h.lm, h.lp]
theorem Eg.old (h : Eg w g s v) (hb : Below w.heap.size w w') : Eg w' g s v := ⟨h.ok, h.blk.next hb rfl, h.sl.old hb, h.ne⟩
theorem Eg.frm {S : List Nat} (h : Eg w g s v) (hf : Frm S w w') (hg : g ∉ S) (hs : s ∉ S) : Eg w' g s v := ⟨h.ok, h.blk.frm hf hg, h.sl.frm hf hs, h.ne⟩
theorem Eg.lt (h : Eg w g s v) : g < w.heap.size ∧ s < w.heap.size := ⟨h.blk.lt, h.sl.lt⟩
theorem Eg.slots (h : Eg w g s v) : w.cell? ⟨g, 0, none⟩ = some (.pointer (some ⟨s, 0, none⟩)) := by
  rw [h.blk.cell]
  rfl
theorem EnV.Ok.at_ms (h : v.Ok) (s : Nat) {j : Nat} {u : Value} (hu : (v8 v.ms)[j]? = some u) : (enC s v.ms v.pl v.k)[1 + j]? = some u := by
  rw [enC, Nat.add_comm, List.getElem?_cons_succ, List.getElem?_append_left (List.getElem?_eq_some_iff.1 hu).1]
  exact hu
theorem EnV.Ok.at_pl (h : v.Ok) (s : Nat) {j : Nat} {u : Value} (hu : (v8 v.pl)[j]? = some u) : (enC s v.ms v.pl v.k)[129 + j]? = some u := by
  rw [enC, show 129 + j = 128 + j + 1 by omega, List.getElem?_cons_succ, List.getElem?_append_right (by rw [v8_length, h.lm]; omega), v8_length, h.lm, show 128 + j - 128 = j by omega, List.getElem?_append_left (List.getElem?_eq_some_iff.1 hu).1]
  exact hu
theorem EnV.Ok.at_k (h : v.Ok) (s : Nat) : (enC s v.ms v.pl v.k)[161]? = some (.int .i64 (v.k : Int)) := by
  rw [enC, List.getElem?_cons_succ, List.getElem?_append_right (by rw [v8_length, h.lm]; omega), List.getElem?_append_right (by rw [v8_length, v8_length, h.lm, h.lp]; omega), v8_length, v8_length, h.lm, h.lp]
  rfl
theorem Eg.keyed (h : Eg w g s v) : w.cell? ⟨g, 161, none⟩ = some (.int .i64 (v.k : Int)) := by
  rw [h.blk.cell]
  simpa using h.ok.at_k s
theorem v8_at {l : List Nat} {j x : Nat} (h : l[j]? = some x) : (v8 l)[j]? = some (.int .u8 (x : Int)) := by simp [v8, h]
theorem Eg.pool (h : Eg w g s v) : Nats .u8 256 w w.heap.size (some ⟨g, 129, none⟩) v.pl := fun j y hy =>
  ⟨h.ok.bp y (List.mem_of_getElem? hy), g, 129, rfl, h.lt.1, by rw [h.blk.cell]; simpa using h.ok.at_pl s (v8_at hy)⟩
theorem Eg.meas (h : Eg w g s v) : Nats .u8 256 w w.heap.size (some ⟨g, 1, none⟩) v.ms := fun j y hy =>
  ⟨h.ok.bm y (List.mem_of_getElem? hy), g, 1, rfl, h.lt.1, by rw [h.blk.cell]; simpa using h.ok.at_ms s (v8_at hy)⟩
theorem EnV.Ok.pool {v : EnV} (h : v.Ok) {d : List Nat} (h1 : d.length = 32) (h2 : ∀ y ∈ d, y < 256) : EnV.Ok { v with pl := d } := ⟨h.lm, h1, h.bm, h2⟩
theorem enC_pool (h : v.Ok) (s : Nat) {d : List Nat} (h1 : d.length = 32) : splice (enC s v.ms v.pl v.k) 129 (v8 d) = enC s v.ms d v.k := by
  unfold splice
  rw [enC_parts, List.take_append_of_le_length (by simp [v8_length, h.lm]), List.take_of_length_le (by simp [v8_length, h.lm]), List.drop_append, List.drop_of_length_le (by simp [v8_length, h.lm, h1]), List.nil_append]
  rw [show 129 + (v8 d).length - (Value.pointer (some ⟨s, 0, none⟩) :: v8 v.ms).length = 32 by simp [v8_length, h.lm, h1], List.drop_append, List.drop_of_length_le (by rw [v8_length, h.lp]; exact Nat.le_refl _), List.nil_append, v8_length, h.lp]
  rfl
theorem enC_meas (h : v.Ok) (s : Nat) {d : List Nat} (h1 : d.length = 128) : splice (enC s v.ms v.pl v.k) 1 (v8 d) = enC s d v.pl v.k := by
  unfold splice
  rw [enC, List.take_succ_cons, List.take_zero, v8_length, h1, List.drop_succ_cons, List.drop_append, List.drop_of_length_le (by rw [v8_length, h.lm]; exact Nat.le_refl _), List.nil_append, v8_length, h.lm]
  rfl
theorem enC_k (h : v.Ok) (s k : Nat) : (enC s v.ms v.pl v.k).set 161 (.int .i64 (k : Int)) = enC s v.ms v.pl k := by
  rw [enC, List.set_cons_succ, List.set_append_right _ _ (by rw [v8_length, h.lm]; omega), List.set_append_right _ _ (by rw [v8_length, v8_length, h.lm, h.lp]; omega), v8_length, v8_length, h.lm, h.lp]
  rfl
theorem Eg.put_pool (h : Eg w g s v) {d : List Nat} (h1 : d.length = 32) (h2 : ∀ y ∈ d, y < 256) (hk : Blk w' g 128 (splice (enC s v.ms v.pl v.k) 129 (v8 d)).toArray) (hf : Frm [g] w w') : Eg w' g s { v with pl := d } :=
  ⟨h.ok.pool h1 h2, by rw [enC_pool h.ok s h1] at hk; exact hk, h.sl.frm hf (by simp; exact fun e => h.ne e.symm), h.ne⟩
theorem Eg.put_meas (h : Eg w g s v) {d : List Nat} (h1 : d.length = 128) (h2 : ∀ y ∈ d, y < 256) (hk : Blk w' g 128 (splice (enC s v.ms v.pl v.k) 1 (v8 d)).toArray) (hf : Frm [g] w w') : Eg w' g s { v with ms := d } :=
  ⟨⟨h1, h.ok.lp, h2, h.ok.bp⟩, by rw [enC_meas h.ok s h1] at hk; exact hk, h.sl.frm hf (by simp; exact fun e => h.ne e.symm), h.ne⟩
theorem Eg.put_k (h : Eg w g s v) (k : Nat) : Eg (w.setCell ⟨g, 161, none⟩ (.int .i64 (k : Int))) g s { v with k := k } :=
  ⟨⟨h.ok.lm, h.ok.lp, h.ok.bm, h.ok.bp⟩, by
    have := h.blk.set 161 (.int .i64 (k : Int))
    simp only [List.setIfInBounds_toArray] at this
    rw [enC_k h.ok] at this
    exact this, h.sl.frm ((Frm.refl [g] w).setCell (p := ⟨g, 161, none⟩) (.inl (by simp)) _) (by simp; exact fun e => h.ne e.symm), h.ne⟩
theorem Eg.put_slots (h : Eg w g s v) {x : Slt} (hs : Sl w' s x) (hf : Frm [s] w w') : Eg w' g s { v with x := x } :=
  ⟨⟨h.ok.lm, h.ok.lp, h.ok.bm, h.ok.bp⟩, h.blk.frm hf (by simp; exact h.ne), hs, h.ne⟩
end
theorem ms_info : (Tryz.prog.info? 126).map (·.size) = some 128 := by kernel_rfl
theorem eng_built (s : Nat) : Tryz.prog.built 128 [(0, .pointer (some ⟨s, 0, none⟩)), (1, .agg (b8 zm))] = some (enC s zm zp 0).toArray := by kernel_rfl
def enN : EnV := ⟨newSt, zm, zp, 0⟩
theorem enN_ok : enN.Ok := ⟨List.length_replicate, List.length_replicate, fun y hy => by rw [List.eq_of_mem_replicate hy]; decide, fun y hy => by rw [List.eq_of_mem_replicate hy]; decide⟩
set_option maxRecDepth 100000 in
set_option maxHeartbeats 2000000 in
theorem mnew_any (w : World) : Calls Tryz.prog 117 #[] w (fun e w' => e = .returned (.agg (b8 zm)) ∧ Below w.heap.size w w') := by
  have HI := wall (show (Tryz.prog.info? 126).map (·.size) = some (b8 zm).size by rw [ms_info]; rfl)
  have HB := wall (show Tryz.prog.built 126 [] = some (b8 zm) by kernel_rfl)
  have HN := wall (show Blk (w.alloc (.cells (b8 zm) 126)) w.heap.size 126 (b8 zm) ∧ Below w.heap.size w (w.alloc (.cells (b8 zm) 126)) from ⟨Blk.new _ _ _, (Below.refl _ _).alloc (Nat.le_refl _) _⟩)
  have HO := wall (b8_one zm)
  obtain ⟨ZM, hZM⟩ : ∃ z, b8 zm = z := ⟨_, rfl⟩
  rw [hZM] at HI HB HN HO ⊢
  have HZM := wall hZM
  clear hZM
  go_enter Tryz.func117, Tryz.ntmps117
  go_upto_region 1 with fail
  change Code.wp _ _ _ _ (w.alloc (.cells (b8 zm) 126))
  rw [HZM.out]
  go_wp2_with (first | refine wpList_build_row rfl 126 [] rfl ZM HB.out ?_ | (refine wpList_set_row rfl 126 (.tmp 0) (.tmp 1) rfl w.heap.size ZM rfl rfl 126 ZM HN.out.1 HI.out rfl HO.out ?_; intro w3 K3 F3))
  go_light
  exact bodyPost_ret (v := .agg ZM) (results_cell_row Tryz.results117 _ _ w.heap.size 126 ZM (0, 0) _ rfl K3.out Tryz.underlying126 rfl HI.out) rfl ⟨rfl, Below.frm HN.out.2 F3.out (Nat.le_refl _) (by simp)⟩
def EnOut (w : World) (e : Ending) (w' : World) : Prop := ∃ g s, e = .returned (.pointer (some ⟨g, 0, none⟩)) ∧ w.heap.size ≤ g ∧ w.heap.size ≤ s ∧ Eg w' g s enN ∧ Below w.heap.size w w'
set_option maxRecDepth 100000 in
set_option maxHeartbeats 2000000 in
theorem enew_any (w : World) : Calls Tryz.prog 43 #[] w (EnOut w) := by
  have HS := wall (snew_any w)
  have HM := wall (fun W => mnew_any W)
  go_enter Tryz.func43, Tryz.ntmps43
  go_wp2_with fail
  (with_reducible refine HS.out.mono ?_); rintro e w1 ⟨rfl, hS1, hB1⟩
  have HS1 := wall hS1
  have HB1 := wall hB1
  clear hS1 hB1
  try simp only [Act.put, List.setIfInBounds_toArray, List.set_cons_zero, List.set_cons_succ]
  go_wp2_with fail
  (with_reducible refine (HM.out w1).mono ?_); rintro e w2 ⟨rfl, hB2⟩
  have HS2 := wall (HS1.out.old hB2)
  have HB2 := wall (below_then HB1.out hB2 (Nat.le_refl _))
  have HBT := wall (eng_built w.heap.size)
  have HLS := wall (show w.heap.size < w2.heap.size from HS2.out.lt)
  clear hB2 HS1 HB1
  have HN := wall (show ∀ W, W = w2.alloc (.cells (enC w.heap.size zm zp 0).toArray 128) → Eg W w2.heap.size w.heap.size enN ∧ Below w.heap.size w W from fun W h => by
    subst h
    have := HLS.out
    exact ⟨⟨enN_ok, Blk.new _ _ _, HS2.out.old ((Below.refl _ _).alloc (Nat.le_refl _) _), by omega⟩, HB2.out.alloc HB2.out.size _⟩)
  obtain ⟨ZE, hZE⟩ : ∃ z, (enC w.heap.size zm zp 0).toArray = z := ⟨_, rfl⟩
  rw [hZE] at HBT HN
  clear hZE
  generalize b8 zm = ZM at *
  try simp only [Act.put, List.setIfInBounds_toArray, List.set_cons_zero, List.set_cons_succ]
  go_wp2_with (refine wpList_build_row rfl 128 [(0, .tmp 1), (1, .tmp 2)] rfl ZE HBT.out ?_)
  go_light
  go_ret
  exact ⟨_, _, rfl, HB2.out.size, Nat.le_refl _, (HN.out _ rfl).1, (HN.out _ rfl).2⟩
theorem keyed_any (g s : Nat) (v : EnV) (w : World) (h : Eg w g s v) : Calls Tryz.prog 53 #[.pointer (some ⟨g, 0, none⟩)] w (fun e w' => e = .returned (.int .i64 (v.k : Int)) ∧ w = w') := by
  have hc := h.keyed
  clear h
  go_enter Tryz.func53, Tryz.ntmps53
  go_wp2_with fail
  go_light
  go_ret
  exact ⟨rfl, rfl⟩
def stirV (v : EnV) (l : List Nat) : EnV := { v with pl := sumB (v.pl ++ l) }
def EgOut (w : World) (g s : Nat) (v : EnV) (e : Ending) (w' : World) : Prop := e = .returned (.tuple #[]) ∧ Eg w' g s v ∧ Frm [g] w w'
set_option maxRecDepth 100000 in
set_option maxHeartbeats 4000000 in
theorem stir_any (g s : Nat) (v : EnV) (A : Option Addr) (n c : Nat) (l : List Nat) (w : World) (hT : STab w) (h : Eg w g s v) (hl : l.length = n) (hc : n ≤ c) (hnil : A = none → c = 0) (hm : n ≤ 800000) (hz : Nats .u8 256 w w.heap.size A l) :
    Calls Tryz.prog 45 #[.pointer (some ⟨g, 0, none⟩), .slice A n c] w (EgOut w g s (stirV v l)) := by
  have H := wall h
  have HT := wall hT
  have hsl := run_slice_arr_all' (P := Tryz.prog) 23 5 32 Tryz.underlying23 (fun _ => by kernel_rfl) g 129 (by decide)
  have HSL := wall hsl
  obtain ⟨W1, hW1⟩ : ∃ W, W = w.alloc (.cells #[.slice (some ⟨g, 129, none⟩) 32 32, .slice A n c] 24) := ⟨_, rfl⟩
  have HB1 := wall (show Below w.heap.size w W1 by rw [hW1]; exact (Below.refl _ _).alloc (Nat.le_refl _) _)
  have HP1 := wall (show Parts W1 W1.heap.size (some ⟨w.heap.size, 0, none⟩) [v.pl, l] from by
    rw [hW1]
    exact parts_new (t := 24) w [.slice (some ⟨g, 129, none⟩) 32 32, .slice A n c] [v.pl, l] rfl (fun i q u hq hu => by
      match i, hq, hu with
      | 0, hq, hu =>
        obtain rfl : v.pl = q := by simpa using hq
        obtain rfl : _ = u := by simpa using hu
        exact BytesN.of h.ok.lp (by decide) (by simp) h.pool
      | 1, hq, hu =>
        obtain rfl : l = q := by simpa using hq
        obtain rfl : _ = u := by simpa using hu
        exact BytesN.of hl hc hnil hz))
  have HLB := wall (show ∀ p ∈ [v.pl, l], ∀ x ∈ p, x < 256 from fun p hp x hx => by
    rcases List.mem_cons.1 hp with rfl | hp
    · exact h.ok.bp x hx
    · obtain rfl := List.mem_singleton.1 hp
      obtain ⟨j, hj⟩ := List.mem_iff_getElem?.1 hx
      exact (hz j x hj).1)
  have HS := wall (ssum_any w.heap.size 0 2 2 [v.pl, l] W1 (HT.out.old HB1.out) rfl (by decide) (by decide) (by decide) HP1.out HLB.out (by simp [h.ok.lp, hl]; omega))
  rw [show [v.pl, l].flatten = v.pl ++ l by simp] at HS
  have HH1 := wall (H.out.old HB1.out)
  obtain ⟨D, hD⟩ : ∃ y, sumB (v.pl ++ l) = y := ⟨_, rfl⟩
  have HDL := wall (show D.length = 32 ∧ ∀ y ∈ D, y < 256 from hD ▸ ⟨sumB_length _, sumB_byte _⟩)
  have HST := wall (show stirV v l = { v with pl := D } by rw [stirV, hD])
  rw [hD] at HS
  have HW1 := wall hW1
  have HFIT := wall (show 129 + (b8 D).size ≤ (enC s v.ms v.pl v.k).length by rw [h.ok.size, b8_size, HDL.out.1]; decide)
  have HI := wall (show (Tryz.prog.info? 23).map (·.size) = some (b8 D).size by rw [b8_size, HDL.out.1]; exact dig_info)
  rw [HST.out]
  clear hT h hl hc hnil hm hz hW1 hD
  have hs2 := HSL.out
  go_enter Tryz.func45, Tryz.ntmps45
  go_wp2_with fail
  rw [← HW1.out]
  (with_reducible refine (HS.out).mono ?_); rintro e w2 ⟨rfl, hB2⟩
  have HH2 := wall (HH1.out.old hB2)
  have HF2 := wall (show Frm [g] w w2 from Frm.of_below (below_then HB1.out hB2 (Nat.le_refl _)))
  clear hB2 HH1 HS HB1 HP1 HSL hs2
  try simp only [Act.put, List.setIfInBounds_toArray, List.set_cons_zero, List.set_cons_succ]
  go_wp2_with (refine wpList_store_frm rfl 23 (.tmp 15) (.tmp 13) rfl g 129 (b8 D) rfl rfl 128 (enC s v.ms v.pl v.k) HH2.out.blk HFIT.out HI.out (b8_one _) ?_; intro w3 K3 F3)
  go_light
  go_end0
  exact ⟨rfl, HH2.out.put_pool HDL.out.1 HDL.out.2 K3 F3, HF2.out.trans F3⟩
end Eng
end Go.Proofs.YtmiaabpnolebhaaGreatDoor

/-
  Package engine: Draw.
-/
namespace Go.Proofs.YtmiaabpnolebhaaGreatDoor
open Go.RowKit

namespace Eng
open Otp Sha R1 Slot
theorem run_slice_hm1 {P : Program} (t e : TypeId) (ht : P.underlying t = some (.slice e)) (hs : ∀ w, (sizeOf e).run P w = .ok 1 w) (A : Option Addr) (len cap n : Nat) (h : n ≤ cap) (w : World) :
    (Instr.sliceAt t (.slice A len cap) none (some (.int .i64 (n : Int))) (some (.int .i64 (n : Int)))).run P w = .ok (.slice (slA A 0 n) n n) w := by
  have he : P.elem t = e := by simp [Program.elem, ht]
  have ht' : P.underlying t = some (.slice (P.elem t)) := by rw [he]; exact ht
  rw [run_sliceAt_slice w t _ _ _ _ ht', run_slice_hm w t A len cap ht' .i64 .i64 n n (by omega) (by omega) (by omega), he, hs]
  simp [Result.andThen, sliced, slA]
theorem nats_far {k : IntKind} {M : Nat} {w w' : World} {A : Option Addr} {l : List Nat} {S : List Nat} (h : Nats k M w w.heap.size A l) (hf : Frm S w w') (hS : ∀ ad : Addr, A = some ad → ad.block ∉ S) : Nats k M w' w'.heap.size A l := fun i z hz => by
  obtain ⟨h1, b, off, rfl, h3, h4⟩ := h i z hz
  exact ⟨h1, b, off, rfl, Nat.lt_of_lt_of_le h3 hf.size, (World.cell?_of_block (hf.block b h3 (hS _ rfl))).trans h4⟩
theorem slA_nil {w : World} {B n : Nat} {A : Option Addr} {l : List Nat} (h : Nats .u8 256 w B A l) (hn : n ≤ l.length) (e : slA A 0 n = none) : n = 0 := by
  rcases Nat.eq_zero_or_pos n with h0 | h0
  · exact h0
  · obtain ⟨x, hx⟩ : ∃ x, l[0]? = some x := ⟨_, List.getElem?_eq_getElem (by omega)⟩
    obtain ⟨_, b, o, rfl, _⟩ := h 0 x hx
    unfold slA at e
    split at e <;> cases e
theorem slA_block {base : Nat} {A : Option Addr} {n : Nat} (h : ∀ ad : Addr, A = some ad → base ≤ ad.block) (ad : Addr) (e : slA A 0 n = some ad) : base ≤ ad.block := by
  unfold slA at e
  split at e
  · exact h ad e
  · cases A with
    | none => cases e
    | some x =>
      have := h x rfl
      simp only [Option.map_some, Option.some.injEq] at e
      rw [← e]
      exact this
theorem slA_take {w : World} {B n : Nat} {A : Option Addr} {l : List Nat} (h : Nats .u8 256 w B A l) : Nats .u8 256 w B (slA A 0 n) (l.take n) := by
  have := nats_slA (nats_take h n) (i := 0) (cap := n) (List.length_take_le _ _)
  rwa [List.drop_zero] at this
def outB (pl : List Nat) (i : Nat) : List Nat := sumB ([79, 85, 84] ++ (pl ++ [0, 0, 0, i]))
def drawL (pl : List Nat) (m : Nat) : List Nat := (List.range m).flatMap (outB pl)
def nextB (pl : List Nat) : List Nat := sumB ([78, 69, 88, 84] ++ pl)
theorem drawL_length (pl : List Nat) : ∀ m, (drawL pl m).length = 32 * m
  | 0 => rfl
  | m + 1 => by
    rw [drawL, List.range_succ, List.flatMap_append, List.length_append, ← drawL, drawL_length pl m]
    simp [outB, sumB_length, Nat.mul_succ]
theorem drawL_snoc (pl : List Nat) (m : Nat) : drawL pl (m + 1) = drawL pl m ++ outB pl m := by
  rw [drawL, List.range_succ, List.flatMap_append, ← drawL]
  simp
theorem drawL_byte (pl : List Nat) (m : Nat) : ∀ x ∈ drawL pl m, x < 256 := fun x hx => by
  obtain ⟨i, _, hx⟩ := List.mem_flatMap.1 hx
  exact sumB_byte _ x hx
/-- What is drawn, and the engine then. -/
def drawR (v : EnV) (k : Int) : List Nat × EnV := if k < 0 ∨ 1024 < k then ([], v) else ((drawL v.pl ((k.toNat + 31) / 32)).take k.toNat, { v with pl := nextB v.pl })
def DrawOut (w : World) (g s : Nat) (R : List Nat × EnV) (e : Ending) (w' : World) : Prop := ∃ A c, e = .returned (.slice A R.1.length c) ∧ R.1.length ≤ c ∧ (A = none → c = 0) ∧ (∀ ad : Addr, A = some ad → w.heap.size ≤ ad.block) ∧ Nats .u8 256 w' w'.heap.size A R.1 ∧ Eg w' g s R.2 ∧ Frm [g] w w'
theorem bytesN_mk {t : TypeId} (w : World) (l : List Nat) (hb : ∀ x ∈ l, x < 256) (fr : Nat × Nat) : BytesN (w.alloc (.cells (b8 l) t fr)) (w.alloc (.cells (b8 l) t fr)).heap.size l (.slice (some ⟨w.heap.size, 0, none⟩) l.length l.length) := by
  refine ⟨_, _, rfl, Nat.le_refl _, (fun h => by cases h), fun i z hz => ⟨hb z (List.mem_of_getElem? hz), w.heap.size, 0, rfl, by simp, ?_⟩⟩
  have h0 : (w.alloc (.cells (b8 l) t fr)).heap[w.heap.size]? = some (.cells (b8 l) t fr) := Rel.alloc_at _ _
  unfold World.cell?
  rw [h0, Nat.zero_add]
  simp [b8, hz]
/-- Three parts: a constant text, bytes that lie somewhere, some new bytes. -/
theorem parts_three (W : World) (a b c : List Nat) (B0 o : Nat) (fr : Nat × Nat) (ha : ∀ x ∈ a, x < 256) (hc : ∀ x ∈ c, x < 256) (hb : b.length = 32) (hz : Nats .u8 256 W W.heap.size (some ⟨B0, o, none⟩) b) (n m : Nat) (hn : a.length = n) (hm : c.length = m)
    (W1 : World) (hW : W1 = (((W.alloc (.cells (b8 a) 5 fr)).alloc (.cells (b8 c) 5)).alloc (.cells #[.slice (some ⟨W.heap.size, 0, none⟩) n n, .slice (some ⟨B0, o, none⟩) 32 32, .slice (some ⟨W.heap.size + 1, 0, none⟩) m m] 24))) :
    Below W.heap.size W W1 ∧ Parts W1 W1.heap.size (some ⟨W.heap.size + 2, 0, none⟩) [a, b, c] := by
  subst hn hm
  have hB1 : Below W.heap.size W (W.alloc (.cells (b8 a) 5 fr)) := (Below.refl _ _).alloc (Nat.le_refl _) _
  have hB2 : Below W.heap.size W ((W.alloc (.cells (b8 a) 5 fr)).alloc (.cells (b8 c) 5)) := hB1.alloc (by simp) _
  refine ⟨by rw [hW]; exact hB2.alloc (by simp; omega) _, ?_⟩
  have h2 : (((W.alloc (.cells (b8 a) 5 fr)).alloc (.cells (b8 c) 5))).heap.size = W.heap.size + 2 := by simp
  rw [hW, ← h2]
  refine parts_new _ [.slice (some ⟨W.heap.size, 0, none⟩) a.length a.length, .slice (some ⟨B0, o, none⟩) 32 32, .slice (some ⟨W.heap.size + 1, 0, none⟩) c.length c.length] [a, b, c] rfl (fun i q u hq hu => ?_)
  match i, hq, hu with
  | 0, hq, hu =>
    obtain rfl : a = q := by simpa using hq
    obtain rfl : _ = u := by simpa using hu
    exact ((bytesN_mk W a ha fr).below ((Below.refl _ _).alloc (Nat.le_refl _) _)).more (by simp)
  | 1, hq, hu =>
    obtain rfl : b = q := by simpa using hq
    obtain rfl : _ = u := by simpa using hu
    exact BytesN.of hb (Nat.le_refl _) (by simp) (nats_step hz hB2)
  | 2, hq, hu =>
    obtain rfl : c = q := by simpa using hq
    obtain rfl : _ = u := by simpa using hu
    exact BytesN.of rfl (Nat.le_refl _) (by simp) (nats_b8 (blk_new' (by simp)) hc)
theorem parts_two (W : World) (a b : List Nat) (B0 o : Nat) (fr : Nat × Nat) (ha : ∀ x ∈ a, x < 256) (hb : b.length = 32) (hz : Nats .u8 256 W W.heap.size (some ⟨B0, o, none⟩) b) (n : Nat) (hn : a.length = n)
    (W1 : World) (hW : W1 = ((W.alloc (.cells (b8 a) 5 fr)).alloc (.cells #[.slice (some ⟨W.heap.size, 0, none⟩) n n, .slice (some ⟨B0, o, none⟩) 32 32] 24))) :
    Below W.heap.size W W1 ∧ Parts W1 W1.heap.size (some ⟨W.heap.size + 1, 0, none⟩) [a, b] := by
  subst hn
  have hB2 : Below W.heap.size W (W.alloc (.cells (b8 a) 5 fr)) := (Below.refl _ _).alloc (Nat.le_refl _) _
  refine ⟨by rw [hW]; exact hB2.alloc (by simp) _, ?_⟩
  have h2 : (W.alloc (.cells (b8 a) 5 fr)).heap.size = W.heap.size + 1 := by simp
  rw [hW, ← h2]
  refine parts_new _ [.slice (some ⟨W.heap.size, 0, none⟩) a.length a.length, .slice (some ⟨B0, o, none⟩) 32 32] [a, b] rfl (fun i q u hq hu => ?_)
  match i, hq, hu with
  | 0, hq, hu =>
    obtain rfl : a = q := by simpa using hq
    obtain rfl : _ = u := by simpa using hu
    exact bytesN_mk W a ha fr
  | 1, hq, hu =>
    obtain rfl : b = q := by simpa using hq
    obtain rfl : _ = u := by simpa using hu
    exact BytesN.of hb (Nat.le_refl _) (by simp) (nats_step hz hB2)
set_option maxRecDepth 100000 in
set_option maxHeartbeats 4000000 in
theorem draw_any (g s : Nat) (v : EnV) (k : Int) (w : World) (hT : STab w) (h : Eg w g s v) :
    Calls Tryz.prog 47 #[.pointer (some ⟨g, 0, none⟩), .int .i64 k] w (DrawOut w g s (drawR v k)) := by
  have H := wall h
  have HT := wall hT
  have hgl := h.lt.1
  by_cases hk : k < 0 ∨ 1024 < k
  · rw [drawR, if_pos hk]
    clear hT h
    rcases Int.lt_or_le k 0 with h0 | h0
    · clear hk
      go_enter Tryz.func47, Tryz.ntmps47
      go_wp2_with fail
      go_light
      go_ret
      exact ⟨none, 0, rfl, Nat.le_refl _, fun _ => rfl, fun ad h => (nomatch h), fun i z hz => (by simp at hz), H.out, Frm.refl _ _⟩
    · have h1 : 1024 < k := by omega
      have h0' : ¬ k < 0 := by omega
      have h2 : k > 1024 := h1
      clear hk h0
      go_enter Tryz.func47, Tryz.ntmps47
      go_wp2_with fail
      go_light
      go_ret
      exact ⟨none, 0, rfl, Nat.le_refl _, fun _ => rfl, fun ad h => (nomatch h), fun i z hz => (by simp at hz), H.out, Frm.refl _ _⟩
  · rw [drawR, if_neg hk]
    obtain ⟨n, rfl⟩ : ∃ n : Nat, k = n := ⟨k.toNat, by omega⟩
    have hn0 : ¬ (n : Int) < 0 := by omega
    have hn1 : ¬ (n : Int) > 1024 := by omega
    rw [Int.toNat_natCast]
    obtain ⟨m, hm⟩ : ∃ m, (n + 31) / 32 = m := ⟨_, rfl⟩
    have HM := wall (show n ≤ 32 * m ∧ m ≤ 32 ∧ ∀ i, i < m → 32 * i < n from ⟨by omega, by omega, fun i hi => by omega⟩)
    rw [hm]
    obtain ⟨i0, hi0, hz0, hz1, hz2⟩ := info_row u8_info
    have HI := wall (And.intro hi0 (And.intro hz0 (And.intro hz1 hz2)))
    have HPB := wall (And.intro h.ok.lp h.ok.bp)
    have hsl := run_slice_arr_all' (P := Tryz.prog) 23 5 32 Tryz.underlying23 (fun _ => by kernel_rfl)
    have HRB := wall (fun i => show (outB v.pl i).length = 32 ∧ ∀ x ∈ outB v.pl i, x < 256 from ⟨sumB_length _, sumB_byte _⟩)
    clear hT h hk hm hi0 hz0 hz1 hz2
    go_enter Tryz.func47, Tryz.ntmps47
    go_wp2_with fail
    go_loopg [5, 6] m (fun gg s5 s6 wr => ∃ i : Nat, i + gg = m ∧ s6 = .int .i64 (i : Int) ∧ OwnB wr w.heap.size s5 (drawL v.pl i) ∧ Below w.heap.size w wr)
    case atStart => exact ⟨0, by omega, rfl, World.ownsRow_nil _ _ _ _, Below.refl _ _⟩
    case round =>
      obtain ⟨i, hg, rfl, hO, hB⟩ := hrel
      have HG := wall hg
      have hig : i ≤ m := by omega
      have HB := wall hB
      obtain ⟨A, cA, rfl, hcA, hNA, hAA⟩ := own_nats hO (drawL_byte _ _)
      rw [drawL_length] at hcA
      rw [drawL_length]
      unfold OwnB at hO
      rw [drawL_length] at hO
      have HO := wall hO
      clear hg hO hB
      by_cases hlt : i < m
      · have hi1 : (32 : Int) * (i : Int) < (n : Int) := by have := HM.out.2.2 i hlt; omega
        have him : (i : Int) % 256 = (i : Int) := by have := HM.out.2.1; omega
        have hi2 : ((32 * i : Nat) : Int) < (n : Int) := by omega
        have hi33 : i < 33 := by have := HM.out.2.1; omega
        have kc := fun (w : World) (C : Array Value) (n c : Nat) => Lib.run_convert_bytes_const (P := Tryz.prog) w 24 5 C n c Tryz.underlying24 Tryz.underlying5
        have HHR := wall (H.out.old HB.out)
        obtain ⟨W1, hW1⟩ : ∃ W, W = (((wr.alloc (.cells (b8 [79, 85, 84]) 5 (3, 4))).alloc (.cells (b8 [0, 0, 0, i]) 5)).alloc (.cells #[.slice (some ⟨wr.heap.size, 0, none⟩) 3 3, .slice (some ⟨g, 129, none⟩) 32 32, .slice (some ⟨wr.heap.size + 1, 0, none⟩) 4 4] 24)) := ⟨_, rfl⟩
        obtain ⟨hB1, hP1⟩ := parts_three wr [79, 85, 84] v.pl [0, 0, 0, i] g 129 (3, 4) (by decide) (by simp; omega) HPB.out.1 HHR.out.pool 3 4 rfl rfl W1 hW1
        have HW1 := wall hW1
        have HB1 := wall hB1
        have HPL := wall (show ∀ p ∈ [[79, 85, 84], v.pl, [0, 0, 0, i]], ∀ x ∈ p, x < 256 from by
          intro p hp
          rcases List.mem_cons.1 hp with rfl | hp
          · decide
          · rcases List.mem_cons.1 hp with rfl | hp
            · exact HPB.out.2
            · obtain rfl := List.mem_singleton.1 hp
              simp
              omega)
        have HS := wall (ssum_any (wr.heap.size + 1 + 1) 0 3 3 [[79, 85, 84], v.pl, [0, 0, 0, i]] W1 (HT.out.old (below_then HB.out hB1 (Nat.le_refl _))) rfl (by decide) (by decide) (by decide) hP1 HPL.out (by have := HPB.out.1; simp; omega))
        rw [show [[79, 85, 84], v.pl, [0, 0, 0, i]].flatten = [79, 85, 84] ++ (v.pl ++ [0, 0, 0, i]) by simp, ← outB] at HS
        have HD := HRB.out i
        have HSN := wall (drawL_snoc v.pl i)
        obtain ⟨D, hD⟩ : ∃ y, outB v.pl i = y := ⟨_, rfl⟩
        rw [hD] at HS HD HSN
        have HDL := wall HD
        have HSD := wall (show (Tryz.prog.info? 23).map (·.size) = some (b8 D).size by rw [b8_size, HD.1]; exact dig_info)
        have HZD := wall (show (b8 (List.replicate 32 0)).size = (b8 D).size by rw [b8_size, b8_size, HD.1]; rfl)
        clear hW1 hB1 hP1 HD hD HPL hNA hcA
        go_wp2_with fail
        change Calls _ _ _ (((wr.alloc (.cells (b8 [79, 85, 84]) 5 (3, 4))).alloc (.cells (b8 [0, 0, 0, i]) 5)).alloc (.cells #[.slice (some ⟨wr.heap.size, 0, none⟩) 3 3, .slice (some ⟨g, 129, none⟩) 32 32, .slice (some ⟨wr.heap.size + 1, 0, none⟩) 4 4] 24)) _
        rw [← HW1.out]
        (with_reducible refine HS.out.mono ?_); rintro e w2 ⟨rfl, hB2⟩
        have HB2 := wall (below_then HB.out (below_then HB1.out hB2 (Nat.le_refl _)) (Nat.le_refl _))
        have HO2 := wall (own_frm HO.out (Frm.of_below (S := []) (below_then HB1.out hB2 (Nat.le_refl _))) (by simp))
        clear hB2 kc HS HB1 HW1 HHR HO HB
        try simp only [Act.put, List.setIfInBounds_toArray, List.set_cons_zero, List.set_cons_succ]
        go_upto_region 8 with (refine wpList_new_row rfl 23 (.tmp 7) (.tmp 34) rfl w2.heap.size (b8 D) rfl rfl 23 (b8 (List.replicate 32 0)) (Blk.new _ _ _) HSD.out HZD.out (b8_one _) w2.heap.size w2 ((Below.refl _ w2).alloc (Nat.le_refl _) _) (Nat.le_refl _) ?_; intro w3 K3 B3)
        have HB3 := wall (below_then HB2.out B3.out (Nat.le_refl _))
        have HO3 := wall (own_frm HO2.out (Frm.of_below (S := []) B3.out) (by simp))
        have HSRC := wall (nats_src (nats_b8 K3.out HDL.out.2))
        have HVL := wall (show (v8 D).length = 32 by rw [v8_length, HDL.out.1])
        have hwl : w.heap.size ≤ w3.heap.size := HB3.out.size
        have HMM := wall (show i < 33 from hi33)
        clear B3 K3 HB2 HO2 HSD HZD
        try simp only [Act.put, List.setIfInBounds_toArray, List.set_cons_zero, List.set_cons_succ]
        go_wp2_with (at_builtin; refine Sha.Wall.out (?_ : Wall _))
        refine ⟨?_⟩
        refine wpList_append_src rfl (.tmp 35) (.tmp 36) 24 rfl w.heap.size 5 i0 (.int .u8 0) 1 Tryz.underlying24 HI.out.1 HI.out.2.1 HI.out.2.2.1 HI.out.2.2.2 rfl _ _ _ rfl HO3.out _ _ _ (v8 D) rfl HVL.out HSRC.out (by simp) ?c2 ?c3 ?c4 hwl ?_
        case c2 =>
          intro u hu
          obtain ⟨a, _, rfl⟩ := List.mem_map.1 hu
          rfl
        case c3 => have := HMM.out; simp only [maxLen]; omega
        case c4 => have := HMM.out; omega
        intro v2 w4 hO4 hg4 _
        have HB4 := wall (HB3.out.grown hg4 hwl (fun k hk => (World.ownsRow.lt HO3.out k hk).1))
        have HO4 := wall hO4
        clear hO4 hg4 HB3 HO3
        go_wp2_with fail
        go_light
        go_roundg (m - (i + 1))
        case measure => have := HG.out; omega
        case rel =>
          refine ⟨i + 1, by have := HG.out; omega, by go_num, ?_, HB4.out⟩
          have h2 := HO4.out
          unfold OwnB
          rw [HSN.out, List.length_append, List.map_append, HDL.out.1, drawL_length]
          exact h2
      · have : i = m := by omega
        subst this
        have hi1 : ¬ ((32 * i : Nat) : Int) < (n : Int) := by have := HM.out.1; omega
        have kc := fun (w : World) (C : Array Value) (n c : Nat) => Lib.run_convert_bytes_const (P := Tryz.prog) w 24 5 C n c Tryz.underlying24 Tryz.underlying5
        have HHR := wall (H.out.old HB.out)
        obtain ⟨W1, hW1⟩ : ∃ W, W = (wr.alloc (.cells (b8 [78, 69, 88, 84]) 5 (4, 5))).alloc (.cells #[.slice (some ⟨wr.heap.size, 0, none⟩) 4 4, .slice (some ⟨g, 129, none⟩) 32 32] 24) := ⟨_, rfl⟩
        obtain ⟨hB1, hP1⟩ := parts_two wr [78, 69, 88, 84] v.pl g 129 (4, 5) (by decide) HPB.out.1 HHR.out.pool 4 rfl W1 hW1
        have HW1 := wall hW1
        have HB1 := wall hB1
        have HPL := wall (show ∀ p ∈ [[78, 69, 88, 84], v.pl], ∀ x ∈ p, x < 256 from by
          intro p hp
          rcases List.mem_cons.1 hp with rfl | hp
          · decide
          · obtain rfl := List.mem_singleton.1 hp
            exact HPB.out.2)
        have HS := wall (ssum_any (wr.heap.size + 1) 0 2 2 [[78, 69, 88, 84], v.pl] W1 (HT.out.old (below_then HB.out hB1 (Nat.le_refl _))) rfl (by decide) (by decide) (by decide) hP1 HPL.out (by have := HPB.out.1; simp; omega))
        rw [show [[78, 69, 88, 84], v.pl].flatten = [78, 69, 88, 84] ++ v.pl by simp, ← nextB] at HS
        have HD := wall (show (nextB v.pl).length = 32 ∧ ∀ x ∈ nextB v.pl, x < 256 from ⟨sumB_length _, sumB_byte _⟩)
        obtain ⟨D, hD⟩ : ∃ y, nextB v.pl = y := ⟨_, rfl⟩
        have HND := wall hD
        rw [hD] at HS HD
        have HI2 := wall (show (Tryz.prog.info? 23).map (·.size) = some (b8 D).size by rw [b8_size, HD.out.1]; exact dig_info)
        have HFIT := wall (show 129 + (b8 D).size ≤ (enC s v.ms v.pl v.k).length by rw [H.out.ok.size, b8_size, HD.out.1]; decide)
        have HNC := wall (show n ≤ cA from Nat.le_trans HM.out.1 hcA)
        have HNA := wall hNA
        have HAA := wall hAA
        have HGL := wall hgl
        have HLN := wall (show ((drawL v.pl i).take n).length = n by rw [List.length_take, drawL_length]; have := HM.out.1; omega)
        have hhm := fun W => run_slice_hm1 (P := Tryz.prog) 24 5 Tryz.underlying24 (fun _ => by kernel_rfl) A (32 * i) cA n HNC.out W
        clear hW1 hB1 hP1 hD hNA hcA hAA HPL
        go_wp2_with fail
        change Calls _ _ _ ((wr.alloc (.cells (b8 [78, 69, 88, 84]) 5 (4, 5))).alloc (.cells #[.slice (some ⟨wr.heap.size, 0, none⟩) 4 4, .slice (some ⟨g, 129, none⟩) 32 32] 24)) _
        rw [← HW1.out]
        (with_reducible refine HS.out.mono ?_); rintro e w2 ⟨rfl, hB2⟩
        have HB2 := wall (below_then HB1.out hB2 (Nat.le_refl _))
        have HH2 := wall (HHR.out.old HB2.out)
        have HF2 := wall (show Frm [g] w w2 from Frm.of_below (below_then HB.out HB2.out (Nat.le_refl _)))
        have HN2 := wall (nats_step HNA.out HB2.out)
        clear hB2 kc HS HB1 HW1 HHR HO HB HB2
        try simp only [Act.put, List.setIfInBounds_toArray, List.set_cons_zero, List.set_cons_succ]
        go_wp2_with (refine wpList_store_frm rfl 23 (.tmp 48) (.tmp 46) rfl g 129 (b8 D) rfl rfl 128 (enC s v.ms v.pl v.k) HH2.out.blk HFIT.out HI2.out (b8_one _) ?_; intro w3 K3 F3)
        have hE := HH2.out.put_pool HD.out.1 HD.out.2 K3 F3
        rw [← HND.out] at hE
        have HE := wall (And.intro hE (HF2.out.trans F3))
        have HN3 := wall (nats_far HN2.out F3 (fun ad e => by have := HAA.out ad e; have := HGL.out; simp; omega))
        clear hE K3 F3 HH2 HF2
        go_light
        go_ret
        refine ⟨slA A 0 n, n, ?_, ?_, fun h => slA_nil HN3.out (by rw [drawL_length]; exact HM.out.1) h, slA_block HAA.out, ?_, HE.out.1, HE.out.2⟩
        · show Ending.returned (.slice (slA A 0 n) n n) = Ending.returned (.slice _ ((drawL v.pl i).take n).length _)
          rw [HLN.out]
        · show ((drawL v.pl i).take n).length ≤ n
          rw [HLN.out]
          exact Nat.le_refl _
        · exact slA_take HN3.out
end Eng
end Go.Proofs.YtmiaabpnolebhaaGreatDoor

/-
  Package job: Mode, Right; the reference's Right.
-/
namespace Go.Proofs.YtmiaabpnolebhaaGreatDoor
open Go.RowKit

namespace Eng
open Otp Sha
/-- A job. -/
structure Jb where
  k : Nat
  h : Nat
  t : Nat
  f : Nat
  s : Nat
  d : Nat
  n : Nat
  a : Nat
  x : Nat
structure Jb.Ok (j : Jb) : Prop where
  k : j.k < 256
  h : j.h < 256
  t : j.t < 256
  f : j.f < 256
  s : j.s < 4294967296
  d : j.d < 4294967296
  n : j.n < 4294967296
  a : j.a < 4294967296
  x : j.x < 4294967296
def jbC (j : Jb) : Array Value := #[.int .u8 (j.k : Int), .int .u8 (j.h : Int), .int .u8 (j.t : Int), .int .u8 (j.f : Int), .int .u32 (j.s : Int), .int .u32 (j.d : Int), .int .u32 (j.n : Int), .int .u32 (j.a : Int), .int .u32 (j.x : Int)]
def keyedJ (j : Jb) : Bool := decide (j.k = 2 ∨ j.k = 3 ∨ j.k = 4 ∨ j.k = 6)
/-- Why a job may not be. -/
def rightE (j : Jb) : Nat :=
  if j.k < 1 ∨ 8 < j.k then 1
  else if 1024 < j.n then 4
  else if (j.k = 2 ∨ j.k = 3 ∨ j.k = 4 ∨ j.k = 6) ∧ 8 ≤ j.h ∨ j.k = 4 ∧ 8 ≤ j.t ∨ j.k = 5 ∧ 4 ≤ j.t then 1
  else if j.k = 3 ∧ (7 < j.f ∨ j.f % 4 = 3 ∨ j.n % 16 ≠ 0) then 1
  else if j.x % 4 ≠ 0 then 10
  else 0
theorem and3 (n : Nat) (h : n < 256) : bits .and .u8 (n : Int) 3 = ((n % 4 : Nat) : Int) := by
  have : ∀ n : Fin 256, bits .and .u8 ((n.val : Nat) : Int) 3 = ((n.val % 4 : Nat) : Int) := by decide +kernel
  exact this ⟨n, h⟩
theorem and4 (n : Nat) (h : n < 256) : bits .and .u8 (n : Int) 4 = ((n / 4 % 2 * 4 : Nat) : Int) := by
  have : ∀ n : Fin 256, bits .and .u8 ((n.val : Nat) : Int) 4 = ((n.val / 4 % 2 * 4 : Nat) : Int) := by decide +kernel
  exact this ⟨n, h⟩
def ModeOut (j : Jb) (w : World) (e : Ending) (w' : World) : Prop := e = .returned (.tuple #[.int .i64 ((j.f % 4 : Nat) : Int), .bool (decide (j.f / 4 % 2 = 1))]) ∧ Below w.heap.size w w'
set_option maxHeartbeats 1000000 in
theorem jmode_any (j : Jb) (w : World) (hj : j.Ok) : Calls Tryz.prog 200 #[.agg (jbC j)] w (ModeOut j w) := by
  obtain ⟨k, h, t, f, s, d, n, a, x⟩ := j
  have e3 := and3 f hj.f
  have e4 := and4 f hj.f
  obtain ⟨y, hy⟩ : ∃ y, f / 4 % 2 = y := ⟨_, rfl⟩
  have HY := wall hy
  rw [hy] at e4
  have HY2 := wall (show y < 2 by omega)
  clear hj hy
  unfold jbC
  simp only
  go_enter Tryz.func200, Tryz.ntmps200
  go_wp2_with fail
  go_quiet (fail)
  go_wp2_with fail
  go_light
  go_ret2
  refine ⟨?_, below_drewN ((Below.refl _ _).alloc (Nat.le_refl _) _) _⟩
  have h1 : ((y : Int) * 4 != 0) = decide (f / 4 % 2 = 1) := by
    rw [HY.out]
    have := HY2.out
    rcases (show y = 0 ∨ y = 1 by omega) with rfl | rfl <;> rfl
  show Ending.returned (.tuple #[.int .i64 ((f : Int) % 4), .bool ((y : Int) * 4 != 0)]) = _
  rw [h1]
  simp
def BoolB (w : World) (b : Bool) (e : Ending) (w' : World) : Prop := e = .returned (.bool b) ∧ Below w.heap.size w w'
set_option maxHeartbeats 1000000 in
theorem keyed_job (j : Jb) (w : World) (hj : j.Ok) : Calls Tryz.prog 201 #[.agg (jbC j)] w (BoolB w (keyedJ j)) := by
  obtain ⟨k, h, t, f, s, d, n, a, x⟩ := j
  have HB := wall (show Below w.heap.size w (w.alloc (.cells #[.int .u8 (k : Int), .int .u8 (h : Int), .int .u8 (t : Int), .int .u8 (f : Int), .int .u32 (s : Int), .int .u32 (d : Int), .int .u32 (n : Int), .int .u32 (a : Int), .int .u32 (x : Int)] 130)) from (Below.refl _ _).alloc (Nat.le_refl _) _)
  unfold jbC keyedJ
  simp only
  obtain ⟨b, hb⟩ : ∃ b, decide (k = 2 ∨ k = 3 ∨ k = 4 ∨ k = 6) = b := ⟨_, rfl⟩
  rw [hb]
  have HBB := wall hb
  clear hb hj
  go_enter Tryz.func201, Tryz.ntmps201
  go_wp2_with fail
  all_goals go_light
  all_goals go_ret
  all_goals refine ⟨congrArg (fun q => Ending.returned (Value.bool q)) ?_, (Below.refl _ _).alloc (Nat.le_refl _) _⟩
  all_goals rw [← HBB.out]
  all_goals first | exact (decide_eq_true (by omega)).symm | (rw [Bool.eq_iff_iff]; simp; omega)
theorem jb_cells {w : World} {g : Nat} {t : TypeId} {j : Jb} {J : Array Value} (hJ : jbC j = J) (h : Blk w g t J) : w.cell? ⟨g, 0, none⟩ = some (.int .u8 (j.k : Int)) ∧ w.cell? ⟨g, 1, none⟩ = some (.int .u8 (j.h : Int)) ∧ w.cell? ⟨g, 2, none⟩ = some (.int .u8 (j.t : Int)) ∧ w.cell? ⟨g, 3, none⟩ = some (.int .u8 (j.f : Int)) ∧ w.cell? ⟨g, 4, none⟩ = some (.int .u32 (j.s : Int)) ∧ w.cell? ⟨g, 5, none⟩ = some (.int .u32 (j.d : Int)) ∧ w.cell? ⟨g, 6, none⟩ = some (.int .u32 (j.n : Int)) ∧ w.cell? ⟨g, 7, none⟩ = some (.int .u32 (j.a : Int)) ∧ w.cell? ⟨g, 8, none⟩ = some (.int .u32 (j.x : Int)) := by
  subst hJ
  exact ⟨h.cell 0, h.cell 1, h.cell 2, h.cell 3, h.cell 4, h.cell 5, h.cell 6, h.cell 7, h.cell 8⟩
def RightOut (j : Jb) (w : World) (e : Ending) (w' : World) : Prop := e = .returned (.int .i64 (rightE j : Int)) ∧ Below w.heap.size w w'
set_option maxRecDepth 100000 in
set_option maxHeartbeats 4000000 in
theorem right_any (j : Jb) (w : World) (hj : j.Ok) : Calls Tryz.prog 119 #[.agg (jbC j)] w (RightOut j w) := by
  have HM := wall (fun W => jmode_any j W hj)
  have HK := wall (fun W => keyed_job j W hj)
  have HBL := wall (fun W => show Blk (W.alloc (.cells (jbC j) 130)) W.heap.size 130 (jbC j) ∧ Below W.heap.size W (W.alloc (.cells (jbC j) 130)) from ⟨Blk.new _ _ _, (Below.refl _ _).alloc (Nat.le_refl _) _⟩)
  have HSI := wall (show (Tryz.prog.info? 130).map (·.size) = some (jbC j).size by kernel_rfl)
  obtain ⟨E, hE⟩ : ∃ E, rightE j = E := ⟨_, rfl⟩
  have HE := wall hE
  unfold RightOut
  rw [hE]
  obtain ⟨b, hb⟩ : ∃ b, keyedJ j = b := ⟨_, rfl⟩
  rw [hb] at HK
  have HKB := wall hb
  obtain ⟨k, h, t, f, s, d, n, a, x⟩ := j
  unfold keyedJ at HKB
  unfold rightE at HE
  unfold ModeOut at HM
  simp only at HKB HE HM
  obtain ⟨y, hy⟩ : ∃ y, f % 4 = y := ⟨_, rfl⟩
  have HY := wall hy
  rw [hy] at HM HE
  obtain ⟨J, hJ⟩ : ∃ J, jbC ⟨k, h, t, f, s, d, n, a, x⟩ = J := ⟨_, rfl⟩
  have HJ := wall hJ
  rw [hJ] at HM HK HBL HSI ⊢
  clear hE hb hy hJ hj
  go_enter Tryz.func119, Tryz.ntmps119
  go_wp2_with (refine wpList_load_row rfl 130 _ rfl w.heap.size rfl 130 J (0, 0) _ (HBL.out _).1 Tryz.underlying130 rfl HSI.out ?_)
  (with_reducible refine (HM.out _).mono ?_); rintro e w2 ⟨rfl, hB2⟩
  have K2 := wall ((HBL.out w).1.next hB2 rfl)
  have HB2 := wall (below_then (HBL.out w).2 hB2 (Nat.le_refl _))
  obtain ⟨c0, c1, c2, c3, -, -, c6, -, c8⟩ := jb_cells HJ.out K2.out
  simp only at c0 c1 c2 c3 c6 c8
  clear hB2 HM HBL
  try simp only [Act.put, List.setIfInBounds_toArray, List.set_cons_zero, List.set_cons_succ]
  go_wp2_with (refine wpList_load_row rfl 130 _ rfl w.heap.size rfl 130 J (0, 0) _ K2.out Tryz.underlying130 rfl HSI.out ?_)
  all_goals try (go_light; go_ret; exact ⟨congrArg (fun q => Ending.returned (Value.int .i64 q)) (by (try simp only [bne_iff_ne, ne_eq, bne_eq_false_iff_eq, beq_iff_eq, beq_eq_false_iff_ne] at *); have h := HE.out; (repeat' (split at h)) <;> omega), HB2.out⟩)
  (with_reducible refine (HK.out _).mono ?_); rintro e w3 ⟨rfl, hB3⟩
  have K3 := wall (K2.out.next hB3 rfl)
  have HB3 := wall (below_then HB2.out hB3 (Nat.le_refl _))
  obtain ⟨c0, c1, c2, c3, -, -, c6, -, c8⟩ := jb_cells HJ.out K3.out
  simp only at c0 c1 c2 c3 c6 c8
  clear hB3 HK K2 HB2
  try simp only [Act.put, List.setIfInBounds_toArray, List.set_cons_zero, List.set_cons_succ]
  cases b with
  | true =>
    have hk := of_decide_eq_true HKB.out
    go_wp2_with fail
    all_goals (go_light; go_ret; exact ⟨congrArg (fun q => Ending.returned (Value.int .i64 q)) (by (try simp only [bne_iff_ne, ne_eq, bne_eq_false_iff_eq, beq_iff_eq, beq_eq_false_iff_ne] at *); have h := HE.out; (repeat' (split at h)) <;> omega), HB3.out⟩)
  | false =>
    have hk := of_decide_eq_false HKB.out
    go_wp2_with fail
    all_goals (go_light; go_ret; exact ⟨congrArg (fun q => Ending.returned (Value.int .i64 q)) (by (try simp only [bne_iff_ne, ne_eq, bne_eq_false_iff_eq, beq_iff_eq, beq_eq_false_iff_ne] at *); have h := HE.out; (repeat' (split at h)) <;> omega), HB3.out⟩)
end Eng
end Go.Proofs.YtmiaabpnolebhaaGreatDoor
