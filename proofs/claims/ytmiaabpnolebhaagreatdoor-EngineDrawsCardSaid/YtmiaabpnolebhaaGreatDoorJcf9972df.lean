/-
  Texts of this claim, joined: ShelfJoin, ShaSm.
-/
import Derived.Shelf.LaysM
import Derived.Shelf.SlLaysJ
import Derived.Test.YtmiaabpnolebhaaGreatDoorJ9976b4a4
import Derived.Shelf.Bytes.SlJoin
set_option linter.unusedSimpArgs false
set_option linter.unusedVariables false
/-
  Contracts of the library's functions, laid at this program (the numbers by name).
-/
namespace Go.Proofs.YtmiaabpnolebhaaGreatDoor
open Go.Shelf Go.Proofs
def Tryz.lays14_ren : Go.Shelf.Ren := ⟨fun | 14 => 143 | 15 => 212 | n => n, fun | 26 => 109 | 22 => 24 | 3 => 3 | 4 => 4 | 0 => 0 | 9 => 9 | 20 => 20 | 5 => 5 | n => n, fun | n => n⟩
theorem Tryz.lays14 : Go.Proofs.SlLaysJ.n14 Tryz.prog Tryz.lays14_ren := {
  mixed := by kernel_rfl
  f14 := Tryz.func143.trans (congrArg some (by kernel_rfl))
  f15 := Tryz.func212.trans (congrArg some (by kernel_rfl))
  t0 := Tryz.underlying0
  a0 := Tryz.isAgg0
  z0 := Tryz.sizeOf0
  v0 := Tryz.zeroValue0
  t3 := Tryz.underlying3
  a3 := Tryz.isAgg3
  z3 := Tryz.sizeOf3
  v3 := Tryz.zeroValue3
  t4 := Tryz.underlying4
  a4 := Tryz.isAgg4
  z4 := Tryz.sizeOf4
  v4 := Tryz.zeroValue4
  t9 := Tryz.underlying9
  a9 := Tryz.isAgg9
  z9 := Tryz.sizeOf9
  v9 := Tryz.zeroValue9
  t20 := Tryz.underlying20
  a20 := Tryz.isAgg20
  z20 := Tryz.sizeOf20
  v20 := Tryz.zeroValue20
  t22 := Tryz.underlying24
  a22 := Tryz.isAgg24
  z22 := Tryz.sizeOf24
  v22 := Tryz.zeroValue24
  t26 := Tryz.underlying109
  a26 := Tryz.isAgg109
  z26 := Tryz.sizeOf109
  v26 := Tryz.zeroValue109
  t5 := Tryz.underlying5
  z5 := Tryz.sizeOf5
  i5 := by kernel_rfl }
end Go.Proofs.YtmiaabpnolebhaaGreatDoor

/-
  Package sha: Sum of parts (bytes.Join by its contract).
-/
namespace Go.Proofs.YtmiaabpnolebhaaGreatDoor
open Go.RowKit

namespace Sha
open Otp R1
def u8s (l : List Nat) : List UInt8 := l.map UInt8.ofNat
theorem u8s_length (l : List Nat) : (u8s l).length = l.length := by simp [u8s]
theorem u8_nat {n : Nat} (h : n < 256) : (UInt8.ofNat n).toNat = n := by rw [UInt8.toNat_ofNat']; exact Nat.mod_eq_of_lt h
theorem u8s_at {l : List Nat} (hb : ∀ x ∈ l, x < 256) {i : Nat} {x : UInt8} (h : (u8s l)[i]? = some x) : l[i]? = some x.toNat := by
  unfold u8s at h
  rw [List.getElem?_map, Option.map_eq_some_iff] at h
  obtain ⟨y, hy, rfl⟩ := h
  rw [hy, u8_nat (hb y (List.mem_of_getElem? hy))]
theorem holds_of {w : World} {B : Nat} {p : List Nat} {v : Value} (h : BytesN w B p v) (hb : ∀ x ∈ p, x < 256) : Lib.HoldsBytes w v (u8s p) := by
  obtain ⟨A, c, rfl, _, hn, hz⟩ := h
  refine ⟨A, c, by rw [u8s_length], fun ha => ?_, fun a ha i x hx => ?_⟩
  · cases p with
    | nil => rfl
    | cons y r =>
      obtain ⟨_, b, off, hA, _⟩ := hz 0 y rfl
      rw [ha] at hA; cases hA
  · obtain ⟨_, b, off, hA, _, hc⟩ := hz i x.toNat (u8s_at hb hx)
    rw [ha] at hA; cases hA
    rw [Lib.add_plain2]; exact hc
def JoinOut (w : World) (l : List Nat) (e : Ending) (w' : World) : Prop := ∃ A c, e = .returned (.slice A l.length c) ∧ l.length ≤ c ∧ Nats .u8 256 w' w'.heap.size A l ∧ Below w.heap.size w w'
theorem fresh_nats {w' : World} {B : Nat} {v : Value} {l : List Nat} (h : Lib.FreshBytes B w' v (u8s l)) (hb : ∀ x ∈ l, x < 256) : ∃ A c, v = .slice A l.length c ∧ l.length ≤ c ∧ Nats .u8 256 w' w'.heap.size A l := by
  obtain ⟨g, cap, zs, rfl, _, hle, _, hz, hzb, hbs, hc, _⟩ := h
  rw [u8s_length] at hle hbs ⊢
  refine ⟨_, cap, rfl, hle, fun i z hz' => ?_⟩
  have hi := (List.getElem?_eq_some_iff.1 hz').1
  have hcell := hc i (by omega)
  refine ⟨hb z (List.mem_of_getElem? hz'), g, 0, rfl, ?_, ?_⟩
  · exact Classical.byContradiction fun hn => by
      simp [World.cell?, Array.getElem?_eq_none (show w'.heap.size ≤ g by omega)] at hcell
  · rw [Nat.zero_add, hcell]
    have h1 : (Lib.bytesOf (zs.take l.length))[i]? = some (UInt8.ofNat z) := by rw [hbs]; simp [u8s, hz']
    have hzi : zs[i]? = some (zs.getD i 0) := by rw [List.getD_eq_getElem?_getD, List.getElem?_eq_getElem (show i < zs.length by omega)]; rfl
    have hzz := hzb _ (List.mem_of_getElem? hzi)
    have hzl := hb z (List.mem_of_getElem? hz')
    simp only [Lib.bytesOf, List.getElem?_map, List.getElem?_take, hi, if_true, hzi, Option.map_some, Option.some.injEq] at h1
    have h2 := congrArg UInt8.toNat h1
    rw [u8_nat hzl] at h2
    rw [u8_nat (show (zs.getD i 0).toNat < 256 by omega)] at h2
    congr 2
    omega
theorem flat_lens (ps : List (List Nat)) : Lib.lens (ps.map u8s) = ps.flatten.length := by
  simp [Lib.lens, List.length_flatten, List.map_map, Function.comp_def, u8s_length]
theorem flat_join (ps : List (List Nat)) : Lib.join (ps.map u8s) [] = u8s ps.flatten := by
  cases ps with
  | nil => rfl
  | cons p r => rw [List.map_cons, Lib.join_cons]; simp [Lib.joinTail, u8s, List.map_flatten, List.map_map, Function.comp_def]
theorem parts_at {w : World} {B J off : Nat} {ps : List (List Nat)} (h : Parts w B (some ⟨J, off, none⟩) ps) (hb : ∀ p ∈ ps, ∀ x ∈ p, x < 256) :
    Lib.PartsAt w ⟨J, off, none⟩ ((List.range ps.length).map fun i => (w.cell? ⟨J, off + i, none⟩).getD (.bool false)) (ps.map u8s) := by
  have hv : ∀ i v, ((List.range ps.length).map fun i => (w.cell? ⟨J, off + i, none⟩).getD (.bool false))[i]? = some v → ∃ p, ps[i]? = some p ∧ w.cell? ⟨J, off + i, none⟩ = some v ∧ BytesN w B p v := by
    intro i v hv
    rw [List.getElem?_map, Option.map_eq_some_iff] at hv
    obtain ⟨j, hj, rfl⟩ := hv
    obtain ⟨hlt, rfl⟩ := List.getElem?_eq_some_iff.1 hj
    rw [List.length_range] at hlt
    rw [List.getElem_range]
    obtain ⟨J', off', v', hA, _, hc, hB⟩ := h i ps[i] (List.getElem?_eq_getElem hlt)
    cases hA
    rw [hc]
    exact ⟨ps[i], List.getElem?_eq_getElem hlt, rfl, hB⟩
  refine ⟨by simp, fun i v h1 => ?_, fun i v l h1 h2 => ?_⟩
  · obtain ⟨p, _, hc, _⟩ := hv i v h1
    rw [Lib.add_plain2]; exact hc
  · obtain ⟨p, hp, _, hB⟩ := hv i v h1
    rw [List.getElem?_map, hp] at h2
    cases h2
    exact holds_of hB (hb p (List.mem_of_getElem? hp))
theorem join_of (J off n c : Nat) (ps : List (List Nat)) (w : World) (hn : ps.length = n) (h0 : 0 < n) (h8 : n ≤ 64) (hc : n ≤ c) (hP : Parts w w.heap.size (some ⟨J, off, none⟩) ps) (hb : ∀ p ∈ ps, ∀ x ∈ p, x < 256) (hm : ps.flatten.length ≤ 900000) :
    Calls Tryz.prog 143 #[.slice (some ⟨J, off, none⟩) n c, .slice none 0 0] w (JoinOut w ps.flatten) := by
  have hbf : ∀ x ∈ ps.flatten, x < 256 := fun x hx => by
    obtain ⟨p, hp, hx⟩ := List.mem_flatten.1 hx
    exact hb p hp x hx
  by_cases h2 : 2 ≤ n
  · have h := Any.bytes_Join_many (P := Tryz.prog) Tryz.lays14 J off n c _ (ps.map u8s) (.slice none 0 0) [] w (by rw [List.length_map]; exact hn) h2 (parts_at hP hb) hc ⟨none, 0, rfl, fun _ => rfl, fun a ha => by cases ha⟩ (by omega) (by rw [flat_lens]; have h0 := hm; generalize ps.flatten.length = L at h0 ⊢; simp; omega)
    rw [flat_join] at h
    refine h.mono ?_
    rintro e w' ⟨v, rfl, hF, hB⟩
    obtain ⟨A, c', rfl, h1, h2⟩ := fresh_nats hF hbf
    exact ⟨A, c', rfl, h1, h2, hB⟩
  · obtain rfl : n = 1 := by omega
    obtain ⟨p, rfl⟩ : ∃ p, ps = [p] := List.length_eq_one_iff.1 hn
    have hfl : [p].flatten = p := by simp
    rw [hfl] at hbf hm ⊢
    obtain ⟨J', off', v, hA, _, hcell, hB⟩ := hP 0 p rfl
    cases hA
    obtain ⟨A, cp, rfl, hle, hnil, hz⟩ := hB
    by_cases hp0 : p.length = 0
    · have hpn : p = [] := List.length_eq_zero_iff.1 hp0
      subst hpn
      have h := Any.bytes_Join_one_empty (P := Tryz.prog) Tryz.lays14 J off c A cp (.slice none 0 0) w hcell
      refine h.mono ?_
      rintro e w' ⟨rfl, rfl⟩
      exact ⟨none, 0, rfl, Nat.le_refl _, fun i z hz => by simp at hz, Below.refl _ _⟩
    · have hA : ∃ ad, A = some ad := by
        cases p with
        | nil => simp at hp0
        | cons y r => obtain ⟨_, b, o, hA, _⟩ := hz 0 y rfl; exact ⟨_, hA⟩
      obtain ⟨ad, rfl⟩ := hA
      have hh := (holds_of ⟨some ad, cp, rfl, hle, hnil, hz⟩ hbf : Lib.HoldsBytes w (.slice (some ad) p.length cp) (u8s p))
      obtain ⟨q, cq, hq, _, hcs⟩ := hh
      rw [u8s_length] at hq
      cases hq
      have h := Any.bytes_Join_one (P := Tryz.prog) Tryz.lays14 J off c ad cp (u8s p) (.slice none 0 0) w (by rw [u8s_length]; exact hcell) (hcs ad rfl) (by rw [u8s_length]; omega) (by rw [u8s_length]; omega)
      refine h.mono ?_
      rintro e w' ⟨v, rfl, hF, hB⟩
      obtain ⟨A, c', rfl, h1, h2⟩ := fresh_nats hF hbf
      exact ⟨A, c', rfl, h1, h2, hB⟩
set_option maxRecDepth 100000 in
set_option maxHeartbeats 4000000 in
theorem ssum_any (J off n c : Nat) (ps : List (List Nat)) (w : World) (hT : STab w) (hn : ps.length = n) (h0 : 0 < n) (h8 : n ≤ 64) (hc : n ≤ c) (hP : Parts w w.heap.size (some ⟨J, off, none⟩) ps) (hb : ∀ p ∈ ps, ∀ x ∈ p, x < 256) (hm : ps.flatten.length ≤ 900000) :
    Calls Tryz.prog 74 #[.slice (some ⟨J, off, none⟩) n c] w (fun e w' => e = .returned (.agg (b8 (sumB ps.flatten))) ∧ Below w.heap.size w w') := by
  obtain ⟨T, hTT⟩ : ∃ T, ps.flatten = T := ⟨_, rfl⟩
  obtain ⟨r, hr⟩ : ∃ x, sumB T = x := ⟨_, rfl⟩
  have HBT := wall (show ∀ x ∈ T, x < 256 from hTT ▸ fun x hx => by
    obtain ⟨p, hp, hx⟩ := List.mem_flatten.1 hx
    exact hb p hp x hx)
  have HRL := wall (show r.length = 32 by rw [← hr]; exact sumB_length _)
  have HRR := wall hr
  have HTT := wall hTT
  have HSR := wall (show (Tryz.prog.info? 23).map (·.size) = some (b8 r).size by rw [b8_size, HRL.out]; exact dig_info)
  have HZR := wall (show (b8 (List.replicate 32 0)).size = (b8 r).size by rw [b8_size, b8_size, HRL.out]; rfl)
  have K1 := wall (Blk.new w 23 (b8 (List.replicate 32 0)))
  have HB := wall ((Below.refl w.heap.size w).alloc (Nat.le_refl _) (.cells (b8 (List.replicate 32 0)) 23))
  have HMT := wall (show T.length ≤ 900000 by rw [← hTT]; exact hm)
  have HP := wall (Parts.more (hP.below HB.out) HB.out.size)
  have HT1 := wall (hT.old HB.out)
  have HHB := wall hb
  clear hP hT hb hTT hr hm
  go_enter Tryz.func74, Tryz.ntmps74
  go_upto_region 1 with fail
  change Code.wp _ _ _ _ (w.alloc (.cells (b8 (List.replicate 32 0)) 23))
  generalize hW1 : w.alloc (.cells (b8 (List.replicate 32 0)) 23) = W1 at *
  have HN := wall (new_any W1 HT1.out)
  go_wp2_with fail
  (with_reducible refine HN.out.mono ?_); rintro e w3 ⟨rfl, hB3⟩
  have K3 := wall (K1.out.next hB3 rfl)
  have HB3 := wall (below_then HB.out hB3 (Nat.le_refl _))
  have HP3 := wall (Parts.more (HP.out.below hB3) hB3.size)
  have HT3 := wall (HT1.out.old hB3)
  clear hB3 HN
  have HJ := wall (join_of J off n c ps w3 hn h0 h8 hc HP3.out HHB.out (by rw [HTT.out]; exact HMT.out))
  rw [HTT.out] at HJ
  go_wp2_with fail
  (with_reducible refine HJ.out.mono ?_); rintro e w5 ⟨A5, c5, rfl, hle5, hz5, hB5⟩
  have K5 := wall (K3.out.next hB5 rfl)
  have HB5 := wall (below_then HB3.out hB5 (Nat.le_refl _))
  have HT5 := wall (HT3.out.old hB5)
  have HF := wall (feed_any [] T A5 T.length c5 w5 HT5.out (fun _ h => by simp at h) rfl (by have := HMT.out; simp; omega) hle5 hz5)
  clear hB5 hz5 HJ
  go_wp2_with fail
  (with_reducible refine HF.out.mono ?_); rintro e w6 ⟨rfl, hB6⟩
  have K6 := wall (K5.out.next hB6 rfl)
  have HB6 := wall (below_then HB5.out hB6 (Nat.le_refl _))
  have HT6 := wall (HT5.out.old hB6)
  have HS := wall (sum_any T w6 HT6.out HBT.out HMT.out)
  rw [HRR.out] at HS
  clear hB6 HF
  simp only [List.nil_append]
  go_wp2_with fail
  (with_reducible refine HS.out.mono ?_); rintro e w7 ⟨rfl, hB7⟩
  have K7 := wall (K6.out.next hB7 rfl)
  have HB7 := wall (below_then HB6.out hB7 (Nat.le_refl _))
  clear hB7 HS
  go_wp2_with (refine wpList_store_row rfl 23 (.tmp 2) _ rfl w.heap.size (b8 r) rfl rfl 23 (b8 (List.replicate 32 0)) K7.out HSR.out HZR.out (b8_one _) ?_)
  have hb := setRow_heap _ _ _ (b8 r) _ _ K7.out
  have hB := below_setRow HB7.out (Nat.le_refl _) (b8 r)
  go_light
  exact bodyPost_ret (v := .agg (b8 r)) (results_cell_row Tryz.results74 _ _ w.heap.size 23 (b8 r) (0, 0) _ rfl hb Tryz.underlying23 rfl HSR.out) rfl ⟨by rw [HTT.out, HRR.out], hB⟩
end Sha
end Go.Proofs.YtmiaabpnolebhaaGreatDoor
