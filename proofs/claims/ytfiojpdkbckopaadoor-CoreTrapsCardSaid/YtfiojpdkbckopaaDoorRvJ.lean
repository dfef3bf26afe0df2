/-
  Package rv: Code.
-/
import Derived.Test.YtfiojpdkbckopaaDoorRvI
import Derived.Test.YtfiojpdkbckopaaDoorJ7736a894
import Derived.Deep.DeepCutAuto
set_option linter.unusedSimpArgs false
set_option linter.unusedVariables false
namespace Go.Proofs.YtfiojpdkbckopaaDoor
open Go.RowKit Go.Maps

namespace Rv
open Otp Sha R1
def le4 (x : Nat) : List Nat := [x % 256, x / 256 % 256, x / 65536 % 256, x / 16777216 % 256]
theorem le4_lt (x : Nat) : ∀ y ∈ le4 x, y < 256 := by
  intro y hy
  simp only [le4, List.mem_cons, List.not_mem_nil, or_false] at hy
  rcases hy with rfl | rfl | rfl | rfl <;> omega
theorem le4_cells (z : Nat) : b8 (le4 z) = #[.int .u8 ((z : Int) % 256), .int .u8 ((z : Int) / 256 % 256), .int .u8 ((z : Int) / 65536 % 256), .int .u8 ((z : Int) / 16777216 % 256)] := by simp [b8, le4]
def codeL (qs : List In) : List Nat := qs.flatMap fun q => le4 (enc q).1
theorem codeL_snoc (qs : List In) (q : In) : codeL (qs ++ [q]) = codeL qs ++ le4 (enc q).1 := by simp [codeL]
theorem codeL_length : ∀ qs, (codeL qs).length = 4 * qs.length
  | [] => rfl
  | q :: qs => by
    show (le4 (enc q).1 ++ codeL qs).length = _
    rw [List.length_append, codeL_length qs, List.length_cons]
    show 4 + _ = _
    omega
theorem codeL_lt (qs : List In) : ∀ y ∈ codeL qs, y < 256 := fun y hy => by
  obtain ⟨q, _, h⟩ := List.mem_flatMap.1 hy
  exact le4_lt _ y h
/-- Instructions in a slice. -/
def InsIn (w : World) (B : Nat) (A : Option Addr) (qs : List In) : Prop := ∀ (i : Nat) (q : In), qs[i]? = some q → q.Ok ∧ ∃ b off, A = some ⟨b, off, none⟩ ∧ b < B ∧ w.rangeAt b (off + i * 6) (inC q).toList
theorem own_below {w w' : World} {B : Nat} {v : Value} {l : List Nat} (h : OwnB w B v l) (hb : Below w.heap.size w w') : OwnB w' B v l := own_frm h (Frm.of_below (S := []) hb) (fun x hx => by simp at hx)
set_option maxRecDepth 100000 in
set_option maxHeartbeats 4000000 in
theorem code_any (A : Option Addr) (len cap : Nat) (qs : List In) (w : World) (hl : qs.length = len) (hm : len ≤ 1000) (hq : InsIn w w.heap.size A qs) :
    Calls Tryd.prog 16 #[.slice A len cap] w (BytesOut w (codeL qs)) := by
  have HQ := wall hq
  have HL := wall (And.intro hl hm)
  clear hq hl hm
  go_enter Tryd.func16, Tryd.ntmps16
  go_wp2_with fail
  go_loopg [3, 10] len (fun g s3 sC wr => ∃ j : Nat, j + g = len ∧ sC = .int .i64 (j : Int) ∧ Wall (OwnB wr w.heap.size s3 (codeL (qs.take j))) ∧ Wall (Below w.heap.size w wr))
  case atStart => exact ⟨0, by omega, rfl, wall (World.ownsRow_nil _ _ _ _), wall (Below.refl _ _)⟩
  case round =>
    obtain ⟨j, hg, rfl, HO, HB⟩ := hrel
    have HG := wall hg
    have hj : j ≤ len := by omega
    clear hg
    by_cases hlt : j < len
    · have hlt' : (j : Int) < (len : Int) := by omega
      obtain ⟨q, hqj⟩ : ∃ q, qs[j]? = some q := ⟨_, List.getElem?_eq_getElem (by rw [HL.out.1]; exact hlt)⟩
      obtain ⟨hok, b, off, rfl, hbl, hrg⟩ := HQ.out j q hqj
      have HT := wall (show codeL (qs.take (j + 1)) = codeL (qs.take j) ++ le4 (enc q).1 by rw [take_snoc hqj, codeL_snoc])
      have HEN := wall (fun W => encode_any q hok W)
      have HRG := wall (show wr.rangeAt b (off + j * 6) (inC q).toList from range_below hrg hbl HB.out)
      have HX1 := wall (inC_one q)
      have HX2 := wall (show (Tryd.prog.info? 42).map (·.size) = some (inC q).size from in_info)
      have HX3 := wall (show (inC zIn).size = (inC q).size from rfl)
      have HNO := wall (enc_no q)
      obtain ⟨X, hX⟩ : ∃ y, inC q = y := ⟨_, rfl⟩
      obtain ⟨⟨z, ok⟩, hz⟩ : ∃ y, enc q = y := ⟨_, rfl⟩
      rw [hX] at HEN HRG HX1 HX2 HX3
      rw [hz] at HEN HNO HT
      clear hqj hok hrg hX hz
      go_upto_region 5 with (first | refine wpList_load_arr rfl 42 _ rfl b (off + j * 6) rfl X _ HRG.out Tryd.underlying42 rfl HX2.out ?_ | (refine wpList_new_row rfl 42 (.tmp 5) (.tmp 13) rfl wr.heap.size X rfl rfl 42 (inC zIn) (Blk.new _ _ _) HX2.out HX3.out HX1.out wr.heap.size wr ((Below.refl _ wr).alloc (Nat.le_refl _) _) (Nat.le_refl _) ?_; intro w3 K3 B3))
      have HK3 := wall K3.out
      have HO3 := wall (own_below HO.out B3.out)
      have HB3 := wall (below_then HB.out B3.out (Nat.le_refl _))
      clear K3 B3 HO HB HRG
      try simp only [Act.put, List.setIfInBounds_toArray, List.set_cons_zero, List.set_cons_succ]
      go_wp2_with (refine wpList_load_row rfl 42 _ rfl wr.heap.size rfl 42 X (0, 0) _ HK3.out Tryd.underlying42 rfl HX2.out ?_)
      (with_reducible refine (HEN.out _).mono ?_); rintro e w4 ⟨rfl, hB4⟩
      have HO4 := wall (own_below HO3.out hB4)
      have HB4 := wall (below_then HB3.out hB4 (Nat.le_refl _))
      clear hB4 HO3 HB3 HEN
      try simp only [Act.put, List.setIfInBounds_toArray, List.set_cons_zero, List.set_cons_succ]
      go_upto_if 20 with fail
      go_cut [6] (fun v w' => v = .int .u32 (z : Int) ∧ w4 = w')
      case first =>
        cases ok with
        | true =>
          go_wp2_with fail
          go_meet
          exact ⟨rfl, rfl⟩
        | false =>
          have HZ0 := wall (show z = 0 from HNO.out rfl)
          go_wp2_with fail
          go_meet
          exact ⟨by rw [HZ0.out]; rfl, rfl⟩
      case rest =>
        obtain ⟨rfl, rfl⟩ := hcut
        go_upto_region 9 with (refine wpList_append_bytes rfl _ _ rfl w.heap.size _ (codeL (qs.take j)) rfl (own_below HO4.out ((Below.refl _ _).alloc (Nat.le_refl _) _)) (some ⟨w4.heap.size, 0, none⟩) 4 4 (le4 z) rfl rfl ⟨_, nats_b8 (by rw [le4_cells]; exact Blk.new _ _ _) (le4_lt z)⟩ (fun h => by cases h) (by have := HL.out; rw [codeL_length, List.length_take]; omega) (Nat.le_trans HB4.out.size (by show _ ≤ (w4.heap.push _).size; rw [Array.size_push]; omega)) ?_; intro v5 w5 O5 B5)
        go_wp2_with fail
        go_light
        go_roundg (len - (j + 1))
        case measure => have := HG.out; omega
        case rel => exact ⟨j + 1, by have := HG.out; omega, congrArg (Value.int .i64) (by have := HL.out.2; unfold wrap64; omega), by rw [HT.out]; exact wall O5, wall ((HB4.out.alloc HB4.out.size _).trans B5)⟩
    · obtain rfl : j = len := by omega
      go_wp2_with fail
      go_light
      go_ret
      exact ⟨_, rfl, by have h := HO.out; rw [List.take_of_length_le (by rw [HL.out.1]; exact Nat.le_refl _)] at h; exact h, HB.out⟩
end Rv
end Go.Proofs.YtfiojpdkbckopaaDoor
