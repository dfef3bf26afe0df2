/-
  Package otp: octets, Key, ID.
-/
import Derived.Test.YtpakdcgcgekcfaaDoorProg
import Derived.Test.YtpakdcgcgekcfaaDoorMem
import Derived.Test.YtpakdcgcgekcfaaDoorNext
import Derived.Test.YtpakdcgcgekcfaaDoorOtpOps
import Derived.Test.YtpakdcgcgekcfaaDoorOtpKey
import Derived.Test.YtpakdcgcgekcfaaDoorOtpAct
import Derived.Test.YtpakdcgcgekcfaaDoorR1Cut
import Derived.Test.YtpakdcgcgekcfaaDoorCopyB
import Derived.Deep.LoopGhost
import Derived.Deep.MidRow
import Derived.Laws.Rows
import Derived.Laws.CopyOwn
import Derived.Laws.ResultCell
namespace Go.Proofs.YtpakdcgcgekcfaaDoor
open Go.RowKit

namespace Otp
open Fuse R1
variable {w w' : World} {c p b : Nat} {vs : List Nat} {ls : List Bool} {sd : Bool}
theorem ownB_le {w : World} {B B' : Nat} {v : Value} {l : List Nat} (h : OwnB w B v l) (hB : B' ≤ B) : OwnB w B' v l := by
  refine ⟨h.1, ?_⟩
  rcases h.2 with h0 | ⟨g, cap, cur, hv, hg, rest⟩
  · exact .inl h0
  · exact .inr ⟨g, cap, cur, hv, Nat.le_trans hB hg, rest⟩
set_option maxRecDepth 100000 in
set_option maxHeartbeats 1000000 in
theorem octets_any (A : Option Addr) (len cap : Nat) (l : List Nat) (w : World) (B : Nat) (hl : l.length = len) (hm : len ≤ 64) (hB : B ≤ w.heap.size) (hz : Nats .u32 4294967296 w B A l) :
    Calls Tryd.prog 79 #[.slice A len cap] w (BytesOut w (wordsB l)) := by
  obtain ⟨i0, hi0, hz0, hz1, hz2⟩ := info_row u8_info
  have HI := Lib.hid hi0
  have HI1 := Lib.hid hz0
  have HI2 := Lib.hid hz1
  have HI3 := Lib.hid hz2
  have HN := Lib.hid (hz.more hB)
  subst hl
  clear hi0 hz0 hz1 hz2 hz hB
  go_enter Tryd.func79, Tryd.ntmps79
  go_wp2_with fail
  go_loopg [3, 5, 8] l.length (fun g s3 s5 s8 wr => ∃ i : Nat, i + g = l.length ∧ s8 = .int .i64 (i : Int) ∧ Hid (OwnB wr w.heap.size s3 (wordsB (l.take i))) ∧ Hid (Below w.heap.size w wr))
  case atStart => exact ⟨0, by omega, rfl, Lib.hid (World.ownsRow_nil _ _ _ _), Lib.hid (Below.refl _ _)⟩
  case round =>
    obtain ⟨i, hg, rfl, HO, HB⟩ := hrel
    have HG := Lib.hid hg
    have hi : i ≤ l.length := by omega
    clear hg
    by_cases hlt : i < l.length
    · obtain ⟨x, hx⟩ : ∃ x, l[i]? = some x := ⟨_, List.getElem?_eq_getElem hlt⟩
      obtain ⟨hxM, g0, off, rfl, hg0, hcx⟩ := (HN.out.below HB.out) i x hx
      have hwl := HB.out.size
      have HNF := Lib.hid (numB_four x hxM)
      have HLN := Lib.hid (show (wordsB (l.take i)).length = 4 * i by rw [wordsB_length, List.length_take]; omega)
      have HS := Lib.hid (show wordsB (l.take (i + 1)) = wordsB (l.take i) ++ numB x 4 by rw [take_snoc hx, wordsB_snoc])
      clear hx
      go_wp2_with (at_builtin; refine wpList_append_own _ rfl (.tmp 12) (.tmp 24) 53 rfl w.heap.size 5 i0 (.int .u8 0) 1 1 Tryd.underlying53 HI.out HI1.out HI2.out HI3.out rfl (by decide) _ _ _ rfl (HO.out.alloc _) ⟨wr.heap.size, 0, none⟩ 4 4 ((numB x 4).map fun y => Value.int .u8 ((y : Nat) : Int)) rfl (by simp [numB_length]) ?c1 ?c2 ?c3 ?c4 ?c5 ?_)
      case c1 => exact cells_new _ _ _ (by rw [HNF.out]) _
      case c2 => intro u hu; obtain ⟨y, _, rfl⟩ := List.mem_map.1 hu; rfl
      case c3 => rw [HLN.out]; simp only [maxLen]; omega
      case c4 => rw [HLN.out]; omega
      case c5 => simp; omega
      · intro v1 w3 hO1 hg1 _
        have HB3 := Lib.hid ((HB.out.alloc hwl (.cells #[.int .u8 ((x : Int) / 16777216), .int .u8 ((x : Int) / 65536 % 256), .int .u8 ((x : Int) / 256 % 256), .int .u8 ((x : Int) % 256)] 5)).grown hg1 (by simp; omega) (fun k hk => (World.ownsRow.lt HO.out k hk).1))
        have HO3 := Lib.hid hO1
        clear hO1 hg1
        go_wp2_with fail
        go_light
        go_roundg (l.length - (i + 1))
        case measure => have := HG.out; omega
        case rel =>
          refine ⟨i + 1, by have := HG.out; omega, by go_num, Lib.hid ?_, HB3⟩
          unfold OwnB
          rw [HS.out, List.map_append, List.length_append, numB_length]
          exact HO3.out
    · have : i = l.length := by omega
      subst this
      go_wp2_with fail
      go_light
      go_ret
      have := HO.out
      rw [List.take_length] at this
      exact ⟨_, rfl, this, HB.out⟩
/-- Some words of a chip's, from one on. -/
theorem own32_part {w : World} {B g n c : Nat} {l : List Nat} (h : Own32 w B (.slice (some ⟨g, 0, none⟩) n c) l) (hw : ∀ (i x : Nat), l[i]? = some x → x < 4294967296) (a k : Nat) : Nats .u32 4294967296 w w.heap.size (some ⟨g, a, none⟩) ((l.drop a).take k) := fun j x hx => by
  rw [List.getElem?_take] at hx
  split at hx
  · rw [List.getElem?_drop] at hx
    obtain ⟨g', hg', _, hgl, hc, _⟩ := h.at_ hx
    cases hg'
    exact ⟨hw _ _ hx, g, a, rfl, hgl, hc⟩
  · cases hx
def keyW (vs : List Nat) : List Nat := (vs.drop 9).take 14
def idW (vs : List Nat) : List Nat := (vs.drop 23).take 4
set_option maxHeartbeats 1000000 in
theorem key_any (w : World) (h : Cz w c p b vs ls sd) : Calls Tryd.prog 30 #[.pointer (some ⟨c, 0, none⟩)] w (BytesOut w (wordsB (keyW vs))) := by
  have H := Lib.hid h
  clear h
  go_enter Tryd.func30, Tryd.ntmps30
  go_wp2_with fail
  (with_reducible refine (all_any _ H.out).mono ?_); rintro e w2 ⟨v, rfl, hO, hB⟩
  obtain ⟨g1, c1, rfl, hc1, hm1⟩ := own32_some hO (by have := H.out.len; omega)
  have hvl : vs.length = 64 := H.out.len
  rw [hvl] at hc1 ⊢
  have HP := Lib.hid (own32_part hO H.out.fz.word 9 14)
  have HKL := Lib.hid (show (keyW vs).length = 14 by unfold keyW; rw [List.length_take, List.length_drop, hvl]; rfl)
  have HB := Lib.hid hB
  clear hO hB hvl hm1
  go_wp2_with fail
  (with_reducible refine (octets_any _ _ _ (keyW vs) _ _ HKL.out (by omega) (Nat.le_refl _) HP.out).mono ?_); rintro e w3 ⟨v, rfl, hO, hB⟩
  have HB2 := Lib.hid (below_then HB.out hB (Nat.le_refl _))
  have HO2 := Lib.hid (ownB_le hO HB.out.size)
  clear hO hB
  go_wp2_with fail
  go_light
  go_ret
  exact ⟨_, rfl, HO2.out, HB2.out⟩
theorem id_info : (Tryd.prog.info? 50).map (·.size) = some 16 := by kernel_rfl
set_option maxHeartbeats 1000000 in
theorem id_any (w : World) (h : Cz w c p b vs ls sd) : Calls Tryd.prog 28 #[.pointer (some ⟨c, 0, none⟩)] w (fun e w' => e = .returned (.agg (b8 (wordsB (idW vs)))) ∧ Below w.heap.size w w') := by
  have H := Lib.hid (h.alloc (.cells (b8 (List.replicate 16 0)) 50))
  have HW := Lib.hid h.fz.word
  have HL := Lib.hid h.len
  clear h
  go_enter Tryd.func28, Tryd.ntmps28
  go_wp2_with fail
  have HK := Lib.hid (show Blk (w.alloc (.cells (b8 (List.replicate 16 0)) 50)) w.heap.size 50 (b8 (List.replicate 16 0)) from Blk.new w _ _)
  have HB := Lib.hid ((Below.refl _ w).alloc (Nat.le_refl _) (.cells (b8 (List.replicate 16 0)) 50))
  have hs1 : w.heap.size < (w.alloc (.cells (b8 (List.replicate 16 0)) 50)).heap.size := by simp
  change Calls _ _ _ (w.alloc (.cells (b8 (List.replicate 16 0)) 50)) _
  generalize w.alloc (.cells (b8 (List.replicate 16 0)) 50) = w1 at *
  (with_reducible refine (all_any _ H.out).mono ?_); rintro e w2 ⟨v, rfl, hO, hB⟩
  obtain ⟨g1, c1, rfl, hc1, hm1⟩ := own32_some hO (by have := HL.out; omega)
  have hvl : vs.length = 64 := HL.out
  rw [hvl] at hc1 ⊢
  have HP := Lib.hid (own32_part hO HW.out 23 4)
  have HKL := Lib.hid (show (idW vs).length = 4 by unfold idW; rw [List.length_take, List.length_drop, hvl]; rfl)
  have HK2 := Lib.hid (HK.out.next hB rfl)
  have HB2 := Lib.hid (below_then HB.out hB (Nat.le_refl _))
  clear hO hB hvl hm1 HK HB
  go_wp2_with fail
  (with_reducible refine (octets_any _ _ _ (idW vs) _ _ HKL.out (by omega) (Nat.le_refl _) HP.out).mono ?_); rintro e w3 ⟨v, rfl, hO, hB⟩
  have hwl : (wordsB (idW vs)).length = 16 := by rw [wordsB_length, HKL.out]
  obtain ⟨g2, c2, rfl, hg2, hg2l⟩ := World.ownsRow.form hO (by rw [hwl]; omega)
  have HR : Hid (w3.rangeAt g2 0 ((wordsB (idW vs)).map fun x => Value.int .u8 ((x : Nat) : Int))) := Lib.hid (fun j u hu => by
    have := hO.cells (g := g2) rfl j u hu
    rw [Addr.add_mid] at this
    exact this)
  have HK3 := Lib.hid (HK2.out.next hB rfl)
  have HB3 := Lib.hid (below_then HB2.out hB (Nat.le_refl _))
  have hsa := fun W => run_arrayAt (P := Tryd.prog) (w := W) 50 5 16 (some ⟨g2, 0, none⟩) 16 c2 Tryd.underlying50 (Nat.le_refl _)
  have HSZ := Lib.hid (show (Tryd.prog.info? 50).map (·.size) = some ((wordsB (idW vs)).map fun x => Value.int .u8 ((x : Nat) : Int)).length by rw [List.length_map, hwl]; exact id_info)
  have HSZ' := Lib.hid (show (Tryd.prog.info? 50).map (·.size) = some (b8 (wordsB (idW vs))).size by rw [b8_size, hwl]; exact id_info)
  have HZ := Lib.hid (show (b8 (List.replicate 16 0)).size = (b8 (wordsB (idW vs))).size by rw [b8_size, b8_size, hwl]; rfl)
  have HO := Lib.hid (b8_one (wordsB (idW vs)))
  rw [hwl]
  clear hO hB HK2 HB2 hwl HP HKL
  go_wp2_with (first | refine wpList_load_mid rfl 50 _ rfl g2 0 rfl _ _ HR.out Tryd.underlying50 rfl HSZ.out ?_ | refine wpList_store_row rfl 50 (.tmp 2) _ rfl w.heap.size (b8 (wordsB (idW vs))) rfl rfl 50 (b8 (List.replicate 16 0)) HK3.out HSZ'.out HZ.out HO.out ?_)
  have hb := setRow_heap _ _ _ (b8 (wordsB (idW vs))) _ _ HK3.out
  have hB := below_setRow HB3.out (Nat.le_refl _) (b8 (wordsB (idW vs)))
  go_light
  exact bodyPost_ret (v := .agg (b8 (wordsB (idW vs)))) (results_cell_row Tryd.results28 _ _ w.heap.size 50 (b8 (wordsB (idW vs))) (0, 0) _ rfl hb Tryd.underlying50 rfl HSZ'.out) rfl ⟨rfl, hB⟩
end Otp
end Go.Proofs.YtpakdcgcgekcfaaDoor
