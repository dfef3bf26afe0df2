/-
  Package otp: Do.
-/
import Derived.Test.YtpakdcgcgekcfaaDoorProg
import Derived.Test.YtpakdcgcgekcfaaDoorMem
import Derived.Test.YtpakdcgcgekcfaaDoorOtpPlan
import Derived.RegionTactic
import Derived.BigRegion
import Derived.Deep.LoopGhost
import Derived.Deep.RegionWith
import Derived.Deep.CutRange
import Derived.Deep.CutBlock
import Derived.Deep.DeepCutAuto
namespace Go.Proofs.YtpakdcgcgekcfaaDoor
open Go.RowKit

namespace Otp
open Fuse
variable {w w' : World} {c p b : Nat} {vs : List Nat} {ls : List Bool} {sd : Bool}
/-- What Do answers, and leaves. -/
def doL (vs : List Nat) : List (Nat × Nat) → Int × List Nat
  | [] => (0, vs)
  | x :: r => if cutE vs x.1 x.2 = 0 then doL (cutV vs x.1 x.2 4294967295) r else (cutE vs x.1 x.2, vs)
theorem cutV_length (vs : List Nat) (i : Int) (v g : Nat) : (cutV vs i v g).length = vs.length := by
  unfold cutV; split <;> simp
theorem OwnW.at_ {w : World} {base : Nat} {v : Value} {l : List (Nat × Nat)} (h : OwnW w base v l) : ∃ A cp, v = .slice A l.length cp ∧ l.length ≤ cp ∧ cp ≤ maxLen ∧
    ∀ (i x y : Nat), l[i]? = some (x, y) → ∃ g, A = some ⟨g, 0, none⟩ ∧ base ≤ g ∧ g < w.heap.size ∧ w.cell? ⟨g, i * 2, none⟩ = some (.int .i64 (x : Int)) ∧ w.cell? ⟨g, i * 2 + 1, none⟩ = some (.int .u32 (y : Int)) := by
  have h' := h
  rcases h.2 with ⟨hv, hn⟩ | ⟨g, cap, cur, hv, hg, hh, hc, hm, hs, ht⟩
  · refine ⟨none, 0, by rw [hv, hn], by omega, by simp [maxLen], fun i x y hx => ?_⟩
    have := (List.getElem?_eq_some_iff.1 hx).1
    omega
  · refine ⟨_, cap, hv, hc, hm, fun i x y hx => ⟨g, rfl, hg, Blk.lt (w := w) (t := 58) (cs := cur) hh, ?_, ?_⟩⟩
    · subst hv
      have hi := (List.getElem?_eq_some_iff.1 hx).1
      have := World.ownsRow.cellAt h' (i * 2) (by omega)
      rw [this]
      exact (wcells_at l i x y hx).1
    · subst hv
      have hi := (List.getElem?_eq_some_iff.1 hx).1
      have := World.ownsRow.cellAt h' (i * 2 + 1) (by omega)
      rw [this]
      exact (wcells_at l i x y hx).2

def DoOut (w : World) (c p b : Nat) (ls : List Bool) (sd : Bool) (r : Int × List Nat) (e : Ending) (w' : World) : Prop := e = .returned (.int .i64 r.1) ∧ Cz w' c p b r.2 ls sd ∧ Frm [b] w w'

set_option maxHeartbeats 2000000 in
theorem do_any (v : Value) (B : Nat) (l : List (Nat × Nat)) (w : World) (h : Cz w c p b vs ls sd) (hO : OwnW w B v l) (hB : b < B) (hM : ∀ x ∈ l, x.2 < 4294967296) (hI : ∀ x ∈ l, x.1 < 64) :
    Calls Tryd.prog 18 #[.pointer (some ⟨c, 0, none⟩), v] w (DoOut w c p b ls sd (doL vs l)) := by
  obtain ⟨A, cp, rfl, hl1, hl2, -⟩ := hO.at_
  have H := Lib.hid h
  have HO := Lib.hid hO
  have HM := Lib.hid hM
  have HI := Lib.hid hI
  clear h hO hM hI
  simp only [maxLen] at hl2
  go_enter Tryd.func18, Tryd.ntmps18
  go_wp2_with fail
  go_loopg [12] l.length (fun g s12 wr => ∃ i : Nat, i + g = l.length ∧ s12 = .int .i64 (i : Int) ∧ ∃ cur, doL vs l = doL cur (l.drop i) ∧ Cz wr c p b cur ls sd ∧ Frm [b] w wr)
  case atStart => exact ⟨0, by omega, rfl, vs, rfl, H.out, Frm.refl _ _⟩
  case round =>
    obtain ⟨i, hg, rfl, cur, hd, hC, hF⟩ := hrel
    have HG := Lib.hid hg
    have hig : i ≤ l.length := by omega
    have HF := Lib.hid hF
    have HD := Lib.hid hd
    have HC := Lib.hid hC
    clear hg hC hF hd
    by_cases hlt : i < l.length
    · obtain ⟨⟨x, y⟩, hx⟩ : ∃ x, l[i]? = some x := ⟨_, List.getElem?_eq_getElem hlt⟩
      have hO1 : OwnW wr B (.slice A l.length cp) l := own_frm HO.out HF.out (fun z hz => by simp at hz; omega)
      obtain ⟨A', cp', hv, -, -, hat⟩ := hO1.at_
      simp only [Value.slice.injEq] at hv
      obtain ⟨rfl, -, -⟩ := hv
      obtain ⟨g0, rfl, hg0, hg1, hc0, hc1⟩ := hat i x y hx
      have hmem := List.mem_of_getElem? hx
      have hyM := HM.out _ hmem
      have hxI := HI.out _ hmem
      simp only at hyM hxI
      have hdr : l.drop i = (x, y) :: l.drop (i + 1) := by
        obtain ⟨h1, h2⟩ := List.getElem?_eq_some_iff.1 hx
        rw [List.drop_eq_getElem_cons h1, h2]
      have hd := HD.out
      rw [hdr, doL] at hd
      have HD2 := Lib.hid hd
      have hcc := HC.out.cell.1
      have hcl := HC.out.head.lt
      have HCa := Lib.hid (fun o => HC.out.alloc o)
      clear hd hdr hx hO1 hat hmem
      have HFa := Lib.hid (show Fz (wr.alloc (.cells #[.int .i64 (x : Int), .int .u32 (y : Int)] 58)) p b cur ls from (HCa.out _).fz)
      go_upto_region 6 with fail
      go_cut [7] (fun v w' => v = .int .i64 (cutE cur (x : Int) y) ∧ Fz w' p b (cutV cur (x : Int) y 4294967295) ls ∧ Frm [b] wr w')
      case first =>
        go_region_with (go_at_call 70; (with_reducible refine (program_any (x : Int) (y : Int) _ HFa.out.drew (by omega) (by omega)).mono ?_); rintro e w2 ⟨rfl, hz2, hf2⟩; rw [Int.toNat_natCast] at hz2 ⊢)
        all_goals go_wp2_with fail
        all_goals go_meet
        all_goals exact ⟨rfl, hz2, ((Frm.refl [b] wr).alloc _).drew.trans hf2⟩
      case rest =>
        obtain ⟨rfl, hz2, hf2⟩ := hcut
        obtain ⟨w2, rfl⟩ : ∃ wo : World, wo = wc := ⟨_, rfl⟩
        obtain ⟨n1, n2, n3⟩ := HC.out.nes
        have hc2 : Cz w2 c p b (cutV cur (x : Int) y 4294967295) ls sd := ⟨hz2, by rw [cutV_length]; exact HC.out.len, HC.out.head.frm hf2 (by simpa using n2)⟩
        have hf3 := HF.out.trans hf2
        have HC2 := Lib.hid hc2
        have HF3 := Lib.hid hf3
        have hd := HD2.out
        clear hz2 hf2 hc2 hf3
        by_cases h0 : cutE cur (x : Int) y = 0
        · rw [if_pos h0] at hd
          rw [h0]
          have HD3 := Lib.hid hd
          clear hd h0
          go_wp2_with fail
          go_light
          go_roundg (l.length - (i + 1))
          case measure => have := HG.out; omega
          case rel => exact ⟨i + 1, by omega, by go_num, _, HD3.out, HC2.out, HF3.out⟩
        · have hv : cutV cur (x : Int) y 4294967295 = cur := by simp [cutV, h0]
          rw [if_neg h0] at hd
          rw [hv] at HC2
          have HD3 := Lib.hid hd
          clear hd hv
          have hne : (cutE cur (x : Int) y != 0) = true := by simpa using h0
          generalize cutE cur (x : Int) y = ce at *
          go_wp2_with fail
          go_light
          go_ret
          show DoOut _ _ _ _ _ _ _ _ _
          rw [HD3.out]
          exact ⟨rfl, HC2.out, HF3.out⟩
    · have : i = l.length := by omega
      subst this
      have hd := HD.out
      rw [List.drop_length, doL] at hd
      have HD := Lib.hid hd
      clear hd
      go_wp2_with fail
      go_light
      go_ret
      show DoOut _ _ _ _ _ _ _ _ _
      rw [HD.out]
      exact ⟨rfl, HC.out, HF.out⟩
end Otp
end Go.Proofs.YtpakdcgcgekcfaaDoor
