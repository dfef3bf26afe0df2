/-
  Contracts of package fuse, more: Of; a nil array.
-/
import Derived.Test.YtpakdcgcgekcfaaDoorProg
import Derived.Test.YtpakdcgcgekcfaaDoorMem
import Derived.Test.YtpakdcgcgekcfaaDoorFuseWords
import Derived.Deep.LoopGhost
namespace Go.Proofs.YtpakdcgcgekcfaaDoor
open Go.RowKit

namespace Fuse
def OfOut (w : World) (zs : List Nat) (e : Ending) (w' : World) : Prop :=
  ∃ p b, e = .returned (.tuple #[.pointer (some ⟨p, 0, none⟩), .int .i64 0]) ∧ Fz w' p b zs (List.replicate zs.length false) ∧ w.heap.size ≤ b ∧ w.heap.size ≤ p ∧ Below w.heap.size w w'

theorem set_zero (zs : List Nat) (i n x : Nat) (hi : i < n) (hn : zs.length = n) (hx : zs[i]? = some x) : (zs.take i ++ List.replicate (n - i) 0).set i x = zs.take (i + 1) ++ List.replicate (n - (i + 1)) 0 := by
  rw [take_snoc hx, List.set_append]
  have hlen : (zs.take i).length = i := by rw [List.length_take]; omega
  rw [hlen, if_neg (by omega), Nat.sub_self]
  have e : n - i = (n - (i + 1)) + 1 := by omega
  rw [e, List.replicate_succ]
  simp

set_option maxHeartbeats 1000000 in
theorem of_any (a : Option Addr) (n c : Nat) (zs : List Nat) (w : World) (hz : Nats .u32 4294967296 w w.heap.size a zs) (hl : zs.length = n) (hn : n ≤ 4096) :
    Calls Tryd.prog 74 #[.slice a n c] w (OfOut w zs) := by
  have HZ := Lib.hid hz
  have HL := Lib.hid hl
  clear hz hl
  go_enter Tryd.func74, Tryd.ntmps74
  go_wp2_with fail
  (with_reducible refine (new_any (n : Int) _ (by omega) (by omega)).mono ?_); rintro e w1 ⟨rfl, hf, hb, hs⟩
  simp only [Int.toNat_natCast] at hf
  have hpq : w.heap.size + 1 < w1.heap.size := by omega
  clear hs
  have HF := Lib.hid hf
  have HB := Lib.hid hb
  clear hf hb
  generalize hp : w.heap.size + 1 = p at *
  have hwp : w.heap.size ≤ p := by omega
  clear hp
  go_wp2_with fail
  go_loopg [19] n (fun g s19 wr => ∃ i : Nat, i + g = n ∧ s19 = .int .i64 (i : Int) ∧ Fz wr p w.heap.size (zs.take i ++ List.replicate (n - i) 0) (List.replicate n false) ∧ Frm [w.heap.size] w1 wr)
  case atStart => exact ⟨0, by omega, rfl, HF.out, Frm.refl _ _⟩
  case round =>
    obtain ⟨i, hg, rfl, hF, hFr⟩ := hrel
    have HG := Lib.hid hg
    have HFr := Lib.hid hFr
    have HFF := Lib.hid hF
    have hig : i ≤ n := by omega
    clear hg hFr
    by_cases hlt : i < n
    · obtain ⟨x, hx⟩ : ∃ x, zs[i]? = some x := ⟨_, List.getElem?_eq_getElem (by have := HL.out; omega)⟩
      obtain ⟨hx2, b, off, rfl, hbl, hcell⟩ := HZ.out i x hx
      have hcell' : wr.cell? ⟨b, off + i, none⟩ = some (.int .u32 (x : Int)) :=
        (World.cell?_of_block (a := ⟨b, off + i, none⟩) (HFr.out.block b (by omega) (by simp; omega))).trans ((HB.out.cell (p := ⟨b, off + i, none⟩) hbl).trans hcell)
      have hlen : (zs.take i ++ List.replicate (n - i) 0).length = n := by
        have := HL.out
        rw [List.length_append, List.length_take, List.length_replicate]; omega
      have hsz := set_zero zs i n x hlt HL.out hx
      have HSZ := Lib.hid hsz
      generalize hcur : zs.take i ++ List.replicate (n - i) 0 = cur at *
      have hk : i < cur.length := by omega
      obtain ⟨cc, hcc, hp0⟩ := hF.cell0
      have hfr := (hF.cellv hk).2
      obtain ⟨x0, l0, _, _, _, hv, _⟩ := hF.at_ hk
      have hset := Lib.hid (hF.set hk x hx2)
      have hm4 := hF.most
      rw [hlen] at hp0
      clear hcur hcell hx hF hsz hlen hk
      go_wp2_with fail
      go_light
      go_roundg (n - (i + 1))
      case measure => have := HG.out; omega
      case rel =>
        refine ⟨i + 1, by omega, by go_num, ?_, HFr.out.trans ((Frm.refl _ _).setCell (.inl (by simp)) _)⟩
        rw [← HSZ.out]
        exact hset.out
    · go_wp2_with fail
      go_light
      go_ret2
      have : i = n := by omega
      subst this
      have hzl := HL.out
      have e : zs.take i ++ List.replicate (i - i) 0 = zs := by rw [← hzl, List.take_length]; simp
      have h2 := HFF.out
      rw [e] at h2
      refine ⟨p, w.heap.size, rfl, by rw [hzl]; exact h2, Nat.le_refl _, hwp, Below.frm HB.out HFr.out (Nat.le_refl _) (by simp)⟩

set_option maxHeartbeats 400000 in
theorem of_bad (a : Option Addr) (n c : Nat) (w : World) (hn : 4096 < n) (hm : n ≤ 9223372036854775807) : Calls Tryd.prog 74 #[.slice a n c] w fun e w' => e = .returned (.tuple #[.pointer none, .int .i64 1]) ∧ w = w' := by
  go_enter Tryd.func74, Tryd.ntmps74
  go_wp2_with fail
  (with_reducible refine (new_bad (n : Int) _ (by omega)).mono ?_); rintro e w1 ⟨rfl, rfl⟩
  go_wp2_with fail
  go_light
  go_ret2
  exact ⟨rfl, rfl⟩

/-! A nil array. -/
end Fuse
end Go.Proofs.YtpakdcgcgekcfaaDoor
