/-
  Contracts of package fuse, more: Set.
-/
import Derived.Test.YtmcpppgnfmopoaaProg
import Derived.Test.YtmcpppgnfmopoaaMem
import Derived.Test.YtmcpppgnfmopoaaFuseSet
import Derived.RegionTactic
import Derived.Deep.LoopGhost
namespace Go.Proofs.Ytmcpppgnfmopoaa
open Go.RowKit

namespace Fuse
variable {p b : Nat} {vs : List Nat} {ls : List Bool}

/-- A bit more. -/
def setBit (vs : List Nat) (i : Int) : List Nat := vs.set (i.toNat / 32) (vs[i.toNat / 32]?.getD 0 ||| 2 ^ (i.toNat % 32))
def setBits (vs : List Nat) (zs : List Int) : List Nat := zs.foldl setBit vs
theorem setBit_length (vs : List Nat) (i : Int) : (setBit vs i).length = vs.length := by simp [setBit]
theorem setBits_length (zs : List Int) : ∀ vs, (setBits vs zs).length = vs.length := by
  induction zs with
  | nil => intro vs; rfl
  | cons z zs ih => intro vs; show (setBits (setBit vs z) zs).length = _; rw [ih, setBit_length]
theorem setBits_take (vs : List Nat) (zs : List Int) (k : Nat) (z : Int) (hz : zs[k]? = some z) : setBits vs (zs.take (k + 1)) = setBit (setBits vs (zs.take k)) z := by
  obtain ⟨hk, rfl⟩ := List.getElem?_eq_some_iff.1 hz
  rw [setBits, List.take_succ_eq_append_getElem hk, List.foldl_append]
  rfl

def setE (n : Nat) (zs : List Int) : Int := if anyOut n zs = true then 9 else 0
def setV (vs : List Nat) (zs : List Int) : List Nat := if anyOut vs.length zs = true then vs else setBits vs zs

theorem pow_mod (k : Nat) (hk : k < 32) : (2 : Int) ^ k % 4294967296 = ((2 ^ k : Nat) : Int) := by
  have hp : (2 : Nat) ^ k < 2 ^ 32 := Nat.pow_lt_pow_right (by decide) hk
  have e : ((2 : Int) ^ k) = ((2 ^ k : Nat) : Int) := by simp
  rw [e]
  generalize 2 ^ k = x at *
  omega

set_option maxHeartbeats 1000000 in
theorem set_any (a : Option Addr) (len cap : Nat) (zs : List Int) (B : Nat) (w : World) (h : Fz w p b vs ls) (hz : Ints .i64 w B a zs) (hl : zs.length = len) (hm : len ≤ 9223372036854775807) (hB : ∀ ad, a = some ad → ad.block ≠ b) :
    Calls Try.prog 16 #[.pointer (some ⟨p, 0, none⟩), .slice a len cap] w fun e w' => e = .returned (.int .i64 (setE vs.length zs)) ∧ Fz w' p b (setV vs zs) ls ∧ Frm [b] w w' := by
  cases ho : anyOut vs.length zs with
  | true =>
    have e1 : setE vs.length zs = 9 := by simp [setE, ho]
    have e2 : setV vs zs = vs := by simp [setV, ho]
    rw [e1, e2]
    have HO := Lib.hid ho
    clear ho e1 e2
    go_enter Try.func16, Try.ntmps16
    go_wp2_with (go_at_call 32; (with_reducible refine (contains_any a len cap zs B _ h hz hl hm).mono ?_); rintro e w' ⟨rfl, rfl⟩; rw [HO.out])
    go_light
    go_ret
    exact ⟨rfl, h, Frm.refl _ _⟩
  | false =>
    have e1 : setE vs.length zs = 0 := by simp [setE, ho]
    have e2 : setV vs zs = setBits vs zs := by simp [setV, ho]
    rw [e1, e2]
    have HO := Lib.hid ho
    have HZ := Lib.hid hz
    have HL := Lib.hid hl
    have H := Lib.hid h
    clear ho e1 e2 hz hl h
    go_enter Try.func16, Try.ntmps16
    go_wp2_with (go_at_call 32; (with_reducible refine (contains_any a len cap zs B _ H.out HZ.out HL.out hm).mono ?_); rintro e w' ⟨rfl, rfl⟩; rw [HO.out])
    go_loopg [15] len (fun g s15 wr => ∃ i : Nat, i + g = len ∧ s15 = .int .i64 (i : Int) ∧ Fz wr p b (setBits vs (zs.take i)) ls ∧ Frm [b] w wr)
    case atStart => exact ⟨0, by omega, rfl, H.out, Frm.refl _ _⟩
    case round =>
      obtain ⟨i, hg, rfl, hF, hf⟩ := hrel
      have HG := Lib.hid hg
      have hig : i ≤ len := by omega
      have HFr := Lib.hid hf
      have HFz := Lib.hid hF
      clear hg hf
      by_cases hlt : i < len
      · have hlz : i < zs.length := by rw [HL.out]; exact hlt
        have hgz : zs[i]? = some zs[i] := List.getElem?_eq_getElem _
        obtain ⟨hx, bb, off, rfl, hbl, hcell⟩ := HZ.out i zs[i] hgz
        have hcell' : wr.cell? ⟨bb, off + i, none⟩ = some (.int .i64 zs[i]) := (World.cell?_of_block (HFr.out.block bb (cell_lt hcell) (by have := hB _ rfl; simpa using this))).trans hcell
        have hin : outB vs.length zs[i] = false := by
          have := HO.out
          unfold anyOut at this
          rw [List.any_eq_false] at this
          simpa using this zs[i] (List.getElem_mem hlz)
        have hin' : 0 ≤ zs[i] ∧ zs[i] < 32 * vs.length := by simpa [outB] using hin
        obtain ⟨hz0, hz1⟩ := hin'
        have htk := setBits_take vs zs i zs[i] hgz
        have HT := Lib.hid htk
        clear hgz hcell hin htk hx
        generalize zs[i] = z at *
        obtain ⟨z, rfl⟩ := Int.eq_ofNat_of_zero_le hz0
        generalize hcur : setBits vs (zs.take i) = cur at *
        have hlen : cur.length = vs.length := by rw [← hcur, setBits_length]
        have hk : z / 32 < cur.length := by omega
        obtain ⟨c, hc, hp⟩ := hF.cell0
        obtain ⟨hv, hfr⟩ := hF.cellv hk
        have hxx := hF.word _ _ (List.getElem?_eq_getElem hk)
        have hm4 := hF.most
        have hpw : (2 : Nat) ^ (z % 32) < 4294967296 := by
          have : (2 : Nat) ^ (z % 32) < 2 ^ 32 := Nat.pow_lt_pow_right (by decide) (by omega)
          omega
        have b3 := u32_or_nat cur[z / 32] (2 ^ (z % 32)) hxx hpw
        have hor : cur[z / 32] ||| 2 ^ (z % 32) < 4294967296 := Nat.or_lt_two_pow (n := 32) hxx hpw
        have hset := hF.set hk _ hor
        have hsb : setBit cur (z : Int) = cur.set (z / 32) (cur[z / 32] ||| 2 ^ (z % 32)) := by simp [setBit, hk]
        go_wp2_with fail
        go_region
        go_wp2_with fail
        go_light
        go_roundg (len - (i + 1))
        case measure => have := HG.out; omega
        case rel =>
          refine ⟨i + 1, by omega, by go_num, ?_, ?_⟩
          · have hpm := pow_mod (z % 32) (by omega)
            rw [← hpm] at b3
            rw [HT.out, hsb, b3]
            exact hset.frm ((Frm.refl [] _).drew) (by simp) (by simp)
          · exact HFr.out.trans (((Frm.refl _ _).setCell (.inl (by simp)) _).drew)
      · go_wp2_with fail
        go_light
        go_ret
        have : i = len := by omega
        subst this
        have e : zs.take i = zs := by rw [← HL.out]; exact List.take_length
        refine ⟨rfl, ?_, HFr.out⟩
        have := HFz.out
        rwa [e] at this
end Fuse
end Go.Proofs.Ytmcpppgnfmopoaa
