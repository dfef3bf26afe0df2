/-
  Texts of this claim, joined: OtpNum, ShaWord, WordsB, Idx.
-/
import Derived.Deep.RegionHeld3
import Derived.Deep.AppendLies
import Derived.Test.YtmiaabpnolebhaaGreatDoorJ9b13c2d0
import Derived.Laws.Rows
import Derived.Test.YtmiaabpnolebhaaGreatDoorJ1f7e5c9a
import Derived.Laws.PanicsMore
set_option linter.unusedSimpArgs false
set_option linter.unusedVariables false
/-
  Package otp: number: words of bytes.
-/
namespace Go.Proofs.YtmiaabpnolebhaaGreatDoor
open Go.RowKit

namespace Otp
open Fuse
theorem u32_be4 {a b c d : Nat} (ha : a < 256) (hb : b < 256) (hc : c < 256) (hd : d < 256) :
    bits .or .u32 (bits .or .u32 (bits .or .u32 ((a : Int) * 16777216) ((b : Int) * 65536)) ((c : Int) * 256)) (d : Int) = ((be4 a b c d : Nat) : Int) := by
  have e1 : bits .or .u32 ((a : Int) * 16777216) ((b : Int) * 65536) = (((a * 16777216 ||| b * 65536) : Nat) : Int) := by
    have := u32_or_nat (a * 16777216) (b * 65536) (by omega) (by omega)
    simpa using this
  have h1 : (a * 16777216 ||| b * 65536) < 4294967296 := Nat.or_lt_two_pow (n := 32) (by omega) (by omega)
  have e2 : bits .or .u32 (((a * 16777216 ||| b * 65536) : Nat) : Int) ((c : Int) * 256) = ((((a * 16777216 ||| b * 65536) ||| c * 256) : Nat) : Int) := by
    have := u32_or_nat (a * 16777216 ||| b * 65536) (c * 256) h1 (by omega)
    simpa using this
  have h2 : ((a * 16777216 ||| b * 65536) ||| c * 256) < 4294967296 := Nat.or_lt_two_pow (n := 32) h1 (by omega)
  rw [e1, e2, u32_or_nat _ _ h2 (by omega), be4_or hb hc hd]
/-- The rest of a slice behind its first four elements. -/
theorem nats_four {w : World} {B : Nat} {g off : Nat} {l : List Nat} (h : Nats .u8 256 w B (some ⟨g, off, none⟩) l) : Nats .u8 256 w B (some ⟨g, off + 4, none⟩) (l.drop 4) := fun i z hz => by
  rw [List.getElem?_drop] at hz
  obtain ⟨h1, b, o, h2, h3, h4⟩ := h _ _ hz
  cases h2
  exact ⟨h1, _, _, rfl, h3, by rw [← h4]; congr 2; omega⟩
theorem own_far {w : World} {base g : Nat} {v : Value} {l : List Nat} (h : Own32 w base v l) (hg : g < base) {o : Nat} : some (⟨g, o, none⟩ : Addr).block ≠ v.ownBlock := fun e => by
  have := (World.ownsRow.lt h g e.symm).1
  omega
theorem num_len {k i n c L : Nat} (h : k = i) (h2 : n + 4 * i ≤ L) (h3 : c ≤ maxLen) (h4 : L ≤ c) : k + 1 ≤ maxLen := by
  have : maxLen = 9223372036854775807 := rfl
  omega
theorem num_bytes {k i n L : Nat} (h : k = i) (h2 : n + 4 * i ≤ L) (h3 : L ≤ 1000000000) : (k + 1) * 4 ≤ 140737488355328 := by omega
set_option maxRecDepth 100000 in
set_option maxHeartbeats 4000000 in
theorem number_any (A : Option Addr) (len cap : Nat) (l : List Nat) (w : World) (hl : l.length = len) (hlc : len ≤ cap) (hcm : cap ≤ maxLen) (hlm : l.length ≤ 1000000000) (hz : Nats .u8 256 w w.heap.size A l) :
    Calls Tryz.prog 145 #[.slice A len cap] w (WordsOut w (words4 l)) := by
  obtain ⟨i0, hi0, hz0, hz1, hz2⟩ := info_row u32_info
  have HI := Lib.hid hi0
  have HI1 := Lib.hid hz0
  have HI2 := Lib.hid hz1
  have HI3 := Lib.hid hz2
  have HZ := Lib.hid hz
  subst hl
  have HCM := Lib.hid hcm
  have HLM := Lib.hid hlm
  clear hcm hlm
  clear hi0 hz0 hz1 hz2 hz
  go_enter Tryz.func145, Tryz.ntmps145
  go_wp2_with fail
  go_loopg [0, 3] (l.length / 4) (fun g s0 s3 wr => ∃ (i n c : Nat) (a : Option Addr), i + g = l.length / 4 ∧ n + 4 * i = l.length ∧ n ≤ c ∧ Hid (c ≤ maxLen) ∧ s0 = .slice a n c ∧ Hid (Nats .u8 256 w w.heap.size a (l.drop (4 * i))) ∧ Own32 wr w.heap.size s3 (words4 (l.take (4 * i))) ∧ Below w.heap.size w wr)
  case atStart => exact ⟨0, l.length, cap, A, by omega, by omega, hlc, HCM, rfl, HZ, World.ownsRow_nil _ _ _ _, Below.refl _ _⟩
  case round =>
    obtain ⟨i, n, c, a, hg, hn, hnc, HC, rfl, HZ2, hO, hB⟩ := hrel
    have HG := Lib.hid hg
    have HN := Lib.hid hn
    have hig : n + 4 * i ≤ l.length := by omega
    have HB := Lib.hid hB
    have HO := Lib.hid hO
    have hwl : w.heap.size ≤ wr.heap.size := hB.size
    clear hg hB hO hn
    by_cases hlt : 4 ≤ n
    · have hln : (l.drop (4 * i)).length = n := by rw [List.length_drop]; have := HN.out; omega
      have hg4 : ∀ j, j < 4 → ∃ x, (l.drop (4 * i))[j]? = some x := fun j hj => ⟨_, List.getElem?_eq_getElem (by omega)⟩
      obtain ⟨x0, h0⟩ := hg4 0 (by omega)
      obtain ⟨x1, h1⟩ := hg4 1 (by omega)
      obtain ⟨x2, h2⟩ := hg4 2 (by omega)
      obtain ⟨x3, h3⟩ := hg4 3 (by omega)
      have HZ3 := HZ2.out.below HB.out
      obtain ⟨b0, g0, off, rfl, hg0, hc0⟩ := HZ3 0 x0 h0
      obtain ⟨b1, g1, off1, ha1, -, hc1⟩ := HZ3 1 x1 h1
      cases ha1
      obtain ⟨b2, g1, off1, ha1, -, hc2⟩ := HZ3 2 x2 h2
      cases ha1
      obtain ⟨b3, g1, off1, ha1, -, hc3⟩ := HZ3 3 x3 h3
      cases ha1
      rw [Nat.add_zero] at hc0
      have HT := Lib.hid (words4_take_snoc l i x0 x1 x2 x3 (by rw [List.getElem?_drop] at h0; exact h0) (by rw [List.getElem?_drop] at h1; exact h1) (by rw [List.getElem?_drop] at h2; exact h2) (by rw [List.getElem?_drop] at h3; exact h3))
      have hor := u32_be4 b0 b1 b2 b3
      have hbe := be4_lt b0 b1 b2 b3
      have HH := Lib.hid hln
      have hn4 : (4 : Int) ≤ (n : Int) := by omega
      have hn1 : (0 : Int) < (n : Int) := by omega
      have hn2 : (1 : Int) < (n : Int) := by omega
      have hn3 : (2 : Int) < (n : Int) := by omega
      have hn5 : (3 : Int) < (n : Int) := by omega
      have hm1 : 0 < n := by omega
      have hm2 : 1 < n := by omega
      have hm3 : 2 < n := by omega
      have hm4 : 3 < n := by omega
      clear hln hg4 h0 h1 h2 h3 HZ3 hlt
      go_wp2_with fail
      have k0 : IntKind.u32.wrap (x0 : Int) = x0 := IntWalk.u32_in _ (by omega)
      have k1 : IntKind.u32.wrap (x1 : Int) = x1 := IntWalk.u32_in _ (by omega)
      have k2 : IntKind.u32.wrap (x2 : Int) = x2 := IntWalk.u32_in _ (by omega)
      have k3 : IntKind.u32.wrap (x3 : Int) = x3 := IntWalk.u32_in _ (by omega)
      have k4 : IntKind.u32.wrap ((x0 : Int) * 16777216) = (x0 : Int) * 16777216 := IntWalk.u32_in _ (by omega)
      have k5 : IntKind.u32.wrap ((x1 : Int) * 65536) = (x1 : Int) * 65536 := IntWalk.u32_in _ (by omega)
      have k6 : IntKind.u32.wrap ((x2 : Int) * 256) = (x2 : Int) * 256 := IntWalk.u32_in _ (by omega)
      have hlen : (words4 (l.take (4 * i))).length = i := by rw [words4_length, List.length_take]; have := HN.out; omega
      have HL := Lib.hid hlen
      generalize be4 x0 x1 x2 x3 = y at *
      clear hlen
      go_region_held3 (fun w' => w'.cell? ⟨g0, off, none⟩ = some (.int .u8 (x0 : Int)) ∧ w'.cell? ⟨g0, off + 1, none⟩ = some (.int .u8 (x1 : Int)) ∧ w'.cell? ⟨g0, off + 2, none⟩ = some (.int .u8 (x2 : Int)) ∧ w'.cell? ⟨g0, off + 3, none⟩ = some (.int .u8 (x3 : Int)))
        (first
          | go_keep
          | (go_split_ands
             refine ⟨?_, ?_, ?_, ?_⟩
             · (rw [hgrow.cell_far _ (by simp; omega) (own_far HO.out hg0)]; assumption)
             · (rw [hgrow.cell_far _ (by simp; omega) (own_far HO.out hg0)]; assumption)
             · (rw [hgrow.cell_far _ (by simp; omega) (own_far HO.out hg0)]; assumption)
             · (rw [hgrow.cell_far _ (by simp; omega) (own_far HO.out hg0)]; assumption)))
        ((refine step_append_lies _ (by rfl) _ _ _ (by rfl) w.heap.size 52 i0 _ 1 4 Tryz.underlying55 HI.out HI1.out HI2.out HI3.out rfl (by omega) _ _ _ (by rfl) ((HO.out.alloc _).drew)
            ⟨wr.heap.size, 0, none⟩ 1 1 [.int .u32 (y : Int)] (by rfl) (by rfl) (World.news_of_block (cs := #[.int .u32 (y : Int)]) (t := 52) (fr := (0, 0)) (heap_alloc_new wr _)) (by simp [Value.oneCell'])
            (by omega) (num_len HL.out hig HCM.out hlc) (num_bytes HL.out hig HLM.out) (by simp; omega) (wr.heap.size + 1) (by simp) ?_; intro gg cap1 w1 hown1 hgrow hat hlt1))
      have hB1 := ((HB.out.alloc HB.out.size (.cells #[.int .u32 (y : Int)] 52)).drew).grown hgrow (by simp; omega) (fun k hk => (World.ownsRow.lt HO.out k hk).1)
      have h2 : Own32 w1 w.heap.size (.slice (some ⟨gg, 0, none⟩) ((words4 (l.take (4 * i))).length + 1) cap1) (words4 (l.take (4 * (i + 1)))) := by
        unfold Own32
        rw [HT.out, List.length_append, List.map_append]
        exact hown1
      have HO1 := Lib.hid h2
      have HB1 := Lib.hid hB1
      have HD := Lib.hid (show (l.drop (4 * i)).drop 4 = l.drop (4 * (i + 1)) by rw [List.drop_drop]; congr 1)
      generalize Value.slice (some ⟨gg, 0, none⟩) ((words4 (l.take (4 * i))).length + 1) cap1 = v3 at *
      clear k0 k1 k2 k3 k4 k5 k6 hor hown1 hgrow hat hB1 h2
      by_cases hc4 : c = 4
      · have HE := Lib.hid (show Nats .u8 256 w w.heap.size (some ⟨g0, off, none⟩) (l.drop (4 * (i + 1))) by
          have : l.drop (4 * (i + 1)) = [] := List.drop_eq_nil_of_le (by have := HN.out; omega)
          rw [this]
          intro j z hz
          simp at hz)
        subst hc4
        have hn44 : n = 4 := by omega
        subst hn44
        go_wp2_with fail
        go_light
        go_roundg (l.length / 4 - (i + 1))
        case measure => have := HG.out; omega
        case rel => exact ⟨i + 1, 0, 0, some ⟨g0, off, none⟩, by omega, by have := HN.out; omega, by omega, Lib.hid (by simp [maxLen]), rfl, HE, HO1.out, HB1.out⟩
      · have HE := Lib.hid (show Nats .u8 256 w w.heap.size (some ⟨g0, off + 4, none⟩) (l.drop (4 * (i + 1))) by
          have := nats_four HZ2.out
          rw [HD.out] at this
          exact this)
        have hc5 : 4 < c := by omega
        clear hc4
        go_wp2_with fail
        go_light
        go_roundg (l.length / 4 - (i + 1))
        case measure => have := HG.out; omega
        case rel => exact ⟨i + 1, n - 4, c - 4, some ⟨g0, off + 4, none⟩, by omega, by have := HN.out; omega, by omega, Lib.hid (by have := HC.out; omega), rfl, HE, HO1.out, HB1.out⟩
    · have HI9 := Lib.hid (show i = l.length / 4 by have := HN.out; omega)
      have hlt2 : (n : Int) < 4 := by omega
      clear hlt
      go_wp2_with fail
      go_light
      go_ret
      have e : words4 (l.take (4 * i)) = words4 l := by
        have hs := words4_four (l.take (4 * i)) (l.drop (4 * i)) i (by rw [List.length_take]; have := HN.out; omega)
        rw [List.take_append_drop] at hs
        have h0 : (words4 (l.drop (4 * i))).length = 0 := by rw [words4_length, List.length_drop]; have := HN.out; omega
        rw [hs, List.eq_nil_of_length_eq_zero h0, List.append_nil]
      have h2 := HO.out
      rw [e] at h2
      exact ⟨_, rfl, h2, HB.out⟩
end Otp
end Go.Proofs.YtmiaabpnolebhaaGreatDoor

/-
  sha.word, sha.Words: bytes as words.
-/
namespace Go.Proofs.YtmiaabpnolebhaaGreatDoor
open Go.RowKit

namespace Otp
open Fuse
set_option maxHeartbeats 1000000 in
theorem word_any (g off : Nat) (cap : Nat) (a b c d : Nat) (w : World) (ha : a < 256) (hb : b < 256) (hc : c < 256) (hd : d < 256)
    (h0 : w.cell? ⟨g, off, none⟩ = some (.int .u8 (a : Int))) (h1 : w.cell? ⟨g, off + 1, none⟩ = some (.int .u8 (b : Int))) (h2 : w.cell? ⟨g, off + 2, none⟩ = some (.int .u8 (c : Int))) (h3 : w.cell? ⟨g, off + 3, none⟩ = some (.int .u8 (d : Int))) :
    Calls Tryz.prog 278 #[.slice (some ⟨g, off, none⟩) 4 cap] w fun e w' => e = .returned (.int .u32 ((be4 a b c d : Nat) : Int)) ∧ ∃ n, w' = w.drewN n := by
  have HO := Lib.hid (u32_be4 ha hb hc hd)
  go_enter Tryz.func278, Tryz.ntmps278
  go_wp2_with fail
  go_quiet (fail)
  go_wp2_with fail
  go_light
  go_ret
  exact ⟨by rw [← HO.out]; rfl, _, rfl⟩
def WordsArr (w : World) (l : List Nat) (e : Ending) (w' : World) : Prop := e = .returned (.agg (c32 l)) ∧ Below w.heap.size w w'
theorem eight {l : List Nat} (h : l.length = 8) : ∃ a b c d e f g k, l = [a, b, c, d, e, f, g, k] := by
  match l, h with
  | [a, b, c, d, e, f, g, k], _ => exact ⟨a, b, c, d, e, f, g, k, rfl⟩
end Otp
end Go.Proofs.YtmiaabpnolebhaaGreatDoor

/-
  Words as bytes: plain.
-/
namespace Go.Proofs.YtmiaabpnolebhaaGreatDoor
open Go.RowKit

namespace Otp
open R1
/-- The bytes of words. -/
def wordsB (l : List Nat) : List Nat := l.flatMap fun x => numB x 4
theorem wordsB_length : ∀ l : List Nat, (wordsB l).length = 4 * l.length
  | [] => rfl
  | x :: l => by
    have := wordsB_length l
    simp only [wordsB, List.flatMap_cons, List.length_append, numB_length, List.length_cons] at this ⊢
    omega
theorem wordsB_snoc (l : List Nat) (x : Nat) : wordsB (l ++ [x]) = wordsB l ++ numB x 4 := by simp [wordsB]
end Otp
end Go.Proofs.YtmiaabpnolebhaaGreatDoor

/-
  An element of an array by value. No program in sight.
-/
namespace Go.Proofs.YtmiaabpnolebhaaGreatDoor
open Go.RowKit

theorem run_index_arr {P : Program} (t e : TypeId) (N : Nat) (ht : P.underlying t = some (.array N e)) (hs : ∀ w, (sizeOf e).run P w = .ok 1 w) (ha : ∀ w, (isAgg e).run P w = .ok false w) (cs : Array Value) (kl : IntKind) (l : Int) (j : Nat) (hj : l = j) (hlt : j < N) (v : Value) (hv : cs[j]? = some v) (w : World) :
    (Instr.index t (.agg cs) (.int kl l)).run P w = .ok v w := by
  subst hj
  have h1 : (0 : Int) ≤ (j : Int) ∧ (j : Int) < (N : Int) := by omega
  simp [Instr.index, run_underlying ht, asIntOf, h1, go_sem, hs, hv, hlt, ha]
end Go.Proofs.YtmiaabpnolebhaaGreatDoor
