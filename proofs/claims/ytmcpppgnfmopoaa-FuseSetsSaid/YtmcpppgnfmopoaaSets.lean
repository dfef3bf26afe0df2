/-
  FuseSets, walked.
-/
import Derived.Test.YtmcpppgnfmopoaaProg
import Derived.Test.YtmcpppgnfmopoaaMem
import Derived.Test.YtmcpppgnfmopoaaFuseAwake
import Derived.Test.YtmcpppgnfmopoaaFuseSame
import Derived.Test.YtmcpppgnfmopoaaFuseWords
import Derived.Test.YtmcpppgnfmopoaaBitsLaw
import Derived.Deep.CutRange
import Derived.Deep.CutBlock
import Derived.Deep.DeepCutAuto
import Derived.Deep.LoopGhost
import Derived.Deep.QuietTactic
import Derived.BigQuiet
namespace Go.Proofs.Ytmcpppgnfmopoaa
open Go.RowKit

namespace Fuse
def z5 : List Nat := [0, 0, 0, 0, 0]
def bitsOf (l : List Nat) (i : Nat) : List Int := (l.take (min i 30)).map fun x => ((x % 160 : Nat) : Int)
def cells32 (vs : List Nat) : Array Value := (vs.map fun x => Value.int .u32 ((x : Nat) : Int)).toArray
theorem bitsOf_range (l : List Nat) (i : Nat) : ∀ z ∈ bitsOf l i, 0 ≤ z ∧ z < 32 * (5 : Nat) := by
  intro z hz
  simp only [bitsOf, List.mem_map] at hz
  obtain ⟨x, _, rfl⟩ := hz
  have := Nat.mod_lt x (show 0 < 160 by omega)
  omega
theorem bitsOf_length (l : List Nat) (i : Nat) : (bitsOf l i).length ≤ 30 := by
  simp only [bitsOf, List.length_map, List.length_take]
  omega
theorem bitsOf_more (l : List Nat) (i x : Nat) (hi : i < 30) (hx : l[i]? = some x) : bitsOf l (i + 1) = bitsOf l i ++ [((x % 160 : Nat) : Int)] := by
  unfold bitsOf
  rw [Nat.min_eq_left (by omega : i + 1 ≤ 30), Nat.min_eq_left (by omega : i ≤ 30), take_snoc hx]
  simp
theorem bitsOf_same (l : List Nat) (i : Nat) (hi : 30 ≤ i) : bitsOf l (i + 1) = bitsOf l i := by
  unfold bitsOf
  rw [Nat.min_eq_right (by omega), Nat.min_eq_right (by omega)]
theorem word_setBit {vs : List Nat} (h : ∀ (i x : Nat), vs[i]? = some x → x < 4294967296) (z : Int) : ∀ (i x : Nat), (setBit vs z)[i]? = some x → x < 4294967296 := by
  intro i x hx
  unfold setBit at hx
  rw [List.getElem?_set] at hx
  split at hx
  · split at hx
    · rename_i hl
      cases hx
      rw [List.getElem?_eq_getElem hl]
      have hpw : (2 : Nat) ^ (z.toNat % 32) < 2 ^ 32 := Nat.pow_lt_pow_right (by decide) (by omega)
      exact Nat.or_lt_two_pow (n := 32) (h _ _ (List.getElem?_eq_getElem hl)) hpw
    · cases hx
  · exact h i x hx
theorem word_setBits : ∀ (zs : List Int) {vs : List Nat}, (∀ (i x : Nat), vs[i]? = some x → x < 4294967296) → ∀ (i x : Nat), (setBits vs zs)[i]? = some x → x < 4294967296
  | [], _, h => h
  | z :: zs, _, h => word_setBits zs (word_setBit h z)
theorem z5_word : ∀ (i x : Nat), z5[i]? = some x → x < 4294967296 := by
  intro i x h
  have : x ∈ z5 := List.mem_of_getElem? h
  simp [z5] at this
  omega
theorem int_info : (Try.prog.info? 3).map (fun i => (i.zero, i.size, i.bytes)) = some (some (.int .i64 0), 1, 8) := by kernel_rfl

theorem bit_int (y k : Nat) : ((y : Int) / 2 ^ k).tmod 2 = ((y / 2 ^ k % 2 : Nat) : Int) := by
  have e : ((2 : Int) ^ k) = ((2 ^ k : Nat) : Int) := by simp
  rw [e]
  generalize 2 ^ k = p
  rw [← Int.natCast_ediv, Int.tmod_eq_emod_of_nonneg (Int.natCast_nonneg _)]
  omega
theorem way_add {cur : List Nat} {x y : Nat} (hy : cur[x % 160 / 32]? = some y) (h : (((y : Int) / 2 ^ (x % 32)).tmod 2 == 0) = true) : setBit cur ((x % 160 : Nat) : Int) = cur.set (x % 160 / 32) (y + 2 ^ (x % 32)) := by
  obtain ⟨hl, rfl⟩ := List.getElem?_eq_some_iff.1 hy
  have hm : x % 160 % 32 = x % 32 := by omega
  rw [bit_int, beq_iff_eq] at h
  rw [setBit_add hl (by rw [hm]; omega), hm]
theorem way_has {cur : List Nat} {x y : Nat} (hy : cur[x % 160 / 32]? = some y) (h : (((y : Int) / 2 ^ (x % 32)).tmod 2 == 0) = false) : setBit cur ((x % 160 : Nat) : Int) = cur := by
  obtain ⟨hl, rfl⟩ := List.getElem?_eq_some_iff.1 hy
  have hm : x % 160 % 32 = x % 32 := by omega
  rw [bit_int, beq_eq_false_iff_ne] at h
  exact setBit_has hl (by rw [hm]; omega)

theorem add_val {x y : Nat} (hy : y < 4294967296) (h : (((y : Int) / 2 ^ (x % 32)).tmod 2 == 0) = true) : ((y : Int) + 2 ^ (x % 32)) % 4294967296 = ((y + 2 ^ (x % 32) : Nat) : Int) := by
  rw [bit_int, beq_iff_eq] at h
  have ho := or_add (x := y) (k := x % 32) (by omega)
  have hpw : (2 : Nat) ^ (x % 32) < 2 ^ 32 := Nat.pow_lt_pow_right (by decide) (by omega)
  have hlt : y ||| 2 ^ (x % 32) < 2 ^ 32 := Nat.or_lt_two_pow hy hpw
  rw [ho] at hlt
  have e : ((2 : Int) ^ (x % 32)) = ((2 ^ (x % 32) : Nat) : Int) := by simp
  rw [e]
  generalize 2 ^ (x % 32) = p at *
  omega
theorem cells32_set (vs : List Nat) (i y : Nat) : (cells32 vs).setIfInBounds i (.int .u32 (y : Int)) = cells32 (vs.set i y) := by
  simp [cells32, List.map_set]

theorem and_full (v : Nat) (hv : v < 4294967296) : v &&& 4294967295 = v := Nat.and_two_pow_sub_one_of_lt_two_pow (n := 32) hv
theorem program_zero {p b : Nat} {vs : List Nat} {ls : List Bool} (i v : Int) (k x : Nat) (w : World) (h : Fz w p b vs ls) (hk : vs[k]? = some 0) (hi : i = k) (hvx : v = x) (hv : x < 4294967296) :
    Calls Try.prog 15 #[.pointer (some ⟨p, 0, none⟩), .int .i64 i, .int .u32 v] w fun e w' => e = .returned (.int .i64 0) ∧ Fz w' p b (vs.set k x) ls ∧ Frm [b] w w' := by
  subst hi; subst hvx
  obtain ⟨hl, h0⟩ := List.getElem?_eq_some_iff.1 hk
  have hr : inR vs (k : Int) = true := by unfold inR; exact decide_eq_true (by omega)
  have he : cutE vs (k : Int) ((x : Int).toNat) = 0 := by simp [cutE, hr, hk]
  refine program_to (k : Int) (x : Int) w 0 _ h (by omega) (by omega) he ?_
  unfold cutV
  rw [if_pos he]
  simp [hk, and_full x hv]

def SetsLoop (w5 : World) (W : Nat) (l : List Nat) (i : Nat) (s10 : Value) (wr : World) : Prop :=
  wr.ownsRow w5.heap.size 3 1 s10 (bitsOf l i).length ((bitsOf l i).map (Value.int .i64)) ∧ Blk wr W 43 (cells32 (setBits z5 (bitsOf l i))) ∧ Frm [W] w5 wr

set_option maxHeartbeats 2000000 in
theorem sets_loop (a : Option Addr) (len cap : Nat) (l : List Nat) (more : Int) (w : World) (hl : l.length = len) (hm : len ≤ maxLen) (hz : Nats .u16 65536 w w.heap.size a l) (hmw : (Lit.int .i64 more).wf = true) :
    Calls Try.prog 5 #[.slice a len cap, .int .i64 more] w (TrueBelow w) := by
  obtain ⟨i0, hi0, hz0, hz1, hz2⟩ := info_row int_info
  have HI := Lib.hid hi0
  have HI1 := Lib.hid hz0
  have HI2 := Lib.hid hz1
  have HI3 := Lib.hid hz2
  unfold maxLen at hm
  have hm' : len ≤ 9223372036854775807 := by omega
  have HZ := Lib.hid hz
  have HL := Lib.hid hl
  have HMW := Lib.hid hmw
  clear hmw hz hl hm hi0 hz0 hz1 hz2
  go_enter Try.func5, Try.ntmps5
  go_wp2_with fail
  (with_reducible refine (awake_any _).mono ?_); rintro e w0 ⟨rfl, hb0⟩
  go_wp2_with fail
  (with_reducible refine (new_any 5 _ (by decide) (by decide)).mono ?_); rintro e w1 ⟨rfl, hfa, hb1, hs1⟩
  go_wp2_with fail
  (with_reducible refine (new_any 5 _ (by decide) (by decide)).mono ?_); rintro e w2 ⟨rfl, hfb, hb2, hs2⟩
  have hfa2 : Fz w2 (w0.heap.size + 1) w0.heap.size z5 [false, false, false, false, false] := hfa.below hb2 (by rw [hs1]; omega) (by rw [hs1]; omega)
  have hfb2 : Fz w2 (w1.heap.size + 1) w1.heap.size z5 [false, false, false, false, false] := hfb
  have hB2 := below_then (below_then hb0 hb1 (Nat.le_refl _)) hb2 (Nat.le_refl _)
  have hpa : w.heap.size ≤ w0.heap.size := hb0.size
  have hpb : w0.heap.size + 1 < w1.heap.size := by rw [hs1]; omega
  have hlb : w1.heap.size + 1 < w2.heap.size := by rw [hs2]; omega
  clear hfa hfb hb0 hb1 hb2 hs1 hs2
  generalize w0.heap.size = qa at *
  generalize w1.heap.size = qb at *
  go_upto_block 0 with fail
  have hW5 : Blk (w2.alloc (.cells #[.int .u32 0, .int .u32 0, .int .u32 0, .int .u32 0, .int .u32 0] 43)) w2.heap.size 43 (cells32 z5) := Blk.new w2 _ _
  have hfa5 := hfa2.frm ((Frm.refl [] w2).alloc (.cells #[.int .u32 0, .int .u32 0, .int .u32 0, .int .u32 0, .int .u32 0] 43)) (by simp) (by simp)
  have hfb5 := hfb2.frm ((Frm.refl [] w2).alloc (.cells #[.int .u32 0, .int .u32 0, .int .u32 0, .int .u32 0, .int .u32 0] 43)) (by simp) (by simp)
  have hB5 := hB2.alloc hB2.size (.cells #[.int .u32 0, .int .u32 0, .int .u32 0, .int .u32 0, .int .u32 0] 43)
  have hS5 : w2.heap.size < (w2.alloc (.cells #[.int .u32 0, .int .u32 0, .int .u32 0, .int .u32 0, .int .u32 0] 43)).heap.size := by simp
  clear hfa2 hfb2 hB2
  generalize hw5 : w2.alloc (.cells #[.int .u32 0, .int .u32 0, .int .u32 0, .int .u32 0, .int .u32 0] 43) = w5 at *
  clear hw5
  generalize w2.heap.size = W at *
  have HB5x : Hid (w.heap.size ≤ w5.heap.size) := by have := hB5.size; exact this
  have HW5 := Lib.hid hW5
  have HFA := Lib.hid hfa5
  have HFB := Lib.hid hfb5
  have HB5 := Lib.hid hB5
  clear hW5 hfa5 hfb5 hB5
  go_cut [10] (fun s10 w' => SetsLoop w5 W l len s10 w')
  case first =>
    go_wp2_with fail
    go_loopg [10, 30] len (fun g s10 s30 wr => ∃ i : Nat, i + g = len ∧ s30 = .int .i64 (i : Int) ∧ SetsLoop w5 W l i s10 wr)
    case atStart =>
      refine ⟨0, by omega, rfl, ?_, ?_, Frm.refl _ _⟩
      · simpa [bitsOf] using World.ownsRow_nil w5 w5.heap.size 3 1
      · simpa [bitsOf, setBits] using HW5.out
    case round =>
      obtain ⟨i, hg, rfl, hO, hK, hF⟩ := hrel
      have HG := Lib.hid hg
      have HO := Lib.hid hO
      have HK := Lib.hid hK
      have HF := Lib.hid hF
      have hwl : w5.heap.size ≤ wr.heap.size := hF.size
      have hig : i ≤ len := by omega
      clear hg hO hK hF
      by_cases hlt : i < len
      · obtain ⟨x, hx⟩ : ∃ x, l[i]? = some x := ⟨_, List.getElem?_eq_getElem (by have := HL.out; omega)⟩
        obtain ⟨hx2, b, off, rfl, hbl, hcell⟩ := HZ.out i x hx
        have hcell' : wr.cell? ⟨b, off + i, none⟩ = some (.int .u16 (x : Int)) := by
          have h5 := World.cell?_of_block (a := ⟨b, off + i, none⟩) (HB5.out.block b hbl)
          have h6 := World.cell?_of_block (a := ⟨b, off + i, none⟩) (HF.out.block b (by have := HB5.out.size; omega) (by simp; omega))
          exact h6.trans (h5.trans hcell)
        have HX := Lib.hid hx
        clear hx hcell
        by_cases h30 : (i : Int) < 30
        · have hk5 : x % 160 / 32 < (setBits z5 (bitsOf l i)).length := by rw [setBits_length]; simp only [z5, List.length_cons, List.length_nil]; omega
          have hcur : ∀ j : Nat, (cells32 (setBits z5 (bitsOf l i)))[j]? = ((setBits z5 (bitsOf l i))[j]?).map fun x => Value.int .u32 ((x : Nat) : Int) := fun j => by simp [cells32]
          have hwd := word_setBits (bitsOf l i) z5_word
          have hmore := bitsOf_more l i x (by omega) HX.out
          have hlen : (setBits z5 (bitsOf l i)).length = 5 := by rw [setBits_length]; rfl
          have hbl30 := bitsOf_length l i
          have HM := Lib.hid hmore
          clear hmore
          generalize hcu : setBits z5 (bitsOf l i) = cur at *
          have HCU := Lib.hid hcu
          clear hcu
          obtain ⟨y, hy⟩ : ∃ y, cur[x % 160 / 32]? = some y := ⟨_, List.getElem?_eq_getElem hk5⟩
          have hy2 := hwd _ _ hy
          have hcW : wr.cell? ⟨W, x % 160 / 32, none⟩ = some (.int .u32 (y : Int)) := by rw [HK.out.cell, hcur, hy]; rfl
          have hcWf : wr.frozen? ⟨W, x % 160 / 32, none⟩ = false := HK.out.frozen _
          have HY := Lib.hid hy
          have hWr : W < wr.heap.size := HK.out.lt
          have hk0 : ((x : Int) % 160) / 32 < 5 := by omega
          clear hy hcur hwd
          go_wp2_with (at_builtin; refine wpList_append_own _ rfl (.tmp 40) (.tmp 42) 44 rfl w5.heap.size 3 i0 (.int .i64 0) 1 8 Try.underlying44 HI.out HI1.out HI2.out HI3.out rfl (by decide) _ _ _ rfl (HO.out.alloc _) ⟨wr.heap.size, 0, none⟩ 1 1 [.int .i64 ((x : Int) % 160)] rfl rfl ?c1 ?c2 ?c3 ?c4 ?c5 ?_)
          case c1 =>
            have h1 := cell_one_new wr (.int .i64 ((x : Int) % 160)) 3
            simpa using h1
          case c2 => intro u hu; simp at hu; subst hu; rfl
          case c3 => simp only [maxLen]; omega
          case c4 => omega
          case c5 => simp; omega
          · intro v1 w1 hO1 hg1 _
            have hg2 : W < (wr.alloc (.cells #[.int .i64 ((x : Int) % 160)] 3)).heap.size := by simp; omega
            have hne : (some W : Option Nat) ≠ Value.ownBlock u10 := fun e => by have := (World.ownsRow.lt HO.out W e.symm).1; omega
            have hK1 : Blk w1 W 43 (cells32 cur) := (hg1.block W hg2 hne).trans (HK.out.alloc _)
            have hF1 : Frm [W] w5 w1 := Frm.grown (HF.out.alloc _) hg1 (fun k hk hk2 => by have := (World.ownsRow.lt HO.out k hk).1; omega)
            have hcW1 : w1.cell? ⟨W, x % 160 / 32, none⟩ = some (.int .u32 (y : Int)) := by rw [hK1.cell]; rw [HK.out.cell] at hcW; exact hcW
            have hcWf1 : w1.frozen? ⟨W, x % 160 / 32, none⟩ = false := hK1.frozen _
            have HO1 := Lib.hid hO1
            have HK1 := Lib.hid hK1
            have HF1 := Lib.hid hF1
            clear hO1 hK1 hF1 hg1 hg2 hne hcW hcWf hcell'
            go_wp2_with fail
            · have hadd := way_add HY.out (by assumption)
              have HA := Lib.hid hadd
              clear hadd
              go_region
              go_wp2_with fail
              go_light
              go_roundg (len - (i + 1))
              case measure => have := HG.out; omega
              case rel =>
                refine ⟨i + 1, by omega, by go_num, ?_, ?_, ?_⟩
                · rw [HM.out]
                  have h3 := ownsRow_setCell_below HO1.out (a := ⟨W, x % 160 / 32, none⟩) hS5 (.int .u32 (((y : Int) + 2 ^ (x % 32)) % 4294967296))
                  simpa using World.ownsRow.drew h3
                · rw [HM.out, setBits_snoc, HCU.out, HA.out, add_val hy2 (by assumption), ← cells32_set]
                  exact (HK1.out.set _ _).drew
                · exact ((HF1.out).setCell (.inl (by simp)) _).drew
            · have hhas := way_has HY.out (by assumption)
              have HA := Lib.hid hhas
              go_light
              go_roundg (len - (i + 1))
              case measure => have := HG.out; omega
              case rel =>
                refine ⟨i + 1, by omega, by go_num, ?_, ?_, HF1.out⟩
                · rw [HM.out]
                  simpa using HO1.out
                · rw [HM.out, setBits_snoc, HCU.out, HA.out]
                  exact HK1.out
        · go_wp2_with fail
          go_light
          go_roundg (len - (i + 1))
          case measure => have := HG.out; omega
          case rel =>
            have e := bitsOf_same l i (by omega)
            exact ⟨i + 1, by omega, by go_num, by rw [e]; exact HO.out, by rw [e]; exact HK.out, HF.out⟩
      · go_wp2_with fail
        go_meet
        have : i = len := by omega
        subst this
        exact ⟨HO.out, HK.out, HF.out⟩
  case rest =>
    obtain ⟨hO, hK, hF⟩ := hcut
    obtain ⟨wA, rfl⟩ : ∃ wA : World, wA = wc := ⟨_, rfl⟩
    have hzr := bitsOf_range l len
    have hzl := bitsOf_length l len
    have hzw : ∀ z ∈ bitsOf l len, (Lit.int .i64 z).wf = true := fun z hz => by have := hzr z hz; exact WalkArith.wf_i64 (by omega)
    have hSl : (setBits z5 (bitsOf l len)).length = 5 := by rw [setBits_length]; rfl
    have hSw := word_setBits (bitsOf l len) z5_word
    have hSt := setBits_twice z5 (bitsOf l len) (fun z hz => by have := hzr z hz; simp only [z5, List.length_cons, List.length_nil]; omega)
    have hAO := anyOut_false 5 (bitsOf l len) hzr
    have hASn := anyOut_snoc 5 (bitsOf l len) more hzr
    have hsv : setV z5 (bitsOf l len) = setBits z5 (bitsOf l len) := by simp only [setV, show z5.length = 5 from rfl, hAO]; rfl
    have hse : setE z5.length (bitsOf l len) = 0 := by simp only [setE, show z5.length = 5 from rfl, hAO]; rfl
    generalize bitsOf l len = zs at *
    generalize hS : setBits z5 zs = S at *
    have hfa := HFA.out.frm hF (by simp; omega) (by simp; omega)
    have hfb := HFB.out.frm hF (by simp; omega) (by simp; omega)
    have hB := Below.frm HB5.out hF (Nat.le_refl _) (by simp; omega)
    have hwc : w5.heap.size ≤ wA.heap.size := hF.size
    obtain ⟨_, A, c, rfl, hnc, hI, hAb⟩ := own_ints hO hzw
    have HK := Lib.hid hK
    have HI5 := Lib.hid hI
    have HO := Lib.hid hO
    have HFA1 := Lib.hid hfa
    have HFB1 := Lib.hid hfb
    have HB1 := Lib.hid hB
    have HS := Lib.hid hS
    have HSW := Lib.hid hSw
    have HST := Lib.hid hSt
    have HASN := Lib.hid hASn
    have HSV := Lib.hid hsv
    have HSE := Lib.hid hse
    have HZW := Lib.hid hzw
    have HZR := Lib.hid hzr
    have HF5 := Lib.hid hF
    clear hK hI hO hfa hfb hB hS hSw hSt hASn hsv hse hzw hzr hF hAO HFA HFB HB5
    go_wp2_with fail
    (with_reducible refine (set_any A zs.length c zs wA.heap.size _ HFA1.out HI5.out rfl (by omega) (fun ad h => by have := hAb ad h; omega)).mono ?_); rintro e w6 ⟨rfl, hfa6, hf6⟩
    rw [HSV.out] at hfa6
    rw [HSE.out]
    obtain ⟨s0, s1, s2, s3, s4, rfl⟩ : ∃ s0 s1 s2 s3 s4, S = [s0, s1, s2, s3, s4] := by
      match S, hSl with
      | [s0, s1, s2, s3, s4], _ => exact ⟨_, _, _, _, _, rfl⟩
    have hK6 := HK.out.frm hf6 (by simp; omega)
    have hk6 : ∀ i : Nat, w6.cell? ⟨W, i, none⟩ = (#[.int .u32 (s0 : Int), .int .u32 (s1 : Int), .int .u32 (s2 : Int), .int .u32 (s3 : Int), .int .u32 (s4 : Int)])[i]? := hK6.cell
    go_upto_block 2 with fail
    have i0 : ∀ w, (Instr.index 43 (.agg #[.int .u32 (s0 : Int), .int .u32 (s1 : Int), .int .u32 (s2 : Int), .int .u32 (s3 : Int), .int .u32 (s4 : Int)]) (.int .i64 0)).run Try.prog w = .ok (.int .u32 (s0 : Int)) w := fun _ => by kernel_rfl
    have i1 : ∀ w, (Instr.index 43 (.agg #[.int .u32 (s0 : Int), .int .u32 (s1 : Int), .int .u32 (s2 : Int), .int .u32 (s3 : Int), .int .u32 (s4 : Int)]) (.int .i64 1)).run Try.prog w = .ok (.int .u32 (s1 : Int)) w := fun _ => by kernel_rfl
    have i2 : ∀ w, (Instr.index 43 (.agg #[.int .u32 (s0 : Int), .int .u32 (s1 : Int), .int .u32 (s2 : Int), .int .u32 (s3 : Int), .int .u32 (s4 : Int)]) (.int .i64 2)).run Try.prog w = .ok (.int .u32 (s2 : Int)) w := fun _ => by kernel_rfl
    have i3 : ∀ w, (Instr.index 43 (.agg #[.int .u32 (s0 : Int), .int .u32 (s1 : Int), .int .u32 (s2 : Int), .int .u32 (s3 : Int), .int .u32 (s4 : Int)]) (.int .i64 3)).run Try.prog w = .ok (.int .u32 (s3 : Int)) w := fun _ => by kernel_rfl
    have i4 : ∀ w, (Instr.index 43 (.agg #[.int .u32 (s0 : Int), .int .u32 (s1 : Int), .int .u32 (s2 : Int), .int .u32 (s3 : Int), .int .u32 (s4 : Int)]) (.int .i64 4)).run Try.prog w = .ok (.int .u32 (s4 : Int)) w := fun _ => by kernel_rfl
    have hs0 := HSW.out 0 s0 rfl
    have hs1 := HSW.out 1 s1 rfl
    have hs2 := HSW.out 2 s2 rfl
    have hs3 := HSW.out 3 s3 rfl
    have hs4 := HSW.out 4 s4 rfl
    have hfb6 := HFB1.out.frm hf6 (by simp; omega) (by simp; omega)
    have HFB6 := Lib.hid hfb6
    have HFA6 := Lib.hid hfa6
    have HF6 := Lib.hid hf6
    clear hfb6 hfa6 hf6 hk6 hK6 hSl
    go_cut [] (fun w' => Fz w' (qb + 1) qb [s0, s1, s2, s3, s4] [false, false, false, false, false] ∧ Frm [qb] w6 w')
    case first =>
      go_wp2_with fail
      go_loopg [68] 5 (fun g s68 wr => ∃ i : Nat, i + g = 5 ∧ s68 = .int .i64 (i : Int) ∧ Fz wr (qb + 1) qb (([s0, s1, s2, s3, s4].take i) ++ List.replicate (5 - i) 0) [false, false, false, false, false] ∧ Frm [qb] w6 wr)
      case atStart => exact ⟨0, by omega, rfl, HFB6.out, Frm.refl _ _⟩
      case round =>
        obtain ⟨i, hg, rfl, hFb, hFr⟩ := hrel
        have hi5 : i = 0 ∨ i = 1 ∨ i = 2 ∨ i = 3 ∨ i = 4 ∨ i = 5 := by omega
        have HFR := Lib.hid hFr
        clear hFr
        rcases hi5 with rfl | rfl | rfl | rfl | rfl | rfl
        · have hFb' : Fz wr (qb + 1) qb [0, 0, 0, 0, 0] [false, false, false, false, false] := hFb
          clear hFb
          go_wp2_with fail
          (with_reducible refine (program_zero 0 s0 0 s0 _ hFb' (by simp) (by simp) (by simp) hs0).mono ?_); rintro e w7 ⟨rfl, hz7, hf7⟩
          go_wp2_with fail
          go_light
          go_roundg 4
          case measure => omega
          case rel => exact ⟨1, by omega, by rfl, hz7, HFR.out.trans hf7⟩
        · have hFb' : Fz wr (qb + 1) qb [s0, 0, 0, 0, 0] [false, false, false, false, false] := hFb
          clear hFb
          go_wp2_with fail
          (with_reducible refine (program_zero 1 s1 1 s1 _ hFb' (by simp) (by simp) (by simp) hs1).mono ?_); rintro e w7 ⟨rfl, hz7, hf7⟩
          go_wp2_with fail
          go_light
          go_roundg 3
          case measure => omega
          case rel => exact ⟨2, by omega, by rfl, hz7, HFR.out.trans hf7⟩
        · have hFb' : Fz wr (qb + 1) qb [s0, s1, 0, 0, 0] [false, false, false, false, false] := hFb
          clear hFb
          go_wp2_with fail
          (with_reducible refine (program_zero 2 s2 2 s2 _ hFb' (by simp) (by simp) (by simp) hs2).mono ?_); rintro e w7 ⟨rfl, hz7, hf7⟩
          go_wp2_with fail
          go_light
          go_roundg 2
          case measure => omega
          case rel => exact ⟨3, by omega, by rfl, hz7, HFR.out.trans hf7⟩
        · have hFb' : Fz wr (qb + 1) qb [s0, s1, s2, 0, 0] [false, false, false, false, false] := hFb
          clear hFb
          go_wp2_with fail
          (with_reducible refine (program_zero 3 s3 3 s3 _ hFb' (by simp) (by simp) (by simp) hs3).mono ?_); rintro e w7 ⟨rfl, hz7, hf7⟩
          go_wp2_with fail
          go_light
          go_roundg 1
          case measure => omega
          case rel => exact ⟨4, by omega, by rfl, hz7, HFR.out.trans hf7⟩
        · have hFb' : Fz wr (qb + 1) qb [s0, s1, s2, s3, 0] [false, false, false, false, false] := hFb
          clear hFb
          go_wp2_with fail
          (with_reducible refine (program_zero 4 s4 4 s4 _ hFb' (by simp) (by simp) (by simp) hs4).mono ?_); rintro e w7 ⟨rfl, hz7, hf7⟩
          go_wp2_with fail
          go_light
          go_roundg 0
          case measure => omega
          case rel => exact ⟨5, by omega, by rfl, hz7, HFR.out.trans hf7⟩
        · go_wp2_with fail
          go_meet
          exact ⟨hFb, HFR.out⟩
    case rest =>
      obtain ⟨hfb7, hf7⟩ := hcut
      have hfa7 := HFA6.out.frm hf7 (by simp; omega) (by simp; omega)
      have hB7 := Below.frm (Below.frm HB1.out HF6.out (Nat.le_refl _) (by simp; omega)) hf7 (Nat.le_refl _) (by simp; omega)
      have hO7 : wc.ownsRow w5.heap.size 3 1 (.slice A zs.length c) zs.length (List.map (Value.int .i64) zs) := own_frm (own_frm HO.out HF6.out (by simp; omega)) hf7 (by simp; omega)
      have hwc7 : w5.heap.size ≤ wc.heap.size := by have := HF6.out.size; have := hf7.size; omega
      have HO7 := Lib.hid hO7
      have HB7 := Lib.hid hB7
      have HFA7 := Lib.hid hfa7
      have HFB7 := Lib.hid hfb7
      clear hO7 hB7 hfa7 hfb7
      clear i0 i1 i2 i3 i4 hs0 hs1 hs2 hs3 hs4
      go_wp2_with (at_builtin; refine wpList_append_own_at _ rfl (.tmp 79) (.tmp 81) 44 rfl w5.heap.size 3 i0 (.int .i64 0) 1 8 Try.underlying44 HI.out HI1.out HI2.out HI3.out rfl (by decide) _ _ _ rfl (HO7.out.alloc _) ⟨wc.heap.size, 0, none⟩ 1 1 [.int .i64 more] rfl rfl ?c1 ?c2 ?c3 ?c4 ?c5 ?_)
      case c1 =>
        have h1 := cell_one_new wc (.int .i64 more) 3
        simpa using h1
      case c2 => intro u hu; simp at hu; subst hu; rfl
      case c3 => simp only [maxLen]; omega
      case c4 => omega
      case c5 => simp; omega
      · intro v8 w8 hO8 hg8 _ hat8
        have hB8 : Below w5.heap.size wc w8 := ((Below.refl _ _).alloc hwc7 (.cells #[.int .i64 more] 3)).grown hg8 (by simp; omega) (fun k hk => (World.ownsRow.lt HO7.out k hk).1)
        have hmap : List.map (Value.int .i64) zs ++ [Value.int .i64 more] = (zs ++ [more]).map (Value.int .i64) := by simp
        rw [hmap] at hO8
        obtain ⟨hn8, A8, c8, rfl, hnc8, hI8, hAb8⟩ := own_ints hO8 (fun z hz => by rcases List.mem_append.1 hz with h | h; exact HZW.out z h; obtain rfl := List.mem_singleton.1 h; exact HMW.out)
        have hfa8 := HFA7.out.below hB8 (by omega) (by omega)
        have hfb8 := HFB7.out.below hB8 (by omega) (by omega)
        have hBB8 : Below w.heap.size w w8 := HB7.out.trans (hB8.mono (by have := HB5x.out; omega))
        have HI8 := Lib.hid hI8
        have HFA8 := Lib.hid hfa8
        have HFB8 := Lib.hid hfb8
        have HBB8 := Lib.hid hBB8
        have hw8 : w5.heap.size ≤ w8.heap.size := by have := hB8.size; omega
        clear hO8 hg8 hat8 hB8 hI8 hfa8 hfb8 hBB8 hmap
        have hl8 : (zs ++ [more]).length = zs.length + 1 := by simp
        by_cases hr : 0 ≤ more ∧ more < 160
        · obtain ⟨hr0, hr1⟩ := hr
          have hob : outB 5 more = false := by simp only [outB]; rw [decide_eq_true (by omega)]; rfl
          have hE : setE ([s0, s1, s2, s3, s4] : List Nat).length (zs ++ [more]) = 0 := by
            show setE 5 _ = 0
            rw [setE, HASN.out, hob]; rfl
          have hV : setV [s0, s1, s2, s3, s4] (zs ++ [more]) = setBit [s0, s1, s2, s3, s4] more := by
            have h5 : anyOut ([s0, s1, s2, s3, s4] : List Nat).length (zs ++ [more]) = false := by show anyOut 5 _ = false; rw [HASN.out, hob]
            rw [setV, h5, setBits_snoc, HST.out]; rfl
          have hE2 : setE ([s0, s1, s2, s3, s4] : List Nat).length [more] = 0 := by
            have : anyOut 5 [more] = false := anyOut_false 5 [more] (by intro z hz; obtain rfl := List.mem_singleton.1 hz; omega)
            show setE 5 _ = 0
            rw [setE, this]; rfl
          have hV2 : setV [s0, s1, s2, s3, s4] [more] = setBit [s0, s1, s2, s3, s4] more := by
            have : anyOut ([s0, s1, s2, s3, s4] : List Nat).length [more] = false := anyOut_false 5 [more] (by intro z hz; obtain rfl := List.mem_singleton.1 hz; omega)
            rw [setV, this]; rfl
          have HV := Lib.hid hV
          have HE := Lib.hid hE
          have HV2 := Lib.hid hV2
          have HE2 := Lib.hid hE2
          clear hV hE hV2 hE2 hob
          have HN8 := Lib.hid hn8
          clear hn8 hl8
          go_wp2_with fail
          (with_reducible refine (set_any A8 _ c8 (zs ++ [more]) w8.heap.size _ HFA8.out HI8.out HN8.out.symm (by omega) (fun ad h => by have := hAb8 ad h; omega)).mono ?_); rintro e w9 ⟨rfl, hfa9, hf9⟩
          rw [HE.out]
          rw [HV.out] at hfa9
          have hfb9 := HFB8.out.frm hf9 (by simp; omega) (by simp; omega)
          have HFB9 := Lib.hid (hfb9.frm ((Frm.refl [] w9).alloc (.cells #[.int .i64 more] 3)) (by simp) (by simp))
          have HI9 : Hid (Ints .i64 (w9.alloc (.cells #[.int .i64 more] 3)) (w9.heap.size + 1) (some ⟨w9.heap.size, 0, none⟩) [more]) := ints_new w9 [more] _ rfl (by intro z hz; obtain rfl := List.mem_singleton.1 hz; exact HMW.out)
          have HFA9 := Lib.hid (hfa9.frm ((Frm.refl [] w9).alloc (.cells #[.int .i64 more] 3)) (by simp) (by simp))
          have HB9 := Lib.hid ((Below.frm HBB8.out hf9 (Nat.le_refl _) (by simp; omega)).alloc (by have := HBB8.out.size; have := hf9.size; omega) (.cells #[.int .i64 more] 3))
          have hw9 : w8.heap.size ≤ w9.heap.size := hf9.size
          clear hfa9 hfb9 hf9
          go_wp2_with fail
          (with_reducible refine (set_any (some ⟨w9.heap.size, 0, none⟩) 1 1 [more] (w9.heap.size + 1) _ HFB9.out HI9.out (by simp) (by decide) (fun ad h => by cases h; simp; omega)).mono ?_); rintro e w10 ⟨rfl, hfb10, hf10⟩
          rw [HV2.out] at hfb10
          have hfa10 := HFA9.out.frm hf10 (by simp; omega) (by simp; omega)
          have hB10 := Below.frm HB9.out hf10 (Nat.le_refl _) (by simp; omega)
          go_wp2_with fail
          (with_reducible refine (words_any _ hfa10).mono ?_); rintro e w11 ⟨v11, rfl, hO11, hb11⟩
          have hfb11 := hfb10.below hb11 (hfb10.ltp) (hfb10.ltb)
          go_wp2_with fail
          (with_reducible refine (words_any _ hfb11).mono ?_); rintro e w12 ⟨v12, rfl, hO12, hb12⟩
          obtain ⟨A11, c11, rfl, _, hm11, hN11⟩ := hO11.form hfa10.word
          obtain ⟨A12, c12, rfl, _, hm12, hN12⟩ := hO12.form hfb10.word
          have hN11' := (hN11.below hb12).more hb12.size
          have hL11 := hfa10.most
          have hBz := below_then (below_then hB10 hb11 (Nat.le_refl _)) hb12 (Nat.le_refl _)
          have HBz := Lib.hid hBz
          have HN11 := Lib.hid hN11'
          have HN12 := Lib.hid hN12
          clear hN11 hN11' hN12 hO11 hO12 hm11 hm12 hBz hfa10 hfb10 hfb11
          go_wp2_with fail
          (with_reducible refine (same_len A11 A12 _ _ c11 c12 _ _ true w12.heap.size _ HN11.out HN12.out (by simp) (by simp) (by omega) (by omega) (by simp)).mono ?_); rintro e w13 ⟨rfl, nq, rfl⟩
          go_wp2_with fail
          go_light
          go_ret
          exact ⟨rfl, below_drewN HBz.out nq⟩
        · have hob : outB 5 more = true := by simp only [outB]; rw [decide_eq_false (by omega)]; rfl
          have hE : setE ([s0, s1, s2, s3, s4] : List Nat).length (zs ++ [more]) = 9 := by
            show setE 5 _ = 9
            rw [setE, HASN.out, hob]; rfl
          have hV : setV [s0, s1, s2, s3, s4] (zs ++ [more]) = [s0, s1, s2, s3, s4] := by
            have h5 : anyOut ([s0, s1, s2, s3, s4] : List Nat).length (zs ++ [more]) = true := by show anyOut 5 _ = true; rw [HASN.out, hob]
            rw [setV, h5]; rfl
          have HV := Lib.hid hV
          have HE := Lib.hid hE
          have HN8 := Lib.hid hn8
          clear hV hE hob hn8 hl8
          have HR := Lib.hid hr
          clear hr
          go_wp2_with fail
          (with_reducible refine (set_any A8 _ c8 (zs ++ [more]) w8.heap.size _ HFA8.out HI8.out HN8.out.symm (by omega) (fun ad h => by have := hAb8 ad h; omega)).mono ?_); rintro e w9 ⟨rfl, hfa9, hf9⟩
          rw [HE.out]
          rw [HV.out] at hfa9
          have hfb9 := HFB8.out.frm hf9 (by simp; omega) (by simp; omega)
          have hB10 := Below.frm HBB8.out hf9 (Nat.le_refl _) (by simp; omega)
          clear hf9
          by_cases h0 : 0 ≤ more
          · have h1 : 160 ≤ more := by have := HR.out; omega
            go_wp2_with fail
            (with_reducible refine (words_any _ hfa9).mono ?_); rintro e w11 ⟨v11, rfl, hO11, hb11⟩
            have hfb11 := hfb9.below hb11 (hfb9.ltp) (hfb9.ltb)
            go_wp2_with fail
            (with_reducible refine (words_any _ hfb11).mono ?_); rintro e w12 ⟨v12, rfl, hO12, hb12⟩
            obtain ⟨A11, c11, rfl, _, hm11, hN11⟩ := hO11.form hfa9.word
            obtain ⟨A12, c12, rfl, _, hm12, hN12⟩ := hO12.form hfb9.word
            have hN11' := (hN11.below hb12).more hb12.size
            have hL11 := hfa9.most
            have hBz := below_then (below_then hB10 hb11 (Nat.le_refl _)) hb12 (Nat.le_refl _)
            have HBz := Lib.hid hBz
            have HN11 := Lib.hid hN11'
            have HN12 := Lib.hid hN12
            clear hN11 hN11' hN12 hO11 hO12 hm11 hm12 hBz hfa9 hfb9 hfb11
            go_wp2_with fail
            (with_reducible refine (same_len A11 A12 _ _ c11 c12 _ _ true w12.heap.size _ HN11.out HN12.out (by simp) (by simp) (by omega) (by omega) (by simp)).mono ?_); rintro e w13 ⟨rfl, nq, rfl⟩
            go_wp2_with fail
            go_light
            go_ret
            exact ⟨rfl, below_drewN HBz.out nq⟩
          · have h1 : more < 0 := by omega
            go_wp2_with fail
            (with_reducible refine (words_any _ hfa9).mono ?_); rintro e w11 ⟨v11, rfl, hO11, hb11⟩
            have hfb11 := hfb9.below hb11 (hfb9.ltp) (hfb9.ltb)
            go_wp2_with fail
            (with_reducible refine (words_any _ hfb11).mono ?_); rintro e w12 ⟨v12, rfl, hO12, hb12⟩
            obtain ⟨A11, c11, rfl, _, hm11, hN11⟩ := hO11.form hfa9.word
            obtain ⟨A12, c12, rfl, _, hm12, hN12⟩ := hO12.form hfb9.word
            have hN11' := (hN11.below hb12).more hb12.size
            have hL11 := hfa9.most
            have hBz := below_then (below_then hB10 hb11 (Nat.le_refl _)) hb12 (Nat.le_refl _)
            have HBz := Lib.hid hBz
            have HN11 := Lib.hid hN11'
            have HN12 := Lib.hid hN12
            clear hN11 hN11' hN12 hO11 hO12 hm11 hm12 hBz hfa9 hfb9 hfb11
            go_wp2_with fail
            (with_reducible refine (same_len A11 A12 _ _ c11 c12 _ _ true w12.heap.size _ HN11.out HN12.out (by simp) (by simp) (by omega) (by omega) (by simp)).mono ?_); rintro e w13 ⟨rfl, nq, rfl⟩
            go_wp2_with fail
            go_light
            go_ret
            exact ⟨rfl, below_drewN HBz.out nq⟩
end Fuse
end Go.Proofs.Ytmcpppgnfmopoaa
