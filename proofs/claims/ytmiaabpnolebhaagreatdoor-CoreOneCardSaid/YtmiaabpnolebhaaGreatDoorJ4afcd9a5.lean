/-
  Texts of this claim, joined: CorA, CorB, CorC, CorD.
-/
import Derived.Test.YtmiaabpnolebhaaGreatDoorBig
import Derived.Test.YtmiaabpnolebhaaGreatDoorRvF
import Derived.Laws.Bits64b
import Derived.Test.YtmiaabpnolebhaaGreatDoorJd4754880
set_option maxHeartbeats 4000000
set_option maxRecDepth 100000
set_option linter.unusedSimpArgs false
set_option linter.unusedVariables false
namespace Go.Proofs.YtmiaabpnolebhaaGreatDoor
open Go.RowKit

namespace Core
open Otp Sha
structure Cr where
 l : List Nat
 tm : Bool
structure Cr.Ok (c : Cr) : Prop where
 len : c.l.length = 41
 b : ∀ x ∈ c.l, x < 4294967296
def crL (c : Cr) : List Value := c.l.map (fun x => Value.int .u32 ((x : Nat) : Int)) ++ [.bool c.tm]
def crC (c : Cr) : Array Value := (crL c).toArray
def Cr.g (c : Cr) (i : Nat) : Nat := c.l.getD i 0
def Cr.set (c : Cr) (i v : Nat) : Cr := ⟨c.l.set i v, c.tm⟩
def Cr.time (c : Cr) (t : Bool) : Cr := ⟨c.l, t⟩
theorem Cr.Ok.g {c : Cr} (h : c.Ok) (i : Nat) : c.g i < 4294967296 := by
 unfold Cr.g
 rw [List.getD_eq_getElem?_getD]
 cases hi : c.l[i]? with
 | none => decide
 | some x => exact h.b x (List.mem_of_getElem? hi)
theorem Cr.Ok.set {c : Cr} (h : c.Ok) (i v : Nat) (hv : v < 4294967296) : (c.set i v).Ok := ⟨by simp [Cr.set, h.len], fun x hx => by
 rcases List.mem_or_eq_of_mem_set hx with h1 | rfl
 ·exact h.b x h1
 ·exact hv⟩
theorem Cr.Ok.time {c : Cr} (h : c.Ok) (t : Bool) : (c.time t).Ok := ⟨h.len, h.b⟩
theorem crL_get {c : Cr} (h : c.Ok) {i : Nat} (hi : i < 41) : (crL c)[i]? = some (.int .u32 ((c.g i : Nat) : Int)) := by
 have hl := h.len
 unfold crL Cr.g
 rw [List.getElem?_append_left (by simpa [hl] using hi), List.getElem?_map, List.getD_eq_getElem?_getD, List.getElem?_eq_getElem (by rw [hl]; exact hi)]
 rfl
theorem crL_tm {c : Cr} (h : c.Ok) : (crL c)[41]? = some (.bool c.tm) := by
 unfold crL
 rw [List.getElem?_append_right (by simp [h.len])]
 simp [h.len]
theorem crC_size {c : Cr} (h : c.Ok) : (crC c).size = 42 := by simp [crC, crL, h.len]
theorem crC_one (c : Cr) : (crC c).all (·.oneCell') = true := all_oneCell_toArray (fun v hv => by
 simp only [crL, List.mem_append, List.mem_map, List.mem_singleton] at hv
 rcases hv with ⟨x, _, rfl⟩ | rfl <;> rfl)
theorem crC_set {c : Cr} (h : c.Ok) {i : Nat} (hi : i < 41) (v : Nat) : (crC c).setIfInBounds i (.int .u32 (v : Int)) = crC (c.set i v) := by
 unfold crC crL Cr.set
 rw [List.setIfInBounds_toArray, List.set_append_left _ _ (by simpa [h.len] using hi), List.map_set]
theorem crC_time {c : Cr} (h : c.Ok) (t : Bool) : (crC c).setIfInBounds 41 (.bool t) = crC (c.time t) := by
 unfold crC crL Cr.time
 rw [List.setIfInBounds_toArray, List.set_append_right _ _ (by simp [h.len])]
 simp [h.len]
end Core
end Go.Proofs.YtmiaabpnolebhaaGreatDoor
namespace Go.Proofs.YtmiaabpnolebhaaGreatDoor
open Go.RowKit

namespace Core
open Otp Sha Rv
theorem bits_and_u32 (a b : Nat) (ha : a < 4294967296) (hb : b < 4294967296) : bits .and .u32 (a : Int) (b : Int) = ((a &&& b : Nat) : Int) := by
 have hx : a &&& b < 2 ^ 32 := Nat.and_lt_two_pow _ (by omega)
 have h1 : (BitVec.ofInt 32 (a : Int)).toNat = a := by
  rw [BitVec.ofInt_natCast, BitVec.toNat_ofNat]; exact Nat.mod_eq_of_lt (by omega)
 have h2 : (BitVec.ofInt 32 (b : Int)).toNat = b := by
  rw [BitVec.ofInt_natCast, BitVec.toNat_ofNat]; exact Nat.mod_eq_of_lt (by omega)
 show IntKind.u32.wrap ((BitVec.ofInt 32 (a : Int) &&& BitVec.ofInt 32 (b : Int)).toNat : Int) = _
 rw [BitVec.toNat_and, h1, h2, IntKind.wrap_u32]
 omega
theorem and_bit (a i : Nat) : a &&& 2 ^ i = a / 2 ^ i % 2 * 2 ^ i := by
 rw [← Nat.shiftRight_eq_div_pow, ← Nat.shiftLeft_eq]
 apply Nat.eq_of_testBit_eq
 intro j
 have h2 : ∀ y k : Nat, (y % 2).testBit k = (decide (k < 1) && y.testBit k) := fun y k => Nat.testBit_mod_two_pow y 1 k
 rw [Nat.testBit_and, Nat.testBit_two_pow, Nat.testBit_shiftLeft, h2, Nat.testBit_shiftRight]
 by_cases h : i = j
 ·subst h
  simp
 ·by_cases h3 : i ≤ j
  ·have h4 : ¬ j - i < 1 := by omega
   simp [h, h4]
  ·simp [h, h3]
theorem and_pow (a i : Nat) (ha : a < 4294967296) (hi : i < 32) : bits .and .u32 (a : Int) ((2 ^ i : Nat) : Int) = ((a / 2 ^ i % 2 * 2 ^ i : Nat) : Int) := by
 rw [bits_and_u32 a (2 ^ i) ha (Nat.lt_of_lt_of_le (Nat.pow_lt_pow_right (by decide) hi) (by decide)), and_bit]
theorem and8 (a : Nat) (ha : a < 4294967296) : bits .and .u32 (a : Int) 8 = ((a / 8 % 2 * 8 : Nat) : Int) := and_pow a 3 ha (by decide)
theorem and128 (a : Nat) (ha : a < 4294967296) : bits .and .u32 (a : Int) 128 = ((a / 128 % 2 * 128 : Nat) : Int) := and_pow a 7 ha (by decide)
theorem three_bits : ∀ i : Fin 32, (3#32).getLsbD i.val = decide (i.val < 2) := by decide
theorem andNot3 (a : Nat) (ha : a < 4294967296) : bits .andNot .u32 (a : Int) 3 = ((a - a % 4 : Nat) : Int) := by
 have h1 : (BitVec.ofInt 32 (a : Int)).toNat = a := by
  rw [BitVec.ofInt_natCast, BitVec.toNat_ofNat]; exact Nat.mod_eq_of_lt (by omega)
 have hb : ∀ X : BitVec 32, X &&& ~~~(3#32) = (X >>> 2) <<< 2 := fun X => by
  apply BitVec.eq_of_getLsbD_eq
  intro i hi
  have h3 := three_bits ⟨i, hi⟩
  simp only at h3
  simp only [BitVec.getLsbD_and, BitVec.getLsbD_not, hi, decide_true, Bool.true_and, h3, BitVec.getLsbD_shiftLeft, BitVec.getLsbD_ushiftRight]
  by_cases h2 : i < 2
  ·simp [h2]
  ·simp only [h2, decide_false, Bool.not_false, Bool.and_true, Bool.true_and]
   rw [show 2 + (i - 2) = i by omega]
 show IntKind.u32.wrap ((BitVec.ofInt 32 (a : Int) &&& ~~~(BitVec.ofInt 32 3)).toNat : Int) = _
 rw [show BitVec.ofInt 32 3 = 3#32 from rfl, hb, BitVec.toNat_shiftLeft, BitVec.toNat_ushiftRight, h1, IntKind.wrap_u32, Nat.shiftRight_eq_div_pow, Nat.shiftLeft_eq]
 omega
def crZ : Cr := ⟨List.replicate 41 0, false⟩
theorem crZ_ok : crZ.Ok := ⟨List.length_replicate, fun x hx => by rw [List.eq_of_mem_replicate hx]; decide⟩
def evC (tr : Bool) (cause : Nat) (i : In) (at_ : Nat) (A : Option Addr) (n c : Nat) : Array Value := #[.bool tr, .int .u32 (cause : Int), .int .u8 (i.op : Int), .int .u8 (i.rd : Int), .int .u8 (i.a : Int), .int .u8 (i.b : Int), .int .u32 (i.imm : Int), .int .u16 (i.csr : Int), .int .u32 (at_ : Int), .slice A n c]
def evZ : Array Value := evC false 0 zIn 0 none 0 0
theorem evC_one (tr : Bool) (cause : Nat) (i : In) (at_ : Nat) (A : Option Addr) (n c : Nat) : (evC tr cause i at_ A n c).all (·.oneCell') = true := by simp [evC, Value.oneCell']
theorem cr_zero : (Tryz.prog.info? 71).bind (·.zero) = some (.agg (crC crZ)) := by kernel_rfl
theorem ev_zero : (Tryz.prog.info? 78).bind (·.zero) = some (.agg evZ) := by kernel_rfl
theorem cr_info : (Tryz.prog.info? 71).map (·.size) = some 42 := by kernel_rfl
theorem ev_info : (Tryz.prog.info? 78).map (·.size) = some 10 := by kernel_rfl
def Cb (w : World) (b : Nat) (c : Cr) : Prop := Blk w b 71 (crC c)
theorem Cb.cell {w : World} {b : Nat} {c : Cr} (h : Cb w b c) (ho : c.Ok) {i : Nat} (hi : i < 41) : w.cell? ⟨b, i, none⟩ = some (.int .u32 ((c.g i : Nat) : Int)) := by
 rw [Blk.cell h]
 show (crL c).toArray[i]? = _
 rw [List.getElem?_toArray]
 exact crL_get ho hi
theorem Cb.put {w : World} {b : Nat} {c : Cr} (h : Cb w b c) (ho : c.Ok) {i : Nat} (hi : i < 41) (v : Nat) : Cb (w.setCell ⟨b, i, none⟩ (.int .u32 (v : Int))) b (c.set i v) := by
 have := Blk.set h i (.int .u32 (v : Int))
 rw [crC_set ho hi] at this
 exact this
structure Fr (w w' : World) (c : Cr) : Prop where
 c : Cb w' w.heap.size c
 o : Blk w' (w.heap.size + 1) 71 (crC crZ)
 e : Blk w' (w.heap.size + 2) 78 evZ
 bel : Below w.heap.size w w'
theorem Fr.new (w : World) (c : Cr) : Fr w (((w.alloc (.cells (crC c) 71)).alloc (.cells (crC crZ) 71)).alloc (.cells evZ 78)) c :=
 ⟨((Blk.new w _ _).alloc _).alloc _, (blk_new' (by simp)).alloc _, blk_new' (by simp), (((Below.refl _ w).alloc (Nat.le_refl _) _).alloc (by simp) _).alloc (by simp; omega) _⟩
theorem Fr.put {w w' : World} {c : Cr} (h : Fr w w' c) (ho : c.Ok) {i : Nat} (hi : i < 41) (v : Nat) : Fr w (w'.setCell ⟨w.heap.size, i, none⟩ (.int .u32 (v : Int))) (c.set i v) :=
 ⟨h.c.put ho hi v, h.o.far' _ _ (by simp) _, h.e.far' _ _ (by simp) _, h.bel.setCell (p := ⟨w.heap.size, i, none⟩) (Nat.le_refl _) _⟩
theorem Fr.frozen {w w' : World} {c : Cr} (h : Fr w w' c) (i : Nat) : w'.frozen? ⟨w.heap.size, i, none⟩ = false := Blk.frozen h.c i
theorem Fr.cell {w w' : World} {c : Cr} (h : Fr w w' c) (ho : c.Ok) {i : Nat} (hi : i < 41) : w'.cell? ⟨w.heap.size, i, none⟩ = some (.int .u32 ((c.g i : Nat) : Int)) := h.c.cell ho hi
theorem wp_fr {P : Program} {k : Code} {Q : Exit → Act → World → Prop} {a : Act} {w' : World} (w : World) (c : Cr) (h1 : Fr w w' c) (h : ∀ w8, Fr w w8 c → Code.wp P k Q a w8) : Code.wp P k Q a w' := h w' h1
def trapC (c : Cr) (cause v : Nat) : Cr := (((((c.set 37 (c.g 32 - c.g 32 % 4)).set 38 cause).set 39 v).set 33 (c.g 33 / 8 % 2 * 128)).set 32 (c.g 35)).set 40 ((c.g 40 + 1) % 4294967296)
def StepOut (c : Cr) (E : Array Value) (w : World) (e : Ending) (w' : World) : Prop := e = .returned (.tuple #[.agg (crC c), .agg E]) ∧ Below w.heap.size w w'
theorem Cr.g_set_ne {c : Cr} {i j v : Nat} (h : i ≠ j) : (c.set i v).g j = c.g j := by
 unfold Cr.g Cr.set
 simp only [List.getD_eq_getElem?_getD, List.getElem?_set_ne h]
theorem Cr.Ok.trap {c : Cr} (h : c.Ok) {cause v : Nat} (hc : cause < 4294967296) (hv : v < 4294967296) : (trapC c cause v).Ok := by
 have h0 := h.g 32
 have h1 := h.g 35
 have h2 := h.g 33
 exact (((((h.set 37 _ (by omega)).set 38 _ hc).set 39 _ hv).set 33 _ (by omega)).set 32 _ h1).set 40 _ (by omega)
theorem trap_any (c : Cr) (hc : c.Ok) (cause v : Nat) (w : World) (h1 : cause < 4294967296) (h2 : v < 4294967296) : Calls Tryz.prog 97 #[.agg (crC c), .int .u32 (cause : Int), .int .u32 (v : Int)] w (StepOut (trapC c cause v) (evC true cause zIn 0 none 0 0) w) := by
 have HC := wall hc
 have HCV := wall (And.intro h1 h2)
 have HF := wall (Fr.new w c)
 clear h1 h2
 have HZ := wall cr_zero
 have HE := wall ev_zero
 obtain ⟨C, hC⟩ : ∃ y, crC c = y := ⟨_, rfl⟩
 obtain ⟨Z, hZ⟩ : ∃ y, crC crZ = y := ⟨_, rfl⟩
 obtain ⟨E, hE⟩ : ∃ y, evZ = y := ⟨_, rfl⟩
 rw [hC, hZ, hE] at HF
 rw [hZ] at HZ
 rw [hE] at HE
 rw [hC]
 clear hc hC hZ hE
 go_enter Tryz.func97, Tryz.ntmps97
 go_upto_region 1 with (first | refine Big.wpList_alloc_at rfl 71 rfl Z HZ.out (w.heap.size + 1) (by simp) ?_ | refine Big.wpList_alloc_at rfl 78 rfl E HE.out (w.heap.size + 2) (by simp) ?_)
 try simp only [Act.put, rpA, rpB, rpC]
 refine wp_fr w c HF.out ?_
 intro w1 h1
 have H1 := wall h1
 have k32 := h1.cell HC.out (show 32 < 41 by decide)
 have k37 := h1.cell HC.out (show 37 < 41 by decide)
 have k38 := h1.cell HC.out (show 38 < 41 by decide)
 have k39 := h1.cell HC.out (show 39 < 41 by decide)
 have hfz := h1.frozen
 have hb := andNot3 (c.g 32) (HC.out.g 32)
 clear h1 HF
 go_upto_region 2 with fail
 have e33 : (((c.set 37 (c.g 32 - c.g 32 % 4)).set 38 cause).set 39 v).g 33 = c.g 33 := by rw [Cr.g_set_ne (by decide), Cr.g_set_ne (by decide), Cr.g_set_ne (by decide)]
 have e35 : (((c.set 37 (c.g 32 - c.g 32 % 4)).set 38 cause).set 39 v).g 35 = c.g 35 := by rw [Cr.g_set_ne (by decide), Cr.g_set_ne (by decide), Cr.g_set_ne (by decide)]
 have e40 : (((c.set 37 (c.g 32 - c.g 32 % 4)).set 38 cause).set 39 v).g 40 = c.g 40 := by rw [Cr.g_set_ne (by decide), Cr.g_set_ne (by decide), Cr.g_set_ne (by decide)]
 have hp4 : c.g 32 - c.g 32 % 4 < 4294967296 := by have := HC.out.g 32; omega
 have HC1 := wall (((HC.out.set 37 _ hp4).set 38 _ HCV.out.1).set 39 _ HCV.out.2)
 refine wp_fr w (((c.set 37 (c.g 32 - c.g 32 % 4)).set 38 cause).set 39 v) (((H1.out.put HC.out (by decide) _).put (HC.out.set 37 _ hp4) (by decide) _).put ((HC.out.set 37 _ hp4).set 38 _ HCV.out.1) (by decide) _) ?_
 have HT := wall (show trapC c cause v = (((((c.set 37 (c.g 32 - c.g 32 % 4)).set 38 cause).set 39 v).set 33 (c.g 33 / 8 % 2 * 128)).set 32 (c.g 35)).set 40 ((c.g 40 + 1) % 4294967296) from rfl)
 clear H1 k32 k37 k38 k39 hfz hb hp4
 obtain ⟨c1, hc1⟩ : ∃ y, ((c.set 37 (c.g 32 - c.g 32 % 4)).set 38 cause).set 39 v = y := ⟨_, rfl⟩
 rw [hc1] at e33 e35 e40 HC1 HT ⊢
 clear hc1
 intro w2 h2
 have H2 := wall h2
 have k32 := h2.cell HC1.out (show 32 < 41 by decide)
 have k33 := h2.cell HC1.out (show 33 < 41 by decide)
 have k35 := h2.cell HC1.out (show 35 < 41 by decide)
 have k40 := h2.cell HC1.out (show 40 < 41 by decide)
 rw [e33] at k33
 rw [e35] at k35
 rw [e40] at k40
 have hfz := h2.frozen
 have hb := and8 (c.g 33) (HC.out.g 33)
 have hs : c.g 33 / 8 % 2 ≤ 1 := by omega
 clear h2 e33 e35 e40
 obtain ⟨s8, hs8⟩ : ∃ y, c.g 33 / 8 % 2 = y := ⟨_, rfl⟩
 obtain ⟨s33, hs33⟩ : ∃ y, c.g 33 = y := ⟨_, rfl⟩
 obtain ⟨s35, hs35⟩ : ∃ y, c.g 35 = y := ⟨_, rfl⟩
 obtain ⟨s40, hs40⟩ : ∃ y, c.g 40 = y := ⟨_, rfl⟩
 have hs35l : s35 < 4294967296 := by rw [← hs35]; exact HC.out.g 35
 have hs40l : s40 < 4294967296 := by rw [← hs40]; exact HC.out.g 40
 rw [hs8, hs33] at hb
 rw [hs8] at hs HT
 rw [hs33] at k33
 rw [hs35] at k35 HT
 rw [hs40] at k40 HT
 have HS := wall (show s35 < 4294967296 ∧ s40 < 4294967296 ∧ s8 ≤ 1 from ⟨hs35l, hs40l, hs⟩)
 clear hs8 hs33 hs35 hs40 hs35l hs40l
 go_upto_region 5 with fail
 have h3 := ((H2.out.put HC1.out (i := 33) (by decide) (s8 * 128)).put (HC1.out.set 33 _ (by omega)) (i := 32) (by decide) s35).put ((HC1.out.set 33 _ (by omega)).set 32 _ HS.out.1) (i := 40) (by decide) ((s40 + 1) % 4294967296)
 have e1 : ((s8 * 128 : Nat) : Int) = (s8 : Int) * 8 * 16 := by omega
 have e2 : (((s40 + 1) % 4294967296 : Nat) : Int) = ((s40 : Int) + 1) % 4294967296 := by omega
 rw [e1, e2] at h3
 refine wp_fr w (trapC c cause v) (by rw [HT.out]; exact h3) ?_
 have HCT := wall (Cr.Ok.trap HC.out HCV.out.1 HCV.out.2)
 clear H2 k32 k33 k35 k40 hfz hs HS h3 e1 e2 HT HC1 HC HCV
 obtain ⟨c6, hc6⟩ : ∃ y, trapC c cause v = y := ⟨_, rfl⟩
 have HC6 := wall hc6
 rw [hc6] at HCT
 rw [hc6]
 clear hc6
 intro w3 h3
 have H3 := wall (show Blk w3 w.heap.size 71 (crC c6) from h3.c)
 have H3o := wall h3.o
 have H3e := wall h3.e
 have H3b := wall h3.bel
 have HS6 := wall (show (Tryz.prog.info? 71).map (·.size) = some (crC c6).size by rw [crC_size HCT.out]; exact cr_info)
 have HSZ := wall (show (crC crZ).size = (crC c6).size by rw [crC_size HCT.out, crC_size crZ_ok])
 have HO6 := wall (crC_one c6)
 have HBE := wall (show Tryz.prog.built 78 [(0, .bool true), (1, .int .u32 (cause : Int))] = some (evC true cause zIn 0 none 0 0) by kernel_rfl)
 have HEI := wall (show (Tryz.prog.info? 78).map (·.size) = some (evC true cause zIn 0 none 0 0).size from ev_info)
 have HEZ := wall (show evZ.size = (evC true cause zIn 0 none 0 0).size from rfl)
 have HEO := wall (show (evC true cause zIn 0 none 0 0).all (·.oneCell') = true from evC_one _ _ _ _ _ _ _)
 clear h3
 obtain ⟨D, hD⟩ : ∃ y, crC c6 = y := ⟨_, rfl⟩
 obtain ⟨F, hF⟩ : ∃ y, evC true cause zIn 0 none 0 0 = y := ⟨_, rfl⟩
 obtain ⟨Z', hZ'⟩ : ∃ y, crC crZ = y := ⟨_, rfl⟩
 obtain ⟨E', hE'⟩ : ∃ y, evZ = y := ⟨_, rfl⟩
 have HD := wall hD
 have HFF := wall hF
 rw [hD] at H3 HS6 HSZ HO6
 rw [hF] at HBE HEI HEZ HEO
 rw [hZ'] at H3o HSZ
 rw [hE'] at H3e HEZ
 clear hD hF hZ' hE' HZ HE
 go_wp2_with (first | refine wpList_load_row rfl 71 _ rfl w.heap.size rfl 71 D (0, 0) _ H3.out Tryz.underlying71 rfl HS6.out ?_ | refine wpList_build_row rfl 78 [(0, .const (.bool true)), (1, .tmp 37)] rfl F HBE.out ?_ | (refine wpList_set_row rfl 71 (.tmp 6) (.tmp 36) rfl (w.heap.size + 1) D rfl rfl 71 Z' H3o.out HS6.out HSZ.out HO6.out ?_; intro w4 K4 F4; have H4e := wall (H3e.out.frm F4.out (by simp)); have H4b := wall (Below.frm H3b.out F4.out (Nat.le_refl _) (by simp))) | (refine wpList_set_row rfl 78 (.tmp 7) (.tmp 38) rfl (w.heap.size + 2) F rfl rfl 78 E' H4e.out HEI.out HEZ.out HEO.out ?_; intro w5 K5 F5))
 have K5o := wall (K4.out.frm F5.out (by simp))
 have HB5 := wall (Below.frm H4b.out F5.out (Nat.le_refl _) (by simp))
 go_light
 exact bodyPost_ret (v := .tuple #[.agg D, .agg F]) (results_two Tryz.results97 _ _ (w.heap.size + 1) (w.heap.size + 2) 71 78 D F _ _ rfl rfl K5o.out K5.out Tryz.underlying71 rfl HS6.out Tryz.underlying78 rfl HEI.out) rfl ⟨by rw [HC6.out, HD.out, HFF.out], HB5.out⟩
structure Fq (w w' : World) (c : Cr) : Prop where
 c : Cb w' w.heap.size c
 o : Blk w' (w.heap.size + 1) 71 (crC crZ)
 bel : Below w.heap.size w w'
theorem Fq.new (w : World) (c : Cr) : Fq w ((w.alloc (.cells (crC c) 71)).alloc (.cells (crC crZ) 71)) c :=
 ⟨(Blk.new w _ _).alloc _, blk_new' (by simp), ((Below.refl _ w).alloc (Nat.le_refl _) _).alloc (by simp) _⟩
theorem Fq.put {w w' : World} {c : Cr} (h : Fq w w' c) (ho : c.Ok) {i : Nat} (hi : i < 41) (v : Nat) : Fq w (w'.setCell ⟨w.heap.size, i, none⟩ (.int .u32 (v : Int))) (c.set i v) :=
 ⟨h.c.put ho hi v, h.o.far' _ _ (by simp) _, h.bel.setCell (p := ⟨w.heap.size, i, none⟩) (Nat.le_refl _) _⟩
theorem Fq.frozen {w w' : World} {c : Cr} (h : Fq w w' c) (i : Nat) : w'.frozen? ⟨w.heap.size, i, none⟩ = false := Blk.frozen h.c i
theorem Fq.cell {w w' : World} {c : Cr} (h : Fq w w' c) (ho : c.Ok) {i : Nat} (hi : i < 41) : w'.cell? ⟨w.heap.size, i, none⟩ = some (.int .u32 ((c.g i : Nat) : Int)) := h.c.cell ho hi
theorem wp_fq {P : Program} {k : Code} {Q : Exit → Act → World → Prop} {a : Act} {w' : World} (w : World) (c : Cr) (h1 : Fq w w' c) (h : ∀ w8, Fq w w8 c → Code.wp P k Q a w8) : Code.wp P k Q a w' := h w' h1
def withC (c : Cr) (k v : Nat) : Cr := if 0 < k ∧ k < 32 then c.set k v else c
theorem Cr.Ok.with {c : Cr} (h : c.Ok) (k v : Nat) (hv : v < 4294967296) : (withC c k v).Ok := by
 unfold withC
 split
 ·exact h.set k v hv
 ·exact h
def CrOut (c : Cr) (w : World) (e : Ending) (w' : World) : Prop := e = .returned (.agg (crC c)) ∧ Below w.heap.size w w'
theorem with_any (c : Cr) (hc : c.Ok) (z : Int) (k v : Nat) (w : World) (hz : z = k) (hv : v < 4294967296) :
  Calls Tryz.prog 94 #[.agg (crC c), .int .i64 z, .int .u32 (v : Int)] w (CrOut (withC c k v) w) := by
 subst hz
 have HC := wall hc
 have HV := wall hv
 have HF := wall (Fq.new w c)
 have HZ := wall cr_zero
 obtain ⟨C, hC⟩ : ∃ y, crC c = y := ⟨_, rfl⟩
 obtain ⟨Z, hZ⟩ : ∃ y, crC crZ = y := ⟨_, rfl⟩
 rw [hC, hZ] at HF
 rw [hZ] at HZ
 rw [hC]
 clear hc hv hC hZ
 go_enter Tryz.func94, Tryz.ntmps94
 go_upto_region 1 with (first | refine Big.wpList_alloc_at rfl 71 rfl Z HZ.out (w.heap.size + 1) (by simp) ?_)
 try simp only [Act.put, rpA, rpB, rpC]
 refine wp_fq w c HF.out ?_
 intro w1 h1
 have H1 := wall h1
 clear h1 HF
 by_cases h0 : 0 < k ∧ k < 32
 ·have HW := wall (show withC c k v = c.set k v by unfold withC; rw [if_pos h0])
  have HCT := wall (HC.out.set k v HV.out)
  have hkk := H1.out.cell HC.out (show k < 41 by omega)
  have hfz := H1.out.frozen
  have i1 : (0 : Int) < (k : Int) := by omega
  have i2 : (k : Int) < 32 := by omega
  go_upto_region 3 with fail
  refine wp_fq w (c.set k v) (H1.out.put HC.out (by omega) v) ?_
  clear hkk hfz H1 i1 i2 h0
  intro w3 h3
  obtain ⟨c6, hc6⟩ : ∃ y, c.set k v = y := ⟨_, rfl⟩
  rw [hc6] at HW HCT h3
  clear hc6
  have HS6 := wall (show (Tryz.prog.info? 71).map (·.size) = some (crC c6).size by rw [crC_size HCT.out]; exact cr_info)
  have HSZ := wall (show (crC crZ).size = (crC c6).size by rw [crC_size HCT.out, crC_size crZ_ok])
  have HO6 := wall (crC_one c6)
  have H3 := wall (show Blk w3 w.heap.size 71 (crC c6) from h3.c)
  have H3o := wall h3.o
  have H3b := wall h3.bel
  clear h3
  obtain ⟨D, hD⟩ : ∃ y, crC c6 = y := ⟨_, rfl⟩
  obtain ⟨Z', hZ'⟩ : ∃ y, crC crZ = y := ⟨_, rfl⟩
  have HD := wall hD
  rw [hD] at H3 HS6 HSZ HO6
  rw [hZ'] at H3o HSZ
  clear hD hZ' HZ
  go_wp2_with (first | refine wpList_load_row rfl 71 _ rfl w.heap.size rfl 71 D (0, 0) _ H3.out Tryz.underlying71 rfl HS6.out ?_ | (refine wpList_set_row rfl 71 (.tmp 6) (.tmp 17) rfl (w.heap.size + 1) D rfl rfl 71 Z' H3o.out HS6.out HSZ.out HO6.out ?_; intro w4 K4 F4))
  have H4b := wall (Below.frm H3b.out F4.out (Nat.le_refl _) (by simp))
  go_light
  exact bodyPost_ret (v := .agg D) (results_cell_row Tryz.results94 _ _ (w.heap.size + 1) 71 D (0, 0) _ rfl K4.out Tryz.underlying71 rfl HS6.out) rfl ⟨by rw [HW.out, HD.out], H4b.out⟩
 ·have HW := wall (show withC c k v = c by unfold withC; rw [if_neg h0])
  have HCT := wall HC.out
  have h3 := H1.out
  obtain ⟨w3, rfl⟩ : ∃ y : World, y = w1 := ⟨_, rfl⟩
  clear H1
  by_cases i1 : (0 : Int) < (k : Int)
  ·have i2 : ¬ (k : Int) < 32 := by omega
   clear h0
   have HS6 := wall (show (Tryz.prog.info? 71).map (·.size) = some (crC c).size by rw [crC_size HCT.out]; exact cr_info)
   have HSZ := wall (show (crC crZ).size = (crC c).size by rw [crC_size HCT.out, crC_size crZ_ok])
   have HO6 := wall (crC_one c)
   have H3 := wall (show Blk w3 w.heap.size 71 (crC c) from h3.c)
   have H3o := wall h3.o
   have H3b := wall h3.bel
   clear h3
   obtain ⟨D, hD⟩ : ∃ y, crC c = y := ⟨_, rfl⟩
   obtain ⟨Z', hZ'⟩ : ∃ y, crC crZ = y := ⟨_, rfl⟩
   have HD := wall hD
   rw [hD] at H3 HS6 HSZ HO6
   rw [hZ'] at H3o HSZ
   clear hD hZ' HZ
   go_wp2_with (first | refine wpList_load_row rfl 71 _ rfl w.heap.size rfl 71 D (0, 0) _ H3.out Tryz.underlying71 rfl HS6.out ?_ | (refine wpList_set_row rfl 71 (.tmp 6) (.tmp 17) rfl (w.heap.size + 1) D rfl rfl 71 Z' H3o.out HS6.out HSZ.out HO6.out ?_; intro w4 K4 F4))
   have H4b := wall (Below.frm H3b.out F4.out (Nat.le_refl _) (by simp))
   go_light
   exact bodyPost_ret (v := .agg D) (results_cell_row Tryz.results94 _ _ (w.heap.size + 1) 71 D (0, 0) _ rfl K4.out Tryz.underlying71 rfl HS6.out) rfl ⟨by rw [HW.out, HD.out], H4b.out⟩
  ·clear h0
   have HS6 := wall (show (Tryz.prog.info? 71).map (·.size) = some (crC c).size by rw [crC_size HCT.out]; exact cr_info)
   have HSZ := wall (show (crC crZ).size = (crC c).size by rw [crC_size HCT.out, crC_size crZ_ok])
   have HO6 := wall (crC_one c)
   have H3 := wall (show Blk w3 w.heap.size 71 (crC c) from h3.c)
   have H3o := wall h3.o
   have H3b := wall h3.bel
   clear h3
   obtain ⟨D, hD⟩ : ∃ y, crC c = y := ⟨_, rfl⟩
   obtain ⟨Z', hZ'⟩ : ∃ y, crC crZ = y := ⟨_, rfl⟩
   have HD := wall hD
   rw [hD] at H3 HS6 HSZ HO6
   rw [hZ'] at H3o HSZ
   clear hD hZ' HZ
   go_wp2_with (first | refine wpList_load_row rfl 71 _ rfl w.heap.size rfl 71 D (0, 0) _ H3.out Tryz.underlying71 rfl HS6.out ?_ | (refine wpList_set_row rfl 71 (.tmp 6) (.tmp 17) rfl (w.heap.size + 1) D rfl rfl 71 Z' H3o.out HS6.out HSZ.out HO6.out ?_; intro w4 K4 F4))
   have H4b := wall (Below.frm H3b.out F4.out (Nat.le_refl _) (by simp))
   go_light
   exact bodyPost_ret (v := .agg D) (results_cell_row Tryz.results94 _ _ (w.heap.size + 1) 71 D (0, 0) _ rfl K4.out Tryz.underlying71 rfl HS6.out) rfl ⟨by rw [HW.out, HD.out], H4b.out⟩
def newC (pc : Nat) : Cr := crZ.set 32 pc
theorem newC_ok {pc : Nat} (h : pc < 4294967296) : (newC pc).Ok := crZ_ok.set 32 pc h
theorem new_built (pc : Nat) : Tryz.prog.built 71 [(1, .int .u32 (pc : Int))] = some (crC (newC pc)) := by kernel_rfl
theorem new_any (pc : Nat) (hpc : pc < 4294967296) (w : World) : Calls Tryz.prog 84 #[.int .u32 (pc : Int)] w (CrOut (newC pc) w) := by
 have HCT := wall (newC_ok hpc)
 have HB := wall (new_built pc)
 have HZ := wall cr_zero
 have HK := wall (Blk.new w 71 (crC crZ))
 have HBL := wall ((Below.refl _ w).alloc (Nat.le_refl _) (.cells (crC crZ) 71))
 have HS6 := wall (show (Tryz.prog.info? 71).map (·.size) = some (crC (newC pc)).size by rw [crC_size HCT.out]; exact cr_info)
 have HSZ := wall (show (crC crZ).size = (crC (newC pc)).size by rw [crC_size HCT.out, crC_size crZ_ok])
 have HO6 := wall (crC_one (newC pc))
 obtain ⟨D, hD⟩ : ∃ y, crC (newC pc) = y := ⟨_, rfl⟩
 obtain ⟨Z, hZ⟩ : ∃ y, crC crZ = y := ⟨_, rfl⟩
 have HD := wall hD
 rw [hD] at HB HS6 HSZ HO6
 rw [hZ] at HZ HSZ HK HBL
 clear hD hZ hpc
 go_enter Tryz.func84, Tryz.ntmps84
 go_upto_region 1 with (refine Big.wpList_alloc_at rfl 71 rfl Z HZ.out w.heap.size rfl ?_)
 try simp only [Act.put, rpA, rpB, rpC]
 generalize w.alloc (.cells Z 71) = w1 at *
 go_wp2_with (first | refine wpList_build_row rfl 71 [(1, .tmp 3)] rfl D HB.out ?_ | (refine wpList_set_row rfl 71 (.tmp 2) (.tmp 4) rfl w.heap.size D rfl rfl 71 Z HK.out HS6.out HSZ.out HO6.out ?_; intro w4 K4 F4))
 have H4b := wall (Below.frm HBL.out F4.out (Nat.le_refl _) (by simp))
 go_light
 exact bodyPost_ret (v := .agg D) (results_cell_row Tryz.results84 _ _ w.heap.size 71 D (0, 0) _ rfl K4.out Tryz.underlying71 rfl HS6.out) rfl ⟨by rw [HD.out], H4b.out⟩
structure Fn (w w' : World) (c : Cr) (I : Array Value) : Prop where
 c : Cb w' w.heap.size c
 i : Blk w' (w.heap.size + 1) 54 I
 o : Blk w' (w.heap.size + 2) 71 (crC crZ)
 e : Blk w' (w.heap.size + 3) 78 evZ
 bel : Below w.heap.size w w'
theorem Fn.new (w : World) (c : Cr) (I : Array Value) : Fn w ((((w.alloc (.cells (crC c) 71)).alloc (.cells I 54)).alloc (.cells (crC crZ) 71)).alloc (.cells evZ 78)) c I :=
 ⟨(((Blk.new w _ _).alloc _).alloc _).alloc _, ((blk_new' (by simp)).alloc _).alloc _, (blk_new' (by simp)).alloc _, blk_new' (by simp), ((((Below.refl _ w).alloc (Nat.le_refl _) _).alloc (by simp) _).alloc (by simp; omega) _).alloc (by simp; omega) _⟩
theorem Fn.put {w w' : World} {c : Cr} {I : Array Value} (h : Fn w w' c I) (ho : c.Ok) {i : Nat} (hi : i < 41) (v : Nat) : Fn w (w'.setCell ⟨w.heap.size, i, none⟩ (.int .u32 (v : Int))) (c.set i v) I :=
 ⟨h.c.put ho hi v, h.i.far' _ _ (by simp) _, h.o.far' _ _ (by simp) _, h.e.far' _ _ (by simp) _, h.bel.setCell (p := ⟨w.heap.size, i, none⟩) (Nat.le_refl _) _⟩
theorem Fn.frozen {w w' : World} {c : Cr} {I : Array Value} (h : Fn w w' c I) (i : Nat) : w'.frozen? ⟨w.heap.size, i, none⟩ = false := Blk.frozen h.c i
theorem Fn.cell {w w' : World} {c : Cr} {I : Array Value} (h : Fn w w' c I) (ho : c.Ok) {i : Nat} (hi : i < 41) : w'.cell? ⟨w.heap.size, i, none⟩ = some (.int .u32 ((c.g i : Nat) : Int)) := h.c.cell ho hi
theorem wp_fn {P : Program} {k : Code} {Q : Exit → Act → World → Prop} {a : Act} {w' : World} (w : World) (c : Cr) (I : Array Value) (h1 : Fn w w' c I) (h : ∀ w8, Fn w w8 c I → Code.wp P k Q a w8) : Code.wp P k Q a w' := h w' h1
def nextC (c : Cr) : Cr := (c.set 32 ((c.g 32 + 4) % 4294967296)).set 40 ((c.g 40 + 1) % 4294967296)
theorem Cr.Ok.next {c : Cr} (h : c.Ok) : (nextC c).Ok := (h.set 32 _ (by omega)).set 40 _ (by omega)
theorem next_built (i : In) : Tryz.prog.built 78 [(2, .agg (inC i))] = some (evC false 0 i 0 none 0 0) := by kernel_rfl
theorem next_any (c : Cr) (hc : c.Ok) (i : In) (w : World) : Calls Tryz.prog 169 #[.agg (crC c), .agg (inC i)] w (StepOut (nextC c) (evC false 0 i 0 none 0 0) w) := by
 have HC := wall hc
 have HF := wall (Fn.new w c (inC i))
 have HZ := wall cr_zero
 have HE := wall ev_zero
 have HBE := wall (next_built i)
 have HEI := wall (show (Tryz.prog.info? 78).map (·.size) = some (evC false 0 i 0 none 0 0).size from ev_info)
 have HEZ := wall (show evZ.size = (evC false 0 i 0 none 0 0).size from rfl)
 have HEO := wall (evC_one false 0 i 0 none 0 0)
 have HIZ := wall (show (Tryz.prog.info? 54).map (·.size) = some (inC i).size from in_info)
 obtain ⟨C, hC⟩ : ∃ y, crC c = y := ⟨_, rfl⟩
 obtain ⟨Z, hZ⟩ : ∃ y, crC crZ = y := ⟨_, rfl⟩
 obtain ⟨E, hE⟩ : ∃ y, evZ = y := ⟨_, rfl⟩
 obtain ⟨I, hI⟩ : ∃ y, inC i = y := ⟨_, rfl⟩
 obtain ⟨V, hV⟩ : ∃ y, evC false 0 i 0 none 0 0 = y := ⟨_, rfl⟩
 have HFW := wall (fun w8 (h : Fn w w8 c I) => show Fn w w8 c (inC i) by rw [hI]; exact h)
 rw [hC, hZ, hE, hI] at HF
 rw [hZ] at HZ
 rw [hE] at HE HEZ
 rw [hI] at HBE HIZ
 rw [hV] at HBE HEI HEZ HEO
 rw [hC, hI, hV]
 clear hc hC hI hV HFW
 go_enter Tryz.func169, Tryz.ntmps169
 go_upto_region 1 with (first | refine Big.wpList_alloc_at rfl 71 rfl Z HZ.out (w.heap.size + 2) (by simp) ?_ | refine Big.wpList_alloc_at rfl 78 rfl E HE.out (w.heap.size + 3) (by simp) ?_)
 try simp only [Act.put, rpA, rpB, rpC]
 refine wp_fn w c I HF.out ?_
 intro w1 h1
 have H1 := wall h1
 have k32 := h1.cell HC.out (show 32 < 41 by decide)
 have k40 := h1.cell HC.out (show 40 < 41 by decide)
 have hfz := h1.frozen
 obtain ⟨s32, hs32⟩ : ∃ y, c.g 32 = y := ⟨_, rfl⟩
 obtain ⟨s40, hs40⟩ : ∃ y, c.g 40 = y := ⟨_, rfl⟩
 rw [hs32] at k32
 rw [hs40] at k40
 have HN := wall (show nextC c = (c.set 32 ((s32 + 4) % 4294967296)).set 40 ((s40 + 1) % 4294967296) by rw [← hs32, ← hs40]; rfl)
 clear h1 HF hs32 hs40
 go_upto_region 3 with fail
 have h3 := (H1.out.put HC.out (i := 32) (by decide) ((s32 + 4) % 4294967296)).put (HC.out.set 32 _ (by omega)) (i := 40) (by decide) ((s40 + 1) % 4294967296)
 have e1 : (((s32 + 4) % 4294967296 : Nat) : Int) = ((s32 : Int) + 4) % 4294967296 := by omega
 have e2 : (((s40 + 1) % 4294967296 : Nat) : Int) = ((s40 : Int) + 1) % 4294967296 := by omega
 rw [e1, e2] at h3
 refine wp_fn w (nextC c) I (by rw [HN.out]; exact h3) ?_
 have HCT := wall (Cr.Ok.next HC.out)
 clear H1 k32 k40 hfz h3 e1 e2 HN HC
 obtain ⟨c6, hc6⟩ : ∃ y, nextC c = y := ⟨_, rfl⟩
 have HC6 := wall hc6
 rw [hc6] at HCT
 rw [hc6]
 clear hc6
 intro w3 h3
 have H3 := wall (show Blk w3 w.heap.size 71 (crC c6) from h3.c)
 have H3i := wall h3.i
 have H3o := wall h3.o
 have H3e := wall h3.e
 have H3b := wall h3.bel
 have HS6 := wall (show (Tryz.prog.info? 71).map (·.size) = some (crC c6).size by rw [crC_size HCT.out]; exact cr_info)
 have HSZ := wall (show (crC crZ).size = (crC c6).size by rw [crC_size HCT.out, crC_size crZ_ok])
 have HO6 := wall (crC_one c6)
 clear h3
 obtain ⟨D, hD⟩ : ∃ y, crC c6 = y := ⟨_, rfl⟩
 have HD := wall hD
 rw [hD] at H3 HS6 HSZ HO6
 rw [hZ] at H3o HSZ
 rw [hE] at H3e
 clear hD hZ hE HZ HE
 refine wp_two_rows_b (by kernel_rfl) (by kernel_rfl) rfl rfl rfl rfl rfl rfl rfl 71 54 78 _ _ _ _ 16 17 18 (by decide) (by decide) rfl rfl rfl rfl rfl rfl rfl w.heap.size (w.heap.size + 1) (w.heap.size + 2) (w.heap.size + 3) D I V 71 54 71 78 Z E _ _ rfl rfl rfl rfl rfl (fun W => Rel.exec_build _ [(2, .tmp 17)] rfl _ HBE.out) (fun W => Rel.exec_build _ [(2, .tmp 17)] rfl _ HBE.out) rfl rfl rfl rfl rfl rfl rfl rfl H3.out H3i.out H3o.out H3e.out (by omega) (by omega) Tryz.underlying71 rfl HS6.out HSZ.out HO6.out Tryz.underlying54 rfl HIZ.out HEI.out HEZ.out HEO.out ?_
 intro w5 K5 K6 F5
 have K5o := wall K5
 have K6o := wall K6
 have HB5 := wall (Below.frm H3b.out F5 (Nat.le_refl _) (by intro x hx; simp at hx; omega))
 clear K5 K6 F5
 try simp only [Act.put, rpA, rpB, rpC]
 go_wp2_with fail
 go_light
 exact bodyPost_ret (v := .tuple #[.agg D, .agg V]) (results_two Tryz.results169 _ _ (w.heap.size + 2) (w.heap.size + 3) 71 78 D V _ _ rfl rfl K5o.out K6o.out Tryz.underlying71 rfl HS6.out Tryz.underlying78 rfl HEI.out) rfl ⟨by rw [HC6.out, HD.out], HB5.out⟩
end Core
end Go.Proofs.YtmiaabpnolebhaaGreatDoor
