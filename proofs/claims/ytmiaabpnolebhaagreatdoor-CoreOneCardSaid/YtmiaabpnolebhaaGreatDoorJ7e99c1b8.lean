/-
  Texts of this claim, joined: RvD, RvE.
-/
import Derived.Test.YtmiaabpnolebhaaGreatDoorRvC
import Derived.IntWalk
import Derived.Test.YtmiaabpnolebhaaGreatDoorJ0f874aed
set_option maxHeartbeats 2000000
set_option linter.unusedSimpArgs false
set_option linter.unusedVariables false
namespace Go.Proofs.YtmiaabpnolebhaaGreatDoor
open Go.RowKit

namespace Rv
open Otp Sha
theorem mask32 : ∀ n : Fin 32, ((2 : Int) ^ n.val - 1) % 4294967296 = ((2 ^ n.val - 1 : Nat) : Int) ∧ 2 ^ n.val - 1 < 4294967296 := by decide +kernel
theorem bits_any (v f n : Nat) (vz fz nz : Int) (w : World) (e1 : vz = v) (e2 : fz = f) (e3 : nz = n) (hv : v < 4294967296) (hf : f < 32) (hn : n < 32) :
  Calls Tryz.prog 87 #[.int .u32 vz, .int .i64 fz, .int .i64 nz] w fun e w' => e = .returned (.int .u32 ((cut v f n : Nat) : Int)) ∧ ∃ d, w' = w.drewN d := by
 have HM := wall (mask32 ⟨n, hn⟩)
 subst e1 e2 e3
 go_enter Tryz.func87, Tryz.ntmps87
 go_wp2_with fail
 go_quiet (fail)
 go_wp2_with fail
 go_light
 go_ret
 refine ⟨ret1i ?_, nq, rfl⟩
 have hm := HM.out.1
 have e2 : ((v : Int) / 2 ^ f) = ((v / 2 ^ f : Nat) : Int) := by simp
 rw [hm, e2, u32_and_nat _ _ (Nat.lt_of_le_of_lt (Nat.div_le_self _ _) hv) HM.out.2, Nat.and_two_pow_sub_one_eq_mod]
 rfl
theorem ext12 (v : Nat) : wrap32 ((v : Int) * 1048576 % 4294967296) / 1048576 % 4294967296 = ((ext v 12 : Nat) : Int) := by
 unfold wrap32 ext
 simp only [Nat.reducePow, Nat.reduceSub]
 split <;> omega
theorem ext13 (v : Nat) : wrap32 ((v : Int) * 524288 % 4294967296) / 524288 % 4294967296 = ((ext v 13 : Nat) : Int) := by
 unfold wrap32 ext
 simp only [Nat.reducePow, Nat.reduceSub]
 split <;> omega
theorem ext21 (v : Nat) : wrap32 ((v : Int) * 2048 % 4294967296) / 2048 % 4294967296 = ((ext v 21 : Nat) : Int) := by
 unfold wrap32 ext
 simp only [Nat.reducePow, Nat.reduceSub]
 split <;> omega
theorem signed12 (v : Nat) (vz : Int) (w : World) (e1 : vz = v) :
  Calls Tryz.prog 231 #[.int .u32 vz, .int .i64 12] w fun e w' => e = .returned (.int .u32 ((ext v 12 : Nat) : Int)) ∧ w = w' := by
 subst e1
 rw [← ext12]
 go_enter Tryz.func231, Tryz.ntmps231
 go_wp2_with fail
 go_light
 go_ret
 exact ⟨rfl, rfl⟩
theorem signed13 (v : Nat) (vz : Int) (w : World) (e1 : vz = v) :
  Calls Tryz.prog 231 #[.int .u32 vz, .int .i64 13] w fun e w' => e = .returned (.int .u32 ((ext v 13 : Nat) : Int)) ∧ w = w' := by
 subst e1
 rw [← ext13]
 go_enter Tryz.func231, Tryz.ntmps231
 go_wp2_with fail
 go_light
 go_ret
 exact ⟨rfl, rfl⟩
theorem signed21 (v : Nat) (vz : Int) (w : World) (e1 : vz = v) :
  Calls Tryz.prog 231 #[.int .u32 vz, .int .i64 21] w fun e w' => e = .returned (.int .u32 ((ext v 21 : Nat) : Int)) ∧ w = w' := by
 subst e1
 rw [← ext21]
 go_enter Tryz.func231, Tryz.ntmps231
 go_wp2_with fail
 go_light
 go_ret
 exact ⟨rfl, rfl⟩
theorem beq_nat {v : Nat} {c : Nat} (h : ((v : Int) == (c : Int)) = true) : v = c := by
 have := beq_iff_eq.1 h
 omega
theorem bne_nat {v : Nat} {c : Nat} (h : ((v : Int) == (c : Int)) = false) : ¬ v = c := by
 have := beq_eq_false_iff_ne.1 h
 omega
theorem plain_any (v : Nat) (vz : Int) (w : World) (e1 : vz = v) :
  Calls Tryz.prog 159 #[.int .u32 vz] w fun e w' => e = .returned (.int .u8 ((plainN v : Nat) : Int)) ∧ w = w' := by
 obtain ⟨x, hx⟩ : ∃ x, ((plainN v : Nat) : Int) = x := ⟨_, rfl⟩
 rw [hx]
 have HX := wall hx
 clear hx
 subst e1
 go_enter Tryz.func159, Tryz.ntmps159
 go_wp2_with fail
 all_goals (go_light; go_ret; refine ⟨ret1i ?_, rfl⟩; rw [← HX.out]; unfold plainN)
 ·rename_i h1
  rw [if_pos (beq_nat (c := 115) h1)]; rfl
 ·rename_i h1 h2
  rw [if_neg (bne_nat (c := 115) h1), if_pos (beq_nat (c := 1048691) h2)]; rfl
 ·rename_i h1 h2 h3
  rw [if_neg (bne_nat (c := 115) h1), if_neg (bne_nat (c := 1048691) h2), if_pos (beq_nat (c := 807403635) h3)]; rfl
 ·rename_i h1 h2 h3 h4
  rw [if_neg (bne_nat (c := 115) h1), if_neg (bne_nat (c := 1048691) h2), if_neg (bne_nat (c := 807403635) h3), if_pos (beq_nat (c := 273678451) h4)]; rfl
 ·rename_i h1 h2 h3 h4
  rw [if_neg (bne_nat (c := 115) h1), if_neg (bne_nat (c := 1048691) h2), if_neg (bne_nat (c := 807403635) h3), if_neg (bne_nat (c := 273678451) h4)]; rfl
theorem results_tt {P : Program} {fn : Func} {p u : Tmp} (h : fn.results = #[.tmp p, .tmp u]) (tmps : Array Value) (w : World) : (results fn tmps).run P w = .ok (.tuple #[tmps.getD p undef, tmps.getD u undef]) w := by
 simp [results, h]
def NumQ (k : IntKind) (v : Nat) (w : World) (e : Ending) (w' : World) : Prop := e = .returned (.int k (v : Int)) ∧ ∃ d, w' = w.drewN d
theorem or_int {a b c : Nat} (h : a ||| b = c) (ha : a < 4294967296) (hb : b < 4294967296) : bits .or .u32 (a : Int) (b : Int) = (c : Int) := by rw [u32_or_nat _ _ ha hb, h]
theorem or_desc {x y : Nat} (k : Nat) (h : y < 2 ^ k) : x * 2 ^ k ||| y = x * 2 ^ k + y := by rw [Nat.or_comm, or_at k h]; omega
theorem immI_any (v : Nat) (vz : Int) (w : World) (e1 : vz = v) :
  Calls Tryz.prog 165 #[.int .u32 vz] w (NumQ .u32 (immI v) w) := by
 subst e1
 unfold immI
 go_enter Tryz.func165, Tryz.ntmps165
 go_wp2_with fail
 (with_reducible refine (signed12 (v / 2 ^ 20) _ _ (by simp)).mono ?_); rintro e w' ⟨rfl, rfl⟩
 go_wp2_with fail
 go_light
 go_ret
 exact ⟨rfl, 0, rfl⟩
theorem or_sum {xz yz : Int} (x y z k : Nat) (h1 : xz = (x : Int)) (h2 : yz = (y : Int)) (h3 : x % 2 ^ k = 0) (h4 : y < 2 ^ k) (h5 : x + y = z) (h6 : z < 4294967296) : bits .or .u32 xz yz = (z : Int) := by
 subst h1 h2
 have hx : x = x / 2 ^ k * 2 ^ k := by
  have := Nat.div_add_mod x (2 ^ k)
  rw [h3, Nat.mul_comm] at this
  omega
 refine or_int ?_ (by omega) (by omega)
 rw [hx, or_desc k h4, ← hx]
 exact h5
theorem immS_any (v : Nat) (vz : Int) (w : World) (e1 : vz = v) (hv : v < 4294967296) :
  Calls Tryz.prog 164 #[.int .u32 vz] w (NumQ .u32 (immS v) w) := by
 subst e1
 unfold immS
 have HB1 := wall (fun W => bits_any v 25 7 v 25 7 W rfl rfl rfl hv (by decide) (by decide))
 have hx1 := cut_lt v 25 7
 obtain ⟨x1, h1⟩ : ∃ y, cut v 25 7 = y := ⟨_, rfl⟩
 rw [h1] at hx1 HB1 ⊢
 have HB2 := wall (fun W => bits_any v 7 5 v 7 5 W rfl rfl rfl hv (by decide) (by decide))
 have hx2 := cut_lt v 7 5
 obtain ⟨x2, h2⟩ : ∃ y, cut v 7 5 = y := ⟨_, rfl⟩
 rw [h2] at hx2 HB2 ⊢
 clear h1 h2
 obtain ⟨y2, hy2⟩ : ∃ y, x1 * 32 + x2 = y := ⟨_, rfl⟩
 have o2 : bits .or .u32 ((x1 : Int) * 32) ((x2 : Int)) = (y2 : Int) := or_sum (x1 * 32) (x2) y2 5 (by omega) (by omega) (by omega) (by omega) (by omega) (by omega)
 rw [show x1 * 32 + x2 = y2 by omega]
 have m1 : (x1 : Int) * 32 % 4294967296 = (x1 : Int) * 32 := by omega
 clear hy2
 go_enter Tryz.func164, Tryz.ntmps164
 go_wp2_with fail
 (with_reducible refine (HB1.out _).mono ?_); rintro e w1 ⟨rfl, d1, rfl⟩
 go_wp2_with fail
 (with_reducible refine (HB2.out _).mono ?_); rintro e w1 ⟨rfl, d2, rfl⟩
 go_wp2_with fail
 (with_reducible refine (signed12 y2 _ _ rfl).mono ?_); rintro e w1 ⟨rfl, rfl⟩
 go_wp2_with fail
 go_light
 go_ret
 exact ⟨rfl, _, rfl⟩
theorem immB_any (v : Nat) (vz : Int) (w : World) (e1 : vz = v) (hv : v < 4294967296) :
  Calls Tryz.prog 163 #[.int .u32 vz] w (NumQ .u32 (immB v) w) := by
 subst e1
 unfold immB
 have HB1 := wall (fun W => bits_any v 31 1 v 31 1 W rfl rfl rfl hv (by decide) (by decide))
 have hx1 := cut_lt v 31 1
 obtain ⟨x1, h1⟩ : ∃ y, cut v 31 1 = y := ⟨_, rfl⟩
 rw [h1] at hx1 HB1 ⊢
 have HB2 := wall (fun W => bits_any v 7 1 v 7 1 W rfl rfl rfl hv (by decide) (by decide))
 have hx2 := cut_lt v 7 1
 obtain ⟨x2, h2⟩ : ∃ y, cut v 7 1 = y := ⟨_, rfl⟩
 rw [h2] at hx2 HB2 ⊢
 have HB3 := wall (fun W => bits_any v 25 6 v 25 6 W rfl rfl rfl hv (by decide) (by decide))
 have hx3 := cut_lt v 25 6
 obtain ⟨x3, h3⟩ : ∃ y, cut v 25 6 = y := ⟨_, rfl⟩
 rw [h3] at hx3 HB3 ⊢
 have HB4 := wall (fun W => bits_any v 8 4 v 8 4 W rfl rfl rfl hv (by decide) (by decide))
 have hx4 := cut_lt v 8 4
 obtain ⟨x4, h4⟩ : ∃ y, cut v 8 4 = y := ⟨_, rfl⟩
 rw [h4] at hx4 HB4 ⊢
 clear h1 h2 h3 h4
 obtain ⟨y2, hy2⟩ : ∃ y, x1 * 4096 + x2 * 2048 = y := ⟨_, rfl⟩
 have o2 : bits .or .u32 ((x1 : Int) * 4096) ((x2 : Int) * 2048) = (y2 : Int) := or_sum (x1 * 4096) (x2 * 2048) y2 12 (by omega) (by omega) (by omega) (by omega) (by omega) (by omega)
 obtain ⟨y3, hy3⟩ : ∃ y, y2 + x3 * 32 = y := ⟨_, rfl⟩
 have o3 : bits .or .u32 ((y2 : Int)) ((x3 : Int) * 32) = (y3 : Int) := or_sum (y2) (x3 * 32) y3 11 (by omega) (by omega) (by omega) (by omega) (by omega) (by omega)
 obtain ⟨y4, hy4⟩ : ∃ y, y3 + x4 * 2 = y := ⟨_, rfl⟩
 have o4 : bits .or .u32 ((y3 : Int)) ((x4 : Int) * 2) = (y4 : Int) := or_sum (y3) (x4 * 2) y4 5 (by omega) (by omega) (by omega) (by omega) (by omega) (by omega)
 rw [show x1 * 4096 + x2 * 2048 + x3 * 32 + x4 * 2 = y4 by rw [← hy4, ← hy3, ← hy2]]
 have m1 : (x1 : Int) * 4096 % 4294967296 = (x1 : Int) * 4096 := by omega
 have m2 : (x2 : Int) * 2048 % 4294967296 = (x2 : Int) * 2048 := by omega
 have m3 : (x3 : Int) * 32 % 4294967296 = (x3 : Int) * 32 := by omega
 have m4 : (x4 : Int) * 2 % 4294967296 = (x4 : Int) * 2 := by omega
 clear hy2 hy3 hy4
 go_enter Tryz.func163, Tryz.ntmps163
 go_wp2_with fail
 (with_reducible refine (HB1.out _).mono ?_); rintro e w1 ⟨rfl, d1, rfl⟩
 go_wp2_with fail
 (with_reducible refine (HB2.out _).mono ?_); rintro e w1 ⟨rfl, d2, rfl⟩
 go_wp2_with fail
 (with_reducible refine (HB3.out _).mono ?_); rintro e w1 ⟨rfl, d3, rfl⟩
 go_wp2_with fail
 (with_reducible refine (HB4.out _).mono ?_); rintro e w1 ⟨rfl, d4, rfl⟩
 go_wp2_with fail
 (with_reducible refine (signed13 y4 _ _ rfl).mono ?_); rintro e w1 ⟨rfl, rfl⟩
 go_wp2_with fail
 go_light
 go_ret
 exact ⟨rfl, _, rfl⟩
theorem immJ_any (v : Nat) (vz : Int) (w : World) (e1 : vz = v) (hv : v < 4294967296) :
  Calls Tryz.prog 162 #[.int .u32 vz] w (NumQ .u32 (immJ v) w) := by
 subst e1
 unfold immJ
 have HB1 := wall (fun W => bits_any v 31 1 v 31 1 W rfl rfl rfl hv (by decide) (by decide))
 have hx1 := cut_lt v 31 1
 obtain ⟨x1, h1⟩ : ∃ y, cut v 31 1 = y := ⟨_, rfl⟩
 rw [h1] at hx1 HB1 ⊢
 have HB2 := wall (fun W => bits_any v 12 8 v 12 8 W rfl rfl rfl hv (by decide) (by decide))
 have hx2 := cut_lt v 12 8
 obtain ⟨x2, h2⟩ : ∃ y, cut v 12 8 = y := ⟨_, rfl⟩
 rw [h2] at hx2 HB2 ⊢
 have HB3 := wall (fun W => bits_any v 20 1 v 20 1 W rfl rfl rfl hv (by decide) (by decide))
 have hx3 := cut_lt v 20 1
 obtain ⟨x3, h3⟩ : ∃ y, cut v 20 1 = y := ⟨_, rfl⟩
 rw [h3] at hx3 HB3 ⊢
 have HB4 := wall (fun W => bits_any v 21 10 v 21 10 W rfl rfl rfl hv (by decide) (by decide))
 have hx4 := cut_lt v 21 10
 obtain ⟨x4, h4⟩ : ∃ y, cut v 21 10 = y := ⟨_, rfl⟩
 rw [h4] at hx4 HB4 ⊢
 clear h1 h2 h3 h4
 obtain ⟨y2, hy2⟩ : ∃ y, x1 * 1048576 + x2 * 4096 = y := ⟨_, rfl⟩
 have o2 : bits .or .u32 ((x1 : Int) * 1048576) ((x2 : Int) * 4096) = (y2 : Int) := or_sum (x1 * 1048576) (x2 * 4096) y2 20 (by omega) (by omega) (by omega) (by omega) (by omega) (by omega)
 obtain ⟨y3, hy3⟩ : ∃ y, y2 + x3 * 2048 = y := ⟨_, rfl⟩
 have o3 : bits .or .u32 ((y2 : Int)) ((x3 : Int) * 2048) = (y3 : Int) := or_sum (y2) (x3 * 2048) y3 12 (by omega) (by omega) (by omega) (by omega) (by omega) (by omega)
 obtain ⟨y4, hy4⟩ : ∃ y, y3 + x4 * 2 = y := ⟨_, rfl⟩
 have o4 : bits .or .u32 ((y3 : Int)) ((x4 : Int) * 2) = (y4 : Int) := or_sum (y3) (x4 * 2) y4 11 (by omega) (by omega) (by omega) (by omega) (by omega) (by omega)
 rw [show x1 * 1048576 + x2 * 4096 + x3 * 2048 + x4 * 2 = y4 by rw [← hy4, ← hy3, ← hy2]]
 have m1 : (x1 : Int) * 1048576 % 4294967296 = (x1 : Int) * 1048576 := by omega
 have m2 : (x2 : Int) * 4096 % 4294967296 = (x2 : Int) * 4096 := by omega
 have m3 : (x3 : Int) * 2048 % 4294967296 = (x3 : Int) * 2048 := by omega
 have m4 : (x4 : Int) * 2 % 4294967296 = (x4 : Int) * 2 := by omega
 clear hy2 hy3 hy4
 go_enter Tryz.func162, Tryz.ntmps162
 go_wp2_with fail
 (with_reducible refine (HB1.out _).mono ?_); rintro e w1 ⟨rfl, d1, rfl⟩
 go_wp2_with fail
 (with_reducible refine (HB2.out _).mono ?_); rintro e w1 ⟨rfl, d2, rfl⟩
 go_wp2_with fail
 (with_reducible refine (HB3.out _).mono ?_); rintro e w1 ⟨rfl, d3, rfl⟩
 go_wp2_with fail
 (with_reducible refine (HB4.out _).mono ?_); rintro e w1 ⟨rfl, d4, rfl⟩
 go_wp2_with fail
 (with_reducible refine (signed21 y4 _ _ rfl).mono ?_); rintro e w1 ⟨rfl, rfl⟩
 go_wp2_with fail
 go_light
 go_ret
 exact ⟨rfl, _, rfl⟩
theorem Blk.to {w : World} {g : Nat} {t : TypeId} {cs cs' : Array Value} (h : Blk w g t cs) (e : cs = cs') : Blk w g t cs' := e ▸ h
theorem shape_info : (Tryz.prog.info? 186).map (·.size) = some 3 := by kernel_rfl
def formC (c f3 f7 : Nat) : Sh := if c = 55 ∨ c = 23 ∨ c = 111 then (c, 0, 0) else if c = 51 ∨ (c = 19 ∧ (f3 = 1 ∨ f3 = 5)) then (c, f3, f7) else (c, f3, 0)
theorem form_eq (v : Nat) : form v = formC (cut v 0 7) (cut v 12 3) (cut v 25 7) := rfl
def ShOut (s : Sh) (w : World) (e : Ending) (w' : World) : Prop := e = .returned (ky s) ∧ Below w.heap.size w w'
theorem form_any (v : Nat) (vz : Int) (w : World) (e1 : vz = v) (hv : v < 4294967296) :
  Calls Tryz.prog 160 #[.int .u32 vz] w (ShOut (form v) w) := by
 subst e1
 rw [form_eq]
 have HB1 := wall (fun W => bits_any v 0 7 v 0 7 W rfl rfl rfl hv (by decide) (by decide))
 have HB2 := wall (fun W => bits_any v 12 3 v 12 3 W rfl rfl rfl hv (by decide) (by decide))
 have HB3 := wall (fun W => bits_any v 25 7 v 25 7 W rfl rfl rfl hv (by decide) (by decide))
 obtain ⟨c, h1⟩ : ∃ y, cut v 0 7 = y := ⟨_, rfl⟩
 obtain ⟨f3, h2⟩ : ∃ y, cut v 12 3 = y := ⟨_, rfl⟩
 obtain ⟨f7, h3⟩ : ∃ y, cut v 25 7 = y := ⟨_, rfl⟩
 rw [h1] at HB1 ⊢
 rw [h2] at HB2 ⊢
 rw [h3] at HB3 ⊢
 clear h1 h2 h3
 obtain ⟨s, hs⟩ : ∃ y, formC c f3 f7 = y := ⟨_, rfl⟩
 have HS := wall hs
 rw [hs]
 clear hs
 go_enter Tryz.func160, Tryz.ntmps160
 go_wp2_with fail
 (with_reducible refine (HB1.out _).mono ?_); rintro e w1 ⟨rfl, d1, rfl⟩
 go_wp2_with fail
 (with_reducible refine (HB2.out _).mono ?_); rintro e w1 ⟨rfl, d2, rfl⟩
 go_wp2_with fail
 all_goals try ((with_reducible refine (HB3.out _).mono ?_); rintro e w1 ⟨rfl, d3, rfl⟩; go_wp2_with fail)
 all_goals refine bodyPost_ret (v := ky s) (results_cell_row Tryz.results160 _ _ w.heap.size 186 #[.int .u32 (s.1 : Int), .int .u32 (s.2.1 : Int), .int .u32 (s.2.2 : Int)] (0, 0) _ rfl ?_ Tryz.underlying186 rfl shape_info) rfl ⟨rfl, ?_⟩
 all_goals first
  | ((repeat' (first | with_reducible (first | exact Below.refl _ _ | refine Below.setCell ?_ ?_ _ | refine Below.alloc ?_ ?_ _ | refine Below.drew ?_ | refine Below.drewN ?_ _ | exact Nat.le_refl _) | (simp; done) | (simp; omega) | omega)); done)
  | (refine (show Blk _ _ _ _ from ?_); exact Blk.to (by (repeat (first | with_reducible (first | exact Blk.new _ _ _ | apply Blk.alloc | apply Blk.drewN | apply Blk.drew | apply Blk.set) | (with_reducible apply Blk.far'; rotate_left 1; (first | omega | (simp; done) | (simp; omega)); rotate_left 1)))) (by (rw [← HS.out]; unfold formC; (try simp only [beq_iff_eq, beq_eq_false_iff_ne, ne_eq] at *); (repeat (first | rw [if_pos (by omega)] | rw [if_neg (by omega)])); simp <;> omega)))
end Rv
end Go.Proofs.YtmiaabpnolebhaaGreatDoor
