import Derived.Test.YtmiaabpnolebhaaGreatDoorJ7e99c1b8
set_option maxRecDepth 100000
set_option maxHeartbeats 8000000
set_option linter.unusedSimpArgs false
set_option linter.unusedVariables false
namespace Go.Proofs.YtmiaabpnolebhaaGreatDoor
open Go.RowKit Go.Maps

namespace Rv
open Otp Sha R1
theorem SMp.next {w w' : World} {b : Nat} {l : List (Sh × Nat)} (h : SMp w b l) (hb : Below w.heap.size w w') : SMp w' b l := Mp.block h (Frm.of_below (S := []) hb) (by simp)
def MapV (v : Value) (W : World) : Prop := ∃ b, v = .map (some b) ∧ SMp W b tab
theorem MapV.grow : ∀ v W W', Rel.Grow W W' → MapV v W → MapV v W' := fun _ _ _ h ⟨b, h1, h2⟩ => ⟨b, h1, h2.next h⟩
theorem vL_lookup (s : Sh) : ∀ l : List (Sh × Nat), (vL l).lookup s = (l.lookup s).map fun (x : Nat) => Value.int .u8 (x : Int)
 | [] => rfl
 | (k, v) :: l => by
  show (((k, Value.int .u8 (v : Int)) :: vL l).lookup s) = _
  rw [List.lookup_cons, List.lookup_cons]
  split
  ·rfl
  ·exact vL_lookup s l
theorem lookup_op (s : Sh) : ((vL tab).lookup s).getD (.int .u8 0) = .int .u8 ((opAt s : Nat) : Int) := by
 rw [vL_lookup]
 unfold opAt
 cases tab.lookup s <;> rfl
theorem tab_small : ∀ e ∈ tab, e.2 ≤ 56 := by decide +kernel
theorem opAt_le (s : Sh) : opAt s ≤ 56 := by
 unfold opAt
 cases e : tab.lookup s with
 | none => exact Nat.zero_le _
 | some v => exact tab_small _ (lookup_mem e)
theorem form_ok {v : Nat} (h : v < 4294967296) : okS (form v) = true := by
 have h1 := cut_lt v 0 7
 have h2 := cut_lt v 12 3
 have h3 := cut_lt v 25 7
 unfold form
 split
 ·exact okS_of (by omega) (by omega) (by omega)
 ·split
  ·exact okS_of (by omega) (by omega) (by omega)
  ·exact okS_of (by omega) (by omega) (by omega)
theorem form_fst (v : Nat) : (form v).1 = cut v 0 7 := by
 unfold form
 split
 ·rfl
 ·split <;> rfl
def inC (i : In) : Array Value := #[.int .u8 (i.op : Int), .int .u8 (i.rd : Int), .int .u8 (i.a : Int), .int .u8 (i.b : Int), .int .u32 (i.imm : Int), .int .u16 (i.csr : Int)]
theorem in_info : (Tryz.prog.info? 54).map (·.size) = some 6 := by kernel_rfl
def InOut (i : In) (ok : Bool) (w : World) (e : Ending) (w' : World) : Prop := e = .returned (.tuple #[.agg (inC i), .bool ok]) ∧ Below w.heap.size w w'
def decC (op c rd a b u jj bb ss ii csr : Nat) : In :=
 if c = 55 ∨ c = 23 then ⟨op, rd, 0, 0, u, 0⟩
 else if c = 111 then ⟨op, rd, 0, 0, jj, 0⟩
 else if c = 99 then ⟨op, 0, a, b, bb, 0⟩
 else if c = 35 then ⟨op, 0, a, b, ss, 0⟩
 else if c = 51 then ⟨op, rd, a, b, 0, 0⟩
 else if c = 15 then opIn op
 else if c = 115 then (if 46 ≤ op then ⟨op, rd, 0, 0, a, csr⟩ else ⟨op, rd, a, 0, 0, csr⟩)
 else if op = 25 ∨ op = 26 ∨ op = 27 then ⟨op, rd, a, 0, b, 0⟩
 else ⟨op, rd, a, 0, ii, 0⟩
theorem decI_eq (op v : Nat) : decI op v = decC op (cut v 0 7) (cut v 7 5) (cut v 15 5) (cut v 20 5) (v - v % 4096) (immJ v) (immB v) (immS v) (immI v) (cut v 20 12) := rfl
theorem and_high {v : Nat} (h : v < 4294967296) : v &&& (4294967295 - 4095) = v - v % 4096 := by
 have h1 : v &&& ((4294967295 - 4095) ||| 4095) = (v &&& (4294967295 - 4095)) ||| (v &&& 4095) := Nat.and_or_distrib_left ..
 have h2 : v &&& ((4294967295 - 4095) ||| 4095) = v := by
  rw [show (4294967295 - 4095 ||| 4095 : Nat) = 2 ^ 32 - 1 by decide, Nat.and_two_pow_sub_one_eq_mod]
  omega
 have h3 : v &&& 4095 = v % 4096 := Nat.and_two_pow_sub_one_eq_mod v 12
 have h4 : (v &&& (4294967295 - 4095)) % 2 ^ 12 = 0 := by
  rw [Nat.and_mod_two_pow]
  simp
 rw [h2, h3] at h1
 obtain ⟨x, hx⟩ : ∃ x, v &&& (4294967295 - 4095) = x := ⟨_, rfl⟩
 rw [hx] at h1 h4 ⊢
 have hx2 : x = x / 2 ^ 12 * 2 ^ 12 := by omega
 rw [hx2, or_desc 12 (Nat.mod_lt _ (by decide)), ← hx2] at h1
 omega
theorem not_low {v : Nat} (h : v < 4294967296) : bits .andNot .u32 (v : Int) 4095 = ((v - v % 4096 : Nat) : Int) := by
 have := u32_andNot_nat v 4095 h (by decide)
 rw [and_high h] at this
 exact this
theorem in_end {fn : Func} {p u : Tmp} (h : fn.results = #[.cell p 54, .tmp u]) {tmps : Array Value} {w : World} (g : Nat) (i : In) (E : Value) (h1 : tmps.getD p undef = .pointer (some ⟨g, 0, none⟩)) (h2 : tmps.getD u undef = E) (hb : Blk w g 54 (inC i)) :
  (results fn tmps).run Tryz.prog w = .ok (.tuple #[.agg (inC i), E]) w := by
 rw [results_cell_tmp h, h1, h2]
 have := run_loadVar_row (P := Tryz.prog) w g 54 54 (inC i) (0, 0) _ hb Tryz.underlying54 rfl in_info
 simp only [asAddr, Sem.run_pure, Result.andThen_ok, this]
theorem dec_leaf {D : In × Bool} {w w' : World} {tmps : Array Value} {i : In} {ok : Bool} (hD : D = (i, ok)) (h1 : tmps.getD 2 undef = .pointer (some ⟨w.heap.size, 0, none⟩)) (h2 : tmps.getD 3 undef = .bool ok) (hb : Blk w' w.heap.size 54 (inC i)) (hB : Below w.heap.size w w') :
  bodyPost Tryz.prog Tryz.f85 (InOut D.1 D.2 w) .ret ⟨tmps, []⟩ w' := by
 rw [hD]
 exact bodyPost_ret (v := .tuple #[.agg (inC i), .bool ok]) (in_end Tryz.results85 w.heap.size i (.bool ok) h1 h2 hb) rfl ⟨rfl, hB⟩
theorem decode_any (v : Nat) (vz : Int) (w : World) (e1 : vz = v) (hv : v < 4294967296) :
  Calls Tryz.prog 85 #[.int .u32 vz] w (InOut (dec v).1 (dec v).2 w) := by
 subst e1
 have HV := wall hv
 have HPL := wall (fun W => plain_any v v W rfl)
 have HFM := wall (fun W => form_any v v W rfl hv)
 have HOK := wall (form_ok hv)
 have HFS := wall (form_fst v)
 have HDEC := wall (show dec v = if plainN v ≠ 0 then (opIn (plainN v), true) else if opAt (form v) = 0 then (zIn, false) else (decI (opAt (form v)) v, true) from rfl)
 obtain ⟨p, hp⟩ : ∃ y, plainN v = y := ⟨_, rfl⟩
 obtain ⟨s, hs⟩ : ∃ y, form v = y := ⟨_, rfl⟩
 obtain ⟨D, hD⟩ : ∃ y, dec v = y := ⟨_, rfl⟩
 rw [hp] at HPL HDEC
 rw [hs] at HFM HOK HFS HDEC
 rw [hD] at HDEC ⊢
 clear hp hs hD hv
 go_enter Tryz.func85, Tryz.ntmps85
 go_wp2_with fail
 (with_reducible refine (HPL.out _).mono ?_); rintro e w1 ⟨rfl, rfl⟩
 by_cases hp0 : (p : Int) = 0
 ·go_upto_region 4 with fail
  have HPP := wall (show p = 0 by omega)
  clear hp0
  obtain ⟨w3, hw3⟩ : ∃ W, W = w.alloc (.cells (inC zIn) 54) := ⟨_, rfl⟩
  have HK3 := wall (show Blk w3 w.heap.size 54 (inC zIn) by rw [hw3]; exact Blk.new _ _ _)
  have HB3 := wall (show Below w.heap.size w w3 by rw [hw3]; exact (Below.refl _ w).alloc (Nat.le_refl _) _)
  change Code.wp _ _ _ _ (w.alloc (.cells (inC zIn) 54))
  rw [← hw3]
  clear hw3
  obtain ⟨c, f3, f7⟩ := s
  go_wp2_with fail
  (with_reducible refine (HFM.out _).mono ?_); rintro e w4 ⟨rfl, hB4⟩
  simp only [ky]
  have HK4 := wall (HK3.out.next hB4 rfl)
  have HB4 := wall (below_then HB3.out hB4 (Nat.le_refl _))
  clear hB4 HK3 HB3 HFM
  go_upto_region 5 with fail
  obtain ⟨w5, hw5⟩ : ∃ W, W = w4.alloc (.cells #[.int .u32 (c : Int), .int .u32 (f3 : Int), .int .u32 (f7 : Int)] 186) := ⟨_, rfl⟩
  have HS5 := wall (show Blk w5 w4.heap.size 186 #[.int .u32 (c : Int), .int .u32 (f3 : Int), .int .u32 (f7 : Int)] by rw [hw5]; exact Blk.new _ _ _)
  have HK5 := wall (show Blk w5 w.heap.size 54 (inC zIn) by rw [hw5]; exact HK4.out.alloc _)
  have HB5 := wall (show Below w.heap.size w w5 by rw [hw5]; exact HB4.out.alloc (Nat.le_of_lt HK4.out.lt) _)
  obtain ⟨g5, hg5⟩ : ∃ g, w4.heap.size = g := ⟨_, rfl⟩
  rw [← hw5]
  rw [hg5] at HS5 ⊢
  clear hw5 hg5 HK4 HB4
  refine RelG.wp_region_rel 2 [(19, .any MapV MapV.grow)] (by kernel_rfl) (by kernel_rfl) ?_
  simp only [List.take_succ_cons, List.take_zero, List.drop_succ_cons, List.drop_zero, Act.put, rpA, rpB, rpC]
  refine RelG.tree_rel rfl MapV MapV.grow rfl (fun W hW _ => ?_) (fun v19 => ?_)
  ·clear hW
   unfold RelG.relAt; go_simp; show Calls _ _ _ _ _
   exact Calls.mono (shapes_any W) fun e w' ⟨b, he, hm, hB⟩ => ⟨_, he, hB, b, rfl, hm⟩
  simp only [Act.put, rpA, rpB, rpC]
  refine RelG.tree_pure rfl rfl rfl (.agg #[.int .u32 (c : Int), .int .u32 (f3 : Int), .int .u32 (f7 : Int)]) (fun W hW _ => Rel.exec_load _ _ rfl g5 0 rfl _ _ (Blk.range (hW.blk HS5.out.drew)) Tryz.underlying186 rfl shape_info) ?_
  simp only [Act.put, rpA, rpB, rpC]
  intro W hW hF
  obtain ⟨b, rfl, hm⟩ : MapV v19 W := hF 19
  have HM := wall hm
  have HS6 := wall (hW.blk HS5.out.drew)
  have HK6 := wall (hW.blk HK5.out.drew)
  have HB6 := wall (below_then HB5.out hW.undrew (Nat.le_refl _))
  clear hF hW hm HS5 HK5 HB5
  obtain ⟨w6, rfl⟩ : ∃ V : World, V = W := ⟨_, rfl⟩
  have hz := fun V => (show (zeroValue 5).run Tryz.prog V = .ok (.int .u8 0) V from Tryz.zeroValue5 V)
  obtain ⟨op, hop⟩ : ∃ y, opAt (c, f3, f7) = y := ⟨_, rfl⟩
  have hlu := lookup_op (c, f3, f7)
  have hole := opAt_le (c, f3, f7)
  rw [hop] at hlu HDEC hole
  have HLU := wall hlu
  clear hlu hop
  go_upto_region 6 with (at_lookup; refine wpList_lookup_mp _ rfl _ _ _ rfl _ _ okS ky keyMap Tryz.underlying299 (.int .u8 0) (hz _) b _ (vL tab) rfl HM.out (c, f3, f7) rfl HOK.out ?_; rw [HLU.out])
  by_cases hop0 : (op : Int) = 0
  ·have h0 : op = 0 := by omega
   have hk0 : w6.cell? ⟨w.heap.size, 0, none⟩ = some (.int .u8 0) := HK6.out.cell 0
   have hk1 : w6.cell? ⟨w.heap.size, 1, none⟩ = some (.int .u8 0) := HK6.out.cell 1
   have hk2 : w6.cell? ⟨w.heap.size, 2, none⟩ = some (.int .u8 0) := HK6.out.cell 2
   have hk3 : w6.cell? ⟨w.heap.size, 3, none⟩ = some (.int .u8 0) := HK6.out.cell 3
   have hk4 : w6.cell? ⟨w.heap.size, 4, none⟩ = some (.int .u32 0) := HK6.out.cell 4
   have hk5 : w6.cell? ⟨w.heap.size, 5, none⟩ = some (.int .u16 0) := HK6.out.cell 5
   have hkf := HK6.out.frozen
   have HKB := HK6
   have HBB := HB6
   have HZ := wall (show D = (zIn, false) by rw [HDEC.out, if_neg (by rw [HPP.out]; decide), if_pos h0])
   clear h0
   go_wp2_with fail
   exact dec_leaf HZ.out rfl rfl (Blk.to (by (repeat (first | with_reducible (first | exact HKB.out | exact Blk.new _ _ _ | apply Blk.alloc | apply Blk.drewN | apply Blk.drew | apply Blk.set) | (with_reducible apply Blk.far'; rotate_left 1; (first | omega | (simp; done) | (simp; omega)); rotate_left 1)))) (by simp [inC, zIn, opIn])) (by (repeat' (first | with_reducible (first | exact HBB.out | refine Below.setCell ?_ ?_ _ | refine Below.alloc ?_ ?_ _ | refine Below.drew ?_ | refine below_drewN ?_ _ | exact Nat.le_refl _) | (simp; done) | (simp; omega) | omega)))
  ·have HD := wall (show D = (decC op c (cut v 7 5) (cut v 15 5) (cut v 20 5) (v - v % 4096) (immJ v) (immB v) (immS v) (immI v) (cut v 20 12), true) by rw [HDEC.out, if_neg (by rw [HPP.out]; decide), if_neg (by omega), decI_eq, ← HFS.out])
   have HB1 := wall (fun W => bits_any v 7 5 v 7 5 W rfl rfl rfl HV.out (by decide) (by decide))
   have HB2 := wall (fun W => bits_any v 15 5 v 15 5 W rfl rfl rfl HV.out (by decide) (by decide))
   have HB3 := wall (fun W => bits_any v 20 5 v 20 5 W rfl rfl rfl HV.out (by decide) (by decide))
   have HJ := wall (fun W => immJ_any v v W rfl HV.out)
   have HIB := wall (fun W => immB_any v v W rfl HV.out)
   have HSS := wall (fun W => immS_any v v W rfl HV.out)
   have HII := wall (fun W => immI_any v v W rfl)
   have hnl := not_low HV.out
   have hcs : IntKind.u16.wrap ((v : Int) / 1048576) = ((cut v 20 12 : Nat) : Int) := by
    rw [show IntKind.u16.wrap ((v : Int) / 1048576) = (v : Int) / 1048576 % 65536 by simp [IntKind.wrap, IntKind.signed, IntKind.bits]]
    have := HV.out
    unfold cut
    simp only [Nat.reducePow]
    omega
   have hl1 := cut_lt v 7 5
   have hl2 := cut_lt v 15 5
   have hl3 := cut_lt v 20 5
   obtain ⟨rd, h1⟩ : ∃ y, cut v 7 5 = y := ⟨_, rfl⟩
   obtain ⟨ra, h2⟩ : ∃ y, cut v 15 5 = y := ⟨_, rfl⟩
   obtain ⟨rb, h3⟩ : ∃ y, cut v 20 5 = y := ⟨_, rfl⟩
   obtain ⟨cs, h4⟩ : ∃ y, cut v 20 12 = y := ⟨_, rfl⟩
   obtain ⟨ij, h5⟩ : ∃ y, immJ v = y := ⟨_, rfl⟩
   obtain ⟨ib, h6⟩ : ∃ y, immB v = y := ⟨_, rfl⟩
   obtain ⟨is, h7⟩ : ∃ y, immS v = y := ⟨_, rfl⟩
   obtain ⟨ii, h8⟩ : ∃ y, immI v = y := ⟨_, rfl⟩
   obtain ⟨u, h9⟩ : ∃ y, v - v % 4096 = y := ⟨_, rfl⟩
   rw [h1] at hl1 HB1 HD
   rw [h2] at hl2 HB2 HD
   rw [h3] at hl3 HB3 HD
   rw [h4] at hcs HD
   rw [h5] at HJ HD
   rw [h6] at HIB HD
   rw [h7] at HSS HD
   rw [h8] at HII HD
   rw [h9] at hnl HD
   have hm1 : (rd : Int) % 256 = (rd : Int) := by omega
   have hm2 : (ra : Int) % 256 = (ra : Int) := by omega
   have hm3 : (rb : Int) % 256 = (rb : Int) := by omega
   have hm4 : (ra : Int) % 4294967296 = (ra : Int) := by omega
   have hm5 : (rb : Int) % 4294967296 = (rb : Int) := by omega
   clear h1 h2 h3 h4 h5 h6 h7 h8 h9 hl1 hl2 hl3 HPL HOK HM HLU hz HDEC HFS
   go_wp2_with fail
   (with_reducible refine (HB1.out _).mono ?_); rintro e W1 ⟨rfl, d1, rfl⟩
   go_wp2_with fail
   (with_reducible refine (HB2.out _).mono ?_); rintro e W1 ⟨rfl, d2, rfl⟩
   go_wp2_with fail
   (with_reducible refine (HB3.out _).mono ?_); rintro e W1 ⟨rfl, d3, rfl⟩
   go_upto_region 9 with fail
   obtain ⟨w7, hw7⟩ : ∃ W, W = w6.drewN (d1 + d2 + d3) := ⟨_, rfl⟩
   have HK7 := wall (show Blk w7 w.heap.size 54 (inC zIn) by rw [hw7]; exact HK6.out.drewN _)
   have HS7 := wall (show Blk w7 g5 186 #[.int .u32 (c : Int), .int .u32 (f3 : Int), .int .u32 (f7 : Int)] by rw [hw7]; exact HS6.out.drewN _)
   have HB7 := wall (show Below w.heap.size w w7 by rw [hw7]; exact below_drewN HB6.out _)
   try rw [show d1 + (d2 + d3) = d1 + d2 + d3 by omega]
   rw [← hw7]
   have hk0 : w7.cell? ⟨w.heap.size, 0, none⟩ = some (.int .u8 0) := HK7.out.cell 0
   have hk1 : w7.cell? ⟨w.heap.size, 1, none⟩ = some (.int .u8 0) := HK7.out.cell 1
   have hk2 : w7.cell? ⟨w.heap.size, 2, none⟩ = some (.int .u8 0) := HK7.out.cell 2
   have hk3 : w7.cell? ⟨w.heap.size, 3, none⟩ = some (.int .u8 0) := HK7.out.cell 3
   have hk4 : w7.cell? ⟨w.heap.size, 4, none⟩ = some (.int .u32 0) := HK7.out.cell 4
   have hk5 : w7.cell? ⟨w.heap.size, 5, none⟩ = some (.int .u16 0) := HK7.out.cell 5
   have hkf := HK7.out.frozen
   have HKB := HK7
   have HBB := HB7
   have hlt7 := HK7.out.lt
   have hcc : w7.cell? ⟨g5, 0, none⟩ = some (.int .u32 (c : Int)) := HS7.out.cell 0
   clear hw7 HK6 HS6 HB6
   by_cases h55 : (c : Int) = 55
   ·have HQ := wall (show D = (⟨op, rd, 0, 0, u, 0⟩, true) by rw [HD.out]; unfold decC; (repeat (first | rw [if_pos (by omega)] | rw [if_neg (by omega)])))
    go_wp2_with fail
    exact dec_leaf HQ.out rfl rfl (Blk.to (by (repeat (first | with_reducible (first | exact HKB.out | exact Blk.new _ _ _ | apply Blk.alloc | apply Blk.drewN | apply Blk.drew | apply Blk.set) | (with_reducible apply Blk.far'; rotate_left 1; (first | omega | (simp; done) | (simp; omega)); rotate_left 1)))) (by simp [inC, zIn, opIn, hcs] <;> omega)) (by (repeat' (first | with_reducible (first | exact HBB.out | refine Below.setCell ?_ ?_ _ | refine Below.alloc ?_ ?_ _ | refine Below.drew ?_ | refine below_drewN ?_ _ | exact Nat.le_refl _) | (simp; done) | (simp; omega) | omega)))
   ·skip
    by_cases h23 : (c : Int) = 23
    ·have HQ := wall (show D = (⟨op, rd, 0, 0, u, 0⟩, true) by rw [HD.out]; unfold decC; (repeat (first | rw [if_pos (by omega)] | rw [if_neg (by omega)])))
     go_wp2_with fail
     exact dec_leaf HQ.out rfl rfl (Blk.to (by (repeat (first | with_reducible (first | exact HKB.out | exact Blk.new _ _ _ | apply Blk.alloc | apply Blk.drewN | apply Blk.drew | apply Blk.set) | (with_reducible apply Blk.far'; rotate_left 1; (first | omega | (simp; done) | (simp; omega)); rotate_left 1)))) (by simp [inC, zIn, opIn, hcs] <;> omega)) (by (repeat' (first | with_reducible (first | exact HBB.out | refine Below.setCell ?_ ?_ _ | refine Below.alloc ?_ ?_ _ | refine Below.drew ?_ | refine below_drewN ?_ _ | exact Nat.le_refl _) | (simp; done) | (simp; omega) | omega)))
    ·skip
     by_cases h111 : (c : Int) = 111
     ·go_wp2_with fail
      (with_reducible refine (HJ.out _).mono ?_); rintro e W1 ⟨rfl, d9, rfl⟩
      have HQ := wall (show D = (⟨op, rd, 0, 0, ij, 0⟩, true) by rw [HD.out]; unfold decC; (repeat (first | rw [if_pos (by omega)] | rw [if_neg (by omega)])))
      go_wp2_with fail
      exact dec_leaf HQ.out rfl rfl (Blk.to (by (repeat (first | with_reducible (first | exact HKB.out | exact Blk.new _ _ _ | apply Blk.alloc | apply Blk.drewN | apply Blk.drew | apply Blk.set) | (with_reducible apply Blk.far'; rotate_left 1; (first | omega | (simp; done) | (simp; omega)); rotate_left 1)))) (by simp [inC, zIn, opIn, hcs] <;> omega)) (by (repeat' (first | with_reducible (first | exact HBB.out | refine Below.setCell ?_ ?_ _ | refine Below.alloc ?_ ?_ _ | refine Below.drew ?_ | refine below_drewN ?_ _ | exact Nat.le_refl _) | (simp; done) | (simp; omega) | omega)))
     ·skip
      by_cases h99 : (c : Int) = 99
      ·go_wp2_with fail
       (with_reducible refine (HIB.out _).mono ?_); rintro e W1 ⟨rfl, d9, rfl⟩
       have HQ := wall (show D = (⟨op, 0, ra, rb, ib, 0⟩, true) by rw [HD.out]; unfold decC; (repeat (first | rw [if_pos (by omega)] | rw [if_neg (by omega)])))
       go_wp2_with fail
       exact dec_leaf HQ.out rfl rfl (Blk.to (by (repeat (first | with_reducible (first | exact HKB.out | exact Blk.new _ _ _ | apply Blk.alloc | apply Blk.drewN | apply Blk.drew | apply Blk.set) | (with_reducible apply Blk.far'; rotate_left 1; (first | omega | (simp; done) | (simp; omega)); rotate_left 1)))) (by simp [inC, zIn, opIn, hcs] <;> omega)) (by (repeat' (first | with_reducible (first | exact HBB.out | refine Below.setCell ?_ ?_ _ | refine Below.alloc ?_ ?_ _ | refine Below.drew ?_ | refine below_drewN ?_ _ | exact Nat.le_refl _) | (simp; done) | (simp; omega) | omega)))
      ·skip
       by_cases h35 : (c : Int) = 35
       ·go_wp2_with fail
        (with_reducible refine (HSS.out _).mono ?_); rintro e W1 ⟨rfl, d9, rfl⟩
        have HQ := wall (show D = (⟨op, 0, ra, rb, is, 0⟩, true) by rw [HD.out]; unfold decC; (repeat (first | rw [if_pos (by omega)] | rw [if_neg (by omega)])))
        go_wp2_with fail
        exact dec_leaf HQ.out rfl rfl (Blk.to (by (repeat (first | with_reducible (first | exact HKB.out | exact Blk.new _ _ _ | apply Blk.alloc | apply Blk.drewN | apply Blk.drew | apply Blk.set) | (with_reducible apply Blk.far'; rotate_left 1; (first | omega | (simp; done) | (simp; omega)); rotate_left 1)))) (by simp [inC, zIn, opIn, hcs] <;> omega)) (by (repeat' (first | with_reducible (first | exact HBB.out | refine Below.setCell ?_ ?_ _ | refine Below.alloc ?_ ?_ _ | refine Below.drew ?_ | refine below_drewN ?_ _ | exact Nat.le_refl _) | (simp; done) | (simp; omega) | omega)))
       ·skip
        by_cases h51 : (c : Int) = 51
        ·have HQ := wall (show D = (⟨op, rd, ra, rb, 0, 0⟩, true) by rw [HD.out]; unfold decC; (repeat (first | rw [if_pos (by omega)] | rw [if_neg (by omega)])))
         go_wp2_with fail
         exact dec_leaf HQ.out rfl rfl (Blk.to (by (repeat (first | with_reducible (first | exact HKB.out | exact Blk.new _ _ _ | apply Blk.alloc | apply Blk.drewN | apply Blk.drew | apply Blk.set) | (with_reducible apply Blk.far'; rotate_left 1; (first | omega | (simp; done) | (simp; omega)); rotate_left 1)))) (by simp [inC, zIn, opIn, hcs] <;> omega)) (by (repeat' (first | with_reducible (first | exact HBB.out | refine Below.setCell ?_ ?_ _ | refine Below.alloc ?_ ?_ _ | refine Below.drew ?_ | refine below_drewN ?_ _ | exact Nat.le_refl _) | (simp; done) | (simp; omega) | omega)))
        ·skip
         by_cases h15 : (c : Int) = 15
         ·have HQ := wall (show D = (opIn op, true) by rw [HD.out]; unfold decC; (repeat (first | rw [if_pos (by omega)] | rw [if_neg (by omega)])))
          go_wp2_with fail
          exact dec_leaf HQ.out rfl rfl (Blk.to (by (repeat (first | with_reducible (first | exact HKB.out | exact Blk.new _ _ _ | apply Blk.alloc | apply Blk.drewN | apply Blk.drew | apply Blk.set) | (with_reducible apply Blk.far'; rotate_left 1; (first | omega | (simp; done) | (simp; omega)); rotate_left 1)))) (by simp [inC, zIn, opIn, hcs] <;> omega)) (by (repeat' (first | with_reducible (first | exact HBB.out | refine Below.setCell ?_ ?_ _ | refine Below.alloc ?_ ?_ _ | refine Below.drew ?_ | refine below_drewN ?_ _ | exact Nat.le_refl _) | (simp; done) | (simp; omega) | omega)))
         ·skip
          by_cases h115 : (c : Int) = 115
          ·by_cases h46 : 46 ≤ (op : Int)
           ·have HQ := wall (show D = (⟨op, rd, 0, 0, ra, cs⟩, true) by rw [HD.out]; unfold decC; (repeat (first | rw [if_pos (by omega)] | rw [if_neg (by omega)])))
            go_wp2_with fail
            exact dec_leaf HQ.out rfl rfl (Blk.to (by (repeat (first | with_reducible (first | exact HKB.out | exact Blk.new _ _ _ | apply Blk.alloc | apply Blk.drewN | apply Blk.drew | apply Blk.set) | (with_reducible apply Blk.far'; rotate_left 1; (first | omega | (simp; done) | (simp; omega)); rotate_left 1)))) (by simp [inC, zIn, opIn, hcs] <;> omega)) (by (repeat' (first | with_reducible (first | exact HBB.out | refine Below.setCell ?_ ?_ _ | refine Below.alloc ?_ ?_ _ | refine Below.drew ?_ | refine below_drewN ?_ _ | exact Nat.le_refl _) | (simp; done) | (simp; omega) | omega)))
           ·have HQ := wall (show D = (⟨op, rd, ra, 0, 0, cs⟩, true) by rw [HD.out]; unfold decC; (repeat (first | rw [if_pos (by omega)] | rw [if_neg (by omega)])))
            go_wp2_with fail
            exact dec_leaf HQ.out rfl rfl (Blk.to (by (repeat (first | with_reducible (first | exact HKB.out | exact Blk.new _ _ _ | apply Blk.alloc | apply Blk.drewN | apply Blk.drew | apply Blk.set) | (with_reducible apply Blk.far'; rotate_left 1; (first | omega | (simp; done) | (simp; omega)); rotate_left 1)))) (by simp [inC, zIn, opIn, hcs] <;> omega)) (by (repeat' (first | with_reducible (first | exact HBB.out | refine Below.setCell ?_ ?_ _ | refine Below.alloc ?_ ?_ _ | refine Below.drew ?_ | refine below_drewN ?_ _ | exact Nat.le_refl _) | (simp; done) | (simp; omega) | omega)))
          ·by_cases h25 : (op : Int) = 25
           ·have HQ := wall (show D = (⟨op, rd, ra, 0, rb, 0⟩, true) by rw [HD.out]; unfold decC; (repeat (first | rw [if_pos (by omega)] | rw [if_neg (by omega)])))
            go_wp2_with fail
            exact dec_leaf HQ.out rfl rfl (Blk.to (by (repeat (first | with_reducible (first | exact HKB.out | exact Blk.new _ _ _ | apply Blk.alloc | apply Blk.drewN | apply Blk.drew | apply Blk.set) | (with_reducible apply Blk.far'; rotate_left 1; (first | omega | (simp; done) | (simp; omega)); rotate_left 1)))) (by simp [inC, zIn, opIn, hcs] <;> omega)) (by (repeat' (first | with_reducible (first | exact HBB.out | refine Below.setCell ?_ ?_ _ | refine Below.alloc ?_ ?_ _ | refine Below.drew ?_ | refine below_drewN ?_ _ | exact Nat.le_refl _) | (simp; done) | (simp; omega) | omega)))
           ·by_cases h26 : (op : Int) = 26
            ·have HQ := wall (show D = (⟨op, rd, ra, 0, rb, 0⟩, true) by rw [HD.out]; unfold decC; (repeat (first | rw [if_pos (by omega)] | rw [if_neg (by omega)])))
             go_wp2_with fail
             exact dec_leaf HQ.out rfl rfl (Blk.to (by (repeat (first | with_reducible (first | exact HKB.out | exact Blk.new _ _ _ | apply Blk.alloc | apply Blk.drewN | apply Blk.drew | apply Blk.set) | (with_reducible apply Blk.far'; rotate_left 1; (first | omega | (simp; done) | (simp; omega)); rotate_left 1)))) (by simp [inC, zIn, opIn, hcs] <;> omega)) (by (repeat' (first | with_reducible (first | exact HBB.out | refine Below.setCell ?_ ?_ _ | refine Below.alloc ?_ ?_ _ | refine Below.drew ?_ | refine below_drewN ?_ _ | exact Nat.le_refl _) | (simp; done) | (simp; omega) | omega)))
            ·by_cases h27 : (op : Int) = 27
             ·have HQ := wall (show D = (⟨op, rd, ra, 0, rb, 0⟩, true) by rw [HD.out]; unfold decC; (repeat (first | rw [if_pos (by omega)] | rw [if_neg (by omega)])))
              go_wp2_with fail
              exact dec_leaf HQ.out rfl rfl (Blk.to (by (repeat (first | with_reducible (first | exact HKB.out | exact Blk.new _ _ _ | apply Blk.alloc | apply Blk.drewN | apply Blk.drew | apply Blk.set) | (with_reducible apply Blk.far'; rotate_left 1; (first | omega | (simp; done) | (simp; omega)); rotate_left 1)))) (by simp [inC, zIn, opIn, hcs] <;> omega)) (by (repeat' (first | with_reducible (first | exact HBB.out | refine Below.setCell ?_ ?_ _ | refine Below.alloc ?_ ?_ _ | refine Below.drew ?_ | refine below_drewN ?_ _ | exact Nat.le_refl _) | (simp; done) | (simp; omega) | omega)))
             ·have hb25 : ((op : Int) == 25) = false := by simpa using h25
              have hb26 : ((op : Int) == 26) = false := by simpa using h26
              have hb27 : ((op : Int) == 27) = false := by simpa using h27
              go_wp2_with fail
              (with_reducible refine (HII.out _).mono ?_); rintro e W1 ⟨rfl, d9, rfl⟩
              have HQ := wall (show D = (⟨op, rd, ra, 0, ii, 0⟩, true) by rw [HD.out]; unfold decC; (repeat (first | rw [if_pos (by omega)] | rw [if_neg (by omega)])))
              go_wp2_with fail
              exact dec_leaf HQ.out rfl rfl (Blk.to (by (repeat (first | with_reducible (first | exact HKB.out | exact Blk.new _ _ _ | apply Blk.alloc | apply Blk.drewN | apply Blk.drew | apply Blk.set) | (with_reducible apply Blk.far'; rotate_left 1; (first | omega | (simp; done) | (simp; omega)); rotate_left 1)))) (by simp [inC, zIn, opIn, hcs] <;> omega)) (by (repeat' (first | with_reducible (first | exact HBB.out | refine Below.setCell ?_ ?_ _ | refine Below.alloc ?_ ?_ _ | refine Below.drew ?_ | refine below_drewN ?_ _ | exact Nat.le_refl _) | (simp; done) | (simp; omega) | omega)))
 ·go_wp2_with fail
  have h0 : p ≠ 0 := by omega
  exact dec_leaf (i := opIn p) (ok := true) (by rw [HDEC.out, if_pos h0]) rfl rfl (Blk.new _ _ _) ((Below.refl _ w).alloc (Nat.le_refl _) _)
end Rv
end Go.Proofs.YtmiaabpnolebhaaGreatDoor
