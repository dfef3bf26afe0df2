/-
  Texts of this claim, joined: SpcK, SpcL.
-/
import Derived.Test.YtmiaabpnolebhaaGreatDoorSpcC
import Derived.Test.YtmiaabpnolebhaaGreatDoorJ3969933d
import Derived.Test.YtmiaabpnolebhaaGreatDoorJ6dac6940
import Derived.Test.YtmiaabpnolebhaaGreatDoorJf9ebcd6a
set_option linter.unusedSimpArgs false
set_option linter.unusedVariables false
/-
  A space (package engine): kept, of each region; a flash: Read.
-/
namespace Go.Proofs.YtmiaabpnolebhaaGreatDoor
open Go.RowKit

namespace Spc
open Otp Sha Grant R1 Fla
/-- The bytes of a region that is kept as bytes. -/
def memB (v : SpV) (r : Nat) : List Nat := if r = 1 then v.ram.take 4096 else if r = 2 then v.ram.drop 4096 else if r = 4 then v.prt else []
/-- Where they lie, how many they are, and how far they reach. -/
def memO (r : Nat) : Nat × Nat × Nat := if r = 1 then (1, 4096, 8192) else if r = 2 then (4097, 4096, 4096) else (8193, 64, 64)
def KeptOut (g r : Nat) (w : World) (e : Ending) (w' : World) : Prop := e = .returned (.slice (some ⟨g, (memO r).1, none⟩) (memO r).2.1 (memO r).2.2) ∧ w = w'
set_option maxRecDepth 100000 in
set_option maxHeartbeats 2000000 in
theorem kept_any (g r : Nat) (z : Int) (w : World) (hz : z = r) (hr : r = 1 ∨ r = 2 ∨ r = 4) : Calls Tryz.prog 92 #[.pointer (some ⟨g, 0, none⟩), .int .i64 z] w (KeptOut g r w) := by
  subst hz
  rcases hr with rfl | rfl | rfl
  · have s1 := Big.run_arr_h (P := Tryz.prog) 192 5 8192 Tryz.underlying192 (fun _ => by kernel_rfl) g 1 4096 .i64 4096 rfl (by decide) (by decide)
    go_enter Tryz.func92, Tryz.ntmps92
    go_wp2_with fail
    go_light
    go_ret
    exact ⟨rfl, rfl⟩
  · have s1 : ∀ W, (Instr.sliceAt 192 (.pointer (some ⟨g, 1, none⟩)) (some (.int .i64 4096)) none none).run Tryz.prog W = .ok (.slice (some ⟨g, 4097, none⟩) 4096 4096) W := run_slice_arr_lo (P := Tryz.prog) 192 5 8192 Tryz.underlying192 (fun _ => by kernel_rfl) g 1 4096 .i64 4096 rfl (by decide)
    go_enter Tryz.func92, Tryz.ntmps92
    go_wp2_with fail
    go_light
    go_ret
    exact ⟨rfl, rfl⟩
  · have s1 := Big.run_arr_all (P := Tryz.prog) 193 5 64 Tryz.underlying193 (fun _ => by kernel_rfl) g 8193 (by decide)
    go_enter Tryz.func92, Tryz.ntmps92
    go_wp2_with fail
    go_light
    go_ret
    exact ⟨rfl, rfl⟩
theorem mem_nats {w : World} {g r : Nat} {v : SpV} (h : Sp w g v) (ho : v.Ok) (hr : r = 1 ∨ r = 2 ∨ r = 4) : Nats .u8 256 w w.heap.size (some ⟨g, (memO r).1, none⟩) (memB v r) := by
  rcases hr with rfl | rfl | rfl
  · intro i x hx
    have hx' : (v.ram.take 4096)[i]? = some x := hx
    have h2 : v.ram[i]? = some x := by
      rw [List.getElem?_take] at hx'
      split at hx'
      · exact hx'
      · cases hx'
    obtain ⟨h3, b, o, h4, h5, h6⟩ := h.ramN ho i x h2
    exact ⟨h3, b, o, h4, h5, h6⟩
  · intro i x hx
    have h2 : v.ram[4096 + i]? = some x := by rw [← List.getElem?_drop]; exact hx
    obtain ⟨h3, b, o, h4, h5, h6⟩ := h.ramN ho _ x h2
    cases h4
    exact ⟨h3, _, _, rfl, h5, by rw [← h6]; congr 2; show 4097 + i = 1 + (4096 + i); omega⟩
  · intro i x hx
    exact h.prtN ho i x hx
theorem memB_len {v : SpV} (ho : v.Ok) {r : Nat} (hr : r = 1 ∨ r = 2 ∨ r = 4) : (memB v r).length = (memO r).2.1 := by
  rcases hr with rfl | rfl | rfl
  · show (v.ram.take 4096).length = 4096
    rw [List.length_take, ho.rl]; decide
  · show (v.ram.drop 4096).length = 4096
    rw [List.length_drop, ho.rl]
  · exact ho.pl
theorem fl_nats {w : World} {p : Nat} {F : List Nat} {T : List Value} (h : Blk w p 5 (v8 F ++ T).toArray) (hb : ∀ x ∈ F, x < 256) : Nats .u8 256 w w.heap.size (some ⟨p, 0, none⟩) F := fun i x hx =>
  ⟨hb x (List.mem_of_getElem? hx), p, 0, rfl, h.lt, by
    rw [h.cell, Nat.zero_add, List.getElem?_toArray, List.getElem?_append_left (by rw [v8_length]; exact (List.getElem?_eq_some_iff.1 hx).1)]
    exact v8_get hx⟩
theorem slA_some (a : Addr) (i c : Nat) : slA (some a) i c ≠ none := by
  unfold slA
  split <;> simp
/-- within, of a flash: in reach. -/
def inF (L : Nat) (a n : Int) : Prop := 0 ≤ a ∧ 0 ≤ n ∧ a + n ≤ L
set_option maxRecDepth 100000 in
set_option maxHeartbeats 2000000 in
theorem fwithin_in (f pf : Nat) (F : List Nat) (a n : Int) (w : World) (h : Fl w f pf F) (hm : F.length ≤ 1000000) (hi : inF F.length a n) :
    Calls Tryz.prog 71 #[.pointer (some ⟨f, 0, none⟩), .int .i64 a, .int .i64 n] w fun e w' => e = .returned (.int .i64 0) ∧ w = w' := by
  obtain ⟨T, h1, h2⟩ := h
  have k1 : w.cell? ⟨f, 0, none⟩ = some (.slice (some ⟨pf, 0, none⟩) F.length F.length) := h1.cell 0
  obtain ⟨L, hL⟩ : ∃ L, F.length = L := ⟨_, rfl⟩
  rw [hL] at k1 hm hi
  obtain ⟨i1, i2, i3⟩ := hi
  have d1 : decide (a < 0) = false := decide_eq_false (by omega)
  have d2 : decide (n < 0) = false := decide_eq_false (by omega)
  have d3 : decide ((L : Int) < a) = false := decide_eq_false (by omega)
  have d4 : decide ((L : Int) - a < n) = false := decide_eq_false (by omega)
  have j1 : (L : Int) ≤ 1000000 := by omega
  have j2 : a ≤ (L : Int) := by omega
  clear h1 h2 hL hm i3
  go_enter Tryz.func71, Tryz.ntmps71
  go_wp2_with fail
  go_light
  go_ret
  exact ⟨rfl, rfl⟩
set_option maxRecDepth 100000 in
set_option maxHeartbeats 2000000 in
/-- Read, of bytes that are there. -/
theorem read_any (f pf : Nat) (F : List Nat) (z1 z2 : Int) (at_ n : Nat) (w : World) (h : Fl w f pf F) (hb : ∀ x ∈ F, x < 256) (e1 : z1 = at_) (e2 : z2 = n) (hm : F.length ≤ 1000000) (hn : at_ + n ≤ F.length) :
    Calls Tryz.prog 12 #[.pointer (some ⟨f, 0, none⟩), .int .i64 z1, .int .i64 z2] w fun e w' => ∃ v, e = .returned (.tuple #[v, .int .i64 0]) ∧ OwnB w' w.heap.size v ((F.drop at_).take n) ∧ Below w.heap.size w w' := by
  subst e1; subst e2
  have HWI := wall (fwithin_in f pf F at_ n w h hm ⟨by omega, by omega, by omega⟩)
  obtain ⟨T, h1, h2⟩ := h
  have k1 : w.cell? ⟨f, 0, none⟩ = some (.slice (some ⟨pf, 0, none⟩) F.length F.length) := h1.cell 0
  have hN := fl_nats h2 hb
  have hs : ∀ W, (Instr.sliceAt 24 (.slice (some ⟨pf, 0, none⟩) F.length F.length) (some (.int .i64 (at_ : Int))) (some (.int .i64 ((at_ : Int) + (n : Int)))) none).run Tryz.prog W = .ok (.slice (slA (some ⟨pf, 0, none⟩) at_ F.length) n (F.length - at_)) W := fun W => by
    have h := run_slice_lh1 (P := Tryz.prog) 24 5 Tryz.underlying24 (fun _ => by kernel_rfl) (some ⟨pf, 0, none⟩) F.length F.length at_ (at_ + n) .i64 .i64 (at_ : Int) ((at_ : Int) + (n : Int)) rfl (by omega) (by omega) (by omega) W
    rw [h, show at_ + n - at_ = n by omega]
  have HC := wall (fun W (h : Nats .u8 256 W W.heap.size (slA (some ⟨pf, 0, none⟩) at_ F.length) ((F.drop at_).take n)) => Cln.clone_any (slA (some ⟨pf, 0, none⟩) at_ F.length) n (F.length - at_) ((F.drop at_).take n) W (by rw [List.length_take, List.length_drop]; omega) (by omega) (by omega) (fun h => absurd h (slA_some _ _ _)) h)
  unfold BytesOut at HC
  have HN := wall (nats_take (nats_slA hN (i := at_) (Nat.le_refl _)) n)
  obtain ⟨A, hA⟩ : ∃ A, slA (some ⟨pf, 0, none⟩) at_ F.length = A := ⟨_, rfl⟩
  obtain ⟨l, hl⟩ : ∃ l, (F.drop at_).take n = l := ⟨_, rfl⟩
  obtain ⟨L, hL⟩ : ∃ L, F.length = L := ⟨_, rfl⟩
  rw [hA] at HC HN
  simp only [hA] at hs
  rw [hl] at HC HN ⊢
  rw [hL] at k1 hm hn HC
  simp only [hL] at hs
  clear h1 h2 hN hA hl hL hb
  have i1 : (at_ : Int) ≤ (L : Int) := by omega
  have i2 : (n : Int) ≤ (L : Int) - (at_ : Int) := by omega
  have i3 : (L : Int) ≤ 1000000 := by omega
  go_enter Tryz.func12, Tryz.ntmps12
  go_wp2_with fail
  (with_reducible refine (HWI.out).mono ?_); rintro e w1 ⟨rfl, rfl⟩
  go_wp2_with fail
  (with_reducible refine (HC.out _ HN.out).mono ?_); rintro e w2 ⟨v, rfl, hO, hB⟩
  have HO := wall hO
  have HB := wall hB
  clear hO hB
  try simp only [Act.put, List.setIfInBounds_toArray, List.set_cons_zero, List.set_cons_succ]
  go_wp2_with fail
  go_light
  go_ret2
  exact ⟨v, rfl, HO.out, HB.out⟩
end Spc
end Go.Proofs.YtmiaabpnolebhaaGreatDoor

/-
  A space (package engine): fuses as bytes; Load.
-/
namespace Go.Proofs.YtmiaabpnolebhaaGreatDoor
open Go.RowKit

namespace Spc
open Otp Sha Grant R1 Fla Fuse
/-- A byte of the fuses. -/
def fuB (vs : List Nat) (i : Nat) : Nat := vs.getD (i / 4) 0 / 2 ^ (24 - 8 * (i % 4)) % 256
/-- Some of them: the error, the bytes. -/
def fuR (vs : List Nat) (ls : List Bool) (off n : Nat) : Nat × List Nat := if ∃ j, j < n ∧ ls[(off + j) / 4]? = some true then (12, []) else (0, (List.range n).map fun j => fuB vs (off + j))
theorem fuB_lt (vs : List Nat) (i : Nat) : fuB vs i < 256 := Nat.mod_lt _ (by decide)
theorem fu_open {vs : List Nat} {ls : List Bool} {off n : Nat} (h : ∀ j, j < n → ls[(off + j) / 4]? ≠ some true) : fuR vs ls off n = (0, (List.range n).map fun j => fuB vs (off + j)) := by
  unfold fuR
  rw [if_neg]
  rintro ⟨j, h1, h2⟩
  exact h j h1 h2
theorem fu_shut {vs : List Nat} {ls : List Bool} {off n j : Nat} (h1 : j < n) (h2 : ls[(off + j) / 4]? = some true) : fuR vs ls off n = (12, []) := by
  unfold fuR
  rw [if_pos ⟨j, h1, h2⟩]
def FuOut (vs : List Nat) (ls : List Bool) (off n : Nat) (w : World) (e : Ending) (w' : World) : Prop := ∃ v, e = .returned (.tuple #[v, .int .i64 ((fuR vs ls off n).1 : Int)]) ∧ OwnB w' w.heap.size v (fuR vs ls off n).2 ∧ Below w.heap.size w w'
theorem shr_byte (v i : Nat) : (v : Int) / 2 ^ (24 - 8 * (i % 4)) % 256 = ((v / 2 ^ (24 - 8 * (i % 4)) % 256 : Nat) : Int) := by simp
set_option maxRecDepth 100000 in
set_option maxHeartbeats 4000000 in
theorem fuses_any (g : Nat) (v : SpV) (c p b : Nat) (vs : List Nat) (ls : List Bool) (sd : Bool) (off n : Nat) (w : World) (hv : v.Ok) (hg : Sp w g v) (hch : v.ch = some ⟨c, 0, none⟩) (hC : Cz w c p b vs ls sd) (hn : off + n ≤ 256) :
    Calls Tryz.prog 106 #[.pointer (some ⟨g, 0, none⟩), .int .i64 (off : Int), .int .i64 (n : Int)] w (FuOut vs ls off n w) := by
  have HV := wall hv
  have HG := wall hg
  have HC := wall hC
  have HCH := wall hch
  have HN := wall hn
  clear hv hg hch hC hn
  go_enter Tryz.func106, Tryz.ntmps106
  go_wp2_with fail
  go_loopg [8, 9] n (fun gg s8 s9 wr => ∃ i : Nat, i + gg = n ∧ s9 = .int .i64 ((off : Int) + (i : Int)) ∧ Wall (∀ j, j < i → ls[(off + j) / 4]? ≠ some true) ∧ Wall (OwnB wr w.heap.size s8 ((List.range i).map fun j => fuB vs (off + j))) ∧ Wall (Below w.heap.size w wr))
  case atStart => exact ⟨0, by omega, by simp, wall (fun j hj => absurd hj (by omega)), wall (World.ownsRow_nil _ _ _ _), wall (Below.refl _ _)⟩
  case round =>
    obtain ⟨i, hg, rfl, HL, HO, HB⟩ := hrel
    have HGK := wall hg
    have hi : i ≤ n := by omega
    clear hg
    have h256 := HN.out
    have i2 : (off : Int) + (n : Int) ≤ 256 := by omega
    by_cases hlt : i < n
    · have i1 : (off : Int) + (i : Int) < (off : Int) + (n : Int) := by omega
      obtain ⟨q, hq⟩ : ∃ q, (off + i) / 4 = q := ⟨_, rfl⟩
      obtain ⟨m, hm⟩ : ∃ m, (off + i) % 4 = m := ⟨_, rfl⟩
      have hqm : off + i = 4 * q + m ∧ m < 4 ∧ q < 64 := by omega
      have tq : Int.tdiv ((off : Int) + (i : Int)) 4 = (q : Int) := by rw [Int.tdiv_eq_ediv_of_nonneg (by omega)]; omega
      have tm : Int.tmod ((off : Int) + (i : Int)) 4 = (m : Int) := by rw [Int.tmod_eq_emod_of_nonneg (by omega)]; omega
      have hm4 : m < 4 := hqm.2.1
      have hq4 : (q : Int) ≤ 63 := by omega
      have hk : q < vs.length := by rw [HC.out.len]; omega
      have HRD := wall (fun W (h : Fz W p b vs ls) => Fuse.read_any (q : Int) W h)
      have hir : Fuse.inR vs (q : Int) = true := by unfold Fuse.inR; exact decide_eq_true ⟨by omega, by omega⟩
      have HCB := wall (HC.out.old HB.out)
      have kfl : wr.cell? ⟨g, 8258, none⟩ = some (.pointer (some ⟨c, 0, none⟩)) := by rw [(HG.out.old HB.out).ch HV.out, HCH.out]
      obtain ⟨kc, -⟩ := HCB.out.cell
      by_cases hlk : ls[q]? = some true
      · have e1 : rdE vs ls (q : Int) = 12 := by unfold rdE; rw [if_pos hir, Int.toNat_natCast, if_pos hlk]
        rw [e1] at HRD
        have HR := wall (show fuR vs ls off n = (12, []) from fu_shut hlt (by rw [hq]; exact hlk))
        clear e1 hlk hir hlt h256 hqm hq hm tm hk hm4
        go_wp2_with fail
        (with_reducible refine (HRD.out _ HCB.out.fz).mono ?_); rintro e w1 ⟨rfl, rfl⟩
        try simp only [Act.put, List.setIfInBounds_toArray, List.set_cons_zero, List.set_cons_succ]
        go_wp2_with fail
        go_light
        go_ret2
        refine ⟨_, by rw [HR.out]; rfl, ?_, HB.out⟩
        rw [HR.out]
        exact World.ownsRow_nil _ _ _ _
      · have e1 : rdE vs ls (q : Int) = 0 := by unfold rdE; rw [if_pos hir, Int.toNat_natCast, if_neg hlk]
        have e2 : rdV vs ls (q : Int) = ((vs.getD q 0 : Nat) : Int) := by unfold rdV; rw [if_pos hir, Int.toNat_natCast, if_neg hlk, List.getD_eq_getElem?_getD]
        rw [e1, e2] at HRD
        have HL2 := wall (show ∀ j, j < i + 1 → ls[(off + j) / 4]? ≠ some true from fun j hj => by
          rcases Nat.lt_or_ge j i with h | h
          · exact HL.out j h
          · obtain rfl : j = i := by omega
            rw [hq]
            exact hlk)
        have hvl : vs.getD q 0 < 4294967296 := by
          rw [List.getD_eq_getElem?_getD, List.getElem?_eq_getElem hk]
          exact HC.out.fz.word _ _ (List.getElem?_eq_getElem hk)
        have HFB := wall (show fuB vs (off + i) = vs.getD q 0 / 2 ^ (24 - 8 * m) % 256 by unfold fuB; rw [hq, hm])
        clear e1 e2 hlk hir h256 HL hk hqm hq hm
        obtain ⟨x, hx⟩ : ∃ x, vs.getD q 0 = x := ⟨_, rfl⟩
        rw [hx] at HRD hvl HFB
        obtain ⟨y, hy⟩ : ∃ y, x / 2 ^ (24 - 8 * m) % 256 = y := ⟨_, rfl⟩
        rw [hy] at HFB
        have hyy : (x : Int) / 2 ^ (24 - 8 * m) % 256 = (y : Int) := by rw [← hy]; simp
        have HOL := wall (show ((List.range i).map fun j => fuB vs (off + j)).length ≤ 1000000 by rw [List.length_map, List.length_range]; omega)
        have HIG := wall (show i + (n - i) = n ∧ i < n from ⟨by omega, by omega⟩)
        have hwl : w.heap.size ≤ wr.heap.size := HB.out.size
        clear hx hy hlt
        go_wp2_with fail
        (with_reducible refine (HRD.out _ HCB.out.fz).mono ?_); rintro e w1 ⟨rfl, rfl⟩
        try simp only [Act.put, List.setIfInBounds_toArray, List.set_cons_zero, List.set_cons_succ]
        go_wp2_with (at_builtin; refine wpList_append_byte rfl (.tmp 36) (.tmp 44) rfl w.heap.size _ _ rfl HO.out y rfl HOL.out hwl ?_; intro v' w' hO' hB')
        have HO' := wall (show OwnB w' w.heap.size v' ((List.range (i + 1)).map fun j => fuB vs (off + j)) by
          rw [List.range_succ, List.map_append, List.map_cons, List.map_nil, HFB.out]
          exact hO')
        have HB' := wall (HB.out.trans hB')
        clear hO' hB' hyy kfl kc hwl
        go_light
        go_roundg (n - (i + 1))
        case measure => have := HIG.out; have := HGK.out; omega
        case rel => exact ⟨i + 1, by have := HIG.out; omega, by go_num, HL2, HO', HB'⟩
    · obtain rfl : i = n := by omega
      have HR := wall (show fuR vs ls off i = (0, (List.range i).map fun j => fuB vs (off + j)) from fu_open HL.out)
      clear hlt h256
      go_wp2_with fail
      go_light
      go_ret2
      refine ⟨_, by rw [HR.out]; rfl, ?_, HB.out⟩
      rw [HR.out]
      exact HO.out
/-- A space, with its flash and its chip. -/
structure Sw (w : World) (g f pf c p b : Nat) (v : SpV) (F vs : List Nat) (ls : List Bool) (sd : Bool) : Prop where
  ok : v.Ok
  sp : Sp w g v
  fl : v.fl = some ⟨f, 0, none⟩
  ch : v.ch = some ⟨c, 0, none⟩
  hF : Fl w f pf F
  fb : ∀ x ∈ F, x < 256
  fn : F.length = 10240
  hC : Cz w c p b vs ls sd
theorem Sw.old {w w' : World} {g f pf c p b : Nat} {v : SpV} {F vs : List Nat} {ls : List Bool} {sd : Bool} (h : Sw w g f pf c p b v F vs ls sd) (hb : Below w.heap.size w w') : Sw w' g f pf c p b v F vs ls sd :=
  ⟨h.ok, h.sp.old hb, h.fl, h.ch, h.hF.old hb, h.fb, h.fn, h.hC.old hb⟩
/-- How great a region is. -/
def regS (r : Nat) : Nat := if r = 3 then 10240 else if r = 4 then 64 else if r = 5 then 256 else 4096
theorem wth_in {who st : Int} {a n : Nat} {wr : Bool} (h : (wth who st a n wr).2.2 = 0) : ((wth who st a n wr).1 = 1 ∨ (wth who st a n wr).1 = 2 ∨ (wth who st a n wr).1 = 3 ∨ (wth who st a n wr).1 = 4 ∨ (wth who st a n wr).1 = 5) ∧ (wth who st a n wr).2.1 + n ≤ regS (wth who st a n wr).1 := by
  unfold wth at h ⊢
  obtain ⟨⟨r, o, e⟩, hr⟩ : ∃ y, chk who st a 1 wr false = y := ⟨_, rfl⟩
  have hg := fun (h0 : e = 0) => chk_good (who := who) (st := st) (a := a) (size := 1) (wr := wr) (fe := false) (by rw [hr]; exact h0)
  rw [hr] at h hg ⊢
  simp only at h hg ⊢
  by_cases h0 : e = 0
  · obtain ⟨f, s, h1, h2, h3, h4⟩ := hg h0
    rw [if_neg (by simpa using h0)] at h ⊢
    rw [List.getD_eq_getElem?_getD, h2] at h ⊢
    simp only [Option.getD_some] at h ⊢
    by_cases hlt : s < n + o
    · rw [if_pos hlt] at h; cases h
    · rw [if_neg hlt]
      simp only
      have hr6 : r < 6 := by
        have := (List.getElem?_eq_some_iff.1 h2).1
        simpa [sp] using this
      have hc : r = 1 ∨ r = 2 ∨ r = 3 ∨ r = 4 ∨ r = 5 := by omega
      refine ⟨hc, ?_⟩
      have hs : s = regS r := by
        rcases hc with rfl | rfl | rfl | rfl | rfl <;> (simp [sp] at h2; rw [← h2.2]; rfl)
      omega
  · rw [if_pos (by simpa using h0)] at h
    exact absurd h h0
/-- What Load gives: the error, the bytes. -/
def ldR (v : SpV) (F vs : List Nat) (ls : List Bool) (who : Int) (a n : Nat) : Nat × List Nat :=
  if n = 0 then (0, [])
  else if (wth who v.st a n false).2.2 ≠ 0 then ((wth who v.st a n false).2.2, [])
  else if (wth who v.st a n false).1 = 3 then (0, (F.drop (wth who v.st a n false).2.1).take n)
  else if (wth who v.st a n false).1 = 5 then fuR vs ls (wth who v.st a n false).2.1 n
  else (0, ((memB v (wth who v.st a n false).1).drop (wth who v.st a n false).2.1).take n)
def LdOut (R : Nat × List Nat) (w : World) (e : Ending) (w' : World) : Prop := ∃ v, e = .returned (.tuple #[v, .int .i64 (R.1 : Int)]) ∧ OwnB w' w.heap.size v R.2 ∧ Below w.heap.size w w'
set_option maxRecDepth 100000 in
set_option maxHeartbeats 4000000 in
theorem load_any (g f pf c p b : Nat) (v : SpV) (F vs : List Nat) (ls : List Bool) (sd : Bool) (who at_ z : Int) (a n : Nat) (w : World) (h : Sw w g f pf c p b v F vs ls sd) (ha : at_ = a) (hm : at_ < 4294967296) (hz : z = n) (hn : n ≤ 1000000)
    (hw : (Lit.int .i64 who).wf = true) (hs : (Lit.int .i64 v.st).wf = true) (hS : Spans w) :
    Calls Tryz.prog 32 #[.pointer (some ⟨g, 0, none⟩), .int .i64 who, .int .u32 at_, .int .i64 z] w (LdOut (ldR v F vs ls who a n) w) := by
  subst hz
  have H := wall h
  have HWI := wall (within_any g v.st who a n at_ false w ha hm hw hs hn hS h.sp.st)
  unfold W3 at HWI
  have HLD := wall (show ldR v F vs ls who a n = _ from rfl)
  obtain ⟨R, hR⟩ : ∃ R, ldR v F vs ls who a n = R := ⟨_, rfl⟩
  rw [hR]
  have HR := wall hR
  have HIN := wall (fun h => wth_in (who := who) (st := v.st) (a := a) (n := n) (wr := false) h)
  unfold ldR at HR
  obtain ⟨⟨r, o, e⟩, hre⟩ : ∃ y, wth who v.st a n false = y := ⟨_, rfl⟩
  rw [hre] at HWI HR HIN
  simp only at HWI HR HIN
  have hnn : (n : Int) ≤ 1000000 := by omega
  clear h ha hm hw hs hS hR hre HLD hn
  by_cases h0 : n = 0
  · have HE := wall (show R = (0, []) by rw [← HR.out, if_pos h0])
    subst h0
    clear HWI HIN HR
    go_enter Tryz.func32, Tryz.ntmps32
    go_wp2_with fail
    go_light
    go_ret2
    refine ⟨_, by rw [HE.out]; rfl, ?_, Below.refl _ _⟩
    rw [HE.out]
    exact World.ownsRow_nil _ _ _ _
  · have hz0 : ((n : Int) == 0) = false := by rw [beq_eq_false_iff_ne]; omega
    by_cases he : e = 0
    · obtain ⟨hrc, hro⟩ := HIN.out he
      have he' : (((e : Nat) : Int) != 0) = false := by rw [he]; rfl
      have HR2 := wall (show R = if r = 3 then (0, (F.drop o).take n) else if r = 5 then fuR vs ls o n else (0, ((memB v r).drop o).take n) by rw [← HR.out, if_neg h0, if_neg (by simpa using he)])
      clear HR HIN h0 he
      by_cases h3 : r = 3
      · have HE := wall (show R = (0, (F.drop o).take n) by rw [HR2.out, if_pos h3])
        subst h3
        have hro' : o + n ≤ 10240 := hro
        have HRD := wall (fun W (h : Fl W f pf F) => read_any f pf F (o : Int) (n : Int) o n W h H.out.fb rfl rfl (by rw [H.out.fn]; decide) (by rw [H.out.fn]; exact hro'))
        have HFL := wall (fun W (hb : Below w.heap.size w W) => (show W.cell? ⟨g, 8257, none⟩ = some (.pointer (some ⟨f, 0, none⟩)) from by rw [(H.out.old hb).sp.fl H.out.ok, H.out.fl]))
        clear hrc hro hro' HR2
        go_enter Tryz.func32, Tryz.ntmps32
        go_wp2_with fail
        (with_reducible refine (HWI.out).mono ?_); rintro ee w1 ⟨rfl, hB1⟩
        have HB1 := wall hB1
        have kf := HFL.out w1 hB1
        clear hB1 HWI HFL
        try simp only [Act.put, List.setIfInBounds_toArray, List.set_cons_zero, List.set_cons_succ]
        go_wp2_with fail
        (with_reducible refine (HRD.out _ (H.out.old HB1.out).hF).mono ?_); rintro ee w2 ⟨v2, rfl, hO, hB2⟩
        have HO := wall (show OwnB w2 w.heap.size v2 _ from Cln.own_less hO HB1.out.size)
        have HB2 := wall (below_then HB1.out hB2 (Nat.le_refl _))
        clear hO hB2 HRD
        try simp only [Act.put, List.setIfInBounds_toArray, List.set_cons_zero, List.set_cons_succ]
        go_wp2_with fail
        go_light
        go_ret2
        refine ⟨_, by rw [HE.out]; rfl, ?_, HB2.out⟩
        rw [HE.out]
        exact HO.out
      · have h3' : ((r : Int) == 3) = false := by rw [beq_eq_false_iff_ne]; omega
        by_cases h5 : r = 5
        · have HE := wall (show R = fuR vs ls o n by rw [HR2.out, if_neg h3, if_pos h5])
          subst h5
          have hro' : o + n ≤ 256 := hro
          have HFU := wall (fun W (h : Sw W g f pf c p b v F vs ls sd) => fuses_any g v c p b vs ls sd o n W h.ok h.sp h.ch h.hC hro')
          unfold FuOut at HFU
          clear hrc hro hro' HR2 h3
          rw [← HE.out] at HFU
          go_enter Tryz.func32, Tryz.ntmps32
          go_wp2_with fail
          (with_reducible refine (HWI.out).mono ?_); rintro ee w1 ⟨rfl, hB1⟩
          have HB1 := wall hB1
          clear hB1 HWI
          try simp only [Act.put, List.setIfInBounds_toArray, List.set_cons_zero, List.set_cons_succ]
          go_wp2_with fail
          (with_reducible refine (HFU.out _ (H.out.old HB1.out)).mono ?_); rintro ee w2 ⟨v2, rfl, hO, hB2⟩
          have HO := wall (show OwnB w2 w.heap.size v2 _ from Cln.own_less hO HB1.out.size)
          have HB2 := wall (below_then HB1.out hB2 (Nat.le_refl _))
          clear hO hB2 HFU
          try simp only [Act.put, List.setIfInBounds_toArray, List.set_cons_zero, List.set_cons_succ]
          go_wp2_with fail
          go_light
          go_ret2
          exact ⟨_, rfl, HO.out, HB2.out⟩
        · have h5' : ((r : Int) == 5) = false := by rw [beq_eq_false_iff_ne]; omega
          have hr3 : r = 1 ∨ r = 2 ∨ r = 4 := by omega
          have HE := wall (show R = (0, ((memB v r).drop o).take n) by rw [HR2.out, if_neg h3, if_neg h5])
          have HKE := wall (fun W => kept_any g r (r : Int) W rfl hr3)
          unfold KeptOut at HKE
          have HN := wall (fun W (h : Sw W g f pf c p b v F vs ls sd) => mem_nats h.sp h.ok hr3)
          have hml := memB_len H.out.ok hr3
          have hlc : (memO r).2.1 ≤ (memO r).2.2 := by rcases hr3 with rfl | rfl | rfl <;> decide
          have hrs : regS r = (memO r).2.1 := by rcases hr3 with rfl | rfl | rfl <;> rfl
          rw [hrs] at hro
          have hbg : (memO r).2.2 ≤ 8192 := by rcases hr3 with rfl | rfl | rfl <;> decide
          obtain ⟨⟨k1, k2, k3⟩, hk⟩ : ∃ y, memO r = y := ⟨_, rfl⟩
          rw [hk] at hml hlc hro HKE HN hbg
          simp only at hml hlc hro HKE HN hbg
          obtain ⟨l, hl⟩ : ∃ l, memB v r = l := ⟨_, rfl⟩
          rw [hl] at hml HN HE
          have hs : ∀ W, (Instr.sliceAt 24 (.slice (some ⟨g, k1, none⟩) k2 k3) (some (.int .i64 (o : Int))) (some (.int .i64 ((o : Int) + (n : Int)))) none).run Tryz.prog W = .ok (.slice (slA (some ⟨g, k1, none⟩) o k3) n (k3 - o)) W := fun W => by
            have h := run_slice_lh1 (P := Tryz.prog) 24 5 Tryz.underlying24 (fun _ => by kernel_rfl) (some ⟨g, k1, none⟩) k2 k3 o (o + n) .i64 .i64 (o : Int) ((o : Int) + (n : Int)) rfl (by omega) (by omega) (by omega) W
            rw [h, show o + n - o = n by omega]
          have HC := wall (fun W (h : Nats .u8 256 W W.heap.size (slA (some ⟨g, k1, none⟩) o k3) ((l.drop o).take n)) => Cln.clone_any (slA (some ⟨g, k1, none⟩) o k3) n (k3 - o) ((l.drop o).take n) W (by rw [List.length_take, List.length_drop]; omega) (by omega) (by omega) (fun h => absurd h (slA_some _ _ _)) h)
          unfold BytesOut at HC
          have HN2 := wall (fun W (h : Sw W g f pf c p b v F vs ls sd) => nats_take (nats_slA (HN.out W h) (i := o) (cap := k3) (by omega)) n)
          have i1 : (o : Int) + (n : Int) ≤ 8192 := by omega
          obtain ⟨A, hA⟩ : ∃ A, slA (some ⟨g, k1, none⟩) o k3 = A := ⟨_, rfl⟩
          simp only [hA] at hs
          rw [hA] at HC HN2
          clear hrc hro HR2 h3 h5 hr3 hml hlc hrs hk hl HN hA hbg
          go_enter Tryz.func32, Tryz.ntmps32
          go_wp2_with fail
          (with_reducible refine (HWI.out).mono ?_); rintro ee w1 ⟨rfl, hB1⟩
          have HB1 := wall hB1
          clear hB1 HWI
          try simp only [Act.put, List.setIfInBounds_toArray, List.set_cons_zero, List.set_cons_succ]
          go_wp2_with fail
          (with_reducible refine (HKE.out _).mono ?_); rintro ee w2 ⟨rfl, rfl⟩
          try simp only [Act.put, List.setIfInBounds_toArray, List.set_cons_zero, List.set_cons_succ]
          go_wp2_with fail
          (with_reducible refine (HC.out _ (HN2.out _ (H.out.old HB1.out))).mono ?_); rintro ee w2 ⟨v2, rfl, hO, hB2⟩
          have HO := wall (show OwnB w2 w.heap.size v2 _ from Cln.own_less hO HB1.out.size)
          have HB2 := wall (below_then HB1.out hB2 (Nat.le_refl _))
          clear hO hB2 HC hs
          try simp only [Act.put, List.setIfInBounds_toArray, List.set_cons_zero, List.set_cons_succ]
          go_wp2_with fail
          go_light
          go_ret2
          refine ⟨_, by rw [HE.out]; rfl, ?_, HB2.out⟩
          rw [HE.out]
          exact HO.out
    · have HE := wall (show R = (e, []) by rw [← HR.out, if_neg h0, if_pos (by simpa using he)])
      have he' : (((e : Nat) : Int) != 0) = true := by rw [bne_iff_ne]; omega
      clear HR HIN he h0
      go_enter Tryz.func32, Tryz.ntmps32
      go_wp2_with fail
      (with_reducible refine (HWI.out).mono ?_); rintro ee w1 ⟨rfl, hB1⟩
      have HB1 := wall hB1
      clear hB1 HWI
      try simp only [Act.put, List.setIfInBounds_toArray, List.set_cons_zero, List.set_cons_succ]
      go_wp2_with fail
      go_light
      go_ret2
      refine ⟨_, by rw [HE.out]; rfl, ?_, HB1.out⟩
      rw [HE.out]
      exact World.ownsRow_nil _ _ _ _
end Spc
end Go.Proofs.YtmiaabpnolebhaaGreatDoor
