/-
  Texts of this claim, joined: CorOa, CorOb.
-/
import Derived.Test.YtmiaabpnolebhaaGreatDoorJ61ea4218
import Derived.Test.YtmiaabpnolebhaaGreatDoorJd1da5132
import Derived.Test.YtmiaabpnolebhaaGreatDoorEq32
set_option maxHeartbeats 4000000
set_option maxRecDepth 100000
set_option linter.unusedSimpArgs false
set_option linter.unusedVariables false
namespace Go.Proofs.YtmiaabpnolebhaaGreatDoor
open Go.RowKit

namespace Core
open Otp Sha Rv Grant Spc R1 Fla
theorem fuL_zero : fuL z64 = z256 := by decide +kernel
theorem f64_open : ∀ i : Nat, f64[i]? ≠ some true := fun i h => by
 have := List.mem_of_getElem? h
 have h2 : ∀ x ∈ f64, x = false := by decide
 exact Bool.noConfusion (h2 _ this)
theorem Fl.not_small {w : World} {f pf b n : Nat} {F l : List Nat} (h : Fl w f pf F) (hF : F.length = 10240) (hk : Blk w b 5 (b8 l)) (hl : l.length = n) (hn : n < 10240) : pf ≠ b := by
 rintro rfl
 obtain ⟨T, -, k2⟩ := h
 have e : (v8 F ++ T).toArray = b8 l := by
  unfold Blk at hk k2
  rw [hk] at k2
  have h6 := Option.some.inj k2
  injection h6 with h7
  exact h7.symm
 have e2 := congrArg Array.size e
 simp [b8, v8] at e2
 omega
theorem _root_.Go.Proofs.YtmiaabpnolebhaaGreatDoor.Spc.Sw.offm {w w' : World} {g f pf cc p b m b1 b2 b3 b4 b5 : Nat} {v : SpV} {F vs : List Nat} {ls : List Bool} {sd : Bool} {st : Int} {l1 l2 l3 l4 l5 : List Nat} (h : Sw w g f pf cc p b v F vs ls sd) (hM : Mf w m b1 b2 b3 b4 b5 st l1 l2 l3 l4 l5) (hf : Frm [b1, b2, b4] w w') : Sw w' g f pf cc p b v F vs ls sd := by
 obtain ⟨T, k1, k2⟩ := h.hF
 obtain ⟨_, _, k3⟩ := h.hC.fz.head
 obtain ⟨_, k4, _⟩ := h.hC.fz.row
 have a1 : g ≠ b1 := Blk.ne h.sp hM.k1 (by decide)
 have a2 : g ≠ b2 := Blk.ne h.sp hM.k2 (by decide)
 have a4 : g ≠ b4 := Blk.ne h.sp hM.k4 (by decide)
 have f1 : f ≠ b1 := Blk.ne k1 hM.k1 (by decide)
 have f2 : f ≠ b2 := Blk.ne k1 hM.k2 (by decide)
 have f4 : f ≠ b4 := Blk.ne k1 hM.k4 (by decide)
 have g1 : pf ≠ b1 := Fl.not_small h.hF h.fn hM.k1 hM.n1.1 (by decide)
 have g2 : pf ≠ b2 := Fl.not_small h.hF h.fn hM.k2 hM.n2.1 (by decide)
 have g4 : pf ≠ b4 := Fl.not_small h.hF h.fn hM.k4 hM.n4.1 (by decide)
 have c1 : cc ≠ b1 := Blk.ne h.hC.head hM.k1 (by decide)
 have c2 : cc ≠ b2 := Blk.ne h.hC.head hM.k2 (by decide)
 have c4 : cc ≠ b4 := Blk.ne h.hC.head hM.k4 (by decide)
 have p1 : p ≠ b1 := Blk.ne k3 hM.k1 (by decide)
 have p2 : p ≠ b2 := Blk.ne k3 hM.k2 (by decide)
 have p4 : p ≠ b4 := Blk.ne k3 hM.k4 (by decide)
 have q1 : b ≠ b1 := Blk.ne k4 hM.k1 (by decide)
 have q2 : b ≠ b2 := Blk.ne k4 hM.k2 (by decide)
 have q4 : b ≠ b4 := Blk.ne k4 hM.k4 (by decide)
 exact ⟨h.ok, Blk.frm h.sp hf (by simp; omega), h.fl, h.ch, ⟨T, k1.frm hf (by simp; omega), k2.frm hf (by simp; omega)⟩, h.fb, h.fn, h.hC.frm hf (by simp; omega) (by simp; omega) (by simp; omega)⟩
theorem Mf.offg {w w' : World} {g m b1 b2 b3 b4 b5 : Nat} {v : SpV} {st : Int} {l1 l2 l3 l4 l5 : List Nat} (hM : Mf w m b1 b2 b3 b4 b5 st l1 l2 l3 l4 l5) (hg : Sp w g v) (hf : Frm [g] w w') : Mf w' m b1 b2 b3 b4 b5 st l1 l2 l3 l4 l5 := by
 have a0 : m ≠ g := Blk.ne hM.k hg (by decide)
 have a1 : b1 ≠ g := Blk.ne hM.k1 hg (by decide)
 have a2 : b2 ≠ g := Blk.ne hM.k2 hg (by decide)
 have a3 : b3 ≠ g := Blk.ne hM.k3 hg (by decide)
 have a4 : b4 ≠ g := Blk.ne hM.k4 hg (by decide)
 have a5 : b5 ≠ g := Blk.ne hM.k5 hg (by decide)
 exact hM.frm hf (by simp; omega) (by simp; omega) (by simp; omega) (by simp; omega) (by simp; omega) (by simp; omega)
theorem _root_.Go.Proofs.YtmiaabpnolebhaaGreatDoor.Spc.Sw.wrote {w w' : World} {g f pf cc p b : Nat} {v v' : SpV} {F vs : List Nat} {ls : List Bool} {sd : Bool} (h : Sw w g f pf cc p b v F vs ls sd) (hs : Sp w' g v') (ho : v'.Ok) (hfl : v'.fl = v.fl) (hch : v'.ch = v.ch) (hf : Frm [g] w w') : Sw w' g f pf cc p b v' F vs ls sd := by
 obtain ⟨T, k1, k2⟩ := h.hF
 obtain ⟨_, _, k3⟩ := h.hC.fz.head
 obtain ⟨_, k4, _⟩ := h.hC.fz.row
 have n1 : f ≠ g := Blk.ne k1 h.sp (by decide)
 have n2 : pf ≠ g := Blk.ne k2 h.sp (by decide)
 have n3 : cc ≠ g := Blk.ne h.hC.head h.sp (by decide)
 have n4 : p ≠ g := Blk.ne k3 h.sp (by decide)
 have n5 : b ≠ g := Blk.ne k4 h.sp (by decide)
 exact ⟨ho, hs, hfl.trans h.fl, hch.trans h.ch, ⟨T, k1.frm hf (by simp; omega), k2.frm hf (by simp; omega)⟩, h.fb, h.fn, h.hC.frm hf (by simp; omega) (by simp; omega) (by simp; omega)⟩
theorem splice_mid {α : Type} {l p : List α} {o i : Nat} (ho : o ≤ l.length) (hi : i < p.length) : (splice l o p)[o + i]? = p[i]? := by
 have e3 : (l.take o).length = o := by rw [List.length_take]; omega
 unfold splice
 rw [List.getElem?_append_right (by omega), e3, show o + i - o = i by omega, List.getElem?_append_left hi]
theorem splice_out {l p : List Nat} {o : Nat} (ho : o + p.length ≤ l.length) : ((splice l o p).drop o).take p.length = p := by
 apply List.ext_getElem?
 intro i
 by_cases hi : i < p.length
 ·rw [List.getElem?_take_of_lt hi, List.getElem?_drop, splice_mid (by omega) hi]
 ·rw [List.getElem?_eq_none (by rw [List.length_take]; omega), List.getElem?_eq_none (by omega)]
theorem chk_rd {a : Nat} (h : (chk 1 1 a 1 true false).2.2 = 0) : chk 1 1 a 1 false false = chk 1 1 a 1 true false := by
 have c1 : ∀ wr, formB 1 1 1 wr false = true → chk 1 1 a 1 wr false = if (whereN a).1 = 0 then (0, 0, 9) else if hasB (mayW 1 1 (whereN a).1) (letB wr false) = false then (0, 0, 8) else ((whereN a).1, (whereN a).2, 0) := fun wr hf => by
  have f3 : a % (1 : Int).toNat = 0 := by show a % 1 = 0; omega
  unfold chk
  rw [if_neg (by rw [hf]; decide), if_neg (by omega)]
 rw [c1 true (by decide)] at h
 rw [c1 true (by decide), c1 false (by decide)]
 rcases Spc.where_cases a with ⟨o, e, h1⟩ | ⟨o, e, h1⟩ | ⟨o, e, h1⟩ | ⟨o, e, h1⟩ | ⟨o, e, h1⟩ | e
 all_goals (rw [e] at h ⊢; dsimp only at h ⊢)
 ·rw [if_neg (by decide), if_pos (by decide +kernel)] at h; cases h
 ·rw [if_neg (by decide), if_neg (by decide), if_neg (by decide +kernel), if_neg (by decide +kernel)]
 ·rw [if_neg (by decide), if_pos (by decide +kernel)] at h; cases h
 ·rw [if_neg (by decide), if_neg (by decide), if_neg (by decide +kernel), if_neg (by decide +kernel)]
 ·rw [if_neg (by decide), if_pos (by decide +kernel)] at h; cases h
 ·rw [if_pos rfl] at h; cases h
theorem wth_rd {a n : Nat} (h : (wth 1 1 a n true).2.2 = 0) : wth 1 1 a n false = wth 1 1 a n true := by
 have hc : (chk 1 1 a 1 true false).2.2 = 0 := by
  unfold wth at h
  simp only at h
  by_cases h2 : (chk 1 1 a 1 true false).2.2 = 0
  ·exact h2
  ·rw [if_pos h2] at h; exact absurd h h2
 unfold wth
 rw [chk_rd hc]
theorem ld_st {u : SpV} (hu : u.Ok) (hst : u.st = 1) {a : Nat} {p : List Nat} (hp : p ≠ []) (h0 : (stR u 1 a p).1 = 0) (F vs : List Nat) (ls : List Bool) : ldR (stR u 1 a p).2 F vs ls 1 a p.length = (0, p) := by
 have hn : p.length ≠ 0 := fun h => hp (List.length_eq_zero_iff.1 h)
 have hs := (st_same u 1 a p).1
 have hw : (wth 1 u.st a p.length true).2.2 = 0 := by
  unfold stR at h0
  rw [if_neg hn] at h0
  by_cases h2 : (wth 1 u.st a p.length true).2.2 = 0
  ·exact h2
  ·rw [if_pos h2] at h0; exact absurd h0 h2
 have hv : (stR u 1 a p).2 = putB u (wth 1 u.st a p.length true).1 (wth 1 u.st a p.length true).2.1 p := by
  unfold stR
  rw [if_neg hn, if_neg (by simpa using hw)]
 have hreg : (wth 1 u.st a p.length true).1 = 1 ∨ (wth 1 u.st a p.length true).1 = 2 ∨ (wth 1 u.st a p.length true).1 = 4 := by
  rw [hst] at hw ⊢
  exact core_reg a p.length 1 (.inl rfl) hw
 have hin := (wth_in hw).2
 have hrd : wth 1 u.st a p.length false = wth 1 u.st a p.length true := by rw [hst] at hw ⊢; exact wth_rd hw
 unfold ldR
 rw [if_neg hn, hs, hrd, if_neg (by simpa using hw), hv]
 generalize (wth 1 u.st a p.length true).1 = r at *
 generalize (wth 1 u.st a p.length true).2.1 = o at *
 rw [if_neg (by omega), if_neg (by omega)]
 congr 1
 have hrl := hu.rl
 have hpl := hu.pl
 rcases hreg with rfl | rfl | rfl
 ·have hin' : o + p.length ≤ 4096 := hin
  show (((splice u.ram o p).take 4096).drop o).take p.length = p
  apply List.ext_getElem?
  intro i
  by_cases hi : i < p.length
  ·rw [List.getElem?_take_of_lt hi, List.getElem?_drop, List.getElem?_take_of_lt (by omega), splice_mid (by omega) hi]
  ·rw [List.getElem?_eq_none (by rw [List.length_take]; omega), List.getElem?_eq_none (by omega)]
 ·have hin' : o + p.length ≤ 4096 := hin
  show (((splice u.ram (4096 + o) p).drop 4096).drop o).take p.length = p
  rw [List.drop_drop]
  exact splice_out (by omega)
 ·have hin' : o + p.length ≤ 64 := hin
  show ((splice u.prt o p).drop o).take p.length = p
  exact splice_out (by omega)
theorem szN_pos (op : Nat) : 1 ≤ szN op ∧ szN op ≤ 4 := by rcases szN_cases op with h | h | h <;> omega
structure Wrt (F vs : List Nat) (ls : List Bool) (i : In) (R : Res) : Prop where
 st : 16 ≤ i.op ∧ i.op ≤ 18 → ldR R.v F vs ls 1 R.a R.p.length = (0, R.p) ∧ 1 ≤ R.p.length ∧ R.p.length ≤ 4 ∧ R.a < 4294967296 ∧ ∀ x ∈ R.p, x < 256
 no : ¬ (16 ≤ i.op ∧ i.op ≤ 18) → R.a = 0 ∧ R.p = []
theorem Wrt.pair {F vs : List Nat} {ls : List Bool} {i : In} {u : SpV} {r : Cr × Option Nat} (h : ¬ (16 ≤ i.op ∧ i.op ≤ 18)) : Wrt F vs ls i (pairR u r) := ⟨fun hs => absurd hs h, fun _ => ⟨rfl, rfl⟩⟩
theorem store_wrote {u : SpV} (hu : u.Ok) (hst : u.st = 1) {F vs : List Nat} {ls : List Bool} {c : Cr} {i : In} (hs : 16 ≤ i.op ∧ i.op ≤ 18) (h : (storeR u c i).t = none) : Wrt F vs ls i (storeR u c i) := by
 obtain ⟨a, ha⟩ : ∃ a, atN c i = a := ⟨_, rfl⟩
 have hal : a < 4294967296 := by rw [← ha]; exact atN_lt c i
 obtain ⟨p, hp⟩ : ∃ p, byL (c.g i.b) (szN i.op) = p := ⟨_, rfl⟩
 have hn := szN_pos i.op
 have hln : p.length = szN i.op := by rw [← hp]; exact byL_len _ hn.2
 have hpb : ∀ x ∈ p, x < 256 := by rw [← hp]; exact byL_lt _ _
 unfold storeR at h ⊢
 rw [ha, hp] at h ⊢
 generalize szN i.op = n at *
 by_cases h1 : a % n ≠ 0
 ·rw [if_pos h1] at h; cases h
 rw [if_neg h1] at h ⊢
 have h3 := fun h0 => ld_st hu hst (a := a) (p := p) (fun e => by rw [e] at hln; simp at hln; omega) h0 F vs ls
 obtain ⟨S, hS⟩ : ∃ S, stR u 1 a p = S := ⟨_, rfl⟩
 rw [hS] at h h3 ⊢
 by_cases h2 : S.1 ≠ 0
 ·rw [if_pos h2] at h; cases h
 rw [if_neg h2]
 exact ⟨fun _ => ⟨h3 (by omega), by show 1 ≤ p.length; omega, by show p.length ≤ 4; omega, hal, hpb⟩, fun h => absurd hs h⟩
theorem stepD_wrote {u : SpV} (hu : u.Ok) (hst : u.st = 1) {F vs : List Nat} {ls : List Bool} {c : Cr} {w : Nat} {d : In × Bool} (h : (stepD u F vs ls c w d).t = none) : Wrt F vs ls (fstI d) (stepD u F vs ls c w d) := by
 obtain ⟨i, b⟩ := d
 unfold stepD at h ⊢
 show Wrt F vs ls i _
 cases b with
 | false => rw [if_pos rfl] at h; cases h
 | true =>
  rw [if_neg (fun h => by cases h)] at h ⊢
  show Wrt F vs ls i (doR u F vs ls c i w)
  have h' : (doR u F vs ls c i w).t = none := h
  clear h
  unfold doR at h' ⊢
  by_cases hs : 16 ≤ i.op ∧ i.op ≤ 18
  ·rw [if_pos hs] at h' ⊢
   exact store_wrote hu hst hs h'
  ·rw [if_neg hs]
   exact Wrt.pair hs
theorem step_wrote {u : SpV} (hu : u.Ok) (hst : u.st = 1) {F vs : List Nat} {ls : List Bool} {c : Cr} (h : (stepR u F vs ls c false).t = none) : Wrt F vs ls (stepI u c) (stepR u F vs ls c false) := by
 unfold stepI
 unfold stepR at h ⊢
 have hl : letT c false = false := rfl
 rw [hl, if_neg (fun h => by cases h)] at h ⊢
 by_cases h4 : c.g 32 % 4 ≠ 0
 ·rw [if_pos h4] at h; cases h
 rw [if_neg h4] at h ⊢
 by_cases hf : (fetchAt u (c.g 32)).2.2 ≠ 0
 ·rw [if_pos hf] at h; cases h
 rw [if_neg hf] at h ⊢
 exact stepD_wrote hu hst h
end Core
end Go.Proofs.YtmiaabpnolebhaaGreatDoor
namespace Go.Proofs.YtmiaabpnolebhaaGreatDoor
open Go.RowKit

namespace Core
open Otp Sha Rv
def csT : List Nat := [768, 772, 773, 832, 833, 834, 835, 836, 2816, 3860, 769]
theorem same20_any (c : Cr) (hc : c.Ok) (w : World) : Calls Tryz.prog 30 #[.agg (crC c), .agg (crC c)] w (TrueB w) := by
 have HC := wall hc
 have HK := wall (show Blk ((w.alloc (.cells (crC c) 71)).alloc (.cells (crC c) 74)) w.heap.size 71 (crC c) ∧ Blk ((w.alloc (.cells (crC c) 71)).alloc (.cells (crC c) 74)) (w.heap.size + 1) 74 (crC c) ∧ Below w.heap.size w ((w.alloc (.cells (crC c) 71)).alloc (.cells (crC c) 74)) from ⟨(Blk.new _ _ _).alloc _, blk_new' (by simp), ((Below.refl _ w).alloc (Nat.le_refl _) _).alloc (by simp) _⟩)
 have HG := wall (fun n W => get_any c hc n W)
 have HR := wall (fun n W => rget_any c hc n W)
 have HGL := wall (fun n => csrG_lt hc n)
 have HI1 := wall (show (Tryz.prog.info? 71).map (·.size) = some (crC c).size by rw [crC_size hc]; exact cr_info)
 have HI2 := wall (show (Tryz.prog.info? 74).map (·.size) = some (crC c).size by rw [crC_size hc]; exact ref_info)
 have k1 : _ := Cb.cell HK.out.1 hc (show 32 < 41 by decide)
 have k2 := rblk_cell HK.out.2.1 hc (show 32 < 41 by decide)
 have HXI := wall (show (Tryz.prog.info? 67).map (·.size) = some (x32 (c.l.take 32)).length by
  rw [show (x32 (c.l.take 32)).length = 32 by simp only [x32, List.length_map]; exact regs_len hc]
  kernel_rfl)
 have HAQ := wall (fun W => eq_same W 67 (c.l.take 32) (regs_len hc) Tryz.underlying67)
 have hr1 := wall (regs_range HK.out.1 hc)
 have hr2 := wall (regs_range HK.out.2.1 hc)
 obtain ⟨XL, hXL⟩ : ∃ y, x32 (c.l.take 32) = y := ⟨_, rfl⟩
 rw [hXL] at HXI HAQ hr1 hr2
 obtain ⟨D, hD⟩ : ∃ y, crC c = y := ⟨_, rfl⟩
 obtain ⟨s32, hs32⟩ : ∃ y, c.g 32 = y := ⟨_, rfl⟩
 rw [hs32] at k1 k2
 rw [hD] at HK HG HR HI1 HI2 k1 k2 hr1 hr2
 rw [hD]
 unfold GetO at HG HR
 have heq := HAQ.out
 clear hXL hD hc hs32
 go_enter Tryz.func30, Tryz.ntmps30
 go_upto_region 1 with fail
 generalize (w.alloc (.cells D 71)).alloc (.cells D 74) = w1 at *
 go_wp2_with (first | refine load_mid_g (by rfl) 67 _ rfl w.heap.size 0 rfl XL _ hr1.out Tryz.underlying67 rfl HXI.out ?_ | refine load_mid_g (by rfl) 67 _ rfl (w.heap.size + 1) 0 rfl XL _ hr2.out Tryz.underlying67 rfl HXI.out ?_)
 have HKT := wall (show Blk (w1.alloc (.cells #[.int .u16 768, .int .u16 772, .int .u16 773, .int .u16 832, .int .u16 833, .int .u16 834, .int .u16 835, .int .u16 836, .int .u16 2816, .int .u16 3860, .int .u16 769] 25)) w1.heap.size 25 (csT.map fun x => Value.int .u16 ((x : Nat) : Int)).toArray ∧ Below w1.heap.size w1 (w1.alloc (.cells #[.int .u16 768, .int .u16 772, .int .u16 773, .int .u16 832, .int .u16 833, .int .u16 834, .int .u16 835, .int .u16 836, .int .u16 2816, .int .u16 3860, .int .u16 769] 25)) from ⟨Blk.new _ _ _, (Below.refl _ _).alloc (Nat.le_refl _) _⟩)
 generalize w1.alloc (.cells #[.int .u16 768, .int .u16 772, .int .u16 773, .int .u16 832, .int .u16 833, .int .u16 834, .int .u16 835, .int .u16 836, .int .u16 2816, .int .u16 3860, .int .u16 769] 25) = w2 at *
 have HK2 := wall (show Blk w2 w.heap.size 71 D ∧ Blk w2 (w.heap.size + 1) 74 D ∧ Below w.heap.size w w2 from ⟨HK.out.1.next HKT.out.2 rfl, HK.out.2.1.next HKT.out.2 rfl, below_then HK.out.2.2 HKT.out.2 (Nat.le_refl _)⟩)
 have HT2 := wall HKT.out.1
 obtain ⟨gt, hgt⟩ : ∃ y, w1.heap.size = y := ⟨_, rfl⟩
 rw [hgt] at HT2
 rw [hgt]
 clear HK HKT k1 k2 hr1 hr2 HXI HAQ heq hgt
 go_loopg [25] 11 (fun gg s25 wr => ∃ i : Nat, i + gg = 11 ∧ s25 = .int .i64 (i : Int) ∧ Wall (Blk wr w.heap.size 71 D ∧ Blk wr (w.heap.size + 1) 74 D ∧ Below w.heap.size w wr ∧ Blk wr gt 25 (csT.map fun x => Value.int .u16 ((x : Nat) : Int)).toArray))
 case atStart => exact ⟨0, by omega, rfl, wall ⟨HK2.out.1, HK2.out.2.1, HK2.out.2.2, HT2.out⟩⟩
 case round =>
  obtain ⟨i, hg, rfl, HQ⟩ := hrel
  have HGK := wall hg
  have hi : i ≤ 11 := by omega
  clear hg
  by_cases hlt : i < 11
  ·have hlt' : (i : Int) < 11 := by omega
   have kc : wr.cell? ⟨gt, i, none⟩ = some (.int .u16 ((csT.getD i 0 : Nat) : Int)) := by
    rw [HQ.out.2.2.2.cell, List.getElem?_toArray, List.getElem?_map, List.getD_eq_getElem?_getD, List.getElem?_eq_getElem (show i < csT.length from hlt)]
    rfl
   obtain ⟨n, hn⟩ : ∃ n, csT.getD i 0 = n := ⟨_, rfl⟩
   rw [hn] at kc
   have HGN := wall (HG.out n)
   have HRN := wall (HR.out n)
   obtain ⟨⟨x, b⟩, hx⟩ : ∃ y, csrG c n = y := ⟨_, rfl⟩
   rw [hx] at HGN HRN
   simp only at HGN HRN
   clear hlt hn hx
   go_wp2_with (refine wpList_load_row rfl 71 _ rfl w.heap.size rfl 71 D (0, 0) _ HQ.out.1 Tryz.underlying71 rfl HI1.out ?_)
   (with_reducible refine (HGN.out _).mono ?_); rintro ee w3 ⟨rfl, hB3⟩
   have HQ3 := wall (show Blk w3 w.heap.size 71 D ∧ Blk w3 (w.heap.size + 1) 74 D ∧ Below w.heap.size w w3 ∧ Blk w3 gt 25 (csT.map fun x => Value.int .u16 ((x : Nat) : Int)).toArray from ⟨HQ.out.1.next hB3 rfl, HQ.out.2.1.next hB3 rfl, below_then HQ.out.2.2.1 hB3 (Nat.le_refl _), HQ.out.2.2.2.next hB3 rfl⟩)
   clear hB3 HGN HQ kc
   try simp only [Act.put, rpA, rpB, rpC]
   go_wp2_with (refine wpList_load_row rfl 74 _ rfl (w.heap.size + 1) rfl 74 D (0, 0) _ HQ3.out.2.1 Tryz.underlying74 rfl HI2.out ?_)
   (with_reducible refine (HRN.out _).mono ?_); rintro ee w4 ⟨rfl, hB4⟩
   have HQ4 := wall (show Blk w4 w.heap.size 71 D ∧ Blk w4 (w.heap.size + 1) 74 D ∧ Below w.heap.size w w4 ∧ Blk w4 gt 25 (csT.map fun x => Value.int .u16 ((x : Nat) : Int)).toArray from ⟨HQ3.out.1.next hB4 rfl, HQ3.out.2.1.next hB4 rfl, below_then HQ3.out.2.2.1 hB4 (Nat.le_refl _), HQ3.out.2.2.2.next hB4 rfl⟩)
   clear hB4 HRN HQ3
   try simp only [Act.put, rpA, rpB, rpC]
   have hbb : (b != b) = false := by cases b <;> rfl
   go_wp2_with fail
   go_light
   go_roundg (11 - (i + 1))
   case measure => have := HGK.out; omega
   case rel => exact ⟨i + 1, by have := HGK.out; omega, by go_num, HQ4⟩
  ·obtain rfl : i = 11 := by omega
   clear hlt hi
   go_wp2_with fail
   go_light
   go_ret
   exact ⟨rfl, HQ.out.2.2.1⟩
end Core
end Go.Proofs.YtmiaabpnolebhaaGreatDoor
