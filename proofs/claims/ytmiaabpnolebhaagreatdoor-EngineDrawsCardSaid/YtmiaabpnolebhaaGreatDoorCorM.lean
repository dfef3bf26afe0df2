/-
  Law 20: memory.
-/
import Derived.Test.YtmiaabpnolebhaaGreatDoorJ5fba34b9
import Derived.Test.YtmiaabpnolebhaaGreatDoorJ1f7e5c9a
set_option linter.unusedSimpArgs false
set_option linter.unusedVariables false
namespace Go.Proofs.YtmiaabpnolebhaaGreatDoor
open Go.RowKit

namespace Core
open Otp Sha R1 Spc
/-- The reference's memory: its regions of bytes that the core may change. -/
structure Mm (w : World) (m b1 b2 b4 : Nat) (l1 l2 l4 : List Nat) : Prop where
  c1 : w.cell? ⟨m, 2, none⟩ = some (.slice (some ⟨b1, 0, none⟩) 4096 4096)
  c2 : w.cell? ⟨m, 3, none⟩ = some (.slice (some ⟨b2, 0, none⟩) 4096 4096)
  c4 : w.cell? ⟨m, 5, none⟩ = some (.slice (some ⟨b4, 0, none⟩) 64 64)
  k1 : Blk w b1 5 (b8 l1)
  k2 : Blk w b2 5 (b8 l2)
  k4 : Blk w b4 5 (b8 l4)
  n1 : l1.length = 4096 ∧ ∀ x ∈ l1, x < 256
  n2 : l2.length = 4096 ∧ ∀ x ∈ l2, x < 256
  n4 : l4.length = 64 ∧ ∀ x ∈ l4, x < 256
  lt : m < w.heap.size
theorem Mm.old {w w' : World} {m b1 b2 b4 : Nat} {l1 l2 l4 : List Nat} (h : Mm w m b1 b2 b4 l1 l2 l4) (hb : Below w.heap.size w w') : Mm w' m b1 b2 b4 l1 l2 l4 :=
  ⟨(hb.cell (p := ⟨m, 2, none⟩) h.lt).trans h.c1, (hb.cell (p := ⟨m, 3, none⟩) h.lt).trans h.c2, (hb.cell (p := ⟨m, 5, none⟩) h.lt).trans h.c4, h.k1.next hb rfl, h.k2.next hb rfl, h.k4.next hb rfl, h.n1, h.n2, h.n4, Nat.lt_of_lt_of_le h.lt hb.size⟩
theorem nats_take' {k : IntKind} {M : Nat} {w : World} {B : Nat} {A : Option Addr} {l : List Nat} (h : Nats k M w B A l) (n : Nat) : Nats k M w B A (l.take n) := nats_take h n
theorem nats_dropAt {w : World} {B g o : Nat} {l : List Nat} (h : Nats .u8 256 w B (some ⟨g, o, none⟩) l) (n : Nat) : Nats .u8 256 w B (some ⟨g, o + n, none⟩) (l.drop n) := fun j z hz => by
  rw [List.getElem?_drop] at hz
  obtain ⟨h1, b, off, h2, h3, h4⟩ := h (n + j) z hz
  cases h2
  exact ⟨h1, g, o + n, rfl, h3, by rw [Nat.add_assoc]; exact h4⟩
def TrueB (w : World) (e : Ending) (w' : World) : Prop := e = .returned (.bool true) ∧ Below w.heap.size w w'
theorem same_call (A B : Option Addr) (n ca cb : Nat) (x y : List Nat) (W : World) (hx : x.length = n) (hn : n ≤ 10000) (hA : Nats .u8 256 W W.heap.size A x) (hB : Nats .u8 256 W W.heap.size B y) (hxy : x = y) :
    Calls Tryz.prog 17 #[.slice A n ca, .slice B n cb] W fun e w'' => ∃ v, e = .returned v ∧ Rel.Grow W w'' ∧ v = .bool true := by
  subst hxy
  refine (same_any A B n n ca cb x x true W W.heap.size W.heap.size hx hx (by simp only [maxLen]; omega) (by simp only [maxLen]; omega) hA hB (by simp)).mono ?_
  rintro e w' ⟨rfl, n', rfl⟩
  exact ⟨_, rfl, Below.drewN (Below.refl _ _) n', rfl⟩
set_option maxRecDepth 100000 in
set_option maxHeartbeats 4000000 in
theorem memory_any (g m b1 b2 b4 : Nat) (v : SpV) (l1 l2 l4 : List Nat) (w : World) (hv : v.Ok) (hg : Sp w g v) (hm : Mm w m b1 b2 b4 l1 l2 l4) (e1 : v.ram.take 4096 = l1) (e2 : v.ram.drop 4096 = l2) (e4 : v.prt = l4) :
    Calls Tryz.prog 31 #[.pointer (some ⟨g, 0, none⟩), .pointer (some ⟨m, 0, none⟩)] w (TrueB w) := by
  have HG := wall hg
  have HM := wall hm
  have HV := wall hv
  have HE := wall (And.intro e1 (And.intro e2 e4))
  have s1 := wall (Big.run_arr_h (P := Tryz.prog) 192 5 8192 Tryz.underlying192 (fun _ => by kernel_rfl) g 1 4096 .i64 4096 rfl (by decide) (by decide))
  have s2 := wall (run_slice_arr_lo (P := Tryz.prog) 192 5 8192 Tryz.underlying192 (fun _ => by kernel_rfl) g 1 4096 .i64 4096 rfl (by decide))
  have s4 := wall (Big.run_arr_all (P := Tryz.prog) 193 5 64 Tryz.underlying193 (fun _ => by kernel_rfl) g 8193 (by decide))
  clear hg hm hv e1 e2 e4
  have hn1 := HM.out.n1
  go_enter Tryz.func31, Tryz.ntmps31
  go_wp2_with fail
  refine RelG.wp_region_rel 34 [(6, .const (.pointer (some ⟨g, 0, none⟩))), (10, .const (.pointer (some ⟨m, 0, none⟩))), (17, .const (.pointer (some ⟨g, 0, none⟩))), (21, .const (.pointer (some ⟨m, 0, none⟩))), (29, .const (.pointer (some ⟨g, 0, none⟩))), (33, .const (.pointer (some ⟨m, 0, none⟩))), (14, .const (.bool true)), (25, .const (.bool true)), (37, .const (.bool true))] (by kernel_rfl) (by kernel_rfl) ?_
  simp only [List.take_succ_cons, List.take_zero, List.drop_succ_cons, List.drop_zero, Act.put, List.setIfInBounds_toArray, List.set_cons_zero, List.set_cons_succ]
  repeat (first | (refine RelG.tree_quiet rfl rfl rfl (fun K hK => ?_); go_big_quiet_op; refine hK _ ?_; clear hK K) | (refine RelG.tree_const rfl (.pointer (some ⟨g, 0, none⟩)) rfl (fun W hW _ => by (unfold RelG.relAt; go_simp; exact ⟨Rel.Grow.refl _, rfl⟩)) ?_; simp only [Act.put, List.setIfInBounds_toArray, List.set_cons_zero, List.set_cons_succ]) | (refine RelG.tree_const rfl (.pointer (some ⟨m, 0, none⟩)) rfl (fun W hW _ => by (unfold RelG.relAt; go_simp; exact ⟨Rel.Grow.refl _, rfl⟩)) ?_; simp only [Act.put, List.setIfInBounds_toArray, List.set_cons_zero, List.set_cons_succ]) | (refine RelG.tree_pure rfl rfl rfl (.slice (some ⟨g, 1, none⟩) 4096 8192) (fun W hW _ => Rel.exec_slice _ _ _ _ rfl _ (s1.out W)) ?_; simp only [Act.put, List.setIfInBounds_toArray, List.set_cons_zero, List.set_cons_succ]) | (refine RelG.tree_pure rfl rfl rfl (.slice (some ⟨g, 4097, none⟩) 4096 4096) (fun W hW _ => Rel.exec_slice _ _ _ _ rfl _ (s2.out W)) ?_; simp only [Act.put, List.setIfInBounds_toArray, List.set_cons_zero, List.set_cons_succ]) | (refine RelG.tree_pure rfl rfl rfl (.slice (some ⟨g, 8193, none⟩) 64 64) (fun W hW _ => Rel.exec_slice _ _ _ _ rfl _ (s4.out W)) ?_; simp only [Act.put, List.setIfInBounds_toArray, List.set_cons_zero, List.set_cons_succ]) | (refine RelG.tree_pure rfl rfl rfl (.slice (some ⟨b1, 0, none⟩) 4096 4096) (fun W hW _ => Rel.exec_load1 _ _ rfl m 2 rfl _ (fun _ => by kernel_rfl) (HM.out.old hW.undrew).c1) ?_; simp only [Act.put, List.setIfInBounds_toArray, List.set_cons_zero, List.set_cons_succ]) | (refine RelG.tree_pure rfl rfl rfl (.slice (some ⟨b2, 0, none⟩) 4096 4096) (fun W hW _ => Rel.exec_load1 _ _ rfl m 3 rfl _ (fun _ => by kernel_rfl) (HM.out.old hW.undrew).c2) ?_; simp only [Act.put, List.setIfInBounds_toArray, List.set_cons_zero, List.set_cons_succ]) | (refine RelG.tree_pure rfl rfl rfl (.slice (some ⟨b4, 0, none⟩) 64 64) (fun W hW _ => Rel.exec_load1 _ _ rfl m 5 rfl _ (fun _ => by kernel_rfl) (HM.out.old hW.undrew).c4) ?_; simp only [Act.put, List.setIfInBounds_toArray, List.set_cons_zero, List.set_cons_succ]))
  refine RelG.tree_const rfl (.bool true) rfl (fun W hW _ => ?_) ?_
  · have hb := hW.undrew
    have hs := HG.out.old hb
    have hm := HM.out.old hb
    unfold RelG.relAt; go_simp; show Calls _ _ _ _ _
    exact same_call _ _ 4096 8192 4096 (v.ram.take 4096) l1 W (by rw [HE.out.1]; exact hm.n1.1) (by decide) (nats_take (hs.ramN HV.out) 4096) (nats_b8 hm.k1 hm.n1.2) HE.out.1
  simp only [Act.put, List.setIfInBounds_toArray, List.set_cons_zero, List.set_cons_succ]
  repeat (first | (refine RelG.tree_quiet rfl rfl rfl (fun K hK => ?_); go_big_quiet_op; refine hK _ ?_; clear hK K) | (refine RelG.tree_const rfl (.pointer (some ⟨g, 0, none⟩)) rfl (fun W hW _ => by (unfold RelG.relAt; go_simp; exact ⟨Rel.Grow.refl _, rfl⟩)) ?_; simp only [Act.put, List.setIfInBounds_toArray, List.set_cons_zero, List.set_cons_succ]) | (refine RelG.tree_const rfl (.pointer (some ⟨m, 0, none⟩)) rfl (fun W hW _ => by (unfold RelG.relAt; go_simp; exact ⟨Rel.Grow.refl _, rfl⟩)) ?_; simp only [Act.put, List.setIfInBounds_toArray, List.set_cons_zero, List.set_cons_succ]) | (refine RelG.tree_pure rfl rfl rfl (.slice (some ⟨g, 1, none⟩) 4096 8192) (fun W hW _ => Rel.exec_slice _ _ _ _ rfl _ (s1.out W)) ?_; simp only [Act.put, List.setIfInBounds_toArray, List.set_cons_zero, List.set_cons_succ]) | (refine RelG.tree_pure rfl rfl rfl (.slice (some ⟨g, 4097, none⟩) 4096 4096) (fun W hW _ => Rel.exec_slice _ _ _ _ rfl _ (s2.out W)) ?_; simp only [Act.put, List.setIfInBounds_toArray, List.set_cons_zero, List.set_cons_succ]) | (refine RelG.tree_pure rfl rfl rfl (.slice (some ⟨g, 8193, none⟩) 64 64) (fun W hW _ => Rel.exec_slice _ _ _ _ rfl _ (s4.out W)) ?_; simp only [Act.put, List.setIfInBounds_toArray, List.set_cons_zero, List.set_cons_succ]) | (refine RelG.tree_pure rfl rfl rfl (.slice (some ⟨b1, 0, none⟩) 4096 4096) (fun W hW _ => Rel.exec_load1 _ _ rfl m 2 rfl _ (fun _ => by kernel_rfl) (HM.out.old hW.undrew).c1) ?_; simp only [Act.put, List.setIfInBounds_toArray, List.set_cons_zero, List.set_cons_succ]) | (refine RelG.tree_pure rfl rfl rfl (.slice (some ⟨b2, 0, none⟩) 4096 4096) (fun W hW _ => Rel.exec_load1 _ _ rfl m 3 rfl _ (fun _ => by kernel_rfl) (HM.out.old hW.undrew).c2) ?_; simp only [Act.put, List.setIfInBounds_toArray, List.set_cons_zero, List.set_cons_succ]) | (refine RelG.tree_pure rfl rfl rfl (.slice (some ⟨b4, 0, none⟩) 64 64) (fun W hW _ => Rel.exec_load1 _ _ rfl m 5 rfl _ (fun _ => by kernel_rfl) (HM.out.old hW.undrew).c4) ?_; simp only [Act.put, List.setIfInBounds_toArray, List.set_cons_zero, List.set_cons_succ]))
  refine RelG.tree_const rfl (.bool true) rfl (fun W hW _ => ?_) ?_
  · have hb := hW.undrew
    have hs := HG.out.old hb
    have hm := HM.out.old hb
    unfold RelG.relAt; go_simp; show Calls _ _ _ _ _
    exact same_call _ _ 4096 4096 4096 (v.ram.drop 4096) l2 W (by rw [HE.out.2.1]; exact hm.n2.1) (by decide) (nats_dropAt (hs.ramN HV.out) 4096) (nats_b8 hm.k2 hm.n2.2) HE.out.2.1
  simp only [Act.put, List.setIfInBounds_toArray, List.set_cons_zero, List.set_cons_succ]
  repeat (first | (refine RelG.tree_quiet rfl rfl rfl (fun K hK => ?_); go_big_quiet_op; refine hK _ ?_; clear hK K) | (refine RelG.tree_const rfl (.pointer (some ⟨g, 0, none⟩)) rfl (fun W hW _ => by (unfold RelG.relAt; go_simp; exact ⟨Rel.Grow.refl _, rfl⟩)) ?_; simp only [Act.put, List.setIfInBounds_toArray, List.set_cons_zero, List.set_cons_succ]) | (refine RelG.tree_const rfl (.pointer (some ⟨m, 0, none⟩)) rfl (fun W hW _ => by (unfold RelG.relAt; go_simp; exact ⟨Rel.Grow.refl _, rfl⟩)) ?_; simp only [Act.put, List.setIfInBounds_toArray, List.set_cons_zero, List.set_cons_succ]) | (refine RelG.tree_pure rfl rfl rfl (.slice (some ⟨g, 1, none⟩) 4096 8192) (fun W hW _ => Rel.exec_slice _ _ _ _ rfl _ (s1.out W)) ?_; simp only [Act.put, List.setIfInBounds_toArray, List.set_cons_zero, List.set_cons_succ]) | (refine RelG.tree_pure rfl rfl rfl (.slice (some ⟨g, 4097, none⟩) 4096 4096) (fun W hW _ => Rel.exec_slice _ _ _ _ rfl _ (s2.out W)) ?_; simp only [Act.put, List.setIfInBounds_toArray, List.set_cons_zero, List.set_cons_succ]) | (refine RelG.tree_pure rfl rfl rfl (.slice (some ⟨g, 8193, none⟩) 64 64) (fun W hW _ => Rel.exec_slice _ _ _ _ rfl _ (s4.out W)) ?_; simp only [Act.put, List.setIfInBounds_toArray, List.set_cons_zero, List.set_cons_succ]) | (refine RelG.tree_pure rfl rfl rfl (.slice (some ⟨b1, 0, none⟩) 4096 4096) (fun W hW _ => Rel.exec_load1 _ _ rfl m 2 rfl _ (fun _ => by kernel_rfl) (HM.out.old hW.undrew).c1) ?_; simp only [Act.put, List.setIfInBounds_toArray, List.set_cons_zero, List.set_cons_succ]) | (refine RelG.tree_pure rfl rfl rfl (.slice (some ⟨b2, 0, none⟩) 4096 4096) (fun W hW _ => Rel.exec_load1 _ _ rfl m 3 rfl _ (fun _ => by kernel_rfl) (HM.out.old hW.undrew).c2) ?_; simp only [Act.put, List.setIfInBounds_toArray, List.set_cons_zero, List.set_cons_succ]) | (refine RelG.tree_pure rfl rfl rfl (.slice (some ⟨b4, 0, none⟩) 64 64) (fun W hW _ => Rel.exec_load1 _ _ rfl m 5 rfl _ (fun _ => by kernel_rfl) (HM.out.old hW.undrew).c4) ?_; simp only [Act.put, List.setIfInBounds_toArray, List.set_cons_zero, List.set_cons_succ]))
  refine RelG.tree_const rfl (.bool true) rfl (fun W hW _ => ?_) ?_
  · have hb := hW.undrew
    have hs := HG.out.old hb
    have hm := HM.out.old hb
    unfold RelG.relAt; go_simp; show Calls _ _ _ _ _
    exact same_call _ _ 64 64 64 v.prt l4 W (by rw [HE.out.2.2]; exact hm.n4.1) (by decide) (hs.prtN HV.out) (nats_b8 hm.k4 hm.n4.2) HE.out.2.2
  simp only [Act.put, List.setIfInBounds_toArray, List.set_cons_zero, List.set_cons_succ]
  repeat (first | (refine RelG.tree_quiet rfl rfl rfl (fun K hK => ?_); go_big_quiet_op; refine hK _ ?_; clear hK K) | (refine RelG.tree_const rfl (.pointer (some ⟨g, 0, none⟩)) rfl (fun W hW _ => by (unfold RelG.relAt; go_simp; exact ⟨Rel.Grow.refl _, rfl⟩)) ?_; simp only [Act.put, List.setIfInBounds_toArray, List.set_cons_zero, List.set_cons_succ]) | (refine RelG.tree_const rfl (.pointer (some ⟨m, 0, none⟩)) rfl (fun W hW _ => by (unfold RelG.relAt; go_simp; exact ⟨Rel.Grow.refl _, rfl⟩)) ?_; simp only [Act.put, List.setIfInBounds_toArray, List.set_cons_zero, List.set_cons_succ]) | (refine RelG.tree_pure rfl rfl rfl (.slice (some ⟨g, 1, none⟩) 4096 8192) (fun W hW _ => Rel.exec_slice _ _ _ _ rfl _ (s1.out W)) ?_; simp only [Act.put, List.setIfInBounds_toArray, List.set_cons_zero, List.set_cons_succ]) | (refine RelG.tree_pure rfl rfl rfl (.slice (some ⟨g, 4097, none⟩) 4096 4096) (fun W hW _ => Rel.exec_slice _ _ _ _ rfl _ (s2.out W)) ?_; simp only [Act.put, List.setIfInBounds_toArray, List.set_cons_zero, List.set_cons_succ]) | (refine RelG.tree_pure rfl rfl rfl (.slice (some ⟨g, 8193, none⟩) 64 64) (fun W hW _ => Rel.exec_slice _ _ _ _ rfl _ (s4.out W)) ?_; simp only [Act.put, List.setIfInBounds_toArray, List.set_cons_zero, List.set_cons_succ]) | (refine RelG.tree_pure rfl rfl rfl (.slice (some ⟨b1, 0, none⟩) 4096 4096) (fun W hW _ => Rel.exec_load1 _ _ rfl m 2 rfl _ (fun _ => by kernel_rfl) (HM.out.old hW.undrew).c1) ?_; simp only [Act.put, List.setIfInBounds_toArray, List.set_cons_zero, List.set_cons_succ]) | (refine RelG.tree_pure rfl rfl rfl (.slice (some ⟨b2, 0, none⟩) 4096 4096) (fun W hW _ => Rel.exec_load1 _ _ rfl m 3 rfl _ (fun _ => by kernel_rfl) (HM.out.old hW.undrew).c2) ?_; simp only [Act.put, List.setIfInBounds_toArray, List.set_cons_zero, List.set_cons_succ]) | (refine RelG.tree_pure rfl rfl rfl (.slice (some ⟨b4, 0, none⟩) 64 64) (fun W hW _ => Rel.exec_load1 _ _ rfl m 5 rfl _ (fun _ => by kernel_rfl) (HM.out.old hW.undrew).c4) ?_; simp only [Act.put, List.setIfInBounds_toArray, List.set_cons_zero, List.set_cons_succ]))
  intro W hW _
  have HBW := wall hW.undrew
  clear hW
  go_wp2_with fail
  go_light
  go_ret
  exact ⟨rfl, HBW.out⟩
end Core
end Go.Proofs.YtmiaabpnolebhaaGreatDoor
