/-
  Texts of this claim, joined: R1Join, R2A, EngR.
-/
import Derived.Test.YtmiaabpnolebhaaGreatDoorJ0fe53632
set_option linter.unusedSimpArgs false
set_option linter.unusedVariables false
/-
  The reference's Join (curtilageref01): bytes behind bytes.
-/
namespace Go.Proofs.YtmiaabpnolebhaaGreatDoor
open Go.RowKit

namespace R1
/-- A part: where it lies (block, offset), its capacity, its bytes. -/
structure Part where
  g : Nat
  o : Nat
  c : Nat
  l : List Nat
def joinB (ps : List Part) : List Nat := ps.flatMap (·.l)
theorem joinB_le : ∀ (ps : List Part) (n : Nat), (∀ p ∈ ps, p.l.length ≤ n) → (joinB ps).length ≤ n * ps.length
  | [], _, _ => by simp [joinB]
  | p :: ps, n, h => by
    have h1 := joinB_le ps n (fun q hq => h q (by simp [hq]))
    have h2 := h p (by simp)
    simp only [joinB, List.flatMap_cons, List.length_append, List.length_cons, Nat.mul_succ] at h1 ⊢
    omega
theorem joinB_snoc (ps : List Part) (p : Part) : joinB (ps ++ [p]) = joinB ps ++ p.l := by simp [joinB]
set_option maxRecDepth 100000 in
set_option maxHeartbeats 1000000 in
theorem join_any (J jo len cap : Nat) (ps : List Part) (w : World) (hlen : ps.length = len) (hl : len ≤ 8) (hJ : J < w.heap.size)
    (hc : ∀ (i : Nat) (p : Part), ps[i]? = some p → w.cell? ⟨J, jo + i, none⟩ = some (.slice (some ⟨p.g, p.o, none⟩) p.l.length p.c))
    (hn : ∀ p ∈ ps, p.l.length ≤ 64 ∧ Nats .u8 256 w w.heap.size (some ⟨p.g, p.o, none⟩) p.l) :
    Calls Tryz.prog 62 #[.slice (some ⟨J, jo, none⟩) len cap] w (BytesOut w (joinB ps)) := by
  obtain ⟨i0, hi0, hz0, hz1, hz2⟩ := info_row u8_info
  have HI := Lib.hid hi0
  have HI1 := Lib.hid hz0
  have HI2 := Lib.hid hz1
  have HI3 := Lib.hid hz2
  have HN := Lib.hid hn
  have HC := Lib.hid hc
  subst hlen
  clear hi0 hz0 hz1 hz2 hn hc
  go_enter Tryz.func62, Tryz.ntmps62
  go_wp2_with fail
  go_loopg [3, 8] ps.length (fun g s3 s8 wr => ∃ i : Nat, i + g = ps.length ∧ s8 = .int .i64 (i : Int) ∧ OwnB wr w.heap.size s3 (joinB (ps.take i)) ∧ Below w.heap.size w wr)
  case atStart => exact ⟨0, by omega, rfl, World.ownsRow_nil _ _ _ _, Below.refl _ _⟩
  case round =>
    obtain ⟨i, hg, rfl, hO, hB⟩ := hrel
    have HG := Lib.hid hg
    have hig : i ≤ ps.length := by omega
    have HB := Lib.hid hB
    have HO := Lib.hid hO
    have hwl : w.heap.size ≤ wr.heap.size := hB.size
    clear hg hB hO
    by_cases hlt : i < ps.length
    · obtain ⟨p, hx⟩ : ∃ p, ps[i]? = some p := ⟨_, List.getElem?_eq_getElem hlt⟩
      have hcx := (HB.out.cell (p := ⟨J, jo + i, none⟩) hJ).trans (HC.out i p hx)
      obtain ⟨hp64, hpn⟩ := HN.out p (List.mem_of_getElem? hx)
      have hsrc := nats_src (hpn.below HB.out)
      have HS := Lib.hid hsrc
      have HT := Lib.hid (take_snoc hx)
      have hlen : (joinB (ps.take i)).length ≤ 64 * i := by
        have := joinB_le (ps.take i) 64 (fun q hq => (HN.out q (List.mem_of_mem_take hq)).1)
        rw [List.length_take] at this
        omega
      have HL := Lib.hid hlen
      obtain ⟨pg, po, pc, pl⟩ := p
      simp only [] at hcx hp64 HS HT
      have HM := Lib.hid (show (pl.map fun x => Value.int .u8 ((x : Nat) : Int)).length = pl.length by simp)
      clear hx hlen hpn hsrc
      go_wp2_with (at_builtin; refine wpList_append_src rfl (.tmp 12) (.tmp 13) 24 rfl w.heap.size 5 i0 (.int .u8 0) 1 Tryz.underlying24 HI.out HI1.out HI2.out HI3.out rfl _ _ _ rfl HO.out _ _ _ (pl.map fun x => Value.int .u8 ((x : Nat) : Int)) rfl HM.out HS.out (by simp) ?c2 ?c3 ?c4 hwl ?_)
      case c2 =>
        intro u hu
        obtain ⟨a, _, rfl⟩ := List.mem_map.1 hu
        rfl
      case c3 => have := HL.out; simp only [maxLen]; omega
      case c4 => have := HL.out; omega
      intro v2 w2 hO2 hg2 _
      have HB2 := Lib.hid (HB.out.grown hg2 hwl (fun k hk => (World.ownsRow.lt HO.out k hk).1))
      have HO2 := Lib.hid hO2
      clear hO2 hg2
      go_wp2_with fail
      go_light
      go_roundg (ps.length - (i + 1))
      case measure => have := HG.out; omega
      case rel =>
        refine ⟨i + 1, by omega, by go_num, ?_, HB2.out⟩
        have h2 := HO2.out
        unfold OwnB
        rw [HT.out, joinB_snoc, List.length_append, List.map_append]
        exact h2
    · have : i = ps.length := by omega
      subst this
      have HT := Lib.hid (show ps.take ps.length = ps from List.take_length)
      go_wp2_with fail
      go_light
      go_ret
      have hOO := HO.out
      rw [HT.out] at hOO
      exact ⟨_, rfl, hOO, HB.out⟩
end R1
end Go.Proofs.YtmiaabpnolebhaaGreatDoor

/-
  The reference's Join of any parts, and its Sum by a key (curtilageref01, curtilageref02).
-/
namespace Go.Proofs.YtmiaabpnolebhaaGreatDoor
open Go.RowKit

namespace Mac
open Otp R1 Sha
set_option maxRecDepth 100000 in
set_option maxHeartbeats 1000000 in
theorem joinp_any (PA : Option Addr) (pn pc : Nat) (ps : List (List Nat)) (w : World) (hpn : ps.length = pn) (hpm : pn ≤ 1000000) (hP : Parts w w.heap.size PA ps) (hm : ps.flatten.length ≤ 900000) :
    Calls Tryz.prog 62 #[.slice PA pn pc] w (BytesOut w ps.flatten) := by
  subst hpn
  have HP := wall hP
  have HM := wall hm
  clear hP hm
  go_enter Tryz.func62, Tryz.ntmps62
  go_wp2_with fail
  go_loopg [3, 8] ps.length (fun g s3 s8 wr => ∃ i : Nat, i + g = ps.length ∧ s8 = .int .i64 (i : Int) ∧ Wall (OwnB wr w.heap.size s3 (ps.take i).flatten) ∧ Wall (Below w.heap.size w wr))
  case atStart => exact ⟨0, by omega, rfl, wall (World.ownsRow_nil _ _ _ _), wall (Below.refl _ _)⟩
  case round =>
    obtain ⟨i, hg, rfl, HO, HB⟩ := hrel
    have HG := wall hg
    have hig : i ≤ ps.length := by omega
    have hwl : w.heap.size ≤ wr.heap.size := HB.out.size
    clear hg
    by_cases hlt : i < ps.length
    · obtain ⟨p, hp⟩ : ∃ p, ps[i]? = some p := ⟨_, List.getElem?_eq_getElem hlt⟩
      obtain ⟨J, off, v, rfl, hJ, hcv, hBN⟩ := (HP.out.below HB.out) i p hp
      obtain ⟨Ap, cp, rfl, hcp, hnil, hN⟩ := hBN
      have HNP := wall hN
      have HNI := wall hnil
      have HFL := wall (flatten_take_snoc hp)
      have HSZ := wall (mem_flatten_le hp)
      clear hp hnil hN
      go_wp2_with (at_builtin; refine wpList_append_bytes rfl (.tmp 12) (.tmp 13) rfl w.heap.size _ _ rfl HO.out Ap p.length cp p rfl rfl ⟨_, HNP.out⟩ HNI.out (by have := HSZ.out; have := HM.out; omega) hwl ?_)
      intro v2 w2 hO2 hB2
      have HO2 := wall hO2
      have HB2 := wall (HB.out.trans hB2)
      clear hO2 hB2
      go_wp2_with fail
      go_light
      go_roundg (ps.length - (i + 1))
      case measure => have := HG.out; omega
      case rel => exact ⟨i + 1, by omega, by go_num, wall (by rw [HFL.out]; exact HO2.out), HB2⟩
    · have : i = ps.length := by omega
      subst this
      have HT := wall (show ps.take ps.length = ps from List.take_length)
      go_wp2_with fail
      go_light
      go_ret
      have hOO := HO.out
      rw [HT.out] at hOO
      exact ⟨_, rfl, hOO, HB.out⟩
def JoinOut (W : World) (l : List Nat) (e : Ending) (w' : World) : Prop := ∃ A n c, e = .returned (.slice A n c) ∧ l.length = n ∧ n ≤ c ∧ (A = .none → c = 0) ∧ Nats .u8 256 w' w'.heap.size A l ∧ Below W.heap.size W w'
theorem join_out {w W : World} {l : List Nat} {e : Ending} {w' : World} (hb : ∀ x ∈ l, x < 256) (h : BytesOut W l e w') (hw : Below w.heap.size w W) : JoinOut w l e w' := by
  obtain ⟨v, he, hO, hB⟩ := h
  obtain ⟨A, c, rfl, hc, hN, _⟩ := own_nats hO hb
  exact ⟨A, l.length, c, he, rfl, hc, own_nil hO, hN, below_then hw hB (Nat.le_refl _)⟩
theorem join_new2 (W : World) (v1 v2 : Value) (p1 p2 : List Nat) (h1 : BytesN W W.heap.size p1 v1) (h2 : BytesN W W.heap.size p2 v2) (hm : p1.length + p2.length ≤ 900000) :
    Calls Tryz.prog 62 #[.slice (some ⟨W.heap.size, 0, none⟩) 2 2] (W.alloc (.cells #[v1, v2] 24)) (JoinOut W (p1 ++ p2)) := by
  have hP := parts_new (t := 24) W [v1, v2] [p1, p2] rfl (fun i p v hp hv => by
    match i, hp, hv with
    | 0, hp, hv => cases hp; cases hv; exact h1
    | 1, hp, hv => cases hp; cases hv; exact h2)
  have hf : [p1, p2].flatten = p1 ++ p2 := by simp
  have h := joinp_any (some ⟨W.heap.size, 0, none⟩) 2 2 [p1, p2] (W.alloc (.cells #[v1, v2] 24)) rfl (by decide) hP (by rw [hf, List.length_append]; exact hm)
  rw [hf] at h
  exact h.mono fun e w' h => join_out (sub_byte (bytesN_byte h1) (bytesN_byte h2)) h ((Below.refl _ W).alloc (Nat.le_refl _) _)
theorem join_new3 (W : World) (v1 v2 v3 : Value) (p1 p2 p3 : List Nat) (h1 : BytesN W W.heap.size p1 v1) (h2 : BytesN W W.heap.size p2 v2) (h3 : BytesN W W.heap.size p3 v3) (hm : p1.length + p2.length + p3.length ≤ 900000) :
    Calls Tryz.prog 62 #[.slice (some ⟨W.heap.size, 0, none⟩) 3 3] (W.alloc (.cells #[v1, v2, v3] 24)) (JoinOut W (p1 ++ p2 ++ p3)) := by
  have hP := parts_new (t := 24) W [v1, v2, v3] [p1, p2, p3] rfl (fun i p v hp hv => by
    match i, hp, hv with
    | 0, hp, hv => cases hp; cases hv; exact h1
    | 1, hp, hv => cases hp; cases hv; exact h2
    | 2, hp, hv => cases hp; cases hv; exact h3)
  have hf : [p1, p2, p3].flatten = p1 ++ p2 ++ p3 := by simp
  have h := joinp_any (some ⟨W.heap.size, 0, none⟩) 3 3 [p1, p2, p3] (W.alloc (.cells #[v1, v2, v3] 24)) rfl (by decide) hP (by rw [hf, List.length_append, List.length_append]; exact hm)
  rw [hf] at h
  exact h.mono fun e w' h => join_out (sub_byte (sub_byte (bytesN_byte h1) (bytesN_byte h2)) (bytesN_byte h3)) h ((Below.refl _ W).alloc (Nat.le_refl _) _)
theorem bytesN_b8 {w : World} {g n : Nat} {t : TypeId} {l : List Nat} (h : Blk w g t (b8 l)) (hb : ∀ x ∈ l, x < 256) (hn : l.length = n) : BytesN w w.heap.size l (.slice (some ⟨g, 0, .none⟩) n n) :=
  BytesN.of hn (Nat.le_refl _) (fun h => by cases h) (nats_b8 h hb)
theorem set_take_drop {α : Type} {a z : List α} {i : Nat} {y : α} (hi : i < z.length) (ha : a[i]? = some y) : (a.take i ++ z.drop i).set i y = a.take (i + 1) ++ z.drop (i + 1) := by
  have hl : (a.take i).length = i := by rw [List.length_take]; have := (List.getElem?_eq_some_iff.1 ha).1; omega
  rw [take_snoc ha, List.set_append_right _ _ (by omega), hl, Nat.sub_self, List.drop_eq_getElem_cons hi, List.set_cons_zero, List.append_assoc]
  rfl
theorem made8 (k : Nat) : madeCells #[Value.int .u8 0] k = b8 (List.replicate k 0) := by
  apply Array.ext_getElem?
  intro t
  by_cases ht : t < k
  · rw [made_get _ _ _ ht (by decide), b8_at (x := 0) (by simp [ht])]
    simp [Nat.mod_one]
  · rw [Array.getElem?_eq_none (by simp [madeCells]; omega), Array.getElem?_eq_none (by simp [b8]; omega)]
set_option maxRecDepth 100000 in
set_option maxHeartbeats 8000000 in
theorem r2sum_any (k p : List Nat) (A : Option Addr) (len cap : Nat) (PA : Option Addr) (pn pc : Nat) (w : World) (hl : k.length = len) (h64 : len ≤ 64) (hz : Nats .u8 256 w w.heap.size A k) (hp : BytesN w w.heap.size p (.slice PA pn pc)) (hpm : p.length ≤ 700000) :
    Calls Tryz.prog 126 #[.slice A len cap, .slice PA pn pc] w (DigOut w (macB k p)) := by
  obtain ⟨i0, hi0, hz0, hz1, hz2⟩ := info_row u8_info
  have hmk := fun W => run_make_rowN (P := Tryz.prog) 24 5 i0 _ Tryz.underlying24 hi0 hz0 .i64 .i64 64 64 (Nat.le_refl _) (by rw [hz2]; omega) (by omega) W
  have e64 : ((64 : Nat) : Int) = 64 := rfl
  have emk := made8 64
  rw [hz1] at hmk
  simp only [Nat.mul_one, e64] at hmk
  rw [show (Value.int IntKind.u8 0).cells = #[Value.int .u8 0] from rfl, emk] at hmk
  obtain ⟨zz, hzz⟩ : ∃ z, List.replicate 64 0 = z := ⟨_, rfl⟩
  rw [hzz] at hmk
  have HZL := wall (show zz.length = 64 by rw [← hzz, List.length_replicate])
  have hni : ¬ ((len : Int) > 64) := by omega
  have HN := wall hz
  have HP := wall hp
  clear hi0 hz0 hz1 hz2 e64 emk hz hp hzz
  go_enter Tryz.func126, Tryz.ntmps126
  obtain ⟨W1, hW1⟩ : ∃ W, W = w.alloc (.cells (b8 (List.replicate 32 0)) 23) := ⟨_, rfl⟩
  have K0 := wall (show Blk W1 w.heap.size 23 (b8 (List.replicate 32 0)) by rw [hW1]; exact Blk.new _ _ _)
  have HB := wall (show Below w.heap.size w W1 by rw [hW1]; exact (Below.refl _ w).alloc (Nat.le_refl _) _)
  have HW1 := wall hW1
  clear hW1
  go_upto_region 1 with fail
  change Code.wp _ _ _ _ (w.alloc (.cells (b8 (List.replicate 32 0)) 23))
  rw [← HW1.out]
  clear HW1
  go_upto_region 4 with fail
  have hw1 : w.heap.size < W1.heap.size := K0.out.lt
  go_cut [6, 7] (fun s6 s7 w' => ∃ g6 g7 : Nat, s6 = .slice (some ⟨g6, 0, none⟩) 64 64 ∧ s7 = .slice (some ⟨g7, 0, none⟩) 64 64 ∧ g6 ≠ g7 ∧ w.heap.size < g6 ∧ w.heap.size < g7 ∧ Wall (Blk w' g6 5 (b8 zz)) ∧ Wall (Blk w' g7 5 (b8 zz)) ∧ Wall (Below W1.heap.size W1 w'))
  case first =>
    have e1 := wall (show Blk (((W1.alloc (.cells (b8 zz) 5)).alloc (.cells (b8 zz) 5)).drew) W1.heap.size 5 (b8 zz) from ((Blk.new _ _ _).alloc _).drew)
    have e2 := wall (show Blk (((W1.alloc (.cells (b8 zz) 5)).alloc (.cells (b8 zz) 5)).drew) (W1.heap.size + 1) 5 (b8 zz) from Blk.drew (blk_new' (by simp)))
    have e3 := wall (show Below W1.heap.size W1 (((W1.alloc (.cells (b8 zz) 5)).alloc (.cells (b8 zz) 5)).drew) from (((Below.refl _ W1).alloc (Nat.le_refl _) _).alloc (by simp) _).drew)
    go_region
    all_goals go_wp2_with fail
    all_goals go_meet
    all_goals first | exact ⟨_, _, rfl, rfl, by omega, by omega, by omega, e1, e2, e3⟩ | exact ⟨_, _, rfl, rfl, by omega, by omega, by omega, e2, e1, e3⟩
  case rest =>
    obtain ⟨g6, g7, rfl, rfl, hne, hg6, hg7, K6, K7, HB1⟩ := hcut
    have KR := wall (K0.out.next HB1.out rfl)
    have HB2 := wall (below_then HB.out HB1.out (Nat.le_refl _))
    clear hmk HB1 K0 HB
    obtain ⟨w2, rfl⟩ : ∃ wo : World, wo = wc := ⟨_, rfl⟩
    obtain ⟨kb, hkb⟩ : ∃ x, keyB k = x := ⟨_, rfl⟩
    obtain ⟨ip, hip⟩ : ∃ x, ipad k = x := ⟨_, rfl⟩
    obtain ⟨op, hop⟩ : ∃ x, opad k = x := ⟨_, rfl⟩
    have HIL := wall (show ip.length = 64 by rw [← hip]; exact ipad_length k)
    have HOL := wall (show op.length = 64 by rw [← hop]; exact opad_length k)
    have hkB : ∀ x ∈ k, x < 256 := fun x hx => by
      obtain ⟨i, hi⟩ := List.mem_iff_getElem?.1 hx
      exact (HN.out i x hi).1
    have HIB := wall (show ∀ x ∈ ip, x < 256 by rw [← hip]; exact turn_byte (by decide) (keyB_byte hkB))
    have HOB := wall (show ∀ x ∈ op, x < 256 by rw [← hop]; exact turn_byte (by decide) (keyB_byte hkB))
    have HKB := wall (show kb = k ++ List.replicate (64 - len) 0 by rw [← hkb, keyB, if_neg (by omega), hl])
    have HIA := wall (show ∀ i x, kb[i]? = some x → ip[i]? = some (x ^^^ 54) from fun i x h => by rw [← hip, ipad, hkb, List.getElem?_map, h]; rfl)
    have HOA := wall (show ∀ i x, kb[i]? = some x → op[i]? = some (x ^^^ 92) from fun i x h => by rw [← hop, opad, hkb, List.getElem?_map, h]; rfl)
    have HHI := wall hip
    have HHO := wall hop
    have HL := wall hl
    clear hkb hip hop hkB hl
    have K6' := wall (show Blk w2 g6 5 (b8 (ip.take 0 ++ zz.drop 0)) by simpa using K6.out)
    have K7' := wall (show Blk w2 g7 5 (b8 (op.take 0 ++ zz.drop 0)) by simpa using K7.out)
    clear K6 K7
    go_wp2_with fail
    go_loopg [21] 64 (fun gm s21 wr => ∃ i : Nat, i + gm = 64 ∧ s21 = .int .i64 (i : Int) ∧ Wall (Blk wr w.heap.size 23 (b8 (List.replicate 32 0))) ∧ Wall (Blk wr g6 5 (b8 (ip.take i ++ zz.drop i))) ∧ Wall (Blk wr g7 5 (b8 (op.take i ++ zz.drop i))) ∧ Wall (Below w.heap.size w wr))
    case atStart => exact ⟨0, by omega, rfl, KR, K6', K7', HB2⟩
    case round =>
      clear KR K6' K7' HB2
      obtain ⟨i, hg, rfl, KR, K6, K7, HB⟩ := hrel
      have HG := wall hg
      have hi : i ≤ 64 := by omega
      clear hg
      by_cases hlt : i < 64
      · have htl : (ip.take i).length = i := by rw [List.length_take, HIL.out]; omega
        have htl2 : (op.take i).length = i := by rw [List.length_take, HOL.out]; omega
        have hfr6 : wr.frozen? ⟨g6, i, none⟩ = false := K6.out.frozen _
        have hfr7 : wr.frozen? ⟨g7, i, none⟩ = false := K7.out.frozen _
        obtain ⟨old6, hold6⟩ : ∃ v, wr.cell? ⟨g6, i, none⟩ = some v := by
          rw [K6.out.cell]
          refine ⟨_, Array.getElem?_eq_getElem (i := i) ?_⟩
          rw [b8_size, List.length_append, List.length_drop, htl, HZL.out]
          omega
        obtain ⟨old7, hold7⟩ : ∃ v, wr.cell? ⟨g7, i, none⟩ = some v := by
          rw [K7.out.cell]
          refine ⟨_, Array.getElem?_eq_getElem (i := i) ?_⟩
          rw [b8_size, List.length_append, List.length_drop, htl2, HZL.out]
          omega
        have hs6 := K6.out.lt
        have hs7 := K7.out.lt
        by_cases hil : i < len
        · obtain ⟨x, hx⟩ : ∃ x, k[i]? = some x := ⟨_, List.getElem?_eq_getElem (by have := HL.out; omega)⟩
          obtain ⟨hxM, bb, oo, hAe, hbb, hcx⟩ := (HN.out.below HB.out) i x hx
          have hkx : kb[i]? = some x := by rw [HKB.out, List.getElem?_append_left (by have := HL.out; omega)]; exact hx
          obtain ⟨y6, hy6⟩ : ∃ y, x ^^^ 54 = y := ⟨_, rfl⟩
          obtain ⟨y7, hy7⟩ : ∃ y, x ^^^ 92 = y := ⟨_, rfl⟩
          have b6 : bits .xor .u8 (x : Int) 54 = (y6 : Int) := by rw [← hy6]; exact u8_xor_nat x 54 hxM (by decide)
          have b7 : bits .xor .u8 (x : Int) 92 = (y7 : Int) := by rw [← hy7]; exact u8_xor_nat x 92 hxM (by decide)
          have HS6 := wall (set_take_drop (z := zz) (by rw [HZL.out]; exact hlt) (show ip[i]? = some y6 by rw [← hy6]; exact HIA.out i x hkx))
          have HS7 := wall (set_take_drop (z := zz) (by rw [HZL.out]; exact hlt) (show op[i]? = some y7 by rw [← hy7]; exact HOA.out i x hkx))
          subst hAe
          clear hx hkx hy6 hy7 htl htl2
          go_wp2_with fail
          go_light
          go_roundg (64 - (i + 1))
          case measure => have := HG.out; omega
          case rel =>
            refine ⟨i + 1, by have := HG.out; omega, by go_num, wall ?_, wall ?_, wall ?_, wall ?_⟩
            · exact ((KR.out.far' _ _ (by omega) _).far' _ _ (by omega) _)
            · have := (K6.out.set i (.int .u8 (y6 : Int))).far' g7 i (by omega) (.int .u8 (y7 : Int))
              rw [b8_set, HS6.out] at this
              exact this
            · have := (K7.out.far' g6 i (by omega) (.int .u8 (y6 : Int))).set i (.int .u8 (y7 : Int))
              rw [b8_set, HS7.out] at this
              exact this
            · exact (HB.out.setCell (p := ⟨g6, i, none⟩) (by show w.heap.size ≤ g6; omega) _).setCell (p := ⟨g7, i, none⟩) (by show w.heap.size ≤ g7; omega) _
        · have hkx : kb[i]? = some 0 := by
            rw [HKB.out, List.getElem?_append_right (by have := HL.out; omega), HL.out, List.getElem?_replicate, if_pos (by omega)]
          have b6 : bits .xor .u8 0 54 = 54 := by decide
          have b7 : bits .xor .u8 0 92 = 92 := by decide
          have HS6 := wall (set_take_drop (z := zz) (by rw [HZL.out]; exact hlt) (show ip[i]? = some 54 from HIA.out i 0 hkx))
          have HS7 := wall (set_take_drop (z := zz) (by rw [HZL.out]; exact hlt) (show op[i]? = some 92 from HOA.out i 0 hkx))
          clear hkx htl htl2
          go_wp2_with fail
          go_light
          go_roundg (64 - (i + 1))
          case measure => have := HG.out; omega
          case rel =>
            refine ⟨i + 1, by have := HG.out; omega, by go_num, wall ?_, wall ?_, wall ?_, wall ?_⟩
            · exact ((KR.out.far' _ _ (by omega) _).far' _ _ (by omega) _)
            · have := (K6.out.set i (.int .u8 ((54 : Nat) : Int))).far' g7 i (by omega) (.int .u8 92)
              rw [b8_set, HS6.out] at this
              exact this
            · have := (K7.out.far' g6 i (by omega) (.int .u8 54)).set i (.int .u8 ((92 : Nat) : Int))
              rw [b8_set, HS7.out] at this
              exact this
            · exact (HB.out.setCell (p := ⟨g6, i, none⟩) (by show w.heap.size ≤ g6; omega) _).setCell (p := ⟨g7, i, none⟩) (by show w.heap.size ≤ g7; omega) _
      · have hi64 : i = 64 := by omega
        have hni' : ¬ ((i : Int) < 64) := by omega
        replace K6 := wall (show Blk wr g6 5 (b8 ip) by
          have := K6.out
          rw [hi64, List.take_of_length_le (by rw [HIL.out]; omega), List.drop_of_length_le (by rw [HZL.out]; omega), List.append_nil] at this
          exact this)
        replace K7 := wall (show Blk wr g7 5 (b8 op) by
          have := K7.out
          rw [hi64, List.take_of_length_le (by rw [HOL.out]; omega), List.drop_of_length_le (by rw [HZL.out]; omega), List.append_nil] at this
          exact this)
        obtain ⟨d, hd⟩ : ∃ x, sumB (ip ++ p) = x := ⟨_, rfl⟩
        obtain ⟨r, hr⟩ : ∃ x, sumB (op ++ d) = x := ⟨_, rfl⟩
        have HRE := wall (show macB k p = r by rw [macB_pads, HHI.out, HHO.out, hd]; exact hr)
        have HDL := wall (show d.length = 32 by rw [← hd]; exact sumB_length _)
        have HDB := wall (show ∀ x ∈ d, x < 256 by rw [← hd]; exact sumB_byte _)
        have HRL := wall (show r.length = 32 by rw [← hr]; exact sumB_length _)
        have HPB := wall (bytesN_byte HP.out)
        have HIPB := wall (sub_byte HIB.out HPB.out)
        have HODB := wall (sub_byte HOB.out HDB.out)
        have HPM := wall hpm
        have HD := wall hd
        have HR := wall hr
        clear hi64 hlt HIA HOA HKB hpm hd hr
        obtain ⟨gO, rfl⟩ : ∃ q : Nat, q = gk := ⟨_, rfl⟩
        obtain ⟨wO, rfl⟩ : ∃ q : World, q = wr := ⟨_, rfl⟩
        have HJ1 := wall (join_new2 wO _ _ ip p (bytesN_b8 K6.out HIB.out HIL.out) ((HP.out.below HB.out).more HB.out.size) (by rw [HIL.out]; have := HPM.out; omega))
        go_wp2_with fail
        (with_reducible refine HJ1.out.mono ?_); rintro e w3 ⟨A3, n3, c3, rfl, hn3, hc3, hnil3, hN3, hB3⟩
        replace hn3 := wall hn3
        have K73 := wall (K7.out.next hB3 rfl)
        have KR3 := wall (KR.out.next hB3 rfl)
        have HB3 := wall (below_then HB.out hB3 (Nat.le_refl _))
        have HS1 := wall (rsum_any A3 n3 c3 (ip ++ p) w3 hn3.out (by rw [← hn3.out, List.length_append, HIL.out]; have := HPM.out; omega) hN3)
        rw [HD.out] at HS1
        clear hB3 hnil3 hN3 K6 K7 KR HB HJ1
        go_wp2_with fail
        (with_reducible refine HS1.out.mono ?_); rintro e w4 ⟨rfl, hB4⟩
        have K74 := wall (K73.out.next hB4 rfl)
        have KR4 := wall (KR3.out.next hB4 rfl)
        have HB4 := wall (below_then HB3.out hB4 (Nat.le_refl _))
        clear hB4 K73 KR3 HB3 HS1
        have HSD := wall (show (Tryz.prog.info? 23).map (·.size) = some (b8 d).size by rw [b8_size, HDL.out]; exact dig_info)
        have HZD := wall (show (b8 (List.replicate 32 0)).size = (b8 d).size by rw [b8_size, b8_size, HDL.out]; rfl)
        go_upto_region 14 with (refine wpList_new_row rfl 23 (.tmp 10) (.tmp 47) rfl w4.heap.size (b8 d) rfl rfl 23 (b8 (List.replicate 32 0)) (Blk.new _ _ _) HSD.out HZD.out (b8_one _) w4.heap.size w4 ((Below.refl _ w4).alloc (Nat.le_refl _) _) (Nat.le_refl _) ?_; intro w5 KD hB5)
        have KD := wall KD.out
        have K75 := wall (K74.out.next hB5 rfl)
        have KR5 := wall (KR4.out.next hB5 rfl)
        have HB5 := wall (below_then HB4.out hB5 (Nat.le_refl _))
        clear hB5 K74 KR4 HB4
        have hsl := run_slice_arr_all (P := Tryz.prog) 23 5 32 Tryz.underlying23 (fun _ => by kernel_rfl) w4.heap.size 0 (by decide)
        have HJ2 := wall (join_new2 w5 _ _ op d (bytesN_b8 K75.out HOB.out HOL.out) (bytesN_b8 KD.out HDB.out HDL.out) (by rw [HOL.out, HDL.out]; decide))
        go_wp2_with fail
        (with_reducible refine HJ2.out.mono ?_); rintro e w6 ⟨A6, n6, c6, rfl, hn6, hc6, hnil6, hN6, hB6⟩
        replace hn6 := wall hn6
        have KR6 := wall (KR5.out.next hB6 rfl)
        have HB6 := wall (below_then HB5.out hB6 (Nat.le_refl _))
        have HS2 := wall (rsum_any A6 n6 c6 (op ++ d) w6 hn6.out (by rw [← hn6.out, List.length_append, HOL.out, HDL.out]; decide) hN6)
        rw [HR.out] at HS2
        clear hB6 hnil6 hN6 K75 KD KR5 HB5 HJ2 hsl
        go_wp2_with fail
        (with_reducible refine HS2.out.mono ?_); rintro e w7 ⟨rfl, hB7⟩
        have KR7 := wall (KR6.out.next hB7 rfl)
        have HB7 := wall (below_then HB6.out hB7 (Nat.le_refl _))
        clear hB7 KR6 HB6 HS2
        have HSR := wall (show (Tryz.prog.info? 23).map (·.size) = some (b8 r).size by rw [b8_size, HRL.out]; exact dig_info)
        have HZR := wall (show (b8 (List.replicate 32 0)).size = (b8 r).size by rw [b8_size, b8_size, HRL.out]; rfl)
        go_wp2_with (refine wpList_store_row rfl 23 (.tmp 4) _ rfl w.heap.size (b8 r) rfl rfl 23 (b8 (List.replicate 32 0)) KR7.out HSR.out HZR.out (b8_one _) ?_)
        have hb := setRow_heap _ _ _ (b8 r) _ _ KR7.out
        have hB := below_setRow HB7.out (Nat.le_refl _) (b8 r)
        go_light
        exact bodyPost_ret (v := .agg (b8 r)) (results_cell_row Tryz.results126 _ _ w.heap.size 23 (b8 r) (0, 0) _ rfl hb Tryz.underlying23 rfl HSR.out) rfl ⟨by rw [HRE.out], hB⟩
end Mac
end Go.Proofs.YtmiaabpnolebhaaGreatDoor

/-
  The reference's Stir and Draw (curtilageref18).
-/
namespace Go.Proofs.YtmiaabpnolebhaaGreatDoor
open Go.RowKit

namespace Eng
open Otp Sha R1 Slot Mac
/-- A new digest's block. -/
def NewD (B : Nat) (v : Value) (W : World) : Prop := ∃ g, v = .pointer (some ⟨g, 0, none⟩) ∧ B ≤ g ∧ Blk W g 23 (b8 zp)
theorem NewD.soft {B : Nat} : ∀ v W W', Rel.Soft W W' → NewD B v W → NewD B v W' := fun _ _ _ h ⟨g, h1, h2, h3⟩ => ⟨g, h1, h2, h.mark g _ _ _ (by decide) h3⟩
/-- A new list of parts. -/
def PartsV (n : Nat) (ps : List (List Nat)) (v : Value) (W : World) : Prop := ∃ J, v = .slice (some ⟨J, 0, none⟩) n n ∧ Parts W W.heap.size (some ⟨J, 0, none⟩) ps
theorem nats_soft' {W W' : World} {A : Option Addr} {l : List Nat} (h : Rel.Soft W W') (hN : Nats .u8 256 W W.heap.size A l) : Nats .u8 256 W' W'.heap.size A l := nats_soft h hN
theorem PartsV.soft {n : Nat} {ps : List (List Nat)} : ∀ v W W', Rel.Soft W W' → PartsV n ps v W → PartsV n ps v W' := fun _ W W' h ⟨J, h1, h2⟩ => ⟨J, h1, fun i p hp => by
  obtain ⟨J', off, v, e, hJ, hc, A, c, h3, h4, h5, h6⟩ := h2 i p hp
  exact ⟨J', off, v, e, Nat.lt_of_lt_of_le hJ h.size, h.cell _ _ hc, A, c, h3, h4, h5, nats_soft h h6⟩⟩
/-- Bytes that are newer than B. -/
def BytesF (B : Nat) (l : List Nat) (v : Value) (W : World) : Prop := ∃ A c, v = .slice A l.length c ∧ l.length ≤ c ∧ Nats .u8 256 W W.heap.size A l ∧ ∀ ad : Addr, A = some ad → B ≤ ad.block
theorem BytesF.soft {B : Nat} {l : List Nat} : ∀ v W W', Rel.Soft W W' → BytesF B l v W → BytesF B l v W' := fun _ _ _ h ⟨A, c, h1, h2, h3, h4⟩ => ⟨A, c, h1, h2, nats_soft h h3, h4⟩
theorem bytesf_call {P : Program} {f : FuncId} {args : Array Value} {W : World} {l : List Nat} {B : Nat} (h : Calls P f args W (BytesOut W l)) (hb : ∀ x ∈ l, x < 256) (hB : B ≤ W.heap.size) : Calls P f args W (fun e w'' => ∃ v, e = .returned v ∧ Rel.Grow W w'' ∧ BytesF B l v w'') :=
  h.mono fun e w' ⟨v, h1, h2, h3⟩ => by
    obtain ⟨A, c, rfl, hc, hN, hA⟩ := own_nats h2 hb
    exact ⟨_, h1, h3, A, c, rfl, hc, hN, fun ad e => Nat.le_trans hB (hA ad e)⟩
theorem lit_bytes {B : Nat} {v : Value} {W : World} (l : List Nat) (n : Nat) (hn : l.length = n) (hb : ∀ x ∈ l, x < 256) (h : Rel.Lit8 B 5 (v8 l) v W) : BytesN W W.heap.size l v ∧ ∃ g, v = .slice (some ⟨g, 0, none⟩) n n := by
  obtain ⟨g, rfl, _, hlt, _, hc⟩ := h
  rw [v8_length]
  refine ⟨⟨_, _, rfl, Nat.le_refl _, (fun h => by cases h), fun i z hz => ⟨hb z (List.mem_of_getElem? hz), g, 0, rfl, hlt, ?_⟩⟩, g, by rw [hn]⟩
  rw [Nat.zero_add]
  exact hc i _ (by simp [v8, hz])
set_option maxRecDepth 100000 in
set_option maxHeartbeats 4000000 in
theorem rstir_any (pl l : List Nat) (A : Option Addr) (n c : Nat) (w : World) (hl : pl.length = 32) (hb : ∀ x ∈ pl, x < 256) (hn : l.length = n) (hc : n ≤ c) (hnil : A = none → c = 0) (hm : n ≤ 800000) (hz : Nats .u8 256 w w.heap.size A l) :
    Calls Tryz.prog 46 #[.agg (b8 pl), .slice A n c] w (fun e w' => e = .returned (.agg (b8 (sumB (pl ++ l)))) ∧ Below w.heap.size w w') := by
  obtain ⟨W1, hW1⟩ : ∃ W, W = (w.alloc (.cells (b8 pl) 23)).alloc (.cells (b8 zp) 23) := ⟨_, rfl⟩
  have HB1 := wall (show Below w.heap.size w W1 by rw [hW1]; exact ((Below.refl _ w).alloc (Nat.le_refl _) _).alloc (by simp) _)
  have KP1 := wall (show Blk W1 w.heap.size 23 (b8 pl) by rw [hW1]; exact (Blk.new w _ _).alloc _)
  have KD1 := wall (show Blk W1 (w.heap.size + 1) 23 (b8 zp) by rw [hW1]; exact blk_new' (by simp))
  have hlb : ∀ x ∈ l, x < 256 := fun x hx => by
    obtain ⟨i, hi⟩ := List.mem_iff_getElem?.1 hx
    exact (hz i x hi).1
  have HBB := wall (show ∀ x ∈ pl ++ l, x < 256 from fun x hx => (List.mem_append.1 hx).elim (hb x) (hlb x))
  have HJ := wall (join_new2 W1 (.slice (some ⟨w.heap.size, 0, none⟩) 32 32) (.slice A n c) pl l (BytesN.of hl (Nat.le_refl _) (by simp) (nats_b8 KP1.out hb)) (BytesN.of hn hc hnil (nats_step hz HB1.out)) (by omega))
  have HSM := wall (fun A' n' c' W (h1 : (pl ++ l).length = n') (h2 : Nats .u8 256 W W.heap.size A' (pl ++ l)) => rsum_any A' n' c' (pl ++ l) W h1 (by rw [← h1, List.length_append]; omega) h2)
  unfold Mac.JoinOut at HJ
  obtain ⟨X, hX⟩ : ∃ y, pl ++ l = y := ⟨_, rfl⟩
  rw [hX] at HJ HSM HBB ⊢
  have HDL := wall (show (sumB X).length = 32 ∧ ∀ x ∈ sumB X, x < 256 from ⟨sumB_length _, sumB_byte _⟩)
  obtain ⟨D, hD⟩ : ∃ y, sumB X = y := ⟨_, rfl⟩
  rw [hD] at HSM HDL ⊢
  have HSI := wall (show (Tryz.prog.info? 23).map (·.size) = some (b8 D).size by rw [b8_size, HDL.out.1]; exact dig_info)
  have HW1 := wall hW1
  have hsl := run_slice_arr_all' (P := Tryz.prog) 23 5 32 Tryz.underlying23 (fun _ => by kernel_rfl)
  clear hl hb hn hc hnil hm hz hlb hX hD hW1
  go_enter Tryz.func46, Tryz.ntmps46
  go_upto_region 1 with fail
  change Code.wp _ _ _ _ ((w.alloc (.cells (b8 pl) 23)).alloc (.cells (b8 zp) 23))
  rw [← HW1.out]
  clear HW1
  go_wp2_with fail
  (with_reducible refine HJ.out.mono ?_); rintro e w2 ⟨A2, n2, c2, rfl, hl2, hc2, -, hN2, hB2⟩
  have HB2 := wall hB2
  have KD2 := wall (KD1.out.next hB2 rfl)
  have HS2 := wall (HSM.out A2 n2 c2 w2 hl2 hN2)
  clear hl2 hc2 hN2 hB2 HJ HSM KD1
  try simp only [Act.put, List.setIfInBounds_toArray, List.set_cons_zero, List.set_cons_succ]
  go_wp2_with fail
  (with_reducible refine HS2.out.mono ?_); rintro e w3 ⟨rfl, hB3⟩
  have HB3 := wall (below_then HB1.out (below_then HB2.out hB3 (Nat.le_refl _)) (Nat.le_refl _))
  have KD3 := wall (KD2.out.next hB3 rfl)
  clear hB3 HS2 KD2 HB2
  try simp only [Act.put, List.setIfInBounds_toArray, List.set_cons_zero, List.set_cons_succ]
  go_wp2_with (refine wpList_set_row rfl 23 (.tmp 4) (.tmp 9) rfl (w.heap.size + 1) (b8 D) rfl rfl 23 (b8 zp) KD3.out HSI.out (by rw [b8_size, b8_size, HDL.out.1]; rfl) (b8_one _) ?_; intro w4 K4 F4)
  go_light
  exact bodyPost_ret (v := .agg (b8 D)) (results_cell_row Tryz.results46 _ _ (w.heap.size + 1) 23 (b8 D) (0, 0) _ rfl K4.out Tryz.underlying23 rfl HSI.out) rfl ⟨rfl, Below.frm HB3.out F4.out (Nat.le_refl _) (by simp)⟩
theorem num4 {i : Nat} (h : i < 33) : numB i 4 = [0, 0, 0, i] := by
  have : ∀ n : Fin 33, numB n.val 4 = [0, 0, 0, n.val] := by decide +kernel
  exact this ⟨i, h⟩
def RDrawOut (pl : List Nat) (l : List Nat) (w : World) (e : Ending) (w' : World) : Prop := ∃ A c, e = .returned (.tuple #[.slice A l.length c, .agg (b8 (nextB pl))]) ∧ l.length ≤ c ∧ (∀ ad : Addr, A = some ad → w.heap.size ≤ ad.block) ∧ Nats .u8 256 w' w'.heap.size A l ∧ Below w.heap.size w w'
theorem res_tc {P : Program} {fn : Func} {p q : Tmp} {ty : TypeId} (h : fn.results = #[.tmp q, .cell p ty]) (tmps : Array Value) (w : World) (g : Nat) (t : TypeId) (cs : Array Value) (d : TypeDesc) (v : Value)
    (hp : tmps.getD p undef = .pointer (some ⟨g, 0, none⟩)) (hq : tmps.getD q undef = v) (hg : Blk w g t cs)
    (hu : P.underlying ty = some d) (hd : (match d with | .struct _ | .array _ _ => true | _ => false) = true) (hi : (P.info? ty).map (·.size) = some cs.size) :
    (results fn tmps).run P w = .ok (.tuple #[v, .agg cs]) w := by
  have hp' : tmps[p]?.getD undef = .pointer (some ⟨g, 0, none⟩) := by simpa using hp
  have hq' : tmps[q]?.getD undef = v := by simpa using hq
  simp [results, h, hp', hq', asAddr, Sem.run_bind, Result.andThen, run_loadVar_row w g t ty cs (0, 0) d hg hu hd hi]
set_option maxRecDepth 100000 in
set_option maxHeartbeats 8000000 in
theorem rdraw_any (pl : List Nat) (n : Nat) (w : World) (hl : pl.length = 32) (hb : ∀ x ∈ pl, x < 256) (hn : n ≤ 1024) :
    Calls Tryz.prog 48 #[.agg (b8 pl), .int .i64 (n : Int)] w (RDrawOut pl ((drawL pl ((n + 31) / 32)).take n) w) := by
  obtain ⟨W1, hW1⟩ : ∃ W, W = (w.alloc (.cells (b8 pl) 23)).alloc (.cells (b8 zp) 23) := ⟨_, rfl⟩
  have HB1 := wall (show Below w.heap.size w W1 by rw [hW1]; exact ((Below.refl _ w).alloc (Nat.le_refl _) _).alloc (by simp) _)
  have KP1 := wall (show Blk W1 w.heap.size 23 (b8 pl) by rw [hW1]; exact (Blk.new w _ _).alloc _)
  have KD1 := wall (show Blk W1 (w.heap.size + 1) 23 (b8 zp) by rw [hW1]; exact blk_new' (by simp))
  have HSZ := wall (show W1.heap.size = w.heap.size + 2 by rw [hW1]; simp)
  have HPL := wall (And.intro hl hb)
  obtain ⟨m, hm⟩ : ∃ m, (n + 31) / 32 = m := ⟨_, rfl⟩
  have HM := wall (show n ≤ 32 * m ∧ m ≤ 32 ∧ ∀ i, i < m → 32 * i < n from ⟨by omega, by omega, fun i hi => by omega⟩)
  rw [hm]
  obtain ⟨i0, hi0, hz0, hz1, hz2⟩ := info_row u8_info
  have HI := wall (And.intro hi0 (And.intro hz0 (And.intro hz1 hz2)))
  have hsl := run_slice_arr_all' (P := Tryz.prog) 23 5 32 Tryz.underlying23 (fun _ => by kernel_rfl)
  have HSL := wall hsl
  have HW1 := wall hW1
  clear hl hb hm hi0 hz0 hz1 hz2 hW1
  go_enter Tryz.func48, Tryz.ntmps48
  go_upto_region 1 with fail
  change Code.wp _ _ _ _ ((w.alloc (.cells (b8 pl) 23)).alloc (.cells (b8 zp) 23))
  rw [← HW1.out]
  clear HW1
  go_wp2_with fail
  go_loopg [6, 7] m (fun gg s6 s7 wr => ∃ i : Nat, i + gg = m ∧ s7 = .int .i64 (i : Int) ∧ OwnB wr W1.heap.size s6 (drawL pl i) ∧ Below W1.heap.size W1 wr)
  case atStart => exact ⟨0, by omega, rfl, World.ownsRow_nil _ _ _ _, Below.refl _ _⟩
  case round =>
    obtain ⟨i, hg, rfl, hO, hB⟩ := hrel
    have HG := wall hg
    have hig : i ≤ m := by omega
    have HB := wall hB
    obtain ⟨A, cA, rfl, hcA, hNA, hAA⟩ := own_nats hO (drawL_byte _ _)
    have HNA := wall hNA
    have HNIL := wall (own_nil hO)
    rw [drawL_length] at hcA
    rw [drawL_length]
    unfold OwnB at hO
    rw [drawL_length] at hO
    have HO := wall hO
    have KP := wall (KP1.out.next hB rfl)
    have KD := wall (KD1.out.next hB rfl)
    clear hg hO hB hNA
    by_cases hlt : i < m
    · have hi1 : (32 : Int) * (i : Int) < (n : Int) := by have := HM.out.2.2 i hlt; omega
      have hi2 : ((32 * i : Nat) : Int) < (n : Int) := by omega
      have hi33 : i < 33 := by have := HM.out.2.1; omega
      have HNB := wall (show ∀ x ∈ [0, 0, 0, i], x < 256 by simp; omega)
      have HNUM := wall (fun W => num_any (i : Int) 4 i 4 W rfl rfl (by omega) (by decide))
      rw [num4 hi33] at HNUM
      have HXB := wall (show ∀ x ∈ [[79, 85, 84], pl, [0, 0, 0, i]].flatten, x < 256 from by
        intro x hx
        simp at hx
        rcases hx with rfl | rfl | rfl | h | rfl | rfl
        · decide
        · decide
        · decide
        · exact HPL.out.2 x h
        · decide
        · omega)
      have HXE := wall (show sumB [[79, 85, 84], pl, [0, 0, 0, i]].flatten = outB pl i by rw [show [[79, 85, 84], pl, [0, 0, 0, i]].flatten = [79, 85, 84] ++ (pl ++ [0, 0, 0, i]) by simp]; rfl)
      have HXL := wall (show [[79, 85, 84], pl, [0, 0, 0, i]].flatten.length ≤ 900000 by have := HPL.out.1; simp; omega)
      have HSN := wall (drawL_snoc pl i)
      have HD := wall (show (outB pl i).length = 32 ∧ ∀ x ∈ outB pl i, x < 256 from ⟨sumB_length _, sumB_byte _⟩)
      obtain ⟨D, hD⟩ : ∃ y, outB pl i = y := ⟨_, rfl⟩
      rw [hD] at HXE HSN HD
      obtain ⟨PS, hPS⟩ : ∃ y, [[79, 85, 84], pl, [0, 0, 0, i]] = y := ⟨_, rfl⟩
      have HPS := wall hPS
      rw [hPS] at HXB HXE HXL
      obtain ⟨X, hXX⟩ : ∃ y, PS.flatten = y := ⟨_, rfl⟩
      have HXX := wall hXX
      rw [hXX] at HXB HXE HXL
      clear hXX
      have HSI := wall (show (Tryz.prog.info? 23).map (·.size) = some (b8 D).size by rw [b8_size, HD.out.1]; exact dig_info)
      clear hD hPS hcA
      go_upto_region 5 with fail
      refine Rel.wp_region_rel 10 [(15, .any (Rel.Lit8 wr.drew.heap.size 5 (v8 [79, 85, 84])) Rel.Lit8.soft), (16, .any (Rel.Lit8 wr.drew.heap.size 5 (v8 [79, 85, 84])) Rel.Lit8.soft), (20, .any (Bytes [0, 0, 0, i]) Bytes.grow), (21, .any (PartsV 3 PS) PartsV.soft), (22, .any (Bytes X) Bytes.grow), (23, .const (.agg (b8 D))), (8, .any (NewD wr.drew.heap.size) NewD.soft)] (by kernel_rfl) (by kernel_rfl) ?_
      simp only [List.take_succ_cons, List.take_zero, List.drop_succ_cons, List.drop_zero, Act.put, List.setIfInBounds_toArray, List.set_cons_zero, List.set_cons_succ]
      refine Rel.tree_rel rfl (Rel.Lit8 wr.drew.heap.size 5 (v8 [79, 85, 84])) Rel.Lit8.soft rfl (fun W hW _ => ?_) (fun v15 => ?_)
      · unfold Rel.relAt
        go_simp
        exact ⟨Rel.Grow.alloc _ _, Rel.lit8_new (v8 [79, 85, 84]) hW.size⟩
      simp only [Act.put, List.setIfInBounds_toArray, List.set_cons_zero, List.set_cons_succ]
      refine Rel.tree_step rfl (Rel.Lit8 wr.drew.heap.size 5 (v8 [79, 85, 84])) Rel.Lit8.soft rfl (fun W hW hF => Rel.stepAt_const rfl Tryz.underlying24 Tryz.underlying5 v15 rfl (hF 15 (by decide))) (fun v16 => ?_)
      simp only [Act.put, List.setIfInBounds_toArray, List.set_cons_zero, List.set_cons_succ]
      refine Rel.tree_pure rfl rfl rfl (.slice (some ⟨w.heap.size, 0, none⟩) 32 32) (fun W hW _ => Rel.exec_slice _ _ _ _ rfl _ (HSL.out _ _ (by decide) W)) ?_
      simp only [Act.put, List.setIfInBounds_toArray, List.set_cons_zero, List.set_cons_succ]
      repeat (refine Rel.tree_quiet rfl rfl rfl (fun K hK => ?_); go_big_quiet_op; refine hK _ ?_; clear hK K)
      refine Rel.tree_rel rfl (Bytes [0, 0, 0, i]) Bytes.grow rfl (fun W hW _ => ?_) (fun v20 => ?_)
      · unfold Rel.relAt; go_simp; show Calls _ _ _ _ _
        exact bytes_call (HNUM.out W) HNB.out
      simp only [Act.put, List.setIfInBounds_toArray, List.set_cons_zero, List.set_cons_succ]
      refine Rel.tree_rel rfl (PartsV 3 PS) PartsV.soft rfl (fun W hW hF => ?_) (fun v21 => ?_)
      · obtain ⟨f16, g16, rfl⟩ := lit_bytes [79, 85, 84] 3 rfl (by decide) (hF 16 (by decide))
        obtain ⟨A20, c20, rfl, hc20, hN20⟩ : Bytes [0, 0, 0, i] v20 W := hF 20 (by decide)
        have f20 : BytesN W W.heap.size [0, 0, 0, i] (.slice A20 4 c20) := ⟨A20, c20, rfl, hc20, (fun e => by
          obtain ⟨_, b, o, e2, _⟩ := hN20 0 0 rfl
          rw [e] at e2
          cases e2), hN20⟩
        have f17 : BytesN W W.heap.size pl (.slice (some ⟨w.heap.size, 0, none⟩) 32 32) := BytesN.of HPL.out.1 (Nat.le_refl _) (by simp) (nats_b8 (KP.out.next (Rel.Grow.undrew hW) rfl) HPL.out.2)
        have hp := parts_new (t := 24) W [.slice (some ⟨g16, 0, none⟩) 3 3, .slice (some ⟨w.heap.size, 0, none⟩) 32 32, .slice A20 4 c20] [[79, 85, 84], pl, [0, 0, 0, i]] rfl (fun j q u hq hu => by
          match j, hq, hu with
          | 0, hq, hu => cases hq; cases hu; exact f16
          | 1, hq, hu => cases hq; cases hu; exact f17
          | 2, hq, hu => cases hq; cases hu; exact f20)
        rw [HPS.out] at hp
        have HP := wall hp
        clear hp f16 f17 f20 hc20 hN20 hF
        unfold Rel.relAt
        go_simp
        exact ⟨Rel.Grow.alloc _ _, W.heap.size, rfl, HP.out⟩
      simp only [Act.put, List.setIfInBounds_toArray, List.set_cons_zero, List.set_cons_succ]
      refine Rel.tree_rel rfl (Bytes X) Bytes.grow rfl (fun W hW hF => ?_) (fun v22 => ?_)
      · obtain ⟨J, rfl, hP⟩ : PartsV 3 PS v21 W := hF 21 (by decide)
        have HJN := wall (joinp_any (some ⟨J, 0, none⟩) 3 3 PS W (by rw [← HPS.out]; rfl) (by decide) hP (by rw [HXX.out]; exact HXL.out))
        rw [HXX.out] at HJN
        clear hP hF
        unfold Rel.relAt; go_simp; show Calls _ _ _ _ _
        exact bytes_call HJN.out HXB.out
      simp only [Act.put, List.setIfInBounds_toArray, List.set_cons_zero, List.set_cons_succ]
      refine Rel.tree_const rfl (.agg (b8 D)) rfl (fun W hW hF => ?_) ?_
      · obtain ⟨A22, c22, rfl, hc22, hN22⟩ : Bytes X v22 W := hF 22 (by decide)
        have HSS := wall (rsum_any A22 X.length c22 X W rfl (by have := HXL.out; omega) hN22)
        rw [HXE.out] at HSS
        clear hc22 hN22 hF
        unfold Rel.relAt; go_simp; show Calls _ _ _ _ _
        exact const_call HSS.out
      simp only [Act.put, List.setIfInBounds_toArray, List.set_cons_zero, List.set_cons_succ]
      refine Rel.tree_rel rfl (NewD wr.drew.heap.size) NewD.soft rfl (fun W hW _ => ?_) (fun v8 => ?_)
      · unfold Rel.relAt
        go_simp
        exact ⟨Rel.Grow.alloc _ _, _, rfl, hW.size, Blk.new _ _ _⟩
      simp only [Act.put, List.setIfInBounds_toArray, List.set_cons_zero, List.set_cons_succ]
      intro W hW hF
      obtain ⟨g8, rfl, hg8, K8⟩ : NewD wr.drew.heap.size v8 W := hF 8
      have HBW := wall (Rel.Grow.undrew hW)
      have HG8 := wall (show wr.heap.size ≤ g8 from hg8)
      have HK8 := wall K8
      clear hW hF hg8 K8 HNUM HXB HXE HXL HXX HPS HNB KP KD
      try simp only [Act.put, List.setIfInBounds_toArray, List.set_cons_zero, List.set_cons_succ]
      go_upto_region 6 with (refine wpList_set_row rfl 23 (.tmp 8) (.tmp 23) rfl g8 (b8 D) rfl rfl 23 (b8 zp) HK8.out HSI.out (by rw [b8_size, b8_size, HD.out.1]; rfl) (b8_one _) ?_; intro w3 K3 F3)
      have HB2 := wall (Below.frm HBW.out F3.out (Nat.le_refl _) (by have := HG8.out; simp; omega))
      have HB3 := wall (below_then HB.out HB2.out (Nat.le_refl _))
      have HO3 := wall (own_frm HO.out (Frm.of_below (S := []) HB2.out) (by simp))
      have HSRC := wall (nats_src (nats_b8 K3.out HD.out.2))
      have HVL := wall (show (v8 D).length = 32 by rw [v8_length, HD.out.1])
      have hwl : W1.heap.size ≤ w3.heap.size := HB3.out.size
      have HMM := wall (show i < 33 from hi33)
      clear HBW HG8 HK8 K3 F3 HO HB HSI HNA
      try simp only [Act.put, List.setIfInBounds_toArray, List.set_cons_zero, List.set_cons_succ]
      go_wp2_with (at_builtin; refine Sha.Wall.out (?_ : Wall _))
      refine ⟨?_⟩
      refine wpList_append_src rfl (.tmp 24) (.tmp 25) 24 rfl W1.heap.size 5 i0 (.int .u8 0) 1 Tryz.underlying24 HI.out.1 HI.out.2.1 HI.out.2.2.1 HI.out.2.2.2 rfl _ _ _ rfl HO3.out _ _ _ (v8 D) rfl HVL.out HSRC.out (by simp) ?c2 ?c3 ?c4 hwl ?_
      case c2 =>
        intro u hu
        obtain ⟨a, _, rfl⟩ := List.mem_map.1 hu
        rfl
      case c3 => have := HMM.out; simp only [maxLen]; omega
      case c4 => have := HMM.out; omega
      intro v2 w4 hO4 hg4 _
      have HB4 := wall (HB3.out.grown hg4 hwl (fun k hk => (World.ownsRow.lt HO3.out k hk).1))
      have HO4 := wall hO4
      clear hO4 hg4 HB3 HO3
      go_wp2_with fail
      go_light
      go_roundg (m - (i + 1))
      case measure => have := HG.out; omega
      case rel =>
        refine ⟨i + 1, by have := HG.out; omega, by go_num, ?_, HB4.out⟩
        have h2 := HO4.out
        unfold OwnB
        rw [HSN.out, List.length_append, List.map_append, HD.out.1, drawL_length]
        exact h2
    · have : i = m := by omega
      subst this
      have hi1 : ¬ ((32 * i : Nat) : Int) < (n : Int) := by have := HM.out.1; omega
      have HXB := wall (show ∀ x ∈ [[78, 69, 88, 84], pl].flatten, x < 256 from by
        intro x hx
        simp at hx
        rcases hx with rfl | rfl | rfl | rfl | h
        · decide
        · decide
        · decide
        · decide
        · exact HPL.out.2 x h)
      have HXE := wall (show sumB [[78, 69, 88, 84], pl].flatten = nextB pl by rw [show [[78, 69, 88, 84], pl].flatten = [78, 69, 88, 84] ++ pl by simp]; rfl)
      have HXL := wall (show [[78, 69, 88, 84], pl].flatten.length ≤ 900000 by have := HPL.out.1; simp; omega)
      have HD := wall (show (nextB pl).length = 32 ∧ ∀ x ∈ nextB pl, x < 256 from ⟨sumB_length _, sumB_byte _⟩)
      obtain ⟨D, hD⟩ : ∃ y, nextB pl = y := ⟨_, rfl⟩
      have HND := wall hD
      rw [hD] at HXE HD
      obtain ⟨PS, hPS⟩ : ∃ y, [[78, 69, 88, 84], pl] = y := ⟨_, rfl⟩
      have HPS := wall hPS
      rw [hPS] at HXB HXE HXL
      obtain ⟨X, hXX⟩ : ∃ y, PS.flatten = y := ⟨_, rfl⟩
      have HXX := wall hXX
      rw [hXX] at HXB HXE HXL
      have HSI := wall (show (Tryz.prog.info? 23).map (·.size) = some (b8 D).size by rw [b8_size, HD.out.1]; exact dig_info)
      have HCUT := wall (fun W (h : Nats .u8 256 W W.heap.size A (drawL pl i)) => cut_any A (32 * i) cA (drawL pl i) (n : Int) n W (drawL_length _ _) (by have := HM.out.2.1; simp only [maxLen]; omega) rfl (by omega) h)
      obtain ⟨Y, hY⟩ : ∃ y, (drawL pl i).take n = y := ⟨_, rfl⟩
      have HYB := wall (show ∀ x ∈ Y, x < 256 from hY ▸ fun x hx => drawL_byte _ _ x (List.mem_of_mem_take hx))
      have HYE := wall hY
      rw [hY] at HCUT
      clear hD hPS hXX hcA hY HO
      go_upto_region 7 with fail
      refine Rel.wp_region_rel 9 [(29, .any (BytesF wr.drew.heap.size Y) BytesF.soft), (30, .any (Rel.Lit8 wr.drew.heap.size 5 (v8 [78, 69, 88, 84])) Rel.Lit8.soft), (31, .any (Rel.Lit8 wr.drew.heap.size 5 (v8 [78, 69, 88, 84])) Rel.Lit8.soft), (33, .any (PartsV 2 PS) PartsV.soft), (34, .any (Bytes X) Bytes.grow), (35, .const (.agg (b8 D)))] (by kernel_rfl) (by kernel_rfl) ?_
      simp only [List.take_succ_cons, List.take_zero, List.drop_succ_cons, List.drop_zero, Act.put, List.setIfInBounds_toArray, List.set_cons_zero, List.set_cons_succ]
      repeat (refine Rel.tree_quiet rfl rfl rfl (fun K hK => ?_); go_big_quiet_op; refine hK _ ?_; clear hK K)
      refine Rel.tree_rel rfl (BytesF wr.drew.heap.size Y) BytesF.soft rfl (fun W hW _ => ?_) (fun v29 => ?_)
      · unfold Rel.relAt; go_simp; show Calls _ _ _ _ _
        exact bytesf_call (HCUT.out W (nats_step HNA.out (Rel.Grow.undrew hW))) HYB.out hW.size
      simp only [Act.put, List.setIfInBounds_toArray, List.set_cons_zero, List.set_cons_succ]
      refine Rel.tree_rel rfl (Rel.Lit8 wr.drew.heap.size 5 (v8 [78, 69, 88, 84])) Rel.Lit8.soft rfl (fun W hW _ => ?_) (fun v30 => ?_)
      · unfold Rel.relAt
        go_simp
        exact ⟨Rel.Grow.alloc _ _, Rel.lit8_new (v8 [78, 69, 88, 84]) hW.size⟩
      simp only [Act.put, List.setIfInBounds_toArray, List.set_cons_zero, List.set_cons_succ]
      refine Rel.tree_step rfl (Rel.Lit8 wr.drew.heap.size 5 (v8 [78, 69, 88, 84])) Rel.Lit8.soft rfl (fun W hW hF => Rel.stepAt_const rfl Tryz.underlying24 Tryz.underlying5 v30 rfl (hF 30 (by decide))) (fun v31 => ?_)
      simp only [Act.put, List.setIfInBounds_toArray, List.set_cons_zero, List.set_cons_succ]
      refine Rel.tree_pure rfl rfl rfl (.slice (some ⟨w.heap.size, 0, none⟩) 32 32) (fun W hW _ => Rel.exec_slice _ _ _ _ rfl _ (HSL.out _ _ (by decide) W)) ?_
      simp only [Act.put, List.setIfInBounds_toArray, List.set_cons_zero, List.set_cons_succ]
      refine Rel.tree_rel rfl (PartsV 2 PS) PartsV.soft rfl (fun W hW hF => ?_) (fun v33 => ?_)
      · obtain ⟨f16, g16, rfl⟩ := lit_bytes [78, 69, 88, 84] 4 rfl (by decide) (hF 31 (by decide))
        have f17 : BytesN W W.heap.size pl (.slice (some ⟨w.heap.size, 0, none⟩) 32 32) := BytesN.of HPL.out.1 (Nat.le_refl _) (by simp) (nats_b8 (KP.out.next (Rel.Grow.undrew hW) rfl) HPL.out.2)
        have hp := parts_new (t := 24) W [.slice (some ⟨g16, 0, none⟩) 4 4, .slice (some ⟨w.heap.size, 0, none⟩) 32 32] [[78, 69, 88, 84], pl] rfl (fun j q u hq hu => by
          match j, hq, hu with
          | 0, hq, hu => cases hq; cases hu; exact f16
          | 1, hq, hu => cases hq; cases hu; exact f17)
        rw [HPS.out] at hp
        have HP := wall hp
        clear hp f16 f17 hF
        unfold Rel.relAt
        go_simp
        exact ⟨Rel.Grow.alloc _ _, W.heap.size, rfl, HP.out⟩
      simp only [Act.put, List.setIfInBounds_toArray, List.set_cons_zero, List.set_cons_succ]
      refine Rel.tree_rel rfl (Bytes X) Bytes.grow rfl (fun W hW hF => ?_) (fun v34 => ?_)
      · obtain ⟨J, rfl, hP⟩ : PartsV 2 PS v33 W := hF 33 (by decide)
        have HJN := wall (joinp_any (some ⟨J, 0, none⟩) 2 2 PS W (by rw [← HPS.out]; rfl) (by decide) hP (by rw [HXX.out]; exact HXL.out))
        rw [HXX.out] at HJN
        clear hP hF
        unfold Rel.relAt; go_simp; show Calls _ _ _ _ _
        exact bytes_call HJN.out HXB.out
      simp only [Act.put, List.setIfInBounds_toArray, List.set_cons_zero, List.set_cons_succ]
      refine Rel.tree_const rfl (.agg (b8 D)) rfl (fun W hW hF => ?_) ?_
      · obtain ⟨A22, c22, rfl, hc22, hN22⟩ : Bytes X v34 W := hF 34 (by decide)
        have HSS := wall (rsum_any A22 X.length c22 X W rfl (by have := HXL.out; omega) hN22)
        rw [HXE.out] at HSS
        clear hc22 hN22 hF
        unfold Rel.relAt; go_simp; show Calls _ _ _ _ _
        exact const_call HSS.out
      simp only [Act.put, List.setIfInBounds_toArray, List.set_cons_zero, List.set_cons_succ]
      intro W hW hF
      obtain ⟨A29, c29, rfl, hc29, hN29, hA29⟩ : BytesF wr.drew.heap.size Y v29 W := hF 29
      have HBW := wall (below_then HB1.out (below_then HB.out (Rel.Grow.undrew hW) (Nat.le_refl _)) (Nat.le_refl _))
      have HKD := wall (KD.out.next (Rel.Grow.undrew hW) rfl)
      have HN29 := wall (And.intro hc29 (And.intro hN29 hA29))
      have HWR := wall (show w.heap.size + 2 ≤ wr.heap.size by rw [← HSZ.out]; exact HB.out.size)
      clear hW hF hc29 hN29 hA29
      try simp only [Act.put, List.setIfInBounds_toArray, List.set_cons_zero, List.set_cons_succ]
      go_wp2_with (refine wpList_set_row rfl 23 (.tmp 5) (.tmp 35) rfl (w.heap.size + 1) (b8 D) rfl rfl 23 (b8 zp) HKD.out HSI.out (by rw [b8_size, b8_size, HD.out.1]; rfl) (b8_one _) ?_; intro w3 K3 F3)
      go_light
      exact bodyPost_ret (v := .tuple #[.slice A29 Y.length c29, .agg (b8 D)]) (res_tc Tryz.results48 _ _ (w.heap.size + 1) 23 (b8 D) _ _ rfl rfl K3.out Tryz.underlying23 rfl HSI.out) rfl ⟨A29, c29, by rw [HYE.out, HND.out], by rw [HYE.out]; exact HN29.out.1, fun ad e => (by have h1 : wr.heap.size ≤ ad.block := HN29.out.2.2 ad e; have := HWR.out; omega), by rw [HYE.out]; exact Eng.nats_far HN29.out.2.1 F3.out (fun ad e => by have h1 : wr.heap.size ≤ ad.block := HN29.out.2.2 ad e; have := HWR.out; simp; omega), Below.frm HBW.out F3.out (Nat.le_refl _) (by simp)⟩
end Eng
end Go.Proofs.YtmiaabpnolebhaaGreatDoor
