/-
  Contracts of package fuse, more: Copy.
-/
import Derived.Test.YtmcpppgnfmopoaaProg
import Derived.Test.YtmcpppgnfmopoaaMem
import Derived.Test.YtmcpppgnfmopoaaFuse3
import Derived.Deep.LoopGhost
import Derived.WalkSpells
namespace Go.Proofs.Ytmcpppgnfmopoaa
open Go.RowKit

namespace Fuse
variable {p b : Nat} {vs : List Nat} {ls : List Bool}
def fcell (vs : List Nat) (ls : List Bool) (j : Nat) : Value := if j % 2 = 0 then .int .u32 ((vs[j / 2]?.getD 0 : Nat) : Int) else .bool (ls[j / 2]?.getD false)
def fcells (vs : List Nat) (ls : List Bool) : List Value := (List.range (vs.length * 2)).map (fcell vs ls)
theorem fcells_get (vs : List Nat) (ls : List Bool) (j : Nat) (u : Value) (h : (fcells vs ls)[j]? = some u) : j < vs.length * 2 ∧ u = fcell vs ls j := by
  unfold fcells at h
  rw [List.getElem?_map] at h
  have hj : j < vs.length * 2 := by
    rcases Nat.lt_or_ge j (vs.length * 2) with h1 | h1
    · exact h1
    · rw [List.getElem?_eq_none (by simpa using h1)] at h; cases h
  rw [List.getElem?_range hj] at h
  exact ⟨hj, (Option.some.inj h).symm⟩
theorem Fz.fcells {w : World} (h : Fz w p b vs ls) (j : Nat) (u : Value) (hu : (fcells vs ls)[j]? = some u) : w.cell? ((⟨b, 0, none⟩ : Addr).add j) = some u := by
  obtain ⟨hj, rfl⟩ := fcells_get vs ls j u hu
  rw [Go.WideShapes.add_plain, Nat.zero_add]
  obtain ⟨cs, h2, h3, h4⟩ := h.row
  rw [h2.cell]
  have hi : j / 2 < vs.length := by omega
  have hil : j / 2 < ls.length := by rw [h.len]; exact hi
  unfold fcell
  split
  · rename_i hm
    have e : j = j / 2 * 2 := by omega
    have := h3 (j / 2) _ (List.getElem?_eq_getElem hi)
    rw [← e] at this
    rw [this]
    simp [hi]
  · rename_i hm
    have e : j = j / 2 * 2 + 1 := by omega
    have := h4 (j / 2) _ (List.getElem?_eq_getElem hil)
    rw [← e] at this
    rw [this]
    simp [hil]

theorem fz_of_own {w : World} {base n g cap : Nat} (hown : w.ownsRow base 74 2 (.slice (some ⟨g, 0, none⟩) n cap) n (fcells vs ls)) (hn : n = vs.length) (hm : vs.length ≤ 4096) (hl : ls.length = vs.length) (hw : ∀ (i x : Nat), vs[i]? = some x → x < 4294967296) {p : Nat}
    (hp : Blk w p 72 #[.slice (some ⟨g, 0, none⟩) n cap]) : Fz w p g vs ls := by
  subst hn
  rcases hown.2 with ⟨h, _⟩ | ⟨g', cap', cur, hv, hg, hh, hc, hcm, hs, ht⟩
  · cases h
  · simp only [Value.slice.injEq, Option.some.injEq, Addr.mk.injEq, and_true, true_and] at hv
    obtain ⟨rfl, rfl⟩ := hv
    have hget : ∀ j, j < vs.length * 2 → cur[j]? = some (fcell vs ls j) := fun j hj => by
      have h1 : (fcells vs ls)[j]? = some (fcell vs ls j) := by
        unfold fcells
        rw [List.getElem?_map, List.getElem?_range hj]
        rfl
      rw [← ht, List.getElem?_take, if_pos hj] at h1
      simpa using h1
    refine ⟨hl, hm, hw, ⟨cap, hc, hp⟩, ⟨cur, hh, fun i x hx => ?_, fun i x hx => ?_⟩⟩
    · have hi := (List.getElem?_eq_some_iff.1 hx).1
      rw [hget (i * 2) (by omega)]
      have e : i * 2 / 2 = i := by omega
      simp [fcell, e, hx]
    · have hi := (List.getElem?_eq_some_iff.1 hx).1
      rw [hget (i * 2 + 1) (by omega)]
      have e : (i * 2 + 1) / 2 = i := by omega
      have e2 : (i * 2 + 1) % 2 = 1 := by omega
      simp [fcell, e, e2, hx]

def CloneOut (w : World) (vs : List Nat) (ls : List Bool) (e : Ending) (w' : World) : Prop :=
  ∃ g cap, e = .returned (.slice (some ⟨g, 0, none⟩) vs.length cap) ∧ w'.ownsRow w.heap.size 74 2 (.slice (some ⟨g, 0, none⟩) vs.length cap) vs.length (fcells vs ls) ∧ Below w.heap.size w w'

set_option maxHeartbeats 400000 in
theorem clone_any (c : Nat) (w : World) (h : Fz w p b vs ls) : Calls Try.prog 35 #[.slice (some ⟨b, 0, none⟩) vs.length c] w (CloneOut w vs ls) := by
  obtain ⟨i0, hi0, hz0, hz1, hz2⟩ := info_row word_info
  have HI := Lib.hid hi0
  have HI1 := Lib.hid hz0
  have HI2 := Lib.hid hz1
  have HI3 := Lib.hid hz2
  have hm := h.most
  have hF1 := h.frm ((Frm.refl [] w).alloc (.cells #[] 74)) (by simp) (by simp)
  have HC2 := Lib.hid hF1.fcells
  have HC1 : Hid ((fcells vs ls).length = vs.length * 2) := by show _ = _; simp [fcells]
  have HC3 : Hid (∀ u ∈ fcells vs ls, u.oneCell' = true) := by
    intro u hu
    obtain ⟨j, hj⟩ := List.mem_iff_getElem?.1 hu
    obtain ⟨_, rfl⟩ := fcells_get vs ls j u hj
    unfold fcell
    split <;> rfl
  have HE := Lib.hid (World.ownsRow_lit (base := w.heap.size) (e := 74) (size := 2) w #[] 0 (Nat.le_refl _) (by simp) (by simp))
  clear hi0 hz0 hz1 hz2 h hF1
  have hq := fun W => Lib.run_eql_slice_nil (P := Try.prog) W 70 74 (some ⟨b, 0, none⟩) vs.length c 0 0 Try.underlying70
  go_enter Try.func35, Try.ntmps35
  go_wp2_with (at_builtin; refine wpList_append_own _ rfl (.tmp 5) (.tmp 6) 70 rfl w.heap.size 74 i0 _ 2 8 Try.underlying70 HI.out HI1.out HI2.out HI3.out (by rfl) (by decide) _ _ _ rfl HE.out ⟨b, 0, none⟩ vs.length c (fcells vs ls) rfl HC1.out HC2.out HC3.out (by simp only [maxLen]; omega) (by omega) (by simp) ?_; intro v1 w1 hO1 hg1 hn1)
  go_light
  have hne : v1 ≠ .slice none 0 0 := fun e => by have := hn1.1 e; cases this.1
  have hB1 : Below w.heap.size w w1 := ((Below.refl _ w).alloc (Nat.le_refl _) (.cells #[] 74)).grown hg1 (by simp) (fun k hk => by have := (World.ownsRow.lt HE.out k hk).1; omega)
  rcases hO1.2 with ⟨h, _⟩ | ⟨g, cap, cur, hv, _⟩
  · exact absurd h hne
  · subst hv
    go_ret
    refine ⟨g, cap, by simp, by simpa using hO1, hB1⟩

def CopyOut (w : World) (vs : List Nat) (e : Ending) (w' : World) : Prop :=
  ∃ p' b', e = .returned (.pointer (some ⟨p', 0, none⟩)) ∧ Fz w' p' b' vs (List.replicate vs.length false) ∧ w.heap.size ≤ p' ∧ w.heap.size ≤ b' ∧ Below w.heap.size w w'
theorem rep_set (ls : List Bool) (i : Nat) (hi : i < ls.length) : (List.replicate i false ++ ls.drop i).set i false = List.replicate (i + 1) false ++ ls.drop (i + 1) := by
  rw [List.set_append, List.length_replicate, if_neg (by omega), Nat.sub_self, List.drop_eq_getElem_cons hi, List.replicate_succ', List.append_assoc]
  rfl

set_option maxHeartbeats 400000 in
theorem copy_any (w : World) (h : Fz w p b vs ls) : Calls Try.prog 22 #[.pointer (some ⟨p, 0, none⟩)] w (CopyOut w vs) := by
  obtain ⟨c, hc, hp⟩ := h.cell0
  have hm := h.most
  have HH := Lib.hid h
  clear h
  go_enter Try.func22, Try.ntmps22
  go_wp2_with fail
  (with_reducible refine (clone_any c _ HH.out).mono ?_); rintro e w1 ⟨g, cap, rfl, hO, hB⟩
  have hP : Blk (w1.alloc (.cells #[.slice (some ⟨g, 0, none⟩) vs.length cap] 72)) w1.heap.size 72 #[.slice (some ⟨g, 0, none⟩) vs.length cap] := Blk.new w1 _ _
  have hO2 := own_frm hO ((Frm.refl [] w1).alloc (.cells #[.slice (some ⟨g, 0, none⟩) vs.length cap] 72)) (by simp)
  have hF := fz_of_own hO2 rfl hm HH.out.len HH.out.word hP
  have hgl := hF.ltb
  have hB2 := hB.alloc hB.size (.cells #[.slice (some ⟨g, 0, none⟩) vs.length cap] 72)
  have hgb : w.heap.size ≤ g := (World.ownsRow.lt hO g rfl).1
  have hw1 : w.heap.size ≤ w1.heap.size := hB.size
  have HF := Lib.hid hF
  have HB2 := Lib.hid hB2
  clear hP hO hO2 hF hB hB2
  go_wp2_with fail
  generalize hw2 : w1.alloc (.cells #[.slice (some ⟨g, 0, none⟩) vs.length cap] 72) = w2 at *
  clear hw2
  go_loopg [19] vs.length (fun gg s19 wr => ∃ i : Nat, i + gg = vs.length ∧ s19 = .int .i64 (i : Int) ∧ Fz wr w1.heap.size g vs (List.replicate i false ++ ls.drop i) ∧ Frm [g] w2 wr)
  case atStart => exact ⟨0, by omega, rfl, HF.out, Frm.refl _ _⟩
  case round =>
    obtain ⟨i, hg, rfl, hF, hFr⟩ := hrel
    have HG := Lib.hid hg
    have HFr := Lib.hid hFr
    have HFF := Lib.hid hF
    have hig : i ≤ vs.length := by omega
    clear hg hFr
    by_cases hlt : i < vs.length
    · obtain ⟨cc, hcc, hp0⟩ := hF.cell0
      have hfr := (hF.celll hlt).2
      obtain ⟨x0, l0, _, _, _, _, hv⟩ := hF.at_ hlt
      have hset := hF.lock hlt false
      rw [rep_set ls i (by rw [HH.out.len]; exact hlt)] at hset
      have HS := Lib.hid hset
      clear hF hset
      go_wp2_with fail
      go_light
      go_roundg (vs.length - (i + 1))
      case measure => have := HG.out; omega
      case rel => exact ⟨i + 1, by omega, by go_num, HS.out, HFr.out.trans ((Frm.refl _ _).setCell (.inl (by simp)) _)⟩
    · go_wp2_with fail
      go_light
      go_ret
      have hi : i = vs.length := by omega
      have e : List.replicate i false ++ ls.drop i = List.replicate vs.length false := by rw [hi, List.drop_eq_nil_of_le (by rw [HH.out.len]; omega)]; simp
      have h2 := HFF.out
      rw [e] at h2
      exact ⟨w1.heap.size, g, rfl, h2, hw1, hgb, Below.frm HB2.out HFr.out (Nat.le_refl _) (by simp; omega)⟩
end Fuse
end Go.Proofs.Ytmcpppgnfmopoaa
