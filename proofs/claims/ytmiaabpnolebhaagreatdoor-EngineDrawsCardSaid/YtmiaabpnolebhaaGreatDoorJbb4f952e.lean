/-
  Texts of this claim, joined: EngD, EngM.
-/
import Derived.Test.YtmiaabpnolebhaaGreatDoorJ0fe53632
import Derived.Test.YtmiaabpnolebhaaGreatDoorJ44370d77
set_option linter.unusedSimpArgs false
set_option linter.unusedVariables false
/-
  Package engine: input.
-/
namespace Go.Proofs.YtmiaabpnolebhaaGreatDoor
open Go.RowKit

namespace Eng
open Otp Sha R1 Slot Spc Grant Cln
theorem res_three {P : Program} {fn : Func} {p q r : Tmp} {ty : TypeId} (h : fn.results = #[.tmp q, .cell p ty, .tmp r]) (tmps : Array Value) (w : World) (g : Nat) (t : TypeId) (cs : Array Value) (d : TypeDesc) (v u : Value)
    (hp : tmps.getD p undef = .pointer (some ⟨g, 0, none⟩)) (hq : tmps.getD q undef = v) (hr : tmps.getD r undef = u) (hg : Blk w g t cs)
    (hu : P.underlying ty = some d) (hd : (match d with | .struct _ | .array _ _ => true | _ => false) = true) (hi : (P.info? ty).map (·.size) = some cs.size) :
    (results fn tmps).run P w = .ok (.tuple #[v, .agg cs, u]) w := by
  have hp' : tmps[p]?.getD undef = .pointer (some ⟨g, 0, none⟩) := by simpa using hp
  have hq' : tmps[q]?.getD undef = v := by simpa using hq
  have hr' : tmps[r]?.getD undef = u := by simpa using hr
  simp [results, h, hp', hq', hr', asAddr, Sem.run_bind, Result.andThen, run_loadVar_row w g t ty cs (0, 0) d hg hu hd hi]
def zb : List Nat := List.replicate 16 0
/-- What a job reads: the error, the bytes, where a cipher starts. -/
def inpR (v : SpV) (F vs : List Nat) (ls : List Bool) (j : Jb) : Nat × List Nat × List Nat :=
  if j.k = 8 then (0, [], zb)
  else if (ldR v F vs ls 2 j.s j.n).1 ≠ 0 ∨ j.k ≠ 3 then ((ldR v F vs ls 2 j.s j.n).1, (ldR v F vs ls 2 j.s j.n).2, zb)
  else if (ldR v F vs ls 2 j.a 16).1 ≠ 0 then ((ldR v F vs ls 2 j.a 16).1, [], zb)
  else (0, (ldR v F vs ls 2 j.s j.n).2, (ldR v F vs ls 2 j.a 16).2)
def InpOut (R : Nat × List Nat × List Nat) (w : World) (e : Ending) (w' : World) : Prop := ∃ u, e = .returned (.tuple #[u, .agg (b8 R.2.2), .int .i64 (R.1 : Int)]) ∧ OwnB w' w.heap.size u R.2.1 ∧ Below w.heap.size w w'
theorem blk_info : (Tryz.prog.info? 120).map (·.size) = some 16 := by kernel_rfl
theorem blk_built : Tryz.prog.built 120 [] = some (b8 zb) := by kernel_rfl
theorem inp_end {g : Nat} {w w' : World} {E : Int} {R : Nat × List Nat × List Nat} {tmps : Array Value} {u : Value} (hE : E = (R.1 : Int)) (h0 : tmps.getD 4 undef = u) (h1 : tmps.getD 5 undef = .pointer (some ⟨g, 0, none⟩)) (h2 : tmps.getD 6 undef = .int .i64 E)
    (hk : Blk w' g 120 (b8 R.2.2)) (hl : R.2.2.length = 16) (ho : OwnB w' w.heap.size u R.2.1) (hb : Below w.heap.size w w') : bodyPost Tryz.prog Tryz.f120 (InpOut R w) .ret ⟨tmps, []⟩ w' :=
  bodyPost_ret (v := .tuple #[u, .agg (b8 R.2.2), .int .i64 E]) (res_three Tryz.results120 tmps w' g 120 (b8 R.2.2) _ u (.int .i64 E) h1 h0 h2 hk Tryz.underlying120 rfl (by rw [b8_size, hl]; exact blk_info)) rfl ⟨u, by rw [hE], ho, hb⟩
set_option maxRecDepth 100000 in
set_option maxHeartbeats 4000000 in
theorem input_any (g f pf c p b : Nat) (v : SpV) (F vs : List Nat) (ls : List Bool) (sd : Bool) (j : Jb) (w : World) (h : Sw w g f pf c p b v F vs ls sd) (hj : j.Ok) (hn : j.n ≤ 1024) (hs : (Lit.int .i64 v.st).wf = true) (hS : Spans w) (hlen : ∀ a, (ldR v F vs ls 2 a 16).1 = 0 → (ldR v F vs ls 2 a 16).2.length = 16) (hbb : ∀ a n, ∀ x ∈ (ldR v F vs ls 2 a n).2, x < 256) :
    Calls Tryz.prog 120 #[.pointer (some ⟨g, 0, none⟩), .agg (jbC j)] w (InpOut (inpR v F vs ls j) w) := by
  obtain ⟨J, hJ⟩ : ∃ J, jbC j = J := ⟨_, rfl⟩
  have HJ := wall hJ
  obtain ⟨W1, hW1⟩ : ∃ W, W = (w.alloc (.cells J 130)).alloc (.cells (b8 zb) 120) := ⟨_, rfl⟩
  have HB1 := wall (show Below w.heap.size w W1 by rw [hW1]; exact ((Below.refl _ w).alloc (Nat.le_refl _) _).alloc (by simp) _)
  have KJ1 := wall (show Blk W1 w.heap.size 130 J by rw [hW1]; exact (Blk.new w _ _).alloc _)
  have KB1 := wall (show Blk W1 (w.heap.size + 1) 120 (b8 zb) by rw [hW1]; exact blk_new' (by simp))
  have HW1 := wall hW1
  have HBB := wall blk_built
  have HBI := wall (fun (l : List Nat) (h : l.length = 16) => show (Tryz.prog.info? 120).map (·.size) = some (b8 l).size by rw [b8_size, h]; exact blk_info)
  have H := wall h
  have HLD := wall (fun W (q : Sw W g f pf c p b v F vs ls sd) (hq : Spans W) => load_any g f pf c p b v F vs ls sd 2 (j.s : Int) (j.n : Int) j.s j.n W q rfl (by have := hj.s; omega) rfl (by omega) (by decide) hs hq)
  have HLD2 := wall (fun W (q : Sw W g f pf c p b v F vs ls sd) (hq : Spans W) => load_any g f pf c p b v F vs ls sd 2 (j.a : Int) 16 j.a 16 W q rfl (by have := hj.a; omega) rfl (by omega) (by decide) hs hq)
  have HS := wall hS
  have HLE := wall (hlen j.a)
  have HRB := wall (And.intro (hbb j.s j.n) (hbb j.a 16))
  obtain ⟨k0, -, -, -, k4, -, k6, k7, -⟩ := jb_cells hJ KJ1.out
  obtain ⟨R, hR⟩ : ∃ R, inpR v F vs ls j = R := ⟨_, rfl⟩
  have HR := wall hR
  unfold inpR at HR
  rw [hJ, hR]
  obtain ⟨X, hX⟩ : ∃ X, ldR v F vs ls 2 j.s j.n = X := ⟨_, rfl⟩
  rw [hX] at HLD HR HRB
  obtain ⟨V, hV⟩ : ∃ X, ldR v F vs ls 2 j.a 16 = X := ⟨_, rfl⟩
  rw [hV] at HLD2 HR HLE HRB
  have hn' : (j.n : Int) ≤ 1024 := by omega
  clear h hj hn hs hS hlen hJ hW1 hR hX hV hbb
  by_cases h8 : j.k = 8
  · have HRR := wall (show R = (0, [], zb) by have := HR.out; rw [if_pos h8] at this; exact this.symm)
    have h8' : (j.k : Int) = 8 := by omega
    rw [h8'] at k0
    clear HR h8 h8'
    go_enter Tryz.func120, Tryz.ntmps120
    go_upto_region 1 with fail
    change Code.wp _ _ _ _ ((w.alloc (.cells J 130)).alloc (.cells (b8 zb) 120))
    rw [← HW1.out]
    obtain ⟨ZB, hZB⟩ : ∃ z, b8 zb = z := ⟨_, rfl⟩
    rw [hZB] at KB1 HBB
    go_wp2_with (first | refine wpList_build_row rfl 120 [] rfl ZB HBB.out ?_ | (refine wpList_set_row rfl 120 (.tmp 5) (.tmp 13) rfl (w.heap.size + 1) ZB rfl rfl 120 ZB KB1.out (by rw [← hZB]; exact HBI.out zb rfl) rfl (by rw [← hZB]; exact b8_one _) ?_; intro w3 K3 F3))
    go_light
    rw [HRR.out]
    exact inp_end (R := (0, [], zb)) rfl rfl rfl rfl (hZB ▸ K3.out) rfl (World.ownsRow_nil _ _ _ _) (Below.frm HB1.out F3.out (Nat.le_refl _) (by simp))
  · have HR2 := wall (show (if X.1 ≠ 0 ∨ j.k ≠ 3 then (X.1, X.2, zb) else if V.1 ≠ 0 then (V.1, [], zb) else (0, X.2, V.2)) = R by have := HR.out; rw [if_neg h8] at this; exact this)
    have h8' : ¬ (j.k : Int) = 8 := by omega
    have HSZ := wall (show W1.heap.size = w.heap.size + 2 by rw [HW1.out]; simp)
    obtain ⟨E, Y⟩ := X
    obtain ⟨E2, Y2⟩ := V
    unfold LdOut at HLD HLD2
    simp only at HR2 HLD HLD2 HRB HLE
    clear HR h8
    go_enter Tryz.func120, Tryz.ntmps120
    go_upto_region 1 with fail
    change Code.wp _ _ _ _ ((w.alloc (.cells J 130)).alloc (.cells (b8 zb) 120))
    rw [← HW1.out]
    clear HW1
    go_wp2_with fail
    (with_reducible refine (HLD.out _ (H.out.old HB1.out) (HS.out.old HB1.out)).mono ?_); rintro e w2 ⟨u, rfl, hO2, hB2⟩
    have HB2 := wall hB2
    have KJ2 := wall (KJ1.out.next hB2 rfl)
    have KB2 := wall (KB1.out.next hB2 rfl)
    have HO2 := wall hO2
    obtain ⟨k0, -, -, -, -, -, -, k7, -⟩ := jb_cells HJ.out KJ2.out
    clear hO2 hB2 HLD k4 k6 KJ1 KB1
    try simp only [Act.put, List.setIfInBounds_toArray, List.set_cons_zero, List.set_cons_succ]
    by_cases hE : E = 0
    · subst hE
      by_cases h3 : j.k = 3
      · have HR3 := wall (show (if E2 ≠ 0 then (E2, [], zb) else (0, Y, Y2)) = R by have := HR2.out; rw [if_neg (by rw [h3]; decide)] at this; exact this)
        have h3' : (j.k : Int) = 3 := by omega
        rw [h3'] at k0
        clear HR2 h3 h3' h8'
        go_wp2_with fail
        (with_reducible refine (HLD2.out _ ((H.out.old HB1.out).old HB2.out) ((HS.out.old HB1.out).old HB2.out)).mono ?_); rintro e w4 ⟨u2, rfl, hO4, hB4⟩
        have HB4 := wall (below_then HB2.out hB4 (Nat.le_refl _))
        have KB4 := wall (KB2.out.next hB4 rfl)
        have HO4 := wall (own_frm HO2.out (Frm.of_below (S := []) hB4) (by simp))
        have HV4 := wall hO4
        clear hO4 hB4 HLD2 k0 k7 KB2 HO2 HB2 KJ2
        try simp only [Act.put, List.setIfInBounds_toArray, List.set_cons_zero, List.set_cons_succ]
        by_cases hE2 : E2 = 0
        · subst hE2
          have HRR := wall (show R = (0, Y, Y2) from HR3.out.symm)
          have HL := wall (HLE.out rfl)
          obtain ⟨A2, c2, rfl, hc2, hN2, -⟩ := own_nats HV4.out HRB.out.2
          obtain ⟨b2, o2, rfl, hb2, hrg⟩ := nats_range hN2 16 (by decide) (by rw [HL.out]; exact Nat.le_refl _)
          rw [List.take_of_length_le (by rw [HL.out]; exact Nat.le_refl _)] at hrg
          have HRG := wall (And.intro hb2 hrg)
          rw [HL.out] at hc2 ⊢
          have hc16 : 16 ≤ c2 := hc2
          clear HR3 hN2 hb2 hrg hc2 HV4
          have hu16 : Tryz.prog.underlying 120 = some (.array 16 5) := Tryz.underlying120
          have HI2 := wall (HBI.out Y2 HL.out)
          go_upto_region 9 with fail
          refine RelG.wp_region_rel 5 [] (by kernel_rfl) (by kernel_rfl) ?_
          simp only [List.take_succ_cons, List.take_zero, List.drop_succ_cons, List.drop_zero, Act.put, List.setIfInBounds_toArray, List.set_cons_zero, List.set_cons_succ]
          repeat (first | (refine RelG.tree_quiet rfl rfl rfl (fun K hK => ?_); go_big_quiet_op; refine hK _ ?_; clear hK K) | (refine RelG.tree_pure rfl rfl rfl (.pointer (some ⟨b2, o2, none⟩)) (fun W hW _ => Rel.exec_arr 120 5 _ rfl 16 (some ⟨b2, o2, none⟩) 16 c2 rfl hu16 (Nat.le_refl _)) ?_; simp only [Act.put, List.setIfInBounds_toArray, List.set_cons_zero, List.set_cons_succ]) | (refine RelG.tree_pure rfl rfl rfl (.agg (b8 Y2)) (fun W hW _ => Rel.exec_load 120 _ rfl b2 o2 rfl (b8 Y2) _ (by have := range_below HRG.out.2 HRG.out.1 (Rel.Grow.undrew hW); simpa [b8] using this) Tryz.underlying120 rfl HI2.out) ?_; simp only [Act.put, List.setIfInBounds_toArray, List.set_cons_zero, List.set_cons_succ]))
          intro W hW _
          have HBW := wall (Rel.Grow.undrew hW)
          have KB5 := wall (KB4.out.next HBW.out rfl)
          have HO5 := wall (own_frm HO4.out (Frm.of_below (S := []) HBW.out) (by simp))
          clear hW KB4 HO4
          go_wp2_with (refine wpList_set_row rfl 120 (.tmp 5) (.tmp 48) rfl (w.heap.size + 1) (b8 Y2) rfl rfl 120 (b8 zb) KB5.out HI2.out (by rw [b8_size, b8_size, HL.out]; rfl) (b8_one _) ?_; intro w6 K6 F6)
          go_light
          rw [HRR.out]
          exact inp_end (R := (0, Y, Y2)) rfl rfl rfl rfl K6.out HL.out (own_less (own_frm HO5.out F6.out (by have := HSZ.out; simp; omega)) (by have := HSZ.out; omega)) (Below.frm (below_then HB1.out (below_then HB4.out HBW.out (Nat.le_refl _)) (Nat.le_refl _)) F6.out (Nat.le_refl _) (by simp))
        · have HRR := wall (show R = (E2, [], zb) by have := HR3.out; rw [if_pos hE2] at this; exact this.symm)
          have hne : ((E2 : Int) != 0) = true := by rw [bne_iff_ne]; omega
          have hne' : ¬ (E2 : Int) = 0 := by omega
          clear HR3 hE2
          obtain ⟨ZB, hZB⟩ : ∃ z, b8 zb = z := ⟨_, rfl⟩
          rw [hZB] at KB4 HBB
          go_wp2_with (first | refine wpList_build_row rfl 120 [] rfl ZB HBB.out ?_ | (refine wpList_set_row rfl 120 (.tmp 5) (.tmp 43) rfl (w.heap.size + 1) ZB rfl rfl 120 ZB KB4.out (by rw [← hZB]; exact HBI.out zb rfl) rfl (by rw [← hZB]; exact b8_one _) ?_; intro w5 K5 F5))
          go_light
          rw [HRR.out]
          exact inp_end (R := (E2, [], zb)) rfl rfl rfl rfl (hZB ▸ K5.out) rfl (World.ownsRow_nil _ _ _ _) (Below.frm (below_then HB1.out HB4.out (Nat.le_refl _)) F5.out (Nat.le_refl _) (by simp))
      · have HRR := wall (show R = (0, Y, zb) by have := HR2.out; rw [if_pos (.inr h3)] at this; exact this.symm)
        have h3' : ((j.k : Int) == 3) = false := by rw [beq_eq_false_iff_ne]; omega
        have h3'' : ¬ (j.k : Int) = 3 := by omega
        clear HR2 h3 HLD2
        obtain ⟨ZB, hZB⟩ : ∃ z, b8 zb = z := ⟨_, rfl⟩
        rw [hZB] at KB2 HBB
        go_wp2_with (first | refine wpList_build_row rfl 120 [] rfl ZB HBB.out ?_ | (refine wpList_set_row rfl 120 (.tmp 5) (.tmp 32) rfl (w.heap.size + 1) ZB rfl rfl 120 ZB KB2.out (by rw [← hZB]; exact HBI.out zb rfl) rfl (by rw [← hZB]; exact b8_one _) ?_; intro w5 K5 F5))
        go_light
        rw [HRR.out]
        exact inp_end (R := (0, Y, zb)) rfl rfl rfl rfl (hZB ▸ K5.out) rfl (own_less (own_frm HO2.out F5.out (by have := HSZ.out; simp; omega)) (by have := HSZ.out; omega)) (Below.frm (below_then HB1.out HB2.out (Nat.le_refl _)) F5.out (Nat.le_refl _) (by simp))
    · have HRR := wall (show R = (E, Y, zb) by have := HR2.out; rw [if_pos (.inl hE)] at this; exact this.symm)
      have hne : ((E : Int) != 0) = true := by rw [bne_iff_ne]; omega
      have hne' : ¬ (E : Int) = 0 := by omega
      clear HR2 hE HLD2
      obtain ⟨ZB, hZB⟩ : ∃ z, b8 zb = z := ⟨_, rfl⟩
      rw [hZB] at KB2 HBB
      go_wp2_with (first | refine wpList_build_row rfl 120 [] rfl ZB HBB.out ?_ | (refine wpList_set_row rfl 120 (.tmp 5) (.tmp 32) rfl (w.heap.size + 1) ZB rfl rfl 120 ZB KB2.out (by rw [← hZB]; exact HBI.out zb rfl) rfl (by rw [← hZB]; exact b8_one _) ?_; intro w5 K5 F5))
      go_light
      rw [HRR.out]
      exact inp_end (R := (E, Y, zb)) rfl rfl rfl rfl (hZB ▸ K5.out) rfl (own_less (own_frm HO2.out F5.out (by have := HSZ.out; simp; omega)) (by have := HSZ.out; omega)) (Below.frm (below_then HB1.out HB2.out (Nat.le_refl _)) F5.out (Nat.le_refl _) (by simp))
end Eng
end Go.Proofs.YtmiaabpnolebhaaGreatDoor

/-
  Package engine: made (written by wip/gen/engm.py): Sum, Copy, Random.
-/
namespace Go.Proofs.YtmiaabpnolebhaaGreatDoor
open Go.RowKit

namespace Eng
open Otp Sha R1 Slot
/-- What a job makes: the error, the bytes, the engine then. -/
def MadeOut (w : World) (g s : Nat) (R : Nat × List Nat × EnV) (e : Ending) (w' : World) : Prop := ∃ A n c, e = .returned (.tuple #[.slice A n c, .int .i64 (R.1 : Int)]) ∧ (R.1 = 0 → R.2.1.length = n ∧ n ≤ c ∧ (A = none → c = 0) ∧ Nats .u8 256 w' w'.heap.size A R.2.1) ∧ Eg w' g s R.2.2 ∧ Frm [g, s] w w'
def madeSum (v : EnV) (_ : Jb) (p : List Nat) : Nat × List Nat × EnV := (0, sumB p, v)
def madeCopy (v : EnV) (_ : Jb) (p : List Nat) : Nat × List Nat × EnV := (0, p, v)
def madeRandom (v : EnV) (j : Jb) (_ : List Nat) : Nat × List Nat × EnV := (0, (drawR v (j.n : Int)).1, (drawR v (j.n : Int)).2)
/-- One part. -/
theorem part_one (W : World) (A : Option Addr) (n c : Nat) (p : List Nat) (hn : p.length = n) (hc : n ≤ c) (hnil : A = none → c = 0) (hz : Nats .u8 256 W W.heap.size A p) : Parts (W.alloc (.cells #[.slice A n c] 24)) (W.alloc (.cells #[.slice A n c] 24)).heap.size (some ⟨W.heap.size, 0, none⟩) [p] :=
  parts_new W [.slice A n c] [p] rfl (fun i q u hq hu => by
    have hi : i = 0 := by have := (List.getElem?_eq_some_iff.1 hq).1; simpa using this
    subst hi
    simp only [List.getElem?_cons_zero, Option.some.injEq] at hq hu
    subst hq hu
    exact BytesN.of hn hc hnil hz)
theorem frm_two {w w' : World} {g s : Nat} (h : Below w.heap.size w w') : Frm [g, s] w w' := Frm.of_below h
theorem made_dig {w w' : World} {g s E : Nat} {v : EnV} {D : List Nat} {b : Nat} (hk : Blk w' b 23 (b8 D)) (hl : D.length = 32) (hb : ∀ x ∈ D, x < 256) (h : Eg w' g s v) (hf : Frm [g, s] w w') : MadeOut w g s (E, D, v) (.returned (.tuple #[.slice (some ⟨b, 0, none⟩) 32 32, .int .i64 (E : Int)])) w' :=
  ⟨_, _, _, rfl, fun _ => ⟨hl, Nat.le_refl _, (fun e => nomatch e), nats_b8 hk hb⟩, h, hf⟩
set_option maxRecDepth 100000 in
set_option maxHeartbeats 4000000 in
theorem made_sum (g s : Nat) (v : EnV) (j : Jb) (A : Option Addr) (n c : Nat) (p vb : List Nat) (w : World) (hT : STab w) (h : Eg w g s v) (hj : j.Ok) (hk : j.k = 1) (hp : p.length = n) (hc : n ≤ c) (hnil : A = none → c = 0) (hm : n ≤ 1024) (hz : Nats .u8 256 w w.heap.size A p) (hv : vb.length = 16) :
    Calls Tryz.prog 121 #[.pointer (some ⟨g, 0, none⟩), .agg (jbC j), .slice A n c, .agg (b8 vb)] w (MadeOut w g s (madeSum v j p)) := by
  obtain ⟨J, hJ⟩ : ∃ J, jbC j = J := ⟨_, rfl⟩
  have HJ := wall hJ
  obtain ⟨W1, hW1⟩ : ∃ W, W = ((w.alloc (.cells J 130)).alloc (.cells (b8 vb) 120)).alloc (.cells (b8 zp) 23) := ⟨_, rfl⟩
  have HB1 := wall (show Below w.heap.size w W1 by rw [hW1]; exact (((Below.refl _ w).alloc (Nat.le_refl _) _).alloc (by simp) _).alloc (by simp; omega) _)
  have KJ1 := wall (show Blk W1 w.heap.size 130 J by rw [hW1]; exact ((Blk.new w _ _).alloc _).alloc _)
  have KB1 := wall (show Blk W1 (w.heap.size + 1) 120 (b8 vb) by rw [hW1]; exact (blk_new' (by simp)).alloc _)
  have KD1 := wall (show Blk W1 (w.heap.size + 1 + 1) 23 (b8 zp) by rw [hW1]; exact blk_new' (by simp))
  have HSZ := wall (show W1.heap.size = w.heap.size + 3 by rw [hW1]; simp)
  have HW1 := wall hW1
  have H1 := wall (h.old HB1.out)
  have HT1 := wall (hT.old HB1.out)
  have HZ1 := wall (nats_step hz HB1.out)
  have HP := wall (And.intro hp (And.intro hc (And.intro hnil hm)))
  have HPB := wall (show ∀ x ∈ p, x < 256 from fun x hx => by
    obtain ⟨i, hi⟩ := List.mem_iff_getElem?.1 hx
    exact (hz i x hi).1)
  have HVL := wall hv
  have HGL := wall h.lt
  have HJO := wall hj
  obtain ⟨k0, k1, k2, k3, -, -, k6, -, -⟩ := jb_cells hJ KJ1.out
  have hkk : (j.k : Int) = 1 := by omega
  rw [hkk] at k0
  have hDI := wall (fun (l : List Nat) (h : l.length = 32) => show (Tryz.prog.info? 23).map (·.size) = some (b8 l).size by rw [b8_size, h]; exact dig_info)
  have hsl := run_slice_arr_all' (P := Tryz.prog) 23 5 32 Tryz.underlying23 (fun _ => by kernel_rfl)
  rw [hJ]
  have HPA := wall (show ∀ W, W = W1.alloc (.cells #[.slice A n c] 24) → Below W1.heap.size W1 W ∧ Parts W W.heap.size (some ⟨W1.heap.size, 0, none⟩) [p] from fun W hW => by
    subst hW
    exact ⟨(Below.refl _ _).alloc (Nat.le_refl _) _, part_one W1 A n c p hp hc hnil HZ1.out⟩)
  have HS := wall (fun W (q : Below W1.heap.size W1 W ∧ Parts W W.heap.size (some ⟨W1.heap.size, 0, none⟩) [p]) => ssum_any W1.heap.size 0 1 1 [p] W (HT1.out.old q.1) rfl (by decide) (by decide) (by decide) q.2 (fun q hq x hx => by obtain rfl := List.mem_singleton.1 hq; exact HPB.out x hx) (by simp; omega))
  rw [show [p].flatten = p by simp] at HS
  have HDL := wall (show (sumB p).length = 32 ∧ ∀ x ∈ sumB p, x < 256 from ⟨sumB_length _, sumB_byte _⟩)
  unfold madeSum
  obtain ⟨D, hD⟩ : ∃ y, sumB p = y := ⟨_, rfl⟩
  rw [hD] at HS HDL ⊢
  clear hT h hj hk hp hc hnil hm hz hv hJ hW1 hD hkk k1 k2 k3 k6
  go_enter Tryz.func121, Tryz.ntmps121
  go_upto_region 3 with fail
  change Code.wp _ _ _ _ (((w.alloc (.cells J 130)).alloc (.cells (b8 vb) 120)).alloc (.cells (b8 zp) 23))
  rw [← HW1.out]
  clear HW1
  go_wp2_with fail
  (with_reducible refine (HS.out _ (HPA.out _ rfl)).mono ?_); rintro e w3 ⟨rfl, hB3⟩
  have HB3 := wall (below_then (HPA.out _ rfl).1 hB3 (Nat.le_refl _))
  have KD3 := wall (KD1.out.next HB3.out rfl)
  have H3 := wall (H1.out.old HB3.out)
  clear hB3 HS HPA KD1 H1 k0
  try simp only [Act.put, List.setIfInBounds_toArray, List.set_cons_zero, List.set_cons_succ]
  go_wp2_with (refine wpList_set_row rfl 23 (.tmp 10) (.tmp 25) rfl (w.heap.size + 1 + 1) (b8 D) rfl rfl 23 (b8 zp) KD3.out (hDI.out D HDL.out.1) (by rw [b8_size, b8_size, HDL.out.1]; rfl) (b8_one _) ?_; intro w4 K4 F4)
  have hlt := HGL.out
  have H4 := wall (H3.out.frm F4.out (by simp; omega) (by simp; omega))
  have HB4 := wall (Below.frm (below_then HB1.out HB3.out (Nat.le_refl _)) F4.out (Nat.le_refl _) (by simp; omega))
  go_light
  go_ret2
  exact made_dig K4.out HDL.out.1 HDL.out.2 H4.out (frm_two HB4.out)
set_option maxRecDepth 100000 in
set_option maxHeartbeats 4000000 in
theorem made_copy (g s : Nat) (v : EnV) (j : Jb) (A : Option Addr) (n c : Nat) (p vb : List Nat) (w : World) (hT : STab w) (h : Eg w g s v) (hj : j.Ok) (hk : j.k = 7) (hp : p.length = n) (hc : n ≤ c) (hnil : A = none → c = 0) (hm : n ≤ 1024) (hz : Nats .u8 256 w w.heap.size A p) (hv : vb.length = 16) :
    Calls Tryz.prog 121 #[.pointer (some ⟨g, 0, none⟩), .agg (jbC j), .slice A n c, .agg (b8 vb)] w (MadeOut w g s (madeCopy v j p)) := by
  obtain ⟨J, hJ⟩ : ∃ J, jbC j = J := ⟨_, rfl⟩
  have HJ := wall hJ
  obtain ⟨W1, hW1⟩ : ∃ W, W = ((w.alloc (.cells J 130)).alloc (.cells (b8 vb) 120)).alloc (.cells (b8 zp) 23) := ⟨_, rfl⟩
  have HB1 := wall (show Below w.heap.size w W1 by rw [hW1]; exact (((Below.refl _ w).alloc (Nat.le_refl _) _).alloc (by simp) _).alloc (by simp; omega) _)
  have KJ1 := wall (show Blk W1 w.heap.size 130 J by rw [hW1]; exact ((Blk.new w _ _).alloc _).alloc _)
  have KB1 := wall (show Blk W1 (w.heap.size + 1) 120 (b8 vb) by rw [hW1]; exact (blk_new' (by simp)).alloc _)
  have KD1 := wall (show Blk W1 (w.heap.size + 1 + 1) 23 (b8 zp) by rw [hW1]; exact blk_new' (by simp))
  have HSZ := wall (show W1.heap.size = w.heap.size + 3 by rw [hW1]; simp)
  have HW1 := wall hW1
  have H1 := wall (h.old HB1.out)
  have HT1 := wall (hT.old HB1.out)
  have HZ1 := wall (nats_step hz HB1.out)
  have HP := wall (And.intro hp (And.intro hc (And.intro hnil hm)))
  have HPB := wall (show ∀ x ∈ p, x < 256 from fun x hx => by
    obtain ⟨i, hi⟩ := List.mem_iff_getElem?.1 hx
    exact (hz i x hi).1)
  have HVL := wall hv
  have HGL := wall h.lt
  have HJO := wall hj
  obtain ⟨k0, k1, k2, k3, -, -, k6, -, -⟩ := jb_cells hJ KJ1.out
  have hkk : (j.k : Int) = 7 := by omega
  rw [hkk] at k0
  have hDI := wall (fun (l : List Nat) (h : l.length = 32) => show (Tryz.prog.info? 23).map (·.size) = some (b8 l).size by rw [b8_size, h]; exact dig_info)
  have hsl := run_slice_arr_all' (P := Tryz.prog) 23 5 32 Tryz.underlying23 (fun _ => by kernel_rfl)
  rw [hJ]
  unfold madeCopy
  clear hT h hj hk hp hc hnil hm hz hv hJ hW1 hkk k1 k2 k3 k6
  go_enter Tryz.func121, Tryz.ntmps121
  go_upto_region 3 with fail
  change Code.wp _ _ _ _ (((w.alloc (.cells J 130)).alloc (.cells (b8 vb) 120)).alloc (.cells (b8 zp) 23))
  rw [← HW1.out]
  clear HW1
  go_wp2_with fail
  go_light
  go_ret2
  exact ⟨A, n, c, rfl, fun _ => ⟨HP.out.1, HP.out.2.1, HP.out.2.2.1, HZ1.out⟩, H1.out, frm_two HB1.out⟩
set_option maxRecDepth 100000 in
set_option maxHeartbeats 4000000 in
theorem made_random (g s : Nat) (v : EnV) (j : Jb) (A : Option Addr) (n c : Nat) (p vb : List Nat) (w : World) (hT : STab w) (h : Eg w g s v) (hj : j.Ok) (hk : j.k = 8) (hp : p.length = n) (hc : n ≤ c) (hnil : A = none → c = 0) (hm : n ≤ 1024) (hz : Nats .u8 256 w w.heap.size A p) (hv : vb.length = 16) :
    Calls Tryz.prog 121 #[.pointer (some ⟨g, 0, none⟩), .agg (jbC j), .slice A n c, .agg (b8 vb)] w (MadeOut w g s (madeRandom v j p)) := by
  obtain ⟨J, hJ⟩ : ∃ J, jbC j = J := ⟨_, rfl⟩
  have HJ := wall hJ
  obtain ⟨W1, hW1⟩ : ∃ W, W = ((w.alloc (.cells J 130)).alloc (.cells (b8 vb) 120)).alloc (.cells (b8 zp) 23) := ⟨_, rfl⟩
  have HB1 := wall (show Below w.heap.size w W1 by rw [hW1]; exact (((Below.refl _ w).alloc (Nat.le_refl _) _).alloc (by simp) _).alloc (by simp; omega) _)
  have KJ1 := wall (show Blk W1 w.heap.size 130 J by rw [hW1]; exact ((Blk.new w _ _).alloc _).alloc _)
  have KB1 := wall (show Blk W1 (w.heap.size + 1) 120 (b8 vb) by rw [hW1]; exact (blk_new' (by simp)).alloc _)
  have KD1 := wall (show Blk W1 (w.heap.size + 1 + 1) 23 (b8 zp) by rw [hW1]; exact blk_new' (by simp))
  have HSZ := wall (show W1.heap.size = w.heap.size + 3 by rw [hW1]; simp)
  have HW1 := wall hW1
  have H1 := wall (h.old HB1.out)
  have HT1 := wall (hT.old HB1.out)
  have HZ1 := wall (nats_step hz HB1.out)
  have HP := wall (And.intro hp (And.intro hc (And.intro hnil hm)))
  have HPB := wall (show ∀ x ∈ p, x < 256 from fun x hx => by
    obtain ⟨i, hi⟩ := List.mem_iff_getElem?.1 hx
    exact (hz i x hi).1)
  have HVL := wall hv
  have HGL := wall h.lt
  have HJO := wall hj
  obtain ⟨k0, k1, k2, k3, -, -, k6, -, -⟩ := jb_cells hJ KJ1.out
  have hkk : (j.k : Int) = 8 := by omega
  rw [hkk] at k0
  have hDI := wall (fun (l : List Nat) (h : l.length = 32) => show (Tryz.prog.info? 23).map (·.size) = some (b8 l).size by rw [b8_size, h]; exact dig_info)
  have hsl := run_slice_arr_all' (P := Tryz.prog) 23 5 32 Tryz.underlying23 (fun _ => by kernel_rfl)
  rw [hJ]
  have HDR := wall (draw_any g s v (j.n : Int) W1 HT1.out H1.out)
  unfold madeRandom
  obtain ⟨R, hR⟩ : ∃ y, drawR v (j.n : Int) = y := ⟨_, rfl⟩
  rw [hR] at HDR ⊢
  obtain ⟨N, hN⟩ : ∃ y, (j.n : Int) = y := ⟨_, rfl⟩
  rw [hN] at HDR k6
  have HNB := wall (show 0 ≤ N ∧ N < 4294967296 by rw [← hN]; have := hj.n; omega)
  have hn0 := HNB.out.1
  have hn1 := HNB.out.2
  clear hT h hj hk hp hc hnil hm hz hv hJ hW1 hkk k1 k2 k3 hR hN
  go_enter Tryz.func121, Tryz.ntmps121
  go_upto_region 3 with fail
  change Code.wp _ _ _ _ (((w.alloc (.cells J 130)).alloc (.cells (b8 vb) 120)).alloc (.cells (b8 zp) 23))
  rw [← HW1.out]
  clear HW1
  go_wp2_with fail
  (with_reducible refine HDR.out.mono ?_); rintro e w3 ⟨A', c', rfl, hc', hnil', -, hN', hE', hF'⟩
  have HE := wall (And.intro hc' (And.intro hnil' (And.intro hN' (And.intro hE' hF'))))
  clear hc' hnil' hN' hE' hF' k0 k6
  try simp only [Act.put, List.setIfInBounds_toArray, List.set_cons_zero, List.set_cons_succ]
  go_wp2_with fail
  go_light
  go_ret2
  exact ⟨A', R.1.length, c', rfl, fun _ => ⟨rfl, HE.out.1, HE.out.2.1, HE.out.2.2.1⟩, HE.out.2.2.2.1, (frm_two HB1.out).trans (HE.out.2.2.2.2.mono (fun x hx _ => by simp at hx; simp [hx]))⟩
end Eng
end Go.Proofs.YtmiaabpnolebhaaGreatDoor
