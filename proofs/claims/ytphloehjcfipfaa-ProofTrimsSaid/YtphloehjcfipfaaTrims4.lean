/- Part 4 of 5 of the proof that the statement of the row ProofTrims holds: the texts Xx6, Xx7, ClCatF, ClClone, ClTrim1, ClMoreP, ClTrimP, ClTrim, ExtTrim, one behind the other. -/
import Derived.Test.YtphloehjcfipfaaWNEv
import Derived.Test.YtphloehjcfipfaaWMore
import Derived.Deep.LoopGhost
import Derived.LoopN
import Derived.KernelRfl
import Derived.Lib.Hide
import Derived.WalkKit
import Derived.Tactics
import Derived.Lib.LazyBuf
import Derived.OneCell
import Derived.Test.YtphloehjcfipfaaTrims1
import Derived.Test.YtphloehjcfipfaaTrims2
import Derived.Test.YtphloehjcfipfaaTrims3

section
-- Lines printed by a program of the session's own (wip/pr.py over the kit's print.py); Lean checks them.
namespace Go.Proofs.Ytphloehjcfipfaa.X
open Go.RowKit Go.Proofs.YtphloehjcfipfaaW.PrintWords Go.Proofs.YtphloehjcfipfaaW.PrintLast Go.Proofs.YtphloehjcfipfaaW.PrintMore
attribute [local go_sem] max2_int min2_int max_two min_two max_three min_three max_four min_four   -- for this text's walks alone
set_option linter.unusedVariables false
set_option linter.unusedSimpArgs false

/-! ### backreachref17_Turned: function 56 -/
def backreachref17_Turned.l0 : Nat → List Int → List Int → Int → Option (List Int)
  | 0, _, _, _ => none
  | k + 1, x0, x3, x4 => if x4 < (x0.length : Int) then (if 0 ≤ x4 then (if x3.length < 17592186044416 then (backreachref17_Turned.l0 k x0 (x3 ++ [wrap64 (-(rd x0 x4))]) (wrap64 (x4 + 1))) else (none)) else (none)) else (some x3)
def backreachref17_Turned.f (k : Nat) (l0 : List Int) : Option (List Int) := backreachref17_Turned.l0 k l0 ([] : List Int) 0
theorem backreachref17_Turned.mono_l : ∀ k, (∀ y0 y1 y2, LeO (backreachref17_Turned.l0 k y0 y1 y2) (backreachref17_Turned.l0 (k + 1) y0 y1 y2))
  | 0 => fun _ _ _ r h => by simp [backreachref17_Turned.l0] at h
  | k + 1 => by
    have ih0 := backreachref17_Turned.mono_l k
    · intro y0 y1 y2
      unfold backreachref17_Turned.l0
      repeat' first
      | (with_reducible exact ih0 _ _ _)
      | (with_reducible exact LeO.refl _)
      | (with_reducible exact LeO.none _)
      | (with_reducible refine LeO.ite ?_ ?_)
      | (with_reducible refine LeO.bind ?_ (fun _ => ?_))
      | exact ih0 _ _ _
      | exact LeO.none _
      | refine LeO.ite ?_ ?_
      | refine LeO.bind ?_ (fun _ => ?_)
theorem backreachref17_Turned.mono : ∀ a0 k, LeO (backreachref17_Turned.f k a0) (backreachref17_Turned.f (k + 1) a0) := by
  intro a0 k
  have ih0 := backreachref17_Turned.mono_l k
  unfold backreachref17_Turned.f
  repeat' first
      | (with_reducible exact ih0 _ _ _)
      | (with_reducible exact LeO.refl _)
      | (with_reducible exact LeO.none _)
      | (with_reducible refine LeO.ite ?_ ?_)
      | (with_reducible refine LeO.bind ?_ (fun _ => ?_))
      | exact ih0 _ _ _
      | exact LeO.none _
      | refine LeO.ite ?_ ?_
      | refine LeO.bind ?_ (fun _ => ?_)
set_option maxHeartbeats 8000000 in
set_option maxRecDepth 100000 in
theorem backreachref17_Turned.calls (k : Nat) (A0 : Option Addr) (c0 : Nat) (l0 : List Int) (r : List Int) (w : World) (hr0 : Kd.C (Kd.int .i64) w A0 l0.length l0) (hc0 : l0.length ≤ c0) (h : backreachref17_Turned.f k l0 = some r) :
    Calls Try.prog 56 #[.slice A0 l0.length c0] w fun e w' => ∃ v0_ : Value, e = .returned (v0_) ∧ Kd.R (Kd.int .i64) 3 w' w.heap.size (fun _ => True) v0_ r ∧ Below w.heap.size w w' := by
  have HR0 := Aside0.mk hr0
  have HC0 := Aside0.mk hc0
  clear hr0 hc0
  have HB := Aside0.mk (Below.refl w.heap.size w)
  have H : (backreachref17_Turned.l0 k l0 ([] : List Int) 0) = some r := h
  clear h
  have H' := Aside0.mk H
  clear H
  go_enter Try.func56, Try.ntmps56
  go_wp2
  go_loopg [3, 4] k (fun kq v3 v4 w' => ∃ (x3_1 : List Int) (x4_1 : Int), v4 = .int .i64 x4_1 ∧ Aside0 (backreachref17_Turned.l0 kq l0 x3_1 x4_1 = some r) ∧ Aside0 (kq ≤ k) ∧ Aside0 (Kd.R (Kd.int .i64) 3 w' w.heap.size (fun _ => True) v3 x3_1) ∧ Aside0 (Below w.heap.size w w'))
  case atStart => exact ⟨(([] : List Int)), (0), (by first | rfl | (simp; done) | (simp [*]; done)), H', ⟨Nat.le_refl _⟩, ⟨by first | exact Kd.R_nil _ _ _ _ _ | exact Kd.N_nil _ _ _ _ _ | exact Kd.V_nil _ _ _ _ _ | exact Kd.Q_nil _ _ _ _ _ | exact Kd.S_nil _ _ _ _ _⟩, ⟨by repeat (first | (with_reducible first | exact HB.out | apply below_alloc | apply pw_below_drewN | apply below_drew1) | exact HB.out)⟩⟩
  case round =>
    clear H'
    obtain ⟨x3_1, x4_1, rfl, HA, HK1, HO_3, HB⟩ := hrel
    cases gk with
    | zero => exact absurd HA.out (by simp [backreachref17_Turned.l0])
    | succ k1 =>
      have H := HA.out
      clear HA
      simp only [backreachref17_Turned.l0] at H
      by_cases c2 : x4_1 < (l0.length : Int)
      · rw [if_pos c2] at H
        have c2b0 : decide (x4_1 < (l0.length : Int)) = true := decide_eq_true c2
        clear c2
        by_cases c3 : 0 ≤ x4_1
        · rw [if_pos c3] at H
          have c3b0 : decide (0 ≤ x4_1) = true := decide_eq_true c3
          clear c3
          by_cases c4 : x3_1.length < 17592186044416
          · rw [if_pos c4] at H
            have LMc4 := Aside0.mk c4
            clear c4
            obtain ⟨y193, hy193⟩ : ∃ y_ : List Int, y_ = (x3_1 ++ [wrap64 (-(rd l0 x4_1))]) := ⟨_, rfl⟩
            replace H : (backreachref17_Turned.l0 k1 l0 y193 (wrap64 (x4_1 + 1))) = some r := by first | (rw [hy193]; with_reducible exact H) | (have H2_ := (Option.bind_some _ _).symm.trans H; rw [hy193]; with_reducible exact H2_) | (have H2_ := (Option.bind_some _ _).symm.trans H; with_reducible exact H2_) | with_reducible exact H | (rw [hy193]; exact H) | exact H
            have Ny193 := Aside0.mk hy193
            clear hy193
            have H' := Aside0.mk H
            clear H
            have p192 : 0 ≤ (x4_1 : Int) := of_decide_eq_true (by first | (with_reducible assumption) | assumption)
            have q192 : x4_1 < (l0.length : Int) := of_decide_eq_true (by first | (with_reducible assumption) | assumption)
            obtain ⟨ad192, e192, hx192_0⟩ := Kd.at_int HR0.out x4_1 p192 q192
            cases e192
            replace hx192_0 := (HB.out.cell (World.block_lt_of_cell? w _ hx192_0)).trans hx192_0
            replace p192 := eq_true p192
            replace q192 := eq_true q192
            go_wp2_with (first | ((with_reducible refine gate_builtin (b := .append) (xs := #[.tmp 11, .tmp 17]) rfl ?_); at_builtin; refine Kd.R_append (Kd.int .i64) (w0 := w) w.heap.size rfl (.tmp 11) (.tmp 17) 35 3 (.int .i64 0) 8 rfl Try.underlying35 info3 rfl (by decide) (by omega) u3 x3_1 (wrap64 (-(rd l0 x4_1))) [.int .i64 (wrap64 (-(rd l0 x4_1)))] (fun _ => True) (fun _ => False) rfl rfl ?aP (fun _ hk => hk.elim) ?aF ?aO ?aB ?aS ?aL ?_; (case aP => exact rfl); (case aB => exact (by repeat (first | (with_reducible first | exact HB.out | apply below_alloc | apply pw_below_drewN | apply below_drew1) | exact HB.out))); (case aF => exact (fun _ _ => trivial)); (case aO => exact (by (with_reducible repeat (first | apply Kd.R_alloc | apply Kd.R_drewN | apply Kd.R_drew)); exact HO_3.out)); (case aS => exact (below_size (by repeat (first | (with_reducible first | exact HB.out | apply below_alloc | apply pw_below_drewN | apply below_drew1) | exact HB.out)))); (case aL => have := LMc4.out; omega); intro v194 w5 ho hb hg hat; rw [← Ny193.out] at ho; have n0_ := Aside0.mk (hb); have n1_ := Aside0.mk (ho); clear HB; clear HO_3; have HB := n0_; have HO195 := n1_; clear n0_ n1_; clear ho hb hg hat))
            go_roundg k1
            case measure => have := HK1.out; omega
            case rel => exact ⟨(y193), (wrap64 (x4_1 + 1)), (by first | rfl | (simp; done) | (simp [*]; done)), H', ⟨by have := HK1.out; omega⟩, ⟨by (with_reducible repeat (first | apply Kd.R_alloc | apply Kd.R_drewN | apply Kd.R_drew)); exact HO195.out⟩, ⟨by repeat (first | (with_reducible first | exact HB.out | apply below_alloc | apply pw_below_drewN | apply below_drew1) | exact HB.out)⟩⟩
          · rw [if_neg c4] at H
            exact absurd H (by simp)
        · rw [if_neg c3] at H
          exact absurd H (by simp)
      · rw [if_neg c2] at H
        have c2b0 : decide (x4_1 < (l0.length : Int)) = false := decide_eq_false c2
        clear c2
        obtain rfl := Option.some.inj H
        go_wp2
        go_ret
        exact ⟨_, by first | rfl | (simp [errW_none, errW_some] <;> rfl) | (simp [*, errW_none, errW_some] <;> rfl), by (with_reducible repeat (first | apply Kd.R_alloc | apply Kd.R_drewN | apply Kd.R_drew)); exact HO_3.out, by repeat (first | (with_reducible first | exact HB.out | apply below_alloc | apply pw_below_drewN | apply below_drew1) | exact HB.out)⟩

/-! ### backreachref17_Follows: function 37 -/
def backreachref17_Follows.f (k : Nat) (l0 : List (List Int)) (l1 : List Int) : Option (Bool) := (backreachref17_Turned.f k l1).bind fun t196 => ((backreachref14_Spread.f k l0 t196).bind fun bt199 => (some (!bt199.2)))
theorem backreachref17_Follows.mono : ∀ a0 a1 k, LeO (backreachref17_Follows.f k a0 a1) (backreachref17_Follows.f (k + 1) a0 a1) := by
  intro a0 a1 k
  unfold backreachref17_Follows.f
  repeat' first
      | (with_reducible exact backreachref14_Spread.mono _ _ _)
      | (with_reducible exact backreachref17_Turned.mono _ _)
      | (with_reducible exact LeO.refl _)
      | (with_reducible exact LeO.none _)
      | (with_reducible refine LeO.ite ?_ ?_)
      | (with_reducible refine LeO.bind ?_ (fun _ => ?_))
      | exact backreachref14_Spread.mono _ _ _
      | exact backreachref17_Turned.mono _ _
      | exact LeO.none _
      | refine LeO.ite ?_ ?_
      | refine LeO.bind ?_ (fun _ => ?_)
set_option maxHeartbeats 8000000 in
set_option maxRecDepth 100000 in
theorem backreachref17_Follows.calls (k : Nat) (A0 : Option Addr) (c0 : Nat) (l0 : List (List Int)) (A1 : Option Addr) (c1 : Nat) (l1 : List Int) (r : Bool) (w : World) (hr0 : Kd.C (Kd.slice 3 (Kd.int .i64)) w A0 l0.length l0) (hc0 : l0.length ≤ c0) (hr1 : Kd.C (Kd.int .i64) w A1 l1.length l1) (hc1 : l1.length ≤ c1) (h : backreachref17_Follows.f k l0 l1 = some r) :
    Calls Try.prog 37 #[.slice A0 l0.length c0, .slice A1 l1.length c1] w fun e w' => e = .returned (.bool r) ∧ Below w.heap.size w w' := by
  have HR0 := Aside0.mk hr0
  have HC0 := Aside0.mk hc0
  clear hr0 hc0
  have HR1 := Aside0.mk hr1
  have HC1 := Aside0.mk hc1
  clear hr1 hc1
  have HB := Aside0.mk (Below.refl w.heap.size w)
  have H : ((backreachref17_Turned.f k l1).bind fun t196 => ((backreachref14_Spread.f k l0 t196).bind fun bt199 => (some (!bt199.2)))) = some r := h
  clear h
  replace H := Option.bind_eq_some_iff.mp H
  obtain ⟨t196, A30, H⟩ := H
  replace H : ((backreachref14_Spread.f k l0 t196).bind fun bt199 => (some (!bt199.2))) = some r := H
  have A3 := Aside0.mk A30
  clear A30
  replace H := Option.bind_eq_some_iff.mp H
  obtain ⟨⟨t199, t202⟩, A40, H⟩ := H
  replace H : (some (!t202)) = some r := H
  have A4 := Aside0.mk A40
  clear A40
  obtain rfl := Option.some.inj H
  go_enter Try.func37, Try.ntmps37
  go_wp2_with (first | ((with_reducible refine gate_callee (f := 56) rfl ?_); refine goesL_ (some 10) rfl rfl Try.func56 (by kernel_rfl) rfl #[.slice A1 l1.length c1] rfl (by (try simp only [List.map_toArray, List.map_cons, List.map_nil]); first | done | rfl | (simp only [List.length_drop, List.length_take]; rfl)) ?_; (with_reducible refine (backreachref17_Turned.calls k _ _ l1 t196 _ ?side1 ?side2 A3.out).mono ?_); (case side1 => repeat (first | exact HR1.out | (with_reducible refine Kd.C_alloc ?_ _) | (with_reducible refine Kd.C_drewN ?_ _) | (with_reducible refine Kd.C_drew ?_))); (case side2 => exact HC1.out); rintro e w5 ⟨v197, rfl, ho0, hb⟩; refine ⟨_, rfl, ?_⟩; have n0_ := Aside0.mk (Kd.R_lower ho0 (below_size (by repeat (first | (with_reducible first | exact HB.out | apply below_alloc | apply pw_below_drewN | apply below_drew1) | exact HB.out)))); have n1_ := Aside0.mk (below_step (by repeat (first | (with_reducible first | exact HB.out | apply below_alloc | apply pw_below_drewN | apply below_drew1) | exact HB.out)) hb); clear HB; have HO198 := n0_; have HB := n1_; clear n0_ n1_; (try clear hb); (try clear hb2); (try clear hk); (try clear hi); (try clear ho0); obtain ⟨Ao6, co6, eo6⟩ := Kd.R_slice HO198.out; subst eo6) | ((with_reducible refine gate_callee (f := 55) rfl ?_); refine goesL_ (some 11) rfl rfl Try.func55 (by kernel_rfl) rfl #[.slice A0 l0.length c0, .slice Ao6 t196.length co6] rfl (by (try simp only [List.map_toArray, List.map_cons, List.map_nil]); first | done | rfl | (simp only [List.length_drop, List.length_take]; rfl)) ?_; (with_reducible refine (backreachref14_Spread.calls k (fun k_ => k_ < w.heap.size) _ _ l0 (fun k_ => some k_ = (.slice Ao6 t196.length co6 : Value).ownBlock) _ _ t196 t199 t202 _ ?side1 ?side2 A4.out).mono ?_); (case side1 => exact Kd.V_mk HC0.out (Kd.F_below (Kd.C_F (Kd.heap_slice 3 (Kd.heap_int .i64)) HR0.out) (by repeat (first | (with_reducible first | exact HB.out | apply below_alloc | apply pw_below_drewN | apply below_drew1) | exact HB.out)))); (case side2 => exact Kd.R_V (Kd.R_tight rfl (HO198.out))); rintro e w7 ⟨v200, rfl, ho0, hb⟩; refine ⟨_, rfl, ?_⟩; have n0_ := Aside0.mk (Kd.R_elder' (by (with_reducible repeat (first | apply Kd.R_alloc | apply Kd.R_drewN | apply Kd.R_drew)); exact HO198.out) (Kd.R_base ho0) hb); have n1_ := Aside0.mk (Kd.R_lower (Kd.R_new' (Kd.R_mono (ok' := fun k_ => True) ho0 (fun _ hk_ => trivial)) (Kd.R_lt (by (with_reducible repeat (first | apply Kd.R_alloc | apply Kd.R_drewN | apply Kd.R_drew)); exact HO198.out))) (below_size (by repeat (first | (with_reducible first | exact HB.out | apply below_alloc | apply pw_below_drewN | apply below_drew1) | exact HB.out)))); have n2_ := Aside0.mk (below_step (by repeat (first | (with_reducible first | exact HB.out | apply below_alloc | apply pw_below_drewN | apply below_drew1) | exact HB.out)) hb); clear HO198; clear HB; have HO198 := n0_; have HO201 := n1_; have HB := n2_; clear n0_ n1_ n2_; (try clear hb); (try clear hb2); (try clear hk); (try clear hi); (try clear ho0)))
  go_ret
  exact ⟨by first | rfl | (simp [errW_none, errW_some] <;> rfl) | (simp [*, errW_none, errW_some] <;> rfl), by repeat (first | (with_reducible first | exact HB.out | apply below_alloc | apply pw_below_drewN | apply below_drew1) | exact HB.out)⟩

/-! ### backreachref18_Check: function 15 -/
def backreachref18_Check.l0 : Nat → List (List Int) → List (List Int) → Bool → Int → Option (Int × Int)
  | 0, _, _, _, _ => none
  | k + 1, x1, x6, x7, x8 => if x8 < (x1.length : Int) then (if 0 ≤ x8 then (if x8 ≤ (wrap64 (x8 + 1)) then (if (wrap64 (x8 + 1)) ≤ (x1.length : Int) then ((backreachref14_Right.f k ((x1.take ((wrap64 (x8 + 1)) : Int).toNat).drop (x8 : Int).toNat)).bind fun t215 => (if t215 = true then ((backreachref17_Follows.f k x6 (rd_L1 x1 x8)).bind fun t217 => (if t217 = true then (if x7 = true then (if x6.length < 5864062014805 then (backreachref18_Check.l0 k x1 (x6 ++ [rd_L1 x1 x8]) true (wrap64 (x8 + 1))) else (none)) else (if x6.length < 5864062014805 then (backreachref18_Check.l0 k x1 (x6 ++ [rd_L1 x1 x8]) (((rd_L1 x1 x8).length : Int) == 0) (wrap64 (x8 + 1))) else (none))) else (some (14, x8)))) else (some (3, x8)))) else (none)) else (none)) else (none)) else (if x7 = true then (some (0, 0)) else (some (11, (x1.length : Int))))
def backreachref18_Check.f (k : Nat) (l0 : List (List Int)) (l1 : List (List Int)) : Option (Int × Int) := (backreachref14_Right.f k l0).bind fun t203 => (if t203 = true then ((some (([] : List (List Int)) : List (List Int))).bind fun y204 => (if y204.length + l0.length < 5864062014805 then (backreachref18_Check.l0 k l1 (y204 ++ l0) false 0) else (none))) else (some (3, 0)))
theorem backreachref18_Check.mono_l : ∀ k, (∀ y0 y1 y2 y3, LeO (backreachref18_Check.l0 k y0 y1 y2 y3) (backreachref18_Check.l0 (k + 1) y0 y1 y2 y3))
  | 0 => fun _ _ _ _ r h => by simp [backreachref18_Check.l0] at h
  | k + 1 => by
    have ih0 := backreachref18_Check.mono_l k
    · intro y0 y1 y2 y3
      unfold backreachref18_Check.l0
      repeat' first
      | (with_reducible exact ih0 _ _ _ _)
      | (with_reducible exact backreachref14_Right.mono _ _)
      | (with_reducible exact backreachref17_Follows.mono _ _ _)
      | (with_reducible exact LeO.refl _)
      | (with_reducible exact LeO.none _)
      | (with_reducible refine LeO.ite ?_ ?_)
      | (with_reducible refine LeO.bind ?_ (fun _ => ?_))
      | exact ih0 _ _ _ _
      | exact backreachref14_Right.mono _ _
      | exact backreachref17_Follows.mono _ _ _
      | exact LeO.none _
      | refine LeO.ite ?_ ?_
      | refine LeO.bind ?_ (fun _ => ?_)
theorem backreachref18_Check.mono : ∀ a0 a1 k, LeO (backreachref18_Check.f k a0 a1) (backreachref18_Check.f (k + 1) a0 a1) := by
  intro a0 a1 k
  have ih0 := backreachref18_Check.mono_l k
  unfold backreachref18_Check.f
  repeat' first
      | (with_reducible exact ih0 _ _ _ _)
      | (with_reducible exact backreachref14_Right.mono _ _)
      | (with_reducible exact backreachref17_Follows.mono _ _ _)
      | (with_reducible exact LeO.refl _)
      | (with_reducible exact LeO.none _)
      | (with_reducible refine LeO.ite ?_ ?_)
      | (with_reducible refine LeO.bind ?_ (fun _ => ?_))
      | exact ih0 _ _ _ _
      | exact backreachref14_Right.mono _ _
      | exact backreachref17_Follows.mono _ _ _
      | exact LeO.none _
      | refine LeO.ite ?_ ?_
      | refine LeO.bind ?_ (fun _ => ?_)
set_option maxHeartbeats 8000000 in
set_option maxRecDepth 100000 in
theorem backreachref18_Check.calls (k : Nat) (P0_ : Nat → Prop) (A0 : Option Addr) (c0 : Nat) (l0 : List (List Int)) (P1_ : Nat → Prop) (A1 : Option Addr) (c1 : Nat) (l1 : List (List Int)) (r1 : Int) (r2 : Int) (w : World) (hs0 : Kd.V (Kd.slice 3 (Kd.int .i64)) 35 w w.heap.size (fun k_ => P0_ k_) (.slice A0 l0.length c0) l0) (hs1 : Kd.V (Kd.slice 3 (Kd.int .i64)) 35 w w.heap.size (fun k_ => P1_ k_) (.slice A1 l1.length c1) l1) (h : backreachref18_Check.f k l0 l1 = some (r1, r2)) :
    Calls Try.prog 15 #[.slice A0 l0.length c0, .slice A1 l1.length c1] w fun e w' => e = .returned (.tuple #[.int .i64 r1, .int .i64 r2]) ∧ Below w.heap.size w w' := by
  have HO0 := Aside0.mk (show Kd.V (Kd.slice 3 (Kd.int .i64)) 35 w w.heap.size (fun k_ => ((P0_ k_ ∨ P1_ k_) ∨ w.heap.size ≤ k_)) (.slice A0 l0.length c0) l0 from Kd.V_mono hs0 (fun k_ hk => .inl (.inl hk)))
  have HO1 := Aside0.mk (show Kd.V (Kd.slice 3 (Kd.int .i64)) 35 w w.heap.size (fun k_ => ((P0_ k_ ∨ P1_ k_) ∨ w.heap.size ≤ k_)) (.slice A1 l1.length c1) l1 from Kd.V_mono hs1 (fun k_ hk => .inl (.inr hk)))
  have HB := Aside0.mk (Below.refl w.heap.size w)
  have H : ((backreachref14_Right.f k l0).bind fun t203 => (if t203 = true then ((some (([] : List (List Int)) : List (List Int))).bind fun y204 => (if y204.length + l0.length < 5864062014805 then (backreachref18_Check.l0 k l1 (y204 ++ l0) false 0) else (none))) else (some (3, 0)))) = some (r1, r2) := h
  clear h
  replace H := Option.bind_eq_some_iff.mp H
  obtain ⟨t203, A30, H⟩ := H
  replace H : (if t203 = true then ((some (([] : List (List Int)) : List (List Int))).bind fun y204 => (if y204.length + l0.length < 5864062014805 then (backreachref18_Check.l0 k l1 (y204 ++ l0) false 0) else (none))) else (some (3, 0))) = some (r1, r2) := H
  have A3 := Aside0.mk A30
  clear A30
  by_cases c4 : t203 = true
  · subst c4
    have H1 : ((some (([] : List (List Int)) : List (List Int))).bind fun y204 => (if y204.length + l0.length < 5864062014805 then (backreachref18_Check.l0 k l1 (y204 ++ l0) false 0) else (none))) = some (r1, r2) := by rw [if_pos rfl] at H; exact H
    clear H
    have H := H1
    clear H1
    obtain ⟨y204, hy204⟩ : ∃ y_ : List (List Int), y_ = (([] : List (List Int))) := ⟨_, rfl⟩
    replace H : (if y204.length + l0.length < 5864062014805 then (backreachref18_Check.l0 k l1 (y204 ++ l0) false 0) else (none)) = some (r1, r2) := by first | (rw [hy204]; with_reducible exact H) | (have H2_ := (Option.bind_some _ _).symm.trans H; rw [hy204]; with_reducible exact H2_) | (have H2_ := (Option.bind_some _ _).symm.trans H; with_reducible exact H2_) | with_reducible exact H | (rw [hy204]; exact H) | exact H
    have Ny204 := Aside0.mk hy204
    clear hy204
    by_cases c5 : y204.length + l0.length < 5864062014805
    · rw [if_pos c5] at H
      have LMc5 := Aside0.mk c5
      clear c5
      obtain ⟨y207, hy207⟩ : ∃ y_ : List (List Int), y_ = (y204 ++ l0) := ⟨_, rfl⟩
      replace H : (backreachref18_Check.l0 k l1 y207 false 0) = some (r1, r2) := by first | (rw [hy207]; with_reducible exact H) | (have H2_ := (Option.bind_some _ _).symm.trans H; rw [hy207]; with_reducible exact H2_) | (have H2_ := (Option.bind_some _ _).symm.trans H; with_reducible exact H2_) | with_reducible exact H | (rw [hy207]; exact H) | exact H
      have Ny207 := Aside0.mk hy207
      clear hy207
      have H' := Aside0.mk H
      clear H
      go_enter Try.func15, Try.ntmps15
      go_wp2_with (first | ((with_reducible refine gate_callee (f := 23) rfl ?_); refine goesL_ (some 10) rfl rfl Try.func23 (by kernel_rfl) rfl #[.slice A0 l0.length c0] rfl (by (try simp only [List.map_toArray, List.map_cons, List.map_nil]); first | done | rfl | (simp only [List.length_drop, List.length_take]; rfl)) ?_; (with_reducible refine (backreachref14_Right.calls k _ _ l0 true _ ?side1 ?side2 A3.out).mono ?_); (case side1 => repeat (first | exact (Kd.V_reads' HO0.out).2.2 | (with_reducible refine Kd.C_alloc ?_ _) | (with_reducible refine Kd.C_drewN ?_ _) | (with_reducible refine Kd.C_drew ?_))); (case side2 => exact (Kd.V_reads' HO0.out).2.1); rintro e w' ⟨rfl, ⟨nd, rfl⟩⟩; refine ⟨_, rfl, ?_⟩) | ((with_reducible refine gate_dst (N := 12) rfl ?_); (try (refine gate_guard (by rfl) ?_; dsimp only)); refine Kd.N_lit (Kd.slice 3 (Kd.int .i64)) _ 35 ?hg (N' := 12) ?hd (xs := ([] : List (List Int))) (inner := []) (ok := (fun k_ => ((P0_ k_ ∨ P1_ k_) ∨ w.heap.size ≤ k_))) (okp := (fun k_ => ((P0_ k_ ∨ P1_ k_) ∨ w.heap.size ≤ k_))) ?hr ?hp (fun _ hk => hk) ((show ∀ k_, w.heap.size ≤ k_ → (fun k_ => ((P0_ k_ ∨ P1_ k_) ∨ w.heap.size ≤ k_)) k_ from fun k_ hk => (.inr (Nat.le_trans (below_size (by repeat (first | (with_reducible first | exact HB.out | apply below_alloc | apply pw_below_drewN | apply below_drew1) | exact HB.out))) hk))) _ (Nat.le_refl _)) (Below.refl _ _) (Nat.le_refl _) (by simp) ?_; (case hd => rfl); (case hg => rfl); (case hr => first | (go_simp; done) | (go_simp; rfl)); (case hp => exact (Reps.none _ _)); intro v205 w6 ho7 hb hg_ hnew_; clear hg_ hnew_; (first | rw [← Ny204.out] at ho7 | (simp only [Int.reduceToNat] at ho7; rw [← Ny204.out] at ho7)); have n0_ := Aside0.mk (Kd.V_elder' (by (with_reducible repeat (first | apply Kd.V_alloc | apply Kd.V_drewN | apply Kd.V_drew)); exact HO0.out) (Kd.N_base ho7) hb); have n1_ := Aside0.mk (Kd.V_elder' (by (with_reducible repeat (first | apply Kd.V_alloc | apply Kd.V_drewN | apply Kd.V_drew)); exact HO1.out) (Kd.N_base ho7) hb); have n2_ := Aside0.mk (Kd.N_lower ho7 (below_size (by repeat (first | (with_reducible first | exact HB.out | apply below_alloc | apply pw_below_drewN | apply below_drew1) | exact HB.out)))); have n3_ := Aside0.mk (below_step (by repeat (first | (with_reducible first | exact HB.out | apply below_alloc | apply pw_below_drewN | apply below_drew1) | exact HB.out)) hb); clear HO0; clear HO1; clear HB; have HO0 := n0_; have HO1 := n1_; have HO206 := n2_; have HB := n3_; clear n0_ n1_ n2_ n3_; clear hb ho7) | ((with_reducible refine gate_builtin (b := .append) (xs := #[.tmp 12, .tmp 13]) rfl ?_); (try (refine gate_guard (by rfl) ?_; dsimp only)); at_builtin; refine Kd.N_append_rows (Kd.slice 3 (Kd.int .i64)) (w0 := w) w.heap.size rfl (.tmp 12) (.tmp 13) 22 35 (.slice none 0 0) 24 rfl Try.underlying22 info35 rfl (by decide) (by omega) v205 y204 l0 _ _ _ (fun k_ => ((P0_ k_ ∨ P1_ k_) ∨ w.heap.size ≤ k_)) (fun k_ => ((fun k_ => ((P0_ k_ ∨ P1_ k_) ∨ w.heap.size ≤ k_))) k_ ∧ some k_ ≠ (v205 : Value).ownBlock) rfl rfl ?aO ?aR (fun _ hk => hk) ?aF ?aB ?aS ?aL ?_; (case aR => exact (by skip; exact Kd.V_F (Kd.V_mono (ok' := (fun k_ => ((fun k_ => ((P0_ k_ ∨ P1_ k_) ∨ w.heap.size ≤ k_))) k_ ∧ some k_ ≠ (v205 : Value).ownBlock)) (HO0.out) (fun k_ hk => ⟨hk.1, hk.2⟩)))); (case aB => exact (by repeat (first | (with_reducible first | exact HB.out | apply below_alloc | apply pw_below_drewN | apply below_drew1) | exact HB.out))); (case aF => exact (fun k_ hk => (.inr (Nat.le_trans (below_size (by repeat (first | (with_reducible first | exact HB.out | apply below_alloc | apply pw_below_drewN | apply below_drew1) | exact HB.out))) hk)))); (case aO => exact (by (with_reducible repeat (first | apply Kd.N_alloc | apply Kd.N_drewN | apply Kd.N_drew)); exact HO206.out)); (case aS => exact (below_size (by repeat (first | (with_reducible first | exact HB.out | apply below_alloc | apply pw_below_drewN | apply below_drew1) | exact HB.out)))); (case aL => have := LMc5.out; omega); intro v208 w8 ho hb hg hat; rw [← Ny207.out] at ho; have n0_ := Aside0.mk (Kd.V_afterv (ok := (fun k_ => ((P0_ k_ ∨ P1_ k_) ∨ w.heap.size ≤ k_))) (by (with_reducible repeat (first | apply Kd.V_alloc | apply Kd.V_drewN | apply Kd.V_drew)); exact HO0.out) hg hat); have n1_ := Aside0.mk (Kd.V_afterv (ok := (fun k_ => ((P0_ k_ ∨ P1_ k_) ∨ w.heap.size ≤ k_))) (by (with_reducible repeat (first | apply Kd.V_alloc | apply Kd.V_drewN | apply Kd.V_drew)); exact HO1.out) hg hat); have n2_ := Aside0.mk (hb); have n3_ := Aside0.mk (ho); clear HO0; clear HO1; clear HB; clear HO206; have HO0 := n0_; have HO1 := n1_; have HB := n2_; have HO209 := n3_; clear n0_ n1_ n2_ n3_; clear ho hb hg hat))
      go_loopg [6, 7, 8] k (fun kq v6 v7 v8 w' => ∃ (x6_1 : List (List Int)) (x7_1 : Bool) (x8_1 : Int), v7 = .bool x7_1 ∧ v8 = .int .i64 x8_1 ∧ Aside0 (backreachref18_Check.l0 kq l1 x6_1 x7_1 x8_1 = some (r1, r2)) ∧ Aside0 (kq ≤ k) ∧ Aside0 (Kd.V (Kd.slice 3 (Kd.int .i64)) 35 w' w.heap.size (fun k_ => ((P0_ k_ ∨ P1_ k_) ∨ w.heap.size ≤ k_) ∧ some k_ ≠ (v6 : Value).ownBlock) (.slice A1 l1.length c1) l1) ∧ Aside0 (Kd.N (Kd.slice 3 (Kd.int .i64)) 35 w' w.heap.size (fun k_ => ((P0_ k_ ∨ P1_ k_) ∨ w.heap.size ≤ k_)) v6 x6_1) ∧ Aside0 (Below w.heap.size w w'))
      case atStart => exact ⟨(y207), (false), (0), (by first | rfl | (simp; done) | (simp [*]; done)), (by first | rfl | (simp; done) | (simp [*]; done)), H', ⟨Nat.le_refl _⟩, ⟨by (with_reducible repeat (first | apply Kd.V_alloc | apply Kd.V_drewN | apply Kd.V_drew)); exact HO1.out⟩, ⟨by (with_reducible repeat (first | apply Kd.N_alloc | apply Kd.N_drewN | apply Kd.N_drew)); exact HO209.out⟩, ⟨by repeat (first | (with_reducible first | exact HB.out | apply below_alloc | apply pw_below_drewN | apply below_drew1) | exact HB.out)⟩⟩
      case round =>
        clear H'
        try clear c1
        try clear c2
        try clear p2
        try clear c4
        try clear c5
        obtain ⟨x6_1, x7_1, x8_1, rfl, rfl, HA, HK1, HO_1, HO_6, HB⟩ := hrel
        cases gk with
        | zero => exact absurd HA.out (by simp [backreachref18_Check.l0])
        | succ k1 =>
          have H := HA.out
          clear HA
          simp only [backreachref18_Check.l0] at H
          by_cases c9 : x8_1 < (l1.length : Int)
          · rw [if_pos c9] at H
            have c9b0 : decide (x8_1 < (l1.length : Int)) = true := decide_eq_true c9
            clear c9
            by_cases c10 : 0 ≤ x8_1
            · rw [if_pos c10] at H
              have c10b0 := eq_true c10
              have c10b1 : decide (0 ≤ x8_1) = true := decide_eq_true c10
              clear c10
              by_cases c11 : x8_1 ≤ (wrap64 (x8_1 + 1))
              · rw [if_pos c11] at H
                have c11b0 := eq_true c11
                have c11b1 : decide (x8_1 ≤ (wrap64 (x8_1 + 1))) = true := decide_eq_true c11
                by_cases c12 : (wrap64 (x8_1 + 1)) ≤ (l1.length : Int)
                · rw [if_pos c12] at H
                  have c12b0 := eq_true c12
                  have c12b1 : decide ((wrap64 (x8_1 + 1)) ≤ (l1.length : Int)) = true := decide_eq_true c12
                  obtain ⟨y210, hy210⟩ : ∃ y_ : List (List Int), y_ = ((l1.take ((wrap64 (x8_1 + 1)) : Int).toNat).drop (x8_1 : Int).toNat) := ⟨_, rfl⟩
                  replace H : ((backreachref14_Right.f k1 y210).bind fun t215 => (if t215 = true then ((backreachref17_Follows.f k1 x6_1 (rd_L1 l1 x8_1)).bind fun t217 => (if t217 = true then (if x7_1 = true then (if x6_1.length < 5864062014805 then (backreachref18_Check.l0 k1 l1 (x6_1 ++ [rd_L1 l1 x8_1]) true (wrap64 (x8_1 + 1))) else (none)) else (if x6_1.length < 5864062014805 then (backreachref18_Check.l0 k1 l1 (x6_1 ++ [rd_L1 l1 x8_1]) (((rd_L1 l1 x8_1).length : Int) == 0) (wrap64 (x8_1 + 1))) else (none))) else (some (14, x8_1)))) else (some (3, x8_1)))) = some (r1, r2) := by first | (rw [hy210]; with_reducible exact H) | (have H2_ := (Option.bind_some _ _).symm.trans H; rw [hy210]; with_reducible exact H2_) | (have H2_ := (Option.bind_some _ _).symm.trans H; with_reducible exact H2_) | with_reducible exact H | (rw [hy210]; exact H) | exact H
                  have Ny210 := Aside0.mk hy210
                  clear hy210
                  replace H := Option.bind_eq_some_iff.mp H
                  obtain ⟨t215, A130, H⟩ := H
                  replace H : (if t215 = true then ((backreachref17_Follows.f k1 x6_1 (rd_L1 l1 x8_1)).bind fun t217 => (if t217 = true then (if x7_1 = true then (if x6_1.length < 5864062014805 then (backreachref18_Check.l0 k1 l1 (x6_1 ++ [rd_L1 l1 x8_1]) true (wrap64 (x8_1 + 1))) else (none)) else (if x6_1.length < 5864062014805 then (backreachref18_Check.l0 k1 l1 (x6_1 ++ [rd_L1 l1 x8_1]) (((rd_L1 l1 x8_1).length : Int) == 0) (wrap64 (x8_1 + 1))) else (none))) else (some (14, x8_1)))) else (some (3, x8_1))) = some (r1, r2) := H
                  have A13 := Aside0.mk A130
                  clear A130
                  by_cases c14 : t215 = true
                  · subst c14
                    have H1 : ((backreachref17_Follows.f k1 x6_1 (rd_L1 l1 x8_1)).bind fun t217 => (if t217 = true then (if x7_1 = true then (if x6_1.length < 5864062014805 then (backreachref18_Check.l0 k1 l1 (x6_1 ++ [rd_L1 l1 x8_1]) true (wrap64 (x8_1 + 1))) else (none)) else (if x6_1.length < 5864062014805 then (backreachref18_Check.l0 k1 l1 (x6_1 ++ [rd_L1 l1 x8_1]) (((rd_L1 l1 x8_1).length : Int) == 0) (wrap64 (x8_1 + 1))) else (none))) else (some (14, x8_1)))) = some (r1, r2) := by rw [if_pos rfl] at H; exact H
                    clear H
                    have H := H1
                    clear H1
                    replace H := Option.bind_eq_some_iff.mp H
                    obtain ⟨t217, A150, H⟩ := H
                    replace H : (if t217 = true then (if x7_1 = true then (if x6_1.length < 5864062014805 then (backreachref18_Check.l0 k1 l1 (x6_1 ++ [rd_L1 l1 x8_1]) true (wrap64 (x8_1 + 1))) else (none)) else (if x6_1.length < 5864062014805 then (backreachref18_Check.l0 k1 l1 (x6_1 ++ [rd_L1 l1 x8_1]) (((rd_L1 l1 x8_1).length : Int) == 0) (wrap64 (x8_1 + 1))) else (none))) else (some (14, x8_1))) = some (r1, r2) := H
                    have A15 := Aside0.mk A150
                    clear A150
                    by_cases c16 : t217 = true
                    · subst c16
                      have H1 : (if x7_1 = true then (if x6_1.length < 5864062014805 then (backreachref18_Check.l0 k1 l1 (x6_1 ++ [rd_L1 l1 x8_1]) true (wrap64 (x8_1 + 1))) else (none)) else (if x6_1.length < 5864062014805 then (backreachref18_Check.l0 k1 l1 (x6_1 ++ [rd_L1 l1 x8_1]) (((rd_L1 l1 x8_1).length : Int) == 0) (wrap64 (x8_1 + 1))) else (none))) = some (r1, r2) := by rw [if_pos rfl] at H; exact H
                      clear H
                      have H := H1
                      clear H1
                      by_cases c17 : x7_1 = true
                      · subst c17
                        have H1 : (if x6_1.length < 5864062014805 then (backreachref18_Check.l0 k1 l1 (x6_1 ++ [rd_L1 l1 x8_1]) true (wrap64 (x8_1 + 1))) else (none)) = some (r1, r2) := by rw [if_pos rfl] at H; exact H
                        clear H
                        have H := H1
                        clear H1
                        by_cases c18 : x6_1.length < 5864062014805
                        · rw [if_pos c18] at H
                          have LMc18 := Aside0.mk c18
                          clear c18
                          obtain ⟨y219, hy219⟩ : ∃ y_ : List (List Int), y_ = (x6_1 ++ [rd_L1 l1 x8_1]) := ⟨_, rfl⟩
                          replace H : (backreachref18_Check.l0 k1 l1 y219 true (wrap64 (x8_1 + 1))) = some (r1, r2) := by first | (rw [hy219]; with_reducible exact H) | (have H2_ := (Option.bind_some _ _).symm.trans H; rw [hy219]; with_reducible exact H2_) | (have H2_ := (Option.bind_some _ _).symm.trans H; with_reducible exact H2_) | with_reducible exact H | (rw [hy219]; exact H) | exact H
                          have Ny219 := Aside0.mk hy219
                          clear hy219
                          have H' := Aside0.mk H
                          clear H
                          have q19 : ((wrap64 (x8_1 + 1)) : Int) ≤ ((l1.length : Int) : Int) := of_decide_eq_true (by first | (with_reducible assumption) | assumption)
                          obtain ⟨i019, hi019, _, hsz19, _⟩ := info_parts info35
                          have hroom19 : l1.length ≤ c1 := (Kd.V_reads' HO_1.out).2.1
                          have hC19 : Kd.F (Kd.slice 3 (Kd.int .i64)) _ _ A1 l1.length l1 := (Kd.V_at (base := w.heap.size) HO_1.out).2.2
                          have ql19 : (x8_1 : Int) ≤ ((wrap64 (x8_1 + 1)) : Int) := of_decide_eq_true (by first | (with_reducible assumption) | assumption)
                          have q019 : (0 : Int) ≤ (x8_1 : Int) := of_decide_eq_true (by first | (with_reducible assumption) | assumption)
                          have hcut19 := cut_mid (P := Try.prog) 22 35 .i64 .i64 Try.underlying22 hi019 1 hsz19 A1 l1.length c1 x8_1 (wrap64 (x8_1 + 1)) q019 ql19 q19 hroom19
                          have hr19 := Kd.F_mid (lo := (x8_1 : Int).toNat) (hi := ((wrap64 (x8_1 + 1)) : Int).toNat) (c := c1) hC19 (by omega) (by omega) hroom19
                          obtain ⟨A19, hA19⟩ : ∃ A_x, A_x = (if c1 = (x8_1 : Int).toNat then A1 else (A1 : Option Addr).map (·.add ((x8_1 : Int).toNat * 1))) := ⟨_, rfl⟩
                          obtain ⟨c19, hc19⟩ : ∃ c_x, c_x = c1 - (x8_1 : Int).toNat := ⟨_, rfl⟩
                          have hy19 : y210.length = ((wrap64 (x8_1 + 1)) : Int).toNat - (x8_1 : Int).toNat := (by rw [Ny210.out, List.length_drop, List.length_take] <;> omega)
                          rw [show ((l1).take ((wrap64 (x8_1 + 1)) : Int).toNat).drop (x8_1 : Int).toNat = y210 from Ny210.out.symm] at hr19
                          replace hr19 : Kd.F (Kd.slice 3 (Kd.int .i64)) _ _ A19 y210.length y210 := (by rw [hA19]; exact hr19)
                          rw [← hy19, ← hA19, ← hc19] at hcut19
                          have HO214 := Aside0.mk (show Kd.V (Kd.slice 3 (Kd.int .i64)) 35 _ w.heap.size _ (.slice A19 y210.length c19) y210 from Kd.V_mk (by rw [hy19, hc19]; exact Nat.sub_le_sub_right (Nat.le_trans (by omega) hroom19) _) hr19)
                          have HC214 := Aside0.mk (show y210.length ≤ c19 from by rw [hy19, hc19]; exact Nat.sub_le_sub_right (Nat.le_trans (by omega) hroom19) _)
                          clear hr19 hC19 hroom19 hi019 hsz19 hc19
                          have KY19 := Aside0.mk hy19
                          have KA19 := Aside0.mk hA19
                          clear hy19 hA19
                          replace q19 := eq_true q19
                          go_wp2_with (first | ((with_reducible refine gate_callee (f := 23) rfl ?_); refine goesL_ (some 26) rfl rfl Try.func23 (by kernel_rfl) rfl #[.slice A19 y210.length c19] rfl (by (try simp only [List.map_toArray, List.map_cons, List.map_nil]); first | done | rfl | (simp only [List.length_drop, List.length_take]; rfl)) ?_; (with_reducible refine (backreachref14_Right.calls k1 _ _ y210 true _ ?side1 ?side2 A13.out).mono ?_); (case side1 => repeat (first | exact (Kd.V_reads' HO214.out).2.2 | (with_reducible refine Kd.C_alloc ?_ _) | (with_reducible refine Kd.C_drewN ?_ _) | (with_reducible refine Kd.C_drew ?_))); (case side2 => exact (Kd.V_reads' HO214.out).2.1); rintro e w' ⟨rfl, ⟨nd, rfl⟩⟩; refine ⟨_, rfl, ?_⟩; have p216 : 0 ≤ (x8_1 : Int) := of_decide_eq_true (by first | (with_reducible assumption) | assumption); have q216 : x8_1 < (l1.length : Int) := of_decide_eq_true (by first | (with_reducible assumption) | assumption); obtain ⟨ad216, A216_0, c216_0, e216, hx216_0, hl216_0, hi216_0⟩ := at_L1 (Kd.V_reads' HO_1.out).2.2 x8_1 p216 q216; cases e216; obtain ⟨ce216, hce216, hMe216, hcc216⟩ := Kd.V_get HO_1.out [] x8_1 p216 (by first | exact q216 | exact of_decide_eq_true (by first | (with_reducible assumption) | assumption) | (have e_ := (Kd.V_reads' HO_1.out).1; omega)); obtain ⟨ua216_0, uc216_0, rfl, ul216_0, ge216_0⟩ := Kd.FK_slice_open hMe216; have hv216_0 := hcc216 0 _ rfl; rw [Nat.add_zero, show ((Kd.slice 3 (Kd.int .i64))).sz = 1 from rfl, Nat.mul_one] at hv216_0; replace hv216_0 := Option.some.inj (hv216_0.symm.trans hx216_0); injection hv216_0 with hva_ hvn_ hvc_; rw [hva_] at ge216_0; rw [hvc_] at ul216_0; have HL216_0 := Aside0.mk (show Kd.V (Kd.int .i64) 3 _ w.heap.size _ _ (rd_L1 l1 x8_1) from Kd.V_mk ul216_0 ge216_0); clear hva_ hvn_ hvc_ ge216_0 ul216_0; clear hcc216 hce216; have HR216_0 := Aside0.mk hi216_0; have HC216_0 := Aside0.mk hl216_0; clear hi216_0 hl216_0; replace p216 := eq_true p216; replace q216 := eq_true q216; obtain ⟨Ao20, co20, eo20⟩ := Kd.N_slice HO_6.out; subst eo20) | ((with_reducible refine gate_callee (f := 37) rfl ?_); refine goesL_ (some 34) rfl rfl Try.func37 (by kernel_rfl) rfl #[.slice Ao20 x6_1.length co20, .slice A216_0 (rd_L1 l1 x8_1).length c216_0] rfl (by (try simp only [List.map_toArray, List.map_cons, List.map_nil]); first | done | rfl | (simp only [List.length_drop, List.length_take]; rfl)) ?_; (with_reducible refine (backreachref17_Follows.calls k1 _ _ x6_1 _ _ (rd_L1 l1 x8_1) true _ ?side1 ?side2 ?side3 ?side4 A15.out).mono ?_); (case side1 => repeat (first | exact (Kd.N_reads' HO_6.out).2.2 | (with_reducible refine Kd.C_alloc ?_ _) | (with_reducible refine Kd.C_drewN ?_ _) | (with_reducible refine Kd.C_drew ?_))); (case side2 => exact (Kd.N_reads' HO_6.out).2.1); (case side3 => repeat (first | exact (by repeat (first | (with_reducible exact HR216_0.out) | (with_reducible refine Kd.C_alloc ?_ _) | (with_reducible refine Kd.C_drewN ?_ _) | (with_reducible refine Kd.C_drew ?_) | exact HR216_0.out)) | (with_reducible refine Kd.C_alloc ?_ _) | (with_reducible refine Kd.C_drewN ?_ _) | (with_reducible refine Kd.C_drew ?_))); (case side4 => exact HC216_0.out); rintro e w21 ⟨rfl, hb⟩; refine ⟨_, rfl, ?_⟩; have n0_ := Aside0.mk (Kd.V_below (by (with_reducible repeat (first | apply Kd.V_alloc | apply Kd.V_drewN | apply Kd.V_drew)); exact HO_1.out) hb); have n1_ := Aside0.mk (Kd.N_below (by (with_reducible repeat (first | apply Kd.N_alloc | apply Kd.N_drewN | apply Kd.N_drew)); exact HO_6.out) hb); have n2_ := Aside0.mk (Kd.V_below (by (with_reducible repeat (first | apply Kd.V_alloc | apply Kd.V_drewN | apply Kd.V_drew)); exact HO214.out) hb); have n3_ := Aside0.mk (Kd.V_below (by (with_reducible repeat (first | apply Kd.V_alloc | apply Kd.V_drewN | apply Kd.V_drew)); exact HL216_0.out) hb); have n4_ := Aside0.mk (Kd.C_below (by repeat (first | (with_reducible exact HR216_0.out) | (with_reducible refine Kd.C_alloc ?_ _) | (with_reducible refine Kd.C_drewN ?_ _) | (with_reducible refine Kd.C_drew ?_) | exact HR216_0.out)) hb); have n5_ := Aside0.mk (below_step (by repeat (first | (with_reducible first | exact HB.out | apply below_alloc | apply pw_below_drewN | apply below_drew1) | exact HB.out)) hb); clear HO_1; clear HO_6; clear HO214; clear HL216_0; clear HR216_0; clear HB; have HO_1 := n0_; have HO_6 := n1_; have HO214 := n2_; have HL216_0 := n3_; have HR216_0 := n4_; have HB := n5_; clear n0_ n1_ n2_ n3_ n4_ n5_; (try clear hb); (try clear hb2); (try clear hk); (try clear hi); have p218 : 0 ≤ (x8_1 : Int) := of_decide_eq_true (by first | (with_reducible assumption) | assumption); have q218 : x8_1 < (l1.length : Int) := of_decide_eq_true (by first | (with_reducible assumption) | assumption); obtain ⟨ad218, A218_0, c218_0, e218, hx218_0, hl218_0, hi218_0⟩ := at_L1 (Kd.V_reads' HO_1.out).2.2 x8_1 p218 q218; obtain rfl : ad216 = ad218 := (by injection e218); obtain ⟨ce218, hce218, hMe218, hcc218⟩ := Kd.V_get HO_1.out [] x8_1 p218 (by first | exact q218 | exact of_decide_eq_true (by first | (with_reducible assumption) | assumption) | (have e_ := (Kd.V_reads' HO_1.out).1; omega)); obtain ⟨ua218_0, uc218_0, rfl, ul218_0, ge218_0⟩ := Kd.FK_slice_open hMe218; have hv218_0 := hcc218 0 _ rfl; rw [Nat.add_zero, show ((Kd.slice 3 (Kd.int .i64))).sz = 1 from rfl, Nat.mul_one] at hv218_0; replace hv218_0 := Option.some.inj (hv218_0.symm.trans hx218_0); injection hv218_0 with hva_ hvn_ hvc_; rw [hva_] at ge218_0; rw [hvc_] at ul218_0; have HL218_0 := Aside0.mk (show Kd.V (Kd.int .i64) 3 _ w.heap.size _ _ (rd_L1 l1 x8_1) from Kd.V_mk ul218_0 ge218_0); clear hva_ hvn_ hvc_ ge218_0 ul218_0; clear hcc218 hce218; have HR218_0 := Aside0.mk hi218_0; have HC218_0 := Aside0.mk hl218_0; clear hi218_0 hl218_0; replace p218 := eq_true p218; replace q218 := eq_true q218) | ((with_reducible refine gate_builtin (b := .append) (xs := #[.tmp 46, .tmp 51]) rfl ?_); (try (refine gate_guard (by rfl) ?_; dsimp only)); at_builtin; refine Kd.N_append (Kd.slice 3 (Kd.int .i64)) (w0 := w) w.heap.size rfl (.tmp 46) (.tmp 51) 22 35 (.slice none 0 0) 24 rfl Try.underlying22 info35 rfl (by decide) (by omega) (.slice Ao20 x6_1.length co20) x6_1 (rd_L1 l1 x8_1) [.slice A218_0 (rd_L1 l1 x8_1).length c218_0] (fun k_ => ((P0_ k_ ∨ P1_ k_) ∨ w.heap.size ≤ k_)) (fun k_ => ((fun k_ => ((P0_ k_ ∨ P1_ k_) ∨ w.heap.size ≤ k_))) k_ ∧ some k_ ≠ (.slice Ao20 x6_1.length co20 : Value).ownBlock) rfl rfl ?aP (fun _ hk => hk) ?aF ?aO ?aB ?aS ?aL ?_; (case aP => exact (Kd.FK_slice_mk (Kd.V_reads' (Kd.V_mono (ok' := (fun k_ => ((fun k_ => ((P0_ k_ ∨ P1_ k_) ∨ w.heap.size ≤ k_))) k_ ∧ some k_ ≠ (.slice Ao20 x6_1.length co20 : Value).ownBlock)) (HL218_0.out) (fun k_ hk => ⟨hk.1, hk.2⟩))).2.1 (Kd.V_F (Kd.V_mono (ok' := (fun k_ => ((fun k_ => ((P0_ k_ ∨ P1_ k_) ∨ w.heap.size ≤ k_))) k_ ∧ some k_ ≠ (.slice Ao20 x6_1.length co20 : Value).ownBlock)) (HL218_0.out) (fun k_ hk => ⟨hk.1, hk.2⟩))))); (case aB => exact (by repeat (first | (with_reducible first | exact HB.out | apply below_alloc | apply pw_below_drewN | apply below_drew1) | exact HB.out))); (case aF => exact (fun k_ hk => (.inr (Nat.le_trans (below_size (by repeat (first | (with_reducible first | exact HB.out | apply below_alloc | apply pw_below_drewN | apply below_drew1) | exact HB.out))) hk)))); (case aO => exact (by (with_reducible repeat (first | apply Kd.N_alloc | apply Kd.N_drewN | apply Kd.N_drew)); exact HO_6.out)); (case aS => exact (below_size (by repeat (first | (with_reducible first | exact HB.out | apply below_alloc | apply pw_below_drewN | apply below_drew1) | exact HB.out)))); (case aL => have := LMc18.out; omega); intro v220 w22 ho hb hg hat; rw [← Ny219.out] at ho; have n0_ := Aside0.mk (Kd.V_afterv (ok := (fun k_ => ((P0_ k_ ∨ P1_ k_) ∨ w.heap.size ≤ k_))) (by (with_reducible repeat (first | apply Kd.V_alloc | apply Kd.V_drewN | apply Kd.V_drew)); exact HO_1.out) hg hat); have n1_ := Aside0.mk (Kd.V_afterv (ok := (fun k_ => ((P0_ k_ ∨ P1_ k_) ∨ w.heap.size ≤ k_))) (by (with_reducible repeat (first | apply Kd.V_alloc | apply Kd.V_drewN | apply Kd.V_drew)); exact HO214.out) hg hat); have n2_ := Aside0.mk (Kd.V_afterv (ok := (fun k_ => ((P0_ k_ ∨ P1_ k_) ∨ w.heap.size ≤ k_))) (by (with_reducible repeat (first | apply Kd.V_alloc | apply Kd.V_drewN | apply Kd.V_drew)); exact HL216_0.out) hg hat); have n3_ := Aside0.mk (Kd.V_afterv (ok := (fun k_ => ((P0_ k_ ∨ P1_ k_) ∨ w.heap.size ≤ k_))) (by (with_reducible repeat (first | apply Kd.V_alloc | apply Kd.V_drewN | apply Kd.V_drew)); exact HL218_0.out) hg hat); have n4_ := Aside0.mk (hb); have n5_ := Aside0.mk (ho); clear HO_1; clear HO214; clear HL216_0; clear HL218_0; clear HB; clear HO_6; have HO_1 := n0_; have HO214 := n1_; have HL216_0 := n2_; have HL218_0 := n3_; have HB := n4_; have HO221 := n5_; clear n0_ n1_ n2_ n3_ n4_ n5_; clear ho hb hg hat))
                          go_roundg k1
                          case measure => have := HK1.out; omega
                          case rel => exact ⟨(y219), (true), (wrap64 (x8_1 + 1)), (by first | rfl | (simp; done) | (simp [*]; done)), (by first | rfl | (simp; done) | (simp [*]; done)), H', ⟨by have := HK1.out; omega⟩, ⟨by (with_reducible repeat (first | apply Kd.V_alloc | apply Kd.V_drewN | apply Kd.V_drew)); exact HO_1.out⟩, ⟨by (with_reducible repeat (first | apply Kd.N_alloc | apply Kd.N_drewN | apply Kd.N_drew)); exact HO221.out⟩, ⟨by repeat (first | (with_reducible first | exact HB.out | apply below_alloc | apply pw_below_drewN | apply below_drew1) | exact HB.out)⟩⟩
                        · rw [if_neg c18] at H
                          exact absurd H (by simp)
                      · replace c17 := Bool.eq_false_iff.mpr c17
                        subst c17
                        have H1 : (if x6_1.length < 5864062014805 then (backreachref18_Check.l0 k1 l1 (x6_1 ++ [rd_L1 l1 x8_1]) (((rd_L1 l1 x8_1).length : Int) == 0) (wrap64 (x8_1 + 1))) else (none)) = some (r1, r2) := by rw [if_neg (show ¬ (false = true) by decide)] at H; exact H
                        clear H
                        have H := H1
                        clear H1
                        by_cases c23 : x6_1.length < 5864062014805
                        · rw [if_pos c23] at H
                          have LMc23 := Aside0.mk c23
                          clear c23
                          obtain ⟨y224, hy224⟩ : ∃ y_ : List (List Int), y_ = (x6_1 ++ [rd_L1 l1 x8_1]) := ⟨_, rfl⟩
                          replace H : (backreachref18_Check.l0 k1 l1 y224 (((rd_L1 l1 x8_1).length : Int) == 0) (wrap64 (x8_1 + 1))) = some (r1, r2) := by first | (rw [hy224]; with_reducible exact H) | (have H2_ := (Option.bind_some _ _).symm.trans H; rw [hy224]; with_reducible exact H2_) | (have H2_ := (Option.bind_some _ _).symm.trans H; with_reducible exact H2_) | with_reducible exact H | (rw [hy224]; exact H) | exact H
                          have Ny224 := Aside0.mk hy224
                          clear hy224
                          have H' := Aside0.mk H
                          clear H
                          have q24 : ((wrap64 (x8_1 + 1)) : Int) ≤ ((l1.length : Int) : Int) := of_decide_eq_true (by first | (with_reducible assumption) | assumption)
                          obtain ⟨i024, hi024, _, hsz24, _⟩ := info_parts info35
                          have hroom24 : l1.length ≤ c1 := (Kd.V_reads' HO_1.out).2.1
                          have hC24 : Kd.F (Kd.slice 3 (Kd.int .i64)) _ _ A1 l1.length l1 := (Kd.V_at (base := w.heap.size) HO_1.out).2.2
                          have ql24 : (x8_1 : Int) ≤ ((wrap64 (x8_1 + 1)) : Int) := of_decide_eq_true (by first | (with_reducible assumption) | assumption)
                          have q024 : (0 : Int) ≤ (x8_1 : Int) := of_decide_eq_true (by first | (with_reducible assumption) | assumption)
                          have hcut24 := cut_mid (P := Try.prog) 22 35 .i64 .i64 Try.underlying22 hi024 1 hsz24 A1 l1.length c1 x8_1 (wrap64 (x8_1 + 1)) q024 ql24 q24 hroom24
                          have hr24 := Kd.F_mid (lo := (x8_1 : Int).toNat) (hi := ((wrap64 (x8_1 + 1)) : Int).toNat) (c := c1) hC24 (by omega) (by omega) hroom24
                          obtain ⟨A24, hA24⟩ : ∃ A_x, A_x = (if c1 = (x8_1 : Int).toNat then A1 else (A1 : Option Addr).map (·.add ((x8_1 : Int).toNat * 1))) := ⟨_, rfl⟩
                          obtain ⟨c24, hc24⟩ : ∃ c_x, c_x = c1 - (x8_1 : Int).toNat := ⟨_, rfl⟩
                          have hy24 : y210.length = ((wrap64 (x8_1 + 1)) : Int).toNat - (x8_1 : Int).toNat := (by rw [Ny210.out, List.length_drop, List.length_take] <;> omega)
                          rw [show ((l1).take ((wrap64 (x8_1 + 1)) : Int).toNat).drop (x8_1 : Int).toNat = y210 from Ny210.out.symm] at hr24
                          replace hr24 : Kd.F (Kd.slice 3 (Kd.int .i64)) _ _ A24 y210.length y210 := (by rw [hA24]; exact hr24)
                          rw [← hy24, ← hA24, ← hc24] at hcut24
                          have HO214 := Aside0.mk (show Kd.V (Kd.slice 3 (Kd.int .i64)) 35 _ w.heap.size _ (.slice A24 y210.length c24) y210 from Kd.V_mk (by rw [hy24, hc24]; exact Nat.sub_le_sub_right (Nat.le_trans (by omega) hroom24) _) hr24)
                          have HC214 := Aside0.mk (show y210.length ≤ c24 from by rw [hy24, hc24]; exact Nat.sub_le_sub_right (Nat.le_trans (by omega) hroom24) _)
                          clear hr24 hC24 hroom24 hi024 hsz24 hc24
                          have KY24 := Aside0.mk hy24
                          have KA24 := Aside0.mk hA24
                          clear hy24 hA24
                          replace q24 := eq_true q24
                          go_wp2_with (first | ((with_reducible refine gate_callee (f := 23) rfl ?_); refine goesL_ (some 26) rfl rfl Try.func23 (by kernel_rfl) rfl #[.slice A24 y210.length c24] rfl (by (try simp only [List.map_toArray, List.map_cons, List.map_nil]); first | done | rfl | (simp only [List.length_drop, List.length_take]; rfl)) ?_; (with_reducible refine (backreachref14_Right.calls k1 _ _ y210 true _ ?side1 ?side2 A13.out).mono ?_); (case side1 => repeat (first | exact (Kd.V_reads' HO214.out).2.2 | (with_reducible refine Kd.C_alloc ?_ _) | (with_reducible refine Kd.C_drewN ?_ _) | (with_reducible refine Kd.C_drew ?_))); (case side2 => exact (Kd.V_reads' HO214.out).2.1); rintro e w' ⟨rfl, ⟨nd, rfl⟩⟩; refine ⟨_, rfl, ?_⟩; have p216 : 0 ≤ (x8_1 : Int) := of_decide_eq_true (by first | (with_reducible assumption) | assumption); have q216 : x8_1 < (l1.length : Int) := of_decide_eq_true (by first | (with_reducible assumption) | assumption); obtain ⟨ad216, A216_0, c216_0, e216, hx216_0, hl216_0, hi216_0⟩ := at_L1 (Kd.V_reads' HO_1.out).2.2 x8_1 p216 q216; cases e216; obtain ⟨ce216, hce216, hMe216, hcc216⟩ := Kd.V_get HO_1.out [] x8_1 p216 (by first | exact q216 | exact of_decide_eq_true (by first | (with_reducible assumption) | assumption) | (have e_ := (Kd.V_reads' HO_1.out).1; omega)); obtain ⟨ua216_0, uc216_0, rfl, ul216_0, ge216_0⟩ := Kd.FK_slice_open hMe216; have hv216_0 := hcc216 0 _ rfl; rw [Nat.add_zero, show ((Kd.slice 3 (Kd.int .i64))).sz = 1 from rfl, Nat.mul_one] at hv216_0; replace hv216_0 := Option.some.inj (hv216_0.symm.trans hx216_0); injection hv216_0 with hva_ hvn_ hvc_; rw [hva_] at ge216_0; rw [hvc_] at ul216_0; have HL216_0 := Aside0.mk (show Kd.V (Kd.int .i64) 3 _ w.heap.size _ _ (rd_L1 l1 x8_1) from Kd.V_mk ul216_0 ge216_0); clear hva_ hvn_ hvc_ ge216_0 ul216_0; clear hcc216 hce216; have HR216_0 := Aside0.mk hi216_0; have HC216_0 := Aside0.mk hl216_0; clear hi216_0 hl216_0; replace p216 := eq_true p216; replace q216 := eq_true q216; obtain ⟨Ao25, co25, eo25⟩ := Kd.N_slice HO_6.out; subst eo25) | ((with_reducible refine gate_callee (f := 37) rfl ?_); refine goesL_ (some 34) rfl rfl Try.func37 (by kernel_rfl) rfl #[.slice Ao25 x6_1.length co25, .slice A216_0 (rd_L1 l1 x8_1).length c216_0] rfl (by (try simp only [List.map_toArray, List.map_cons, List.map_nil]); first | done | rfl | (simp only [List.length_drop, List.length_take]; rfl)) ?_; (with_reducible refine (backreachref17_Follows.calls k1 _ _ x6_1 _ _ (rd_L1 l1 x8_1) true _ ?side1 ?side2 ?side3 ?side4 A15.out).mono ?_); (case side1 => repeat (first | exact (Kd.N_reads' HO_6.out).2.2 | (with_reducible refine Kd.C_alloc ?_ _) | (with_reducible refine Kd.C_drewN ?_ _) | (with_reducible refine Kd.C_drew ?_))); (case side2 => exact (Kd.N_reads' HO_6.out).2.1); (case side3 => repeat (first | exact (by repeat (first | (with_reducible exact HR216_0.out) | (with_reducible refine Kd.C_alloc ?_ _) | (with_reducible refine Kd.C_drewN ?_ _) | (with_reducible refine Kd.C_drew ?_) | exact HR216_0.out)) | (with_reducible refine Kd.C_alloc ?_ _) | (with_reducible refine Kd.C_drewN ?_ _) | (with_reducible refine Kd.C_drew ?_))); (case side4 => exact HC216_0.out); rintro e w26 ⟨rfl, hb⟩; refine ⟨_, rfl, ?_⟩; have n0_ := Aside0.mk (Kd.V_below (by (with_reducible repeat (first | apply Kd.V_alloc | apply Kd.V_drewN | apply Kd.V_drew)); exact HO_1.out) hb); have n1_ := Aside0.mk (Kd.N_below (by (with_reducible repeat (first | apply Kd.N_alloc | apply Kd.N_drewN | apply Kd.N_drew)); exact HO_6.out) hb); have n2_ := Aside0.mk (Kd.V_below (by (with_reducible repeat (first | apply Kd.V_alloc | apply Kd.V_drewN | apply Kd.V_drew)); exact HO214.out) hb); have n3_ := Aside0.mk (Kd.V_below (by (with_reducible repeat (first | apply Kd.V_alloc | apply Kd.V_drewN | apply Kd.V_drew)); exact HL216_0.out) hb); have n4_ := Aside0.mk (Kd.C_below (by repeat (first | (with_reducible exact HR216_0.out) | (with_reducible refine Kd.C_alloc ?_ _) | (with_reducible refine Kd.C_drewN ?_ _) | (with_reducible refine Kd.C_drew ?_) | exact HR216_0.out)) hb); have n5_ := Aside0.mk (below_step (by repeat (first | (with_reducible first | exact HB.out | apply below_alloc | apply pw_below_drewN | apply below_drew1) | exact HB.out)) hb); clear HO_1; clear HO_6; clear HO214; clear HL216_0; clear HR216_0; clear HB; have HO_1 := n0_; have HO_6 := n1_; have HO214 := n2_; have HL216_0 := n3_; have HR216_0 := n4_; have HB := n5_; clear n0_ n1_ n2_ n3_ n4_ n5_; (try clear hb); (try clear hb2); (try clear hk); (try clear hi); have p222 : 0 ≤ (x8_1 : Int) := of_decide_eq_true (by first | (with_reducible assumption) | assumption); have q222 : x8_1 < (l1.length : Int) := of_decide_eq_true (by first | (with_reducible assumption) | assumption); obtain ⟨ad222, A222_0, c222_0, e222, hx222_0, hl222_0, hi222_0⟩ := at_L1 (Kd.V_reads' HO_1.out).2.2 x8_1 p222 q222; obtain rfl : ad216 = ad222 := (by injection e222); obtain ⟨ce222, hce222, hMe222, hcc222⟩ := Kd.V_get HO_1.out [] x8_1 p222 (by first | exact q222 | exact of_decide_eq_true (by first | (with_reducible assumption) | assumption) | (have e_ := (Kd.V_reads' HO_1.out).1; omega)); obtain ⟨ua222_0, uc222_0, rfl, ul222_0, ge222_0⟩ := Kd.FK_slice_open hMe222; have hv222_0 := hcc222 0 _ rfl; rw [Nat.add_zero, show ((Kd.slice 3 (Kd.int .i64))).sz = 1 from rfl, Nat.mul_one] at hv222_0; replace hv222_0 := Option.some.inj (hv222_0.symm.trans hx222_0); injection hv222_0 with hva_ hvn_ hvc_; rw [hva_] at ge222_0; rw [hvc_] at ul222_0; have HL222_0 := Aside0.mk (show Kd.V (Kd.int .i64) 3 _ w.heap.size _ _ (rd_L1 l1 x8_1) from Kd.V_mk ul222_0 ge222_0); clear hva_ hvn_ hvc_ ge222_0 ul222_0; clear hcc222 hce222; have HR222_0 := Aside0.mk hi222_0; have HC222_0 := Aside0.mk hl222_0; clear hi222_0 hl222_0; replace p222 := eq_true p222; replace q222 := eq_true q222; have p223 : 0 ≤ (x8_1 : Int) := of_decide_eq_true (by first | (with_reducible assumption) | assumption); have q223 : x8_1 < (l1.length : Int) := of_decide_eq_true (by first | (with_reducible assumption) | assumption); obtain ⟨ad223, A223_0, c223_0, e223, hx223_0, hl223_0, hi223_0⟩ := at_L1 (Kd.V_reads' HO_1.out).2.2 x8_1 p223 q223; obtain rfl : ad216 = ad223 := (by injection e223); obtain ⟨ce223, hce223, hMe223, hcc223⟩ := Kd.V_get HO_1.out [] x8_1 p223 (by first | exact q223 | exact of_decide_eq_true (by first | (with_reducible assumption) | assumption) | (have e_ := (Kd.V_reads' HO_1.out).1; omega)); obtain ⟨ua223_0, uc223_0, rfl, ul223_0, ge223_0⟩ := Kd.FK_slice_open hMe223; have hv223_0 := hcc223 0 _ rfl; rw [Nat.add_zero, show ((Kd.slice 3 (Kd.int .i64))).sz = 1 from rfl, Nat.mul_one] at hv223_0; replace hv223_0 := Option.some.inj (hv223_0.symm.trans hx223_0); injection hv223_0 with hva_ hvn_ hvc_; rw [hva_] at ge223_0; rw [hvc_] at ul223_0; have HL223_0 := Aside0.mk (show Kd.V (Kd.int .i64) 3 _ w.heap.size _ _ (rd_L1 l1 x8_1) from Kd.V_mk ul223_0 ge223_0); clear hva_ hvn_ hvc_ ge223_0 ul223_0; clear hcc223 hce223; have HR223_0 := Aside0.mk hi223_0; have HC223_0 := Aside0.mk hl223_0; clear hi223_0 hl223_0; replace p223 := eq_true p223; replace q223 := eq_true q223; have ea_ := Option.some.inj (hx222_0.symm.trans hx223_0); injection ea_ with ea_ en_ ec_; subst ea_; subst ec_; clear en_) | ((with_reducible refine gate_builtin (b := .append) (xs := #[.tmp 46, .tmp 51]) rfl ?_); (try (refine gate_guard (by rfl) ?_; dsimp only)); at_builtin; refine Kd.N_append (Kd.slice 3 (Kd.int .i64)) (w0 := w) w.heap.size rfl (.tmp 46) (.tmp 51) 22 35 (.slice none 0 0) 24 rfl Try.underlying22 info35 rfl (by decide) (by omega) (.slice Ao25 x6_1.length co25) x6_1 (rd_L1 l1 x8_1) [.slice A222_0 (rd_L1 l1 x8_1).length c222_0] (fun k_ => ((P0_ k_ ∨ P1_ k_) ∨ w.heap.size ≤ k_)) (fun k_ => ((fun k_ => ((P0_ k_ ∨ P1_ k_) ∨ w.heap.size ≤ k_))) k_ ∧ some k_ ≠ (.slice Ao25 x6_1.length co25 : Value).ownBlock) rfl rfl ?aP (fun _ hk => hk) ?aF ?aO ?aB ?aS ?aL ?_; (case aP => exact (Kd.FK_slice_mk (Kd.V_reads' (Kd.V_mono (ok' := (fun k_ => ((fun k_ => ((P0_ k_ ∨ P1_ k_) ∨ w.heap.size ≤ k_))) k_ ∧ some k_ ≠ (.slice Ao25 x6_1.length co25 : Value).ownBlock)) (HL223_0.out) (fun k_ hk => ⟨hk.1, hk.2⟩))).2.1 (Kd.V_F (Kd.V_mono (ok' := (fun k_ => ((fun k_ => ((P0_ k_ ∨ P1_ k_) ∨ w.heap.size ≤ k_))) k_ ∧ some k_ ≠ (.slice Ao25 x6_1.length co25 : Value).ownBlock)) (HL223_0.out) (fun k_ hk => ⟨hk.1, hk.2⟩))))); (case aB => exact (by repeat (first | (with_reducible first | exact HB.out | apply below_alloc | apply pw_below_drewN | apply below_drew1) | exact HB.out))); (case aF => exact (fun k_ hk => (.inr (Nat.le_trans (below_size (by repeat (first | (with_reducible first | exact HB.out | apply below_alloc | apply pw_below_drewN | apply below_drew1) | exact HB.out))) hk)))); (case aO => exact (by (with_reducible repeat (first | apply Kd.N_alloc | apply Kd.N_drewN | apply Kd.N_drew)); exact HO_6.out)); (case aS => exact (below_size (by repeat (first | (with_reducible first | exact HB.out | apply below_alloc | apply pw_below_drewN | apply below_drew1) | exact HB.out)))); (case aL => have := LMc23.out; omega); intro v225 w27 ho hb hg hat; rw [← Ny224.out] at ho; have n0_ := Aside0.mk (Kd.V_afterv (ok := (fun k_ => ((P0_ k_ ∨ P1_ k_) ∨ w.heap.size ≤ k_))) (by (with_reducible repeat (first | apply Kd.V_alloc | apply Kd.V_drewN | apply Kd.V_drew)); exact HO_1.out) hg hat); have n1_ := Aside0.mk (Kd.V_afterv (ok := (fun k_ => ((P0_ k_ ∨ P1_ k_) ∨ w.heap.size ≤ k_))) (by (with_reducible repeat (first | apply Kd.V_alloc | apply Kd.V_drewN | apply Kd.V_drew)); exact HO214.out) hg hat); have n2_ := Aside0.mk (Kd.V_afterv (ok := (fun k_ => ((P0_ k_ ∨ P1_ k_) ∨ w.heap.size ≤ k_))) (by (with_reducible repeat (first | apply Kd.V_alloc | apply Kd.V_drewN | apply Kd.V_drew)); exact HL216_0.out) hg hat); have n3_ := Aside0.mk (Kd.V_afterv (ok := (fun k_ => ((P0_ k_ ∨ P1_ k_) ∨ w.heap.size ≤ k_))) (by (with_reducible repeat (first | apply Kd.V_alloc | apply Kd.V_drewN | apply Kd.V_drew)); exact HL222_0.out) hg hat); have n4_ := Aside0.mk (Kd.V_afterv (ok := (fun k_ => ((P0_ k_ ∨ P1_ k_) ∨ w.heap.size ≤ k_))) (by (with_reducible repeat (first | apply Kd.V_alloc | apply Kd.V_drewN | apply Kd.V_drew)); exact HL223_0.out) hg hat); have n5_ := Aside0.mk (hb); have n6_ := Aside0.mk (ho); clear HO_1; clear HO214; clear HL216_0; clear HL222_0; clear HL223_0; clear HB; clear HO_6; have HO_1 := n0_; have HO214 := n1_; have HL216_0 := n2_; have HL222_0 := n3_; have HL223_0 := n4_; have HB := n5_; have HO226 := n6_; clear n0_ n1_ n2_ n3_ n4_ n5_ n6_; clear ho hb hg hat))
                          go_roundg k1
                          case measure => have := HK1.out; omega
                          case rel => exact ⟨(y224), ((((rd_L1 l1 x8_1).length : Int) == 0)), (wrap64 (x8_1 + 1)), (by first | rfl | (simp; done) | (simp [*]; done)), (by first | rfl | (simp; done) | (simp [*]; done)), H', ⟨by have := HK1.out; omega⟩, ⟨by (with_reducible repeat (first | apply Kd.V_alloc | apply Kd.V_drewN | apply Kd.V_drew)); exact HO_1.out⟩, ⟨by (with_reducible repeat (first | apply Kd.N_alloc | apply Kd.N_drewN | apply Kd.N_drew)); exact HO226.out⟩, ⟨by repeat (first | (with_reducible first | exact HB.out | apply below_alloc | apply pw_below_drewN | apply below_drew1) | exact HB.out)⟩⟩
                        · rw [if_neg c23] at H
                          exact absurd H (by simp)
                    · replace c16 := Bool.eq_false_iff.mpr c16
                      subst c16
                      have H1 : (some (14, x8_1)) = some (r1, r2) := by rw [if_neg (show ¬ (false = true) by decide)] at H; exact H
                      clear H
                      have H := H1
                      clear H1
                      simp only [Option.some.injEq, Prod.mk.injEq] at H
                      obtain ⟨rfl, rfl⟩ := H
                      have q28 : ((wrap64 (x8_1 + 1)) : Int) ≤ ((l1.length : Int) : Int) := of_decide_eq_true (by first | (with_reducible assumption) | assumption)
                      obtain ⟨i028, hi028, _, hsz28, _⟩ := info_parts info35
                      have hroom28 : l1.length ≤ c1 := (Kd.V_reads' HO_1.out).2.1
                      have hC28 : Kd.F (Kd.slice 3 (Kd.int .i64)) _ _ A1 l1.length l1 := (Kd.V_at (base := w.heap.size) HO_1.out).2.2
                      have ql28 : (x8_1 : Int) ≤ ((wrap64 (x8_1 + 1)) : Int) := of_decide_eq_true (by first | (with_reducible assumption) | assumption)
                      have q028 : (0 : Int) ≤ (x8_1 : Int) := of_decide_eq_true (by first | (with_reducible assumption) | assumption)
                      have hcut28 := cut_mid (P := Try.prog) 22 35 .i64 .i64 Try.underlying22 hi028 1 hsz28 A1 l1.length c1 x8_1 (wrap64 (x8_1 + 1)) q028 ql28 q28 hroom28
                      have hr28 := Kd.F_mid (lo := (x8_1 : Int).toNat) (hi := ((wrap64 (x8_1 + 1)) : Int).toNat) (c := c1) hC28 (by omega) (by omega) hroom28
                      obtain ⟨A28, hA28⟩ : ∃ A_x, A_x = (if c1 = (x8_1 : Int).toNat then A1 else (A1 : Option Addr).map (·.add ((x8_1 : Int).toNat * 1))) := ⟨_, rfl⟩
                      obtain ⟨c28, hc28⟩ : ∃ c_x, c_x = c1 - (x8_1 : Int).toNat := ⟨_, rfl⟩
                      have hy28 : y210.length = ((wrap64 (x8_1 + 1)) : Int).toNat - (x8_1 : Int).toNat := (by rw [Ny210.out, List.length_drop, List.length_take] <;> omega)
                      rw [show ((l1).take ((wrap64 (x8_1 + 1)) : Int).toNat).drop (x8_1 : Int).toNat = y210 from Ny210.out.symm] at hr28
                      replace hr28 : Kd.F (Kd.slice 3 (Kd.int .i64)) _ _ A28 y210.length y210 := (by rw [hA28]; exact hr28)
                      rw [← hy28, ← hA28, ← hc28] at hcut28
                      have HO214 := Aside0.mk (show Kd.V (Kd.slice 3 (Kd.int .i64)) 35 _ w.heap.size _ (.slice A28 y210.length c28) y210 from Kd.V_mk (by rw [hy28, hc28]; exact Nat.sub_le_sub_right (Nat.le_trans (by omega) hroom28) _) hr28)
                      have HC214 := Aside0.mk (show y210.length ≤ c28 from by rw [hy28, hc28]; exact Nat.sub_le_sub_right (Nat.le_trans (by omega) hroom28) _)
                      clear hr28 hC28 hroom28 hi028 hsz28 hc28
                      have KY28 := Aside0.mk hy28
                      have KA28 := Aside0.mk hA28
                      clear hy28 hA28
                      replace q28 := eq_true q28
                      go_wp2_with (first | ((with_reducible refine gate_callee (f := 23) rfl ?_); refine goesL_ (some 26) rfl rfl Try.func23 (by kernel_rfl) rfl #[.slice A28 y210.length c28] rfl (by (try simp only [List.map_toArray, List.map_cons, List.map_nil]); first | done | rfl | (simp only [List.length_drop, List.length_take]; rfl)) ?_; (with_reducible refine (backreachref14_Right.calls k1 _ _ y210 true _ ?side1 ?side2 A13.out).mono ?_); (case side1 => repeat (first | exact (Kd.V_reads' HO214.out).2.2 | (with_reducible refine Kd.C_alloc ?_ _) | (with_reducible refine Kd.C_drewN ?_ _) | (with_reducible refine Kd.C_drew ?_))); (case side2 => exact (Kd.V_reads' HO214.out).2.1); rintro e w' ⟨rfl, ⟨nd, rfl⟩⟩; refine ⟨_, rfl, ?_⟩; have p216 : 0 ≤ (x8_1 : Int) := of_decide_eq_true (by first | (with_reducible assumption) | assumption); have q216 : x8_1 < (l1.length : Int) := of_decide_eq_true (by first | (with_reducible assumption) | assumption); obtain ⟨ad216, A216_0, c216_0, e216, hx216_0, hl216_0, hi216_0⟩ := at_L1 (Kd.V_reads' HO_1.out).2.2 x8_1 p216 q216; cases e216; obtain ⟨ce216, hce216, hMe216, hcc216⟩ := Kd.V_get HO_1.out [] x8_1 p216 (by first | exact q216 | exact of_decide_eq_true (by first | (with_reducible assumption) | assumption) | (have e_ := (Kd.V_reads' HO_1.out).1; omega)); obtain ⟨ua216_0, uc216_0, rfl, ul216_0, ge216_0⟩ := Kd.FK_slice_open hMe216; have hv216_0 := hcc216 0 _ rfl; rw [Nat.add_zero, show ((Kd.slice 3 (Kd.int .i64))).sz = 1 from rfl, Nat.mul_one] at hv216_0; replace hv216_0 := Option.some.inj (hv216_0.symm.trans hx216_0); injection hv216_0 with hva_ hvn_ hvc_; rw [hva_] at ge216_0; rw [hvc_] at ul216_0; have HL216_0 := Aside0.mk (show Kd.V (Kd.int .i64) 3 _ w.heap.size _ _ (rd_L1 l1 x8_1) from Kd.V_mk ul216_0 ge216_0); clear hva_ hvn_ hvc_ ge216_0 ul216_0; clear hcc216 hce216; have HR216_0 := Aside0.mk hi216_0; have HC216_0 := Aside0.mk hl216_0; clear hi216_0 hl216_0; replace p216 := eq_true p216; replace q216 := eq_true q216; obtain ⟨Ao29, co29, eo29⟩ := Kd.N_slice HO_6.out; subst eo29) | ((with_reducible refine gate_callee (f := 37) rfl ?_); refine goesL_ (some 34) rfl rfl Try.func37 (by kernel_rfl) rfl #[.slice Ao29 x6_1.length co29, .slice A216_0 (rd_L1 l1 x8_1).length c216_0] rfl (by (try simp only [List.map_toArray, List.map_cons, List.map_nil]); first | done | rfl | (simp only [List.length_drop, List.length_take]; rfl)) ?_; (with_reducible refine (backreachref17_Follows.calls k1 _ _ x6_1 _ _ (rd_L1 l1 x8_1) false _ ?side1 ?side2 ?side3 ?side4 A15.out).mono ?_); (case side1 => repeat (first | exact (Kd.N_reads' HO_6.out).2.2 | (with_reducible refine Kd.C_alloc ?_ _) | (with_reducible refine Kd.C_drewN ?_ _) | (with_reducible refine Kd.C_drew ?_))); (case side2 => exact (Kd.N_reads' HO_6.out).2.1); (case side3 => repeat (first | exact (by repeat (first | (with_reducible exact HR216_0.out) | (with_reducible refine Kd.C_alloc ?_ _) | (with_reducible refine Kd.C_drewN ?_ _) | (with_reducible refine Kd.C_drew ?_) | exact HR216_0.out)) | (with_reducible refine Kd.C_alloc ?_ _) | (with_reducible refine Kd.C_drewN ?_ _) | (with_reducible refine Kd.C_drew ?_))); (case side4 => exact HC216_0.out); rintro e w30 ⟨rfl, hb⟩; refine ⟨_, rfl, ?_⟩; have n0_ := Aside0.mk (Kd.V_below (by (with_reducible repeat (first | apply Kd.V_alloc | apply Kd.V_drewN | apply Kd.V_drew)); exact HO_1.out) hb); have n1_ := Aside0.mk (Kd.N_below (by (with_reducible repeat (first | apply Kd.N_alloc | apply Kd.N_drewN | apply Kd.N_drew)); exact HO_6.out) hb); have n2_ := Aside0.mk (Kd.V_below (by (with_reducible repeat (first | apply Kd.V_alloc | apply Kd.V_drewN | apply Kd.V_drew)); exact HO214.out) hb); have n3_ := Aside0.mk (Kd.V_below (by (with_reducible repeat (first | apply Kd.V_alloc | apply Kd.V_drewN | apply Kd.V_drew)); exact HL216_0.out) hb); have n4_ := Aside0.mk (Kd.C_below (by repeat (first | (with_reducible exact HR216_0.out) | (with_reducible refine Kd.C_alloc ?_ _) | (with_reducible refine Kd.C_drewN ?_ _) | (with_reducible refine Kd.C_drew ?_) | exact HR216_0.out)) hb); have n5_ := Aside0.mk (below_step (by repeat (first | (with_reducible first | exact HB.out | apply below_alloc | apply pw_below_drewN | apply below_drew1) | exact HB.out)) hb); clear HO_1; clear HO_6; clear HO214; clear HL216_0; clear HR216_0; clear HB; have HO_1 := n0_; have HO_6 := n1_; have HO214 := n2_; have HL216_0 := n3_; have HR216_0 := n4_; have HB := n5_; clear n0_ n1_ n2_ n3_ n4_ n5_; (try clear hb); (try clear hb2); (try clear hk); (try clear hi)))
                      go_ret2
                      exact ⟨by first | rfl | (simp [errW_none, errW_some] <;> rfl) | (simp [*, errW_none, errW_some] <;> rfl), by repeat (first | (with_reducible first | exact HB.out | apply below_alloc | apply pw_below_drewN | apply below_drew1) | exact HB.out)⟩
                  · replace c14 := Bool.eq_false_iff.mpr c14
                    subst c14
                    have H1 : (some (3, x8_1)) = some (r1, r2) := by rw [if_neg (show ¬ (false = true) by decide)] at H; exact H
                    clear H
                    have H := H1
                    clear H1
                    simp only [Option.some.injEq, Prod.mk.injEq] at H
                    obtain ⟨rfl, rfl⟩ := H
                    have q31 : ((wrap64 (x8_1 + 1)) : Int) ≤ ((l1.length : Int) : Int) := of_decide_eq_true (by first | (with_reducible assumption) | assumption)
                    obtain ⟨i031, hi031, _, hsz31, _⟩ := info_parts info35
                    have hroom31 : l1.length ≤ c1 := (Kd.V_reads' HO_1.out).2.1
                    have hC31 : Kd.F (Kd.slice 3 (Kd.int .i64)) _ _ A1 l1.length l1 := (Kd.V_at (base := w.heap.size) HO_1.out).2.2
                    have ql31 : (x8_1 : Int) ≤ ((wrap64 (x8_1 + 1)) : Int) := of_decide_eq_true (by first | (with_reducible assumption) | assumption)
                    have q031 : (0 : Int) ≤ (x8_1 : Int) := of_decide_eq_true (by first | (with_reducible assumption) | assumption)
                    have hcut31 := cut_mid (P := Try.prog) 22 35 .i64 .i64 Try.underlying22 hi031 1 hsz31 A1 l1.length c1 x8_1 (wrap64 (x8_1 + 1)) q031 ql31 q31 hroom31
                    have hr31 := Kd.F_mid (lo := (x8_1 : Int).toNat) (hi := ((wrap64 (x8_1 + 1)) : Int).toNat) (c := c1) hC31 (by omega) (by omega) hroom31
                    obtain ⟨A31, hA31⟩ : ∃ A_x, A_x = (if c1 = (x8_1 : Int).toNat then A1 else (A1 : Option Addr).map (·.add ((x8_1 : Int).toNat * 1))) := ⟨_, rfl⟩
                    obtain ⟨c31, hc31⟩ : ∃ c_x, c_x = c1 - (x8_1 : Int).toNat := ⟨_, rfl⟩
                    have hy31 : y210.length = ((wrap64 (x8_1 + 1)) : Int).toNat - (x8_1 : Int).toNat := (by rw [Ny210.out, List.length_drop, List.length_take] <;> omega)
                    rw [show ((l1).take ((wrap64 (x8_1 + 1)) : Int).toNat).drop (x8_1 : Int).toNat = y210 from Ny210.out.symm] at hr31
                    replace hr31 : Kd.F (Kd.slice 3 (Kd.int .i64)) _ _ A31 y210.length y210 := (by rw [hA31]; exact hr31)
                    rw [← hy31, ← hA31, ← hc31] at hcut31
                    have HO214 := Aside0.mk (show Kd.V (Kd.slice 3 (Kd.int .i64)) 35 _ w.heap.size _ (.slice A31 y210.length c31) y210 from Kd.V_mk (by rw [hy31, hc31]; exact Nat.sub_le_sub_right (Nat.le_trans (by omega) hroom31) _) hr31)
                    have HC214 := Aside0.mk (show y210.length ≤ c31 from by rw [hy31, hc31]; exact Nat.sub_le_sub_right (Nat.le_trans (by omega) hroom31) _)
                    clear hr31 hC31 hroom31 hi031 hsz31 hc31
                    have KY31 := Aside0.mk hy31
                    have KA31 := Aside0.mk hA31
                    clear hy31 hA31
                    replace q31 := eq_true q31
                    go_wp2_with (first | ((with_reducible refine gate_callee (f := 23) rfl ?_); refine goesL_ (some 26) rfl rfl Try.func23 (by kernel_rfl) rfl #[.slice A31 y210.length c31] rfl (by (try simp only [List.map_toArray, List.map_cons, List.map_nil]); first | done | rfl | (simp only [List.length_drop, List.length_take]; rfl)) ?_; (with_reducible refine (backreachref14_Right.calls k1 _ _ y210 false _ ?side1 ?side2 A13.out).mono ?_); (case side1 => repeat (first | exact (Kd.V_reads' HO214.out).2.2 | (with_reducible refine Kd.C_alloc ?_ _) | (with_reducible refine Kd.C_drewN ?_ _) | (with_reducible refine Kd.C_drew ?_))); (case side2 => exact (Kd.V_reads' HO214.out).2.1); rintro e w' ⟨rfl, ⟨nd, rfl⟩⟩; refine ⟨_, rfl, ?_⟩))
                    go_ret2
                    exact ⟨by first | rfl | (simp [errW_none, errW_some] <;> rfl) | (simp [*, errW_none, errW_some] <;> rfl), by repeat (first | (with_reducible first | exact HB.out | apply below_alloc | apply pw_below_drewN | apply below_drew1) | exact HB.out)⟩
                · rw [if_neg c12] at H
                  exact absurd H (by simp)
              · rw [if_neg c11] at H
                exact absurd H (by simp)
            · rw [if_neg c10] at H
              exact absurd H (by simp)
          · rw [if_neg c9] at H
            have c9b0 : decide (x8_1 < (l1.length : Int)) = false := decide_eq_false c9
            clear c9
            by_cases c32 : x7_1 = true
            · subst c32
              have H1 : (some (0, 0)) = some (r1, r2) := by rw [if_pos rfl] at H; exact H
              clear H
              have H := H1
              clear H1
              simp only [Option.some.injEq, Prod.mk.injEq] at H
              obtain ⟨rfl, rfl⟩ := H
              go_wp2
              go_ret2
              exact ⟨by first | rfl | (simp [errW_none, errW_some] <;> rfl) | (simp [*, errW_none, errW_some] <;> rfl), by repeat (first | (with_reducible first | exact HB.out | apply below_alloc | apply pw_below_drewN | apply below_drew1) | exact HB.out)⟩
            · replace c32 := Bool.eq_false_iff.mpr c32
              subst c32
              have H1 : (some (11, (l1.length : Int))) = some (r1, r2) := by rw [if_neg (show ¬ (false = true) by decide)] at H; exact H
              clear H
              have H := H1
              clear H1
              simp only [Option.some.injEq, Prod.mk.injEq] at H
              obtain ⟨rfl, rfl⟩ := H
              go_wp2
              go_ret2
              exact ⟨by first | rfl | (simp [errW_none, errW_some] <;> rfl) | (simp [*, errW_none, errW_some] <;> rfl), by repeat (first | (with_reducible first | exact HB.out | apply below_alloc | apply pw_below_drewN | apply below_drew1) | exact HB.out)⟩
    · rw [if_neg c5] at H
      exact absurd H (by simp)
  · replace c4 := Bool.eq_false_iff.mpr c4
    subst c4
    have H1 : (some (3, 0)) = some (r1, r2) := by rw [if_neg (show ¬ (false = true) by decide)] at H; exact H
    clear H
    have H := H1
    clear H1
    simp only [Option.some.injEq, Prod.mk.injEq] at H
    obtain ⟨rfl, rfl⟩ := H
    go_enter Try.func15, Try.ntmps15
    go_wp2_with (first | ((with_reducible refine gate_callee (f := 23) rfl ?_); refine goesL_ (some 10) rfl rfl Try.func23 (by kernel_rfl) rfl #[.slice A0 l0.length c0] rfl (by (try simp only [List.map_toArray, List.map_cons, List.map_nil]); first | done | rfl | (simp only [List.length_drop, List.length_take]; rfl)) ?_; (with_reducible refine (backreachref14_Right.calls k _ _ l0 false _ ?side1 ?side2 A3.out).mono ?_); (case side1 => repeat (first | exact (Kd.V_reads' HO0.out).2.2 | (with_reducible refine Kd.C_alloc ?_ _) | (with_reducible refine Kd.C_drewN ?_ _) | (with_reducible refine Kd.C_drew ?_))); (case side2 => exact (Kd.V_reads' HO0.out).2.1); rintro e w' ⟨rfl, ⟨nd, rfl⟩⟩; refine ⟨_, rfl, ?_⟩))
    go_ret2
    exact ⟨by first | rfl | (simp [errW_none, errW_some] <;> rfl) | (simp [*, errW_none, errW_some] <;> rfl), by repeat (first | (with_reducible first | exact HB.out | apply below_alloc | apply pw_below_drewN | apply below_drew1) | exact HB.out)⟩

/-! ### backreachlaw18_ProofChecks: function 3 -/
def backreachlaw18_ProofChecks.j0 : Nat → List (List Int) → List (List Int) → Bool → Option (Bool)
  | 0, _, _, _ => none
  | k + 1, x0, x1, x18 => if x18 = true then (some true) else ((proof_Check.f x0 x1).bind fun bt230 => ((backreachref18_Check.f k x0 x1).bind fun bt232 => (if bt230.1 = bt232.1 then (some (bt230.2 == bt232.2)) else (some false))))
def backreachlaw18_ProofChecks.f (k : Nat) (l0 : List (List Int)) (l1 : List (List Int)) : Option (Bool) := (backreachlaw18_awake.f).bind fun t227 => (if t227 = true then ((backreachlaw18_few.f k l0).bind fun t228 => (if t228 = true then ((backreachlaw18_few.f k l1).bind fun t229 => (backreachlaw18_ProofChecks.j0 k l0 l1 (!t229))) else (backreachlaw18_ProofChecks.j0 k l0 l1 true))) else (some false))
theorem backreachlaw18_ProofChecks.mono_l : ∀ k, (∀ y0 y1 y2, LeO (backreachlaw18_ProofChecks.j0 k y0 y1 y2) (backreachlaw18_ProofChecks.j0 (k + 1) y0 y1 y2))
  | 0 => fun _ _ _ r h => by simp [backreachlaw18_ProofChecks.j0] at h
  | k + 1 => by
    have ih0 := backreachlaw18_ProofChecks.mono_l k
    · intro y0 y1 y2
      unfold backreachlaw18_ProofChecks.j0
      repeat' first
      | (with_reducible exact ih0 _ _ _)
      | (with_reducible exact backreachlaw18_few.mono _ _)
      | (with_reducible exact backreachref18_Check.mono _ _ _)
      | (with_reducible exact LeO.refl _)
      | (with_reducible exact LeO.none _)
      | (with_reducible refine LeO.ite ?_ ?_)
      | (with_reducible refine LeO.bind ?_ (fun _ => ?_))
      | exact ih0 _ _ _
      | exact backreachlaw18_few.mono _ _
      | exact backreachref18_Check.mono _ _ _
      | exact LeO.none _
      | refine LeO.ite ?_ ?_
      | refine LeO.bind ?_ (fun _ => ?_)
theorem backreachlaw18_ProofChecks.mono : ∀ a0 a1 k, LeO (backreachlaw18_ProofChecks.f k a0 a1) (backreachlaw18_ProofChecks.f (k + 1) a0 a1) := by
  intro a0 a1 k
  have ih0 := backreachlaw18_ProofChecks.mono_l k
  unfold backreachlaw18_ProofChecks.f
  repeat' first
      | (with_reducible exact ih0 _ _ _)
      | (with_reducible exact backreachlaw18_few.mono _ _)
      | (with_reducible exact backreachref18_Check.mono _ _ _)
      | (with_reducible exact LeO.refl _)
      | (with_reducible exact LeO.none _)
      | (with_reducible refine LeO.ite ?_ ?_)
      | (with_reducible refine LeO.bind ?_ (fun _ => ?_))
      | exact ih0 _ _ _
      | exact backreachlaw18_few.mono _ _
      | exact backreachref18_Check.mono _ _ _
      | exact LeO.none _
      | refine LeO.ite ?_ ?_
      | refine LeO.bind ?_ (fun _ => ?_)
set_option maxHeartbeats 8000000 in
set_option maxRecDepth 100000 in
theorem backreachlaw18_ProofChecks.calls (k : Nat) (A0 : Option Addr) (c0 : Nat) (l0 : List (List Int)) (A1 : Option Addr) (c1 : Nat) (l1 : List (List Int)) (r : Bool) (w : World) (hr0 : Kd.C (Kd.slice 3 (Kd.int .i64)) w A0 l0.length l0) (hc0 : l0.length ≤ c0) (hr1 : Kd.C (Kd.slice 3 (Kd.int .i64)) w A1 l1.length l1) (hc1 : l1.length ≤ c1) (h : backreachlaw18_ProofChecks.f k l0 l1 = some r) :
    Calls Try.prog 3 #[.slice A0 l0.length c0, .slice A1 l1.length c1] w fun e w' => e = .returned (.bool r) ∧ Below w.heap.size w w' := by
  have HR0 := Aside0.mk hr0
  have HC0 := Aside0.mk hc0
  clear hr0 hc0
  have HR1 := Aside0.mk hr1
  have HC1 := Aside0.mk hc1
  clear hr1 hc1
  have HB := Aside0.mk (Below.refl w.heap.size w)
  have H : ((backreachlaw18_awake.f).bind fun t227 => (if t227 = true then ((backreachlaw18_few.f k l0).bind fun t228 => (if t228 = true then ((backreachlaw18_few.f k l1).bind fun t229 => (backreachlaw18_ProofChecks.j0 k l0 l1 (!t229))) else (backreachlaw18_ProofChecks.j0 k l0 l1 true))) else (some false))) = some r := h
  clear h
  replace H := Option.bind_eq_some_iff.mp H
  obtain ⟨t227, A30, H⟩ := H
  replace H : (if t227 = true then ((backreachlaw18_few.f k l0).bind fun t228 => (if t228 = true then ((backreachlaw18_few.f k l1).bind fun t229 => (backreachlaw18_ProofChecks.j0 k l0 l1 (!t229))) else (backreachlaw18_ProofChecks.j0 k l0 l1 true))) else (some false)) = some r := H
  have A3 := Aside0.mk A30
  clear A30
  by_cases c4 : t227 = true
  · subst c4
    have H1 : ((backreachlaw18_few.f k l0).bind fun t228 => (if t228 = true then ((backreachlaw18_few.f k l1).bind fun t229 => (backreachlaw18_ProofChecks.j0 k l0 l1 (!t229))) else (backreachlaw18_ProofChecks.j0 k l0 l1 true))) = some r := by rw [if_pos rfl] at H; exact H
    clear H
    have H := H1
    clear H1
    have HC5 := Aside0.mk H
    clear H
    go_enter Try.func3, Try.ntmps3
    go_upto_region 3 with (first | ((with_reducible refine gate_callee (f := 12) rfl ?_); refine goesL_ (some 9) rfl rfl Try.func12 (by kernel_rfl) rfl #[] rfl (by (try simp only [List.map_toArray, List.map_cons, List.map_nil]); first | done | rfl | (simp only [List.length_drop, List.length_take]; rfl)) ?_; (with_reducible refine (backreachlaw18_awake.calls  true _ A3.out).mono ?_); rintro e w6 ⟨rfl, hb⟩; refine ⟨_, rfl, ?_⟩; have n0_ := Aside0.mk (below_step (by repeat (first | (with_reducible first | exact HB.out | apply below_alloc | apply pw_below_drewN | apply below_drew1) | exact HB.out)) hb); clear HB; have HB := n0_; clear n0_; (try clear hb); (try clear hb2); (try clear hk); (try clear hi)))
    (try simp only [Act.put, List.setIfInBounds_toArray, List.set_cons_zero, List.set_cons_succ])
    go_cut [18] (fun v18 wc => ∃ (kq : Nat) (x18_4 : Bool), v18 = .bool x18_4 ∧ Aside0 (backreachlaw18_ProofChecks.j0 kq l0 l1 x18_4 = some r) ∧ Aside0 (kq ≤ k) ∧ Aside0 (Below w.heap.size w wc))
    case first =>
      have H := HC5.out
      clear HC5
      replace H := Option.bind_eq_some_iff.mp H
      obtain ⟨t228, A70, H⟩ := H
      replace H : (if t228 = true then ((backreachlaw18_few.f k l1).bind fun t229 => (backreachlaw18_ProofChecks.j0 k l0 l1 (!t229))) else (backreachlaw18_ProofChecks.j0 k l0 l1 true)) = some r := H
      have A7 := Aside0.mk A70
      clear A70
      by_cases c8 : t228 = true
      · subst c8
        have H1 : ((backreachlaw18_few.f k l1).bind fun t229 => (backreachlaw18_ProofChecks.j0 k l0 l1 (!t229))) = some r := by rw [if_pos rfl] at H; exact H
        clear H
        have H := H1
        clear H1
        replace H := Option.bind_eq_some_iff.mp H
        obtain ⟨t229, A90, H⟩ := H
        replace H : (backreachlaw18_ProofChecks.j0 k l0 l1 (!t229)) = some r := H
        have A9 := Aside0.mk A90
        clear A90
        have H' := Aside0.mk H
        clear H
        go_wp2_with (first | ((with_reducible refine gate_callee (f := 13) rfl ?_); refine goesL_ (some 12) rfl rfl Try.func13 (by kernel_rfl) rfl #[.slice A0 l0.length c0] rfl (by (try simp only [List.map_toArray, List.map_cons, List.map_nil]); first | done | rfl | (simp only [List.length_drop, List.length_take]; rfl)) ?_; (with_reducible refine (backreachlaw18_few.calls k _ _ l0 true _ ?side1 ?side2 A7.out).mono ?_); (case side1 => repeat (first | exact (Kd.C_below HR0.out HB.out) | (with_reducible refine Kd.C_alloc ?_ _) | (with_reducible refine Kd.C_drewN ?_ _) | (with_reducible refine Kd.C_drew ?_))); (case side2 => exact HC0.out); rintro e w' ⟨rfl, ⟨nd, rfl⟩⟩; refine ⟨_, rfl, ?_⟩) | (go_at_call 13; (with_reducible refine (backreachlaw18_few.calls k _ _ l1 t229 _ ?side1 ?side2 A9.out).mono ?_); (case side1 => repeat (first | exact (Kd.C_below HR1.out (by repeat (first | (with_reducible first | exact HB.out | apply below_alloc | apply pw_below_drewN | apply below_drew1) | exact HB.out))) | (with_reducible refine Kd.C_alloc ?_ _) | (with_reducible refine Kd.C_drewN ?_ _) | (with_reducible refine Kd.C_drew ?_))); (case side2 => exact HC1.out); rintro e w' ⟨rfl, ⟨nd, rfl⟩⟩))
        go_meet
        case rel => exact ⟨_, (!t229), (by first | rfl | (simp; done) | (simp [*]; done)), H', ⟨by first | omega | exact Nat.le_refl _⟩, ⟨by repeat (first | (with_reducible first | exact HB.out | apply below_alloc | apply pw_below_drewN | apply below_drew1) | exact HB.out)⟩⟩
      · replace c8 := Bool.eq_false_iff.mpr c8
        subst c8
        have H1 : (backreachlaw18_ProofChecks.j0 k l0 l1 true) = some r := by rw [if_neg (show ¬ (false = true) by decide)] at H; exact H
        clear H
        have H := H1
        clear H1
        have H' := Aside0.mk H
        clear H
        go_wp2_with (first | ((with_reducible refine gate_callee (f := 13) rfl ?_); refine goesL_ (some 12) rfl rfl Try.func13 (by kernel_rfl) rfl #[.slice A0 l0.length c0] rfl (by (try simp only [List.map_toArray, List.map_cons, List.map_nil]); first | done | rfl | (simp only [List.length_drop, List.length_take]; rfl)) ?_; (with_reducible refine (backreachlaw18_few.calls k _ _ l0 false _ ?side1 ?side2 A7.out).mono ?_); (case side1 => repeat (first | exact (Kd.C_below HR0.out HB.out) | (with_reducible refine Kd.C_alloc ?_ _) | (with_reducible refine Kd.C_drewN ?_ _) | (with_reducible refine Kd.C_drew ?_))); (case side2 => exact HC0.out); rintro e w' ⟨rfl, ⟨nd, rfl⟩⟩; refine ⟨_, rfl, ?_⟩))
        go_meet
        case rel => exact ⟨_, (true), (by first | rfl | (simp; done) | (simp [*]; done)), H', ⟨by first | omega | exact Nat.le_refl _⟩, ⟨by repeat (first | (with_reducible first | exact HB.out | apply below_alloc | apply pw_below_drewN | apply below_drew1) | exact HB.out)⟩⟩
    case rest =>
      clear HC5
      try clear c1
      try clear p2
      try clear c3
      try clear c4
      try clear c8
      obtain ⟨kq, x18_4, rfl, HA, HJ4, HB⟩ := hcut
      cases kq with
      | zero => exact absurd HA.out (by simp [backreachlaw18_ProofChecks.j0])
      | succ kj4 =>
        have H := HA.out
        clear HA
        simp only [backreachlaw18_ProofChecks.j0] at H
        by_cases c10 : x18_4 = true
        · subst c10
          have H1 : (some true) = some r := by rw [if_pos rfl] at H; exact H
          clear H
          have H := H1
          clear H1
          obtain rfl := Option.some.inj H
          go_wp2
          go_ret
          exact ⟨by first | rfl | (simp [errW_none, errW_some] <;> rfl) | (simp [*, errW_none, errW_some] <;> rfl), by repeat (first | (with_reducible first | exact HB.out | apply below_alloc | apply pw_below_drewN | apply below_drew1) | exact HB.out)⟩
        · replace c10 := Bool.eq_false_iff.mpr c10
          subst c10
          have H1 : ((proof_Check.f l0 l1).bind fun bt230 => ((backreachref18_Check.f kj4 l0 l1).bind fun bt232 => (if bt230.1 = bt232.1 then (some (bt230.2 == bt232.2)) else (some false)))) = some r := by rw [if_neg (show ¬ (false = true) by decide)] at H; exact H
          clear H
          have H := H1
          clear H1
          replace H := Option.bind_eq_some_iff.mp H
          obtain ⟨⟨t230, t231⟩, A110, H⟩ := H
          replace H : ((backreachref18_Check.f kj4 l0 l1).bind fun bt232 => (if t230 = bt232.1 then (some (t231 == bt232.2)) else (some false))) = some r := H
          have A11 := Aside0.mk A110
          clear A110
          replace H := Option.bind_eq_some_iff.mp H
          obtain ⟨⟨t232, t233⟩, A120, H⟩ := H
          replace H : (if t230 = t232 then (some (t231 == t233)) else (some false)) = some r := H
          have A12 := Aside0.mk A120
          clear A120
          by_cases c13 : t230 = t232
          · rw [if_pos c13] at H
            have c13b0 : (t230 == t232) = true := beq_iff_eq.mpr c13
            have c13b1 : (t230 != t232) = false := bne_eq_false_iff_eq.mpr c13
            clear c13
            obtain rfl := Option.some.inj H
            go_wp2_with (first | ((with_reducible refine gate_callee (f := 14) rfl ?_); refine goesL_ (some 22) rfl rfl Try.func14 (by kernel_rfl) rfl #[.slice A0 l0.length c0, .slice A1 l1.length c1] rfl (by (try simp only [List.map_toArray, List.map_cons, List.map_nil]); first | done | rfl | (simp only [List.length_drop, List.length_take]; rfl)) ?_; (with_reducible refine (proof_Check.calls _ _ l0 _ _ l1 t230 t231 _ ?side1 ?side2 ?side3 ?side4 A11.out).mono ?_); (case side1 => repeat (first | exact (Kd.C_below HR0.out HB.out) | (with_reducible refine Kd.C_alloc ?_ _) | (with_reducible refine Kd.C_drewN ?_ _) | (with_reducible refine Kd.C_drew ?_))); (case side2 => exact HC0.out); (case side3 => repeat (first | exact (Kd.C_below HR1.out HB.out) | (with_reducible refine Kd.C_alloc ?_ _) | (with_reducible refine Kd.C_drewN ?_ _) | (with_reducible refine Kd.C_drew ?_))); (case side4 => exact HC1.out); rintro e w14 ⟨rfl, hb⟩; refine ⟨_, rfl, ?_⟩; have n0_ := Aside0.mk (below_step (by repeat (first | (with_reducible first | exact HB.out | apply below_alloc | apply pw_below_drewN | apply below_drew1) | exact HB.out)) hb); clear HB; have HB := n0_; clear n0_; (try clear hb); (try clear hb2); (try clear hk); (try clear hi)) | ((with_reducible refine gate_callee (f := 15) rfl ?_); refine goesL_ (some 28) rfl rfl Try.func15 (by kernel_rfl) rfl #[.slice A0 l0.length c0, .slice A1 l1.length c1] rfl (by (try simp only [List.map_toArray, List.map_cons, List.map_nil]); first | done | rfl | (simp only [List.length_drop, List.length_take]; rfl)) ?_; (with_reducible refine (backreachref18_Check.calls kj4 (fun k_ => k_ < w.heap.size) _ _ l0 (fun k_ => k_ < w.heap.size) _ _ l1 t232 t233 _ ?side1 ?side2 A12.out).mono ?_); (case side1 => exact Kd.V_mk HC0.out (Kd.F_below (Kd.C_F (Kd.heap_slice 3 (Kd.heap_int .i64)) HR0.out) (by repeat (first | (with_reducible first | exact HB.out | apply below_alloc | apply pw_below_drewN | apply below_drew1) | exact HB.out)))); (case side2 => exact Kd.V_mk HC1.out (Kd.F_below (Kd.C_F (Kd.heap_slice 3 (Kd.heap_int .i64)) HR1.out) (by repeat (first | (with_reducible first | exact HB.out | apply below_alloc | apply pw_below_drewN | apply below_drew1) | exact HB.out)))); rintro e w15 ⟨rfl, hb⟩; refine ⟨_, rfl, ?_⟩; have n0_ := Aside0.mk (below_step (by repeat (first | (with_reducible first | exact HB.out | apply below_alloc | apply pw_below_drewN | apply below_drew1) | exact HB.out)) hb); clear HB; have HB := n0_; clear n0_; (try clear hb); (try clear hb2); (try clear hk); (try clear hi)))
            go_ret
            exact ⟨by first | rfl | (simp [errW_none, errW_some] <;> rfl) | (simp [*, errW_none, errW_some] <;> rfl), by repeat (first | (with_reducible first | exact HB.out | apply below_alloc | apply pw_below_drewN | apply below_drew1) | exact HB.out)⟩
          · rw [if_neg c13] at H
            have c13b0 : (t230 == t232) = false := beq_eq_false_iff_ne.mpr c13
            have c13b1 : (t230 != t232) = true := bne_iff_ne.mpr c13
            obtain rfl := Option.some.inj H
            go_wp2_with (first | ((with_reducible refine gate_callee (f := 14) rfl ?_); refine goesL_ (some 22) rfl rfl Try.func14 (by kernel_rfl) rfl #[.slice A0 l0.length c0, .slice A1 l1.length c1] rfl (by (try simp only [List.map_toArray, List.map_cons, List.map_nil]); first | done | rfl | (simp only [List.length_drop, List.length_take]; rfl)) ?_; (with_reducible refine (proof_Check.calls _ _ l0 _ _ l1 t230 t231 _ ?side1 ?side2 ?side3 ?side4 A11.out).mono ?_); (case side1 => repeat (first | exact (Kd.C_below HR0.out HB.out) | (with_reducible refine Kd.C_alloc ?_ _) | (with_reducible refine Kd.C_drewN ?_ _) | (with_reducible refine Kd.C_drew ?_))); (case side2 => exact HC0.out); (case side3 => repeat (first | exact (Kd.C_below HR1.out HB.out) | (with_reducible refine Kd.C_alloc ?_ _) | (with_reducible refine Kd.C_drewN ?_ _) | (with_reducible refine Kd.C_drew ?_))); (case side4 => exact HC1.out); rintro e w16 ⟨rfl, hb⟩; refine ⟨_, rfl, ?_⟩; have n0_ := Aside0.mk (below_step (by repeat (first | (with_reducible first | exact HB.out | apply below_alloc | apply pw_below_drewN | apply below_drew1) | exact HB.out)) hb); clear HB; have HB := n0_; clear n0_; (try clear hb); (try clear hb2); (try clear hk); (try clear hi)) | ((with_reducible refine gate_callee (f := 15) rfl ?_); refine goesL_ (some 28) rfl rfl Try.func15 (by kernel_rfl) rfl #[.slice A0 l0.length c0, .slice A1 l1.length c1] rfl (by (try simp only [List.map_toArray, List.map_cons, List.map_nil]); first | done | rfl | (simp only [List.length_drop, List.length_take]; rfl)) ?_; (with_reducible refine (backreachref18_Check.calls kj4 (fun k_ => k_ < w.heap.size) _ _ l0 (fun k_ => k_ < w.heap.size) _ _ l1 t232 t233 _ ?side1 ?side2 A12.out).mono ?_); (case side1 => exact Kd.V_mk HC0.out (Kd.F_below (Kd.C_F (Kd.heap_slice 3 (Kd.heap_int .i64)) HR0.out) (by repeat (first | (with_reducible first | exact HB.out | apply below_alloc | apply pw_below_drewN | apply below_drew1) | exact HB.out)))); (case side2 => exact Kd.V_mk HC1.out (Kd.F_below (Kd.C_F (Kd.heap_slice 3 (Kd.heap_int .i64)) HR1.out) (by repeat (first | (with_reducible first | exact HB.out | apply below_alloc | apply pw_below_drewN | apply below_drew1) | exact HB.out)))); rintro e w17 ⟨rfl, hb⟩; refine ⟨_, rfl, ?_⟩; have n0_ := Aside0.mk (below_step (by repeat (first | (with_reducible first | exact HB.out | apply below_alloc | apply pw_below_drewN | apply below_drew1) | exact HB.out)) hb); clear HB; have HB := n0_; clear n0_; (try clear hb); (try clear hb2); (try clear hk); (try clear hi)))
            go_ret
            exact ⟨by first | rfl | (simp [errW_none, errW_some] <;> rfl) | (simp [*, errW_none, errW_some] <;> rfl), by repeat (first | (with_reducible first | exact HB.out | apply below_alloc | apply pw_below_drewN | apply below_drew1) | exact HB.out)⟩
  · replace c4 := Bool.eq_false_iff.mpr c4
    subst c4
    have H1 : (some false) = some r := by rw [if_neg (show ¬ (false = true) by decide)] at H; exact H
    clear H
    have H := H1
    clear H1
    obtain rfl := Option.some.inj H
    go_enter Try.func3, Try.ntmps3
    go_wp2_with (first | ((with_reducible refine gate_callee (f := 12) rfl ?_); refine goesL_ (some 9) rfl rfl Try.func12 (by kernel_rfl) rfl #[] rfl (by (try simp only [List.map_toArray, List.map_cons, List.map_nil]); first | done | rfl | (simp only [List.length_drop, List.length_take]; rfl)) ?_; (with_reducible refine (backreachlaw18_awake.calls  false _ A3.out).mono ?_); rintro e w18 ⟨rfl, hb⟩; refine ⟨_, rfl, ?_⟩; have n0_ := Aside0.mk (below_step (by repeat (first | (with_reducible first | exact HB.out | apply below_alloc | apply pw_below_drewN | apply below_drew1) | exact HB.out)) hb); clear HB; have HB := n0_; clear n0_; (try clear hb); (try clear hb2); (try clear hk); (try clear hi)))
    go_ret
    exact ⟨by first | rfl | (simp [errW_none, errW_some] <;> rfl) | (simp [*, errW_none, errW_some] <;> rfl), by repeat (first | (with_reducible first | exact HB.out | apply below_alloc | apply pw_below_drewN | apply below_drew1) | exact HB.out)⟩

/-- THE ONE PURE STATEMENT of backreachlaw18_ProofChecks: yours. -/
def backreachlaw18_ProofChecks.Pure : Prop := ∀ (l0 : List (List Int)) (l1 : List (List Int)), l0.length ≤ maxLen → l0.length * 24 ≤ 140737488351232 → (∀ c ∈ l0, ∀ x ∈ c, (Lit.int .i64 x).wf = true) → l1.length ≤ maxLen → l1.length * 24 ≤ 140737488351232 → (∀ c ∈ l1, ∀ x ∈ c, (Lit.int .i64 x).wf = true) → ∃ k, backreachlaw18_ProofChecks.f k l0 l1 = some true

-- NOT PRINTED: function 4 (backreachlaw18_ProofMore)

-- NOT PRINTED: function 40 (slices_Clone_int_int)

end Go.Proofs.Ytphloehjcfipfaa.X
end

section
-- Lines printed by a program of the session's own (wip/pr.py over the kit's print.py); Lean checks them.
namespace Go.Proofs.Ytphloehjcfipfaa.X
open Go.RowKit Go.Proofs.YtphloehjcfipfaaW.PrintWords Go.Proofs.YtphloehjcfipfaaW.PrintLast Go.Proofs.YtphloehjcfipfaaW.PrintMore
attribute [local go_sem] max2_int min2_int max_two min_two max_three min_three max_four min_four   -- for this text's walks alone
set_option linter.unusedVariables false
set_option linter.unusedSimpArgs false

/-! ### backreachref14_Same: function 42 -/
mutual
def backreachref14_Same.l0 : Nat → List (List Int) → List (List Int) → Int → Option (Bool)
  | 0, _, _, _ => none
  | k + 1, x0, x1, x5 => if x5 < (x0.length : Int) then (if 0 ≤ x5 then (if x5 < (x1.length : Int) then (if ((rd_L1 x0 x5).length : Int) = ((rd_L1 x1 x5).length : Int) then (backreachref14_Same.l1 k x0 x1 x5 0) else (some false)) else (none)) else (none)) else (some true)
def backreachref14_Same.l1 : Nat → List (List Int) → List (List Int) → Int → Int → Option (Bool)
  | 0, _, _, _, _ => none
  | k + 1, x0, x1, x5, x6 => if 0 ≤ x5 then (if x5 < (x0.length : Int) then (if x6 < ((rd_L1 x0 x5).length : Int) then (if 0 ≤ x6 then (if x5 < (x1.length : Int) then (if x6 < ((rd_L1 x1 x5).length : Int) then (if (rd (rd_L1 x0 x5) x6) = (rd (rd_L1 x1 x5) x6) then (backreachref14_Same.l1 k x0 x1 x5 (wrap64 (x6 + 1))) else (some false)) else (none)) else (none)) else (none)) else (backreachref14_Same.l0 k x0 x1 (wrap64 (x5 + 1)))) else (none)) else (none)
end
def backreachref14_Same.f (k : Nat) (l0 : List (List Int)) (l1 : List (List Int)) : Option (Bool) := if (l0.length : Int) = (l1.length : Int) then (backreachref14_Same.l0 k l0 l1 0) else (some false)
theorem backreachref14_Same.mono_l : ∀ k, (∀ y0 y1 y2, LeO (backreachref14_Same.l0 k y0 y1 y2) (backreachref14_Same.l0 (k + 1) y0 y1 y2)) ∧ (∀ y0 y1 y2 y3, LeO (backreachref14_Same.l1 k y0 y1 y2 y3) (backreachref14_Same.l1 (k + 1) y0 y1 y2 y3))
  | 0 => ⟨fun _ _ _ r h => by simp [backreachref14_Same.l0] at h, fun _ _ _ _ r h => by simp [backreachref14_Same.l1] at h⟩
  | k + 1 => by
    obtain ⟨ih0, ih1⟩ := backreachref14_Same.mono_l k
    refine ⟨?_, ?_⟩
    · intro y0 y1 y2
      unfold backreachref14_Same.l0
      repeat' first
      | (with_reducible exact ih0 _ _ _)
      | (with_reducible exact ih1 _ _ _ _)
      | (with_reducible exact LeO.refl _)
      | (with_reducible exact LeO.none _)
      | (with_reducible refine LeO.ite ?_ ?_)
      | (with_reducible refine LeO.bind ?_ (fun _ => ?_))
      | exact ih0 _ _ _
      | exact ih1 _ _ _ _
      | exact LeO.none _
      | refine LeO.ite ?_ ?_
      | refine LeO.bind ?_ (fun _ => ?_)
    · intro y0 y1 y2 y3
      unfold backreachref14_Same.l1
      repeat' first
      | (with_reducible exact ih0 _ _ _)
      | (with_reducible exact ih1 _ _ _ _)
      | (with_reducible exact LeO.refl _)
      | (with_reducible exact LeO.none _)
      | (with_reducible refine LeO.ite ?_ ?_)
      | (with_reducible refine LeO.bind ?_ (fun _ => ?_))
      | exact ih0 _ _ _
      | exact ih1 _ _ _ _
      | exact LeO.none _
      | refine LeO.ite ?_ ?_
      | refine LeO.bind ?_ (fun _ => ?_)
theorem backreachref14_Same.mono : ∀ a0 a1 k, LeO (backreachref14_Same.f k a0 a1) (backreachref14_Same.f (k + 1) a0 a1) := by
  intro a0 a1 k
  obtain ⟨ih0, ih1⟩ := backreachref14_Same.mono_l k
  unfold backreachref14_Same.f
  repeat' first
      | (with_reducible exact ih0 _ _ _)
      | (with_reducible exact ih1 _ _ _ _)
      | (with_reducible exact LeO.refl _)
      | (with_reducible exact LeO.none _)
      | (with_reducible refine LeO.ite ?_ ?_)
      | (with_reducible refine LeO.bind ?_ (fun _ => ?_))
      | exact ih0 _ _ _
      | exact ih1 _ _ _ _
      | exact LeO.none _
      | refine LeO.ite ?_ ?_
      | refine LeO.bind ?_ (fun _ => ?_)
set_option maxHeartbeats 8000000 in
set_option maxRecDepth 100000 in
theorem backreachref14_Same.calls (k : Nat) (A0 : Option Addr) (c0 : Nat) (l0 : List (List Int)) (A1 : Option Addr) (c1 : Nat) (l1 : List (List Int)) (r : Bool) (w : World) (hr0 : Kd.C (Kd.slice 3 (Kd.int .i64)) w A0 l0.length l0) (hc0 : l0.length ≤ c0) (hr1 : Kd.C (Kd.slice 3 (Kd.int .i64)) w A1 l1.length l1) (hc1 : l1.length ≤ c1) (h : backreachref14_Same.f k l0 l1 = some r) :
    Calls Try.prog 42 #[.slice A0 l0.length c0, .slice A1 l1.length c1] w fun e w' => e = .returned (.bool r) ∧ Drawn0 w w' := by
  have HR0 := Aside0.mk hr0
  have HC0 := Aside0.mk hc0
  clear hr0 hc0
  have HR1 := Aside0.mk hr1
  have HC1 := Aside0.mk hc1
  clear hr1 hc1
  have H : (if (l0.length : Int) = (l1.length : Int) then (backreachref14_Same.l0 k l0 l1 0) else (some false)) = some r := h
  clear h
  by_cases c3 : (l0.length : Int) = (l1.length : Int)
  · rw [if_pos c3] at H
    have c3b0 : ((l0.length : Int) == (l1.length : Int)) = true := beq_iff_eq.mpr c3
    have c3b1 : ((l0.length : Int) != (l1.length : Int)) = false := bne_eq_false_iff_eq.mpr c3
    have c3b2 : (l0.length == l1.length) = true := by first | simpa using c3 | (simp at c3 ⊢; omega)
    clear c3
    have H' := Aside0.mk H
    clear H
    go_enter Try.func42, Try.ntmps42
    go_wp2
    repeat (go_quiet (fail); try go_wp2)
    go_loopg [5] k (fun kq v5 w' => ∃ (x5_1 : Int), v5 = .int .i64 x5_1 ∧ Aside0 (backreachref14_Same.l0 kq l0 l1 x5_1 = some r) ∧ Aside0 (kq ≤ k) ∧ Drawn0 w w')
    case atStart => exact ⟨(0), (by first | rfl | (simp; done) | (simp [*]; done)), H', ⟨Nat.le_refl _⟩, by repeat (first | exact Drawn0.refl _ | apply Drawn0.step)⟩
    case round =>
      clear H'
      try clear c1
      try clear p2
      try clear c3
      try clear c3b0
      try clear c3b1
      try clear c3b2
      obtain ⟨x5_1, rfl, HA, HK1, ⟨m1, rfl⟩⟩ := hrel
      cases gk with
      | zero => exact absurd HA.out (by simp [backreachref14_Same.l0])
      | succ k1 =>
        have H := HA.out
        clear HA
        simp only [backreachref14_Same.l0] at H
        by_cases c4 : x5_1 < (l0.length : Int)
        · rw [if_pos c4] at H
          have c4b0 : decide (x5_1 < (l0.length : Int)) = true := decide_eq_true c4
          clear c4
          by_cases c5 : 0 ≤ x5_1
          · rw [if_pos c5] at H
            have c5b0 : decide (0 ≤ x5_1) = true := decide_eq_true c5
            clear c5
            by_cases c6 : x5_1 < (l1.length : Int)
            · rw [if_pos c6] at H
              have c6b0 : decide (x5_1 < (l1.length : Int)) = true := decide_eq_true c6
              clear c6
              by_cases c7 : ((rd_L1 l0 x5_1).length : Int) = ((rd_L1 l1 x5_1).length : Int)
              · rw [if_pos c7] at H
                have c7b0 : (((rd_L1 l0 x5_1).length : Int) == ((rd_L1 l1 x5_1).length : Int)) = true := beq_iff_eq.mpr c7
                have c7b1 : (((rd_L1 l0 x5_1).length : Int) != ((rd_L1 l1 x5_1).length : Int)) = false := bne_eq_false_iff_eq.mpr c7
                have c7b2 : ((rd_L1 l0 x5_1).length == (rd_L1 l1 x5_1).length) = true := by first | simpa using c7 | (simp at c7 ⊢; omega)
                clear c7
                have H' := Aside0.mk H
                clear H
                have p251 : 0 ≤ (x5_1 : Int) := of_decide_eq_true (by first | (with_reducible assumption) | assumption)
                have q251 : x5_1 < (l0.length : Int) := of_decide_eq_true (by first | (with_reducible assumption) | assumption)
                obtain ⟨ad251, A251_0, c251_0, e251, hx251_0, hl251_0, hi251_0⟩ := at_L1 HR0.out x5_1 p251 q251
                cases e251
                have HR251_0 := Aside0.mk hi251_0
                have HC251_0 := Aside0.mk hl251_0
                clear hi251_0 hl251_0
                replace p251 := eq_true p251
                replace q251 := eq_true q251
                have p252 : 0 ≤ (x5_1 : Int) := of_decide_eq_true (by first | (with_reducible assumption) | assumption)
                have q252 : x5_1 < (l1.length : Int) := of_decide_eq_true (by first | (with_reducible assumption) | assumption)
                obtain ⟨ad252, A252_0, c252_0, e252, hx252_0, hl252_0, hi252_0⟩ := at_L1 HR1.out x5_1 p252 q252
                cases e252
                have HR252_0 := Aside0.mk hi252_0
                have HC252_0 := Aside0.mk hl252_0
                clear hi252_0 hl252_0
                replace p252 := eq_true p252
                replace q252 := eq_true q252
                go_wp2
                repeat (go_quiet (fail); try go_wp2)
                go_loopg [6] k1 (fun kq v6 w' => ∃ (x6_2 : Int), v6 = .int .i64 x6_2 ∧ Aside0 (backreachref14_Same.l1 kq l0 l1 x5_1 x6_2 = some r) ∧ Aside0 (kq ≤ k1) ∧ Drawn0 w w')
                case atStart => exact ⟨(0), (by first | rfl | (simp; done) | (simp [*]; done)), H', ⟨Nat.le_refl _⟩, by repeat (first | exact Drawn0.refl _ | apply Drawn0.step)⟩
                case round =>
                  clear H'
                  try clear c1
                  try clear c2
                  try clear p2
                  try clear q2
                  try clear hx2
                  try clear c3
                  try clear c3b0
                  try clear c3b1
                  try clear c3b2
                  try clear c4
                  try clear c4b0
                  try clear c5
                  try clear c5b0
                  try clear c6
                  try clear c6b0
                  try clear c7
                  try clear c7b0
                  try clear c7b1
                  try clear c7b2
                  try clear hx251_0
                  try clear hx252_0
                  try clear p2
                  try clear p251
                  try clear p252
                  try clear q251
                  try clear q252
                  obtain ⟨x6_2, rfl, HA, HK2, ⟨m2, rfl⟩⟩ := hrel
                  cases gk with
                  | zero => exact absurd HA.out (by simp [backreachref14_Same.l1])
                  | succ k2 =>
                    have H := HA.out
                    clear HA
                    simp only [backreachref14_Same.l1] at H
                    by_cases c8 : 0 ≤ x5_1
                    · rw [if_pos c8] at H
                      have c8b0 : decide (0 ≤ x5_1) = true := decide_eq_true c8
                      clear c8
                      by_cases c9 : x5_1 < (l0.length : Int)
                      · rw [if_pos c9] at H
                        have c9b0 : decide (x5_1 < (l0.length : Int)) = true := decide_eq_true c9
                        clear c9
                        by_cases c10 : x6_2 < ((rd_L1 l0 x5_1).length : Int)
                        · rw [if_pos c10] at H
                          have c10b0 : decide (x6_2 < ((rd_L1 l0 x5_1).length : Int)) = true := decide_eq_true c10
                          clear c10
                          by_cases c11 : 0 ≤ x6_2
                          · rw [if_pos c11] at H
                            have c11b0 : decide (0 ≤ x6_2) = true := decide_eq_true c11
                            clear c11
                            by_cases c12 : x5_1 < (l1.length : Int)
                            · rw [if_pos c12] at H
                              have c12b0 : decide (x5_1 < (l1.length : Int)) = true := decide_eq_true c12
                              clear c12
                              by_cases c13 : x6_2 < ((rd_L1 l1 x5_1).length : Int)
                              · rw [if_pos c13] at H
                                have c13b0 : decide (x6_2 < ((rd_L1 l1 x5_1).length : Int)) = true := decide_eq_true c13
                                clear c13
                                by_cases c14 : (rd (rd_L1 l0 x5_1) x6_2) = (rd (rd_L1 l1 x5_1) x6_2)
                                · rw [if_pos c14] at H
                                  have c14b0 : ((rd (rd_L1 l0 x5_1) x6_2) == (rd (rd_L1 l1 x5_1) x6_2)) = true := beq_iff_eq.mpr c14
                                  have c14b1 : ((rd (rd_L1 l0 x5_1) x6_2) != (rd (rd_L1 l1 x5_1) x6_2)) = false := bne_eq_false_iff_eq.mpr c14
                                  clear c14
                                  have H' := Aside0.mk H
                                  clear H
                                  have p253 : 0 ≤ (x5_1 : Int) := of_decide_eq_true (by first | (with_reducible assumption) | assumption)
                                  have q253 : x5_1 < (l0.length : Int) := of_decide_eq_true (by first | (with_reducible assumption) | assumption)
                                  obtain ⟨ad253, A253_0, c253_0, e253, hx253_0, hl253_0, hi253_0⟩ := at_L1 HR0.out x5_1 p253 q253
                                  obtain rfl : ad251 = ad253 := (by injection e253)
                                  have HR253_0 := Aside0.mk hi253_0
                                  have HC253_0 := Aside0.mk hl253_0
                                  clear hi253_0 hl253_0
                                  replace p253 := eq_true p253
                                  replace q253 := eq_true q253
                                  have p254 : 0 ≤ (x5_1 : Int) := of_decide_eq_true (by first | (with_reducible assumption) | assumption)
                                  have q254 : x5_1 < (l0.length : Int) := of_decide_eq_true (by first | (with_reducible assumption) | assumption)
                                  obtain ⟨ad254, A254_0, c254_0, e254, hx254_0, hl254_0, hi254_0⟩ := at_L1 HR0.out x5_1 p254 q254
                                  obtain rfl : ad251 = ad254 := (by injection e254)
                                  have HR254_0 := Aside0.mk hi254_0
                                  have HC254_0 := Aside0.mk hl254_0
                                  clear hi254_0 hl254_0
                                  replace p254 := eq_true p254
                                  replace q254 := eq_true q254
                                  have ea_ := Option.some.inj (hx253_0.symm.trans hx254_0)
                                  injection ea_ with ea_ en_ ec_
                                  subst ea_
                                  subst ec_
                                  clear en_
                                  have p255 : 0 ≤ (x6_2 : Int) := of_decide_eq_true (by first | (with_reducible assumption) | assumption)
                                  have q255 : x6_2 < ((rd_L1 l0 x5_1).length : Int) := of_decide_eq_true (by first | (with_reducible assumption) | assumption)
                                  obtain ⟨ad255, e255, hx255_0⟩ := Kd.at_int HR254_0.out x6_2 p255 q255
                                  cases e255
                                  replace p255 := eq_true p255
                                  replace q255 := eq_true q255
                                  have p256 : 0 ≤ (x5_1 : Int) := of_decide_eq_true (by first | (with_reducible assumption) | assumption)
                                  have q256 : x5_1 < (l1.length : Int) := of_decide_eq_true (by first | (with_reducible assumption) | assumption)
                                  obtain ⟨ad256, A256_0, c256_0, e256, hx256_0, hl256_0, hi256_0⟩ := at_L1 HR1.out x5_1 p256 q256
                                  obtain rfl : ad252 = ad256 := (by injection e256)
                                  have HR256_0 := Aside0.mk hi256_0
                                  have HC256_0 := Aside0.mk hl256_0
                                  clear hi256_0 hl256_0
                                  replace p256 := eq_true p256
                                  replace q256 := eq_true q256
                                  have p257 : 0 ≤ (x6_2 : Int) := of_decide_eq_true (by first | (with_reducible assumption) | assumption)
                                  have q257 : x6_2 < ((rd_L1 l1 x5_1).length : Int) := of_decide_eq_true (by first | (with_reducible assumption) | assumption)
                                  obtain ⟨ad257, e257, hx257_0⟩ := Kd.at_int HR256_0.out x6_2 p257 q257
                                  cases e257
                                  replace p257 := eq_true p257
                                  replace q257 := eq_true q257
                                  go_wp2
                                  repeat (go_quiet (fail); try go_wp2)
                                  go_roundg k2
                                  case measure => have := HK1.out; have := HK2.out; omega
                                  case rel => exact ⟨(wrap64 (x6_2 + 1)), (by first | rfl | (simp; done) | (simp [*]; done)), H', ⟨by have := HK1.out; have := HK2.out; omega⟩, by repeat (first | exact Drawn0.refl _ | apply Drawn0.step)⟩
                                · rw [if_neg c14] at H
                                  have c14b0 : ((rd (rd_L1 l0 x5_1) x6_2) == (rd (rd_L1 l1 x5_1) x6_2)) = false := beq_eq_false_iff_ne.mpr c14
                                  have c14b1 : ((rd (rd_L1 l0 x5_1) x6_2) != (rd (rd_L1 l1 x5_1) x6_2)) = true := bne_iff_ne.mpr c14
                                  obtain rfl := Option.some.inj H
                                  have p253 : 0 ≤ (x5_1 : Int) := of_decide_eq_true (by first | (with_reducible assumption) | assumption)
                                  have q253 : x5_1 < (l0.length : Int) := of_decide_eq_true (by first | (with_reducible assumption) | assumption)
                                  obtain ⟨ad253, A253_0, c253_0, e253, hx253_0, hl253_0, hi253_0⟩ := at_L1 HR0.out x5_1 p253 q253
                                  obtain rfl : ad251 = ad253 := (by injection e253)
                                  have HR253_0 := Aside0.mk hi253_0
                                  have HC253_0 := Aside0.mk hl253_0
                                  clear hi253_0 hl253_0
                                  replace p253 := eq_true p253
                                  replace q253 := eq_true q253
                                  have p254 : 0 ≤ (x5_1 : Int) := of_decide_eq_true (by first | (with_reducible assumption) | assumption)
                                  have q254 : x5_1 < (l0.length : Int) := of_decide_eq_true (by first | (with_reducible assumption) | assumption)
                                  obtain ⟨ad254, A254_0, c254_0, e254, hx254_0, hl254_0, hi254_0⟩ := at_L1 HR0.out x5_1 p254 q254
                                  obtain rfl : ad251 = ad254 := (by injection e254)
                                  have HR254_0 := Aside0.mk hi254_0
                                  have HC254_0 := Aside0.mk hl254_0
                                  clear hi254_0 hl254_0
                                  replace p254 := eq_true p254
                                  replace q254 := eq_true q254
                                  have ea_ := Option.some.inj (hx253_0.symm.trans hx254_0)
                                  injection ea_ with ea_ en_ ec_
                                  subst ea_
                                  subst ec_
                                  clear en_
                                  have p255 : 0 ≤ (x6_2 : Int) := of_decide_eq_true (by first | (with_reducible assumption) | assumption)
                                  have q255 : x6_2 < ((rd_L1 l0 x5_1).length : Int) := of_decide_eq_true (by first | (with_reducible assumption) | assumption)
                                  obtain ⟨ad255, e255, hx255_0⟩ := Kd.at_int HR254_0.out x6_2 p255 q255
                                  cases e255
                                  replace p255 := eq_true p255
                                  replace q255 := eq_true q255
                                  have p256 : 0 ≤ (x5_1 : Int) := of_decide_eq_true (by first | (with_reducible assumption) | assumption)
                                  have q256 : x5_1 < (l1.length : Int) := of_decide_eq_true (by first | (with_reducible assumption) | assumption)
                                  obtain ⟨ad256, A256_0, c256_0, e256, hx256_0, hl256_0, hi256_0⟩ := at_L1 HR1.out x5_1 p256 q256
                                  obtain rfl : ad252 = ad256 := (by injection e256)
                                  have HR256_0 := Aside0.mk hi256_0
                                  have HC256_0 := Aside0.mk hl256_0
                                  clear hi256_0 hl256_0
                                  replace p256 := eq_true p256
                                  replace q256 := eq_true q256
                                  have p257 : 0 ≤ (x6_2 : Int) := of_decide_eq_true (by first | (with_reducible assumption) | assumption)
                                  have q257 : x6_2 < ((rd_L1 l1 x5_1).length : Int) := of_decide_eq_true (by first | (with_reducible assumption) | assumption)
                                  obtain ⟨ad257, e257, hx257_0⟩ := Kd.at_int HR256_0.out x6_2 p257 q257
                                  cases e257
                                  replace p257 := eq_true p257
                                  replace q257 := eq_true q257
                                  go_wp2
                                  repeat (go_quiet (fail); try go_wp2)
                                  go_ret
                                  exact ⟨by first | rfl | (simp; done) | (simp [*]; done), by repeat (first | exact Drawn0.refl _ | apply Drawn0.step)⟩
                              · rw [if_neg c13] at H
                                exact absurd H (by simp)
                            · rw [if_neg c12] at H
                              exact absurd H (by simp)
                          · rw [if_neg c11] at H
                            exact absurd H (by simp)
                        · rw [if_neg c10] at H
                          have c10b0 : decide (x6_2 < ((rd_L1 l0 x5_1).length : Int)) = false := decide_eq_false c10
                          clear c10
                          have H' := Aside0.mk H
                          clear H
                          have p253 : 0 ≤ (x5_1 : Int) := of_decide_eq_true (by first | (with_reducible assumption) | assumption)
                          have q253 : x5_1 < (l0.length : Int) := of_decide_eq_true (by first | (with_reducible assumption) | assumption)
                          obtain ⟨ad253, A253_0, c253_0, e253, hx253_0, hl253_0, hi253_0⟩ := at_L1 HR0.out x5_1 p253 q253
                          obtain rfl : ad251 = ad253 := (by injection e253)
                          have HR253_0 := Aside0.mk hi253_0
                          have HC253_0 := Aside0.mk hl253_0
                          clear hi253_0 hl253_0
                          replace p253 := eq_true p253
                          replace q253 := eq_true q253
                          go_wp2
                          repeat (go_quiet (fail); try go_wp2)
                          go_roundg k2
                          case measure => have := HK1.out; have := HK2.out; omega
                          case rel => exact ⟨(wrap64 (x5_1 + 1)), (by first | rfl | (simp; done) | (simp [*]; done)), H', ⟨by have := HK1.out; have := HK2.out; omega⟩, by repeat (first | exact Drawn0.refl _ | apply Drawn0.step)⟩
                      · rw [if_neg c9] at H
                        exact absurd H (by simp)
                    · rw [if_neg c8] at H
                      exact absurd H (by simp)
              · rw [if_neg c7] at H
                have c7b0 : (((rd_L1 l0 x5_1).length : Int) == ((rd_L1 l1 x5_1).length : Int)) = false := beq_eq_false_iff_ne.mpr c7
                have c7b1 : (((rd_L1 l0 x5_1).length : Int) != ((rd_L1 l1 x5_1).length : Int)) = true := bne_iff_ne.mpr c7
                have c7b2 : ((rd_L1 l0 x5_1).length == (rd_L1 l1 x5_1).length) = false := by first | simpa using c7 | (simp at c7 ⊢; omega)
                obtain rfl := Option.some.inj H
                have p251 : 0 ≤ (x5_1 : Int) := of_decide_eq_true (by first | (with_reducible assumption) | assumption)
                have q251 : x5_1 < (l0.length : Int) := of_decide_eq_true (by first | (with_reducible assumption) | assumption)
                obtain ⟨ad251, A251_0, c251_0, e251, hx251_0, hl251_0, hi251_0⟩ := at_L1 HR0.out x5_1 p251 q251
                cases e251
                have HR251_0 := Aside0.mk hi251_0
                have HC251_0 := Aside0.mk hl251_0
                clear hi251_0 hl251_0
                replace p251 := eq_true p251
                replace q251 := eq_true q251
                have p252 : 0 ≤ (x5_1 : Int) := of_decide_eq_true (by first | (with_reducible assumption) | assumption)
                have q252 : x5_1 < (l1.length : Int) := of_decide_eq_true (by first | (with_reducible assumption) | assumption)
                obtain ⟨ad252, A252_0, c252_0, e252, hx252_0, hl252_0, hi252_0⟩ := at_L1 HR1.out x5_1 p252 q252
                cases e252
                have HR252_0 := Aside0.mk hi252_0
                have HC252_0 := Aside0.mk hl252_0
                clear hi252_0 hl252_0
                replace p252 := eq_true p252
                replace q252 := eq_true q252
                go_wp2
                repeat (go_quiet (fail); try go_wp2)
                go_ret
                exact ⟨by first | rfl | (simp; done) | (simp [*]; done), by repeat (first | exact Drawn0.refl _ | apply Drawn0.step)⟩
            · rw [if_neg c6] at H
              exact absurd H (by simp)
          · rw [if_neg c5] at H
            exact absurd H (by simp)
        · rw [if_neg c4] at H
          have c4b0 : decide (x5_1 < (l0.length : Int)) = false := decide_eq_false c4
          clear c4
          obtain rfl := Option.some.inj H
          go_wp2
          repeat (go_quiet (fail); try go_wp2)
          go_ret
          exact ⟨by first | rfl | (simp; done) | (simp [*]; done), by repeat (first | exact Drawn0.refl _ | apply Drawn0.step)⟩
  · rw [if_neg c3] at H
    have c3b0 : ((l0.length : Int) == (l1.length : Int)) = false := beq_eq_false_iff_ne.mpr c3
    have c3b1 : ((l0.length : Int) != (l1.length : Int)) = true := bne_iff_ne.mpr c3
    have c3b2 : (l0.length == l1.length) = false := by first | simpa using c3 | (simp at c3 ⊢; omega)
    obtain rfl := Option.some.inj H
    go_enter Try.func42, Try.ntmps42
    go_wp2
    repeat (go_quiet (fail); try go_wp2)
    go_ret
    exact ⟨by first | rfl | (simp; done) | (simp [*]; done), by repeat (first | exact Drawn0.refl _ | apply Drawn0.step)⟩

/-! ### backreachref18_Some: function 18 -/
mutual
def backreachref18_Some.l0 : Nat → List (List Int) → List (List Int) → Int → Int → Option (Bool)
  | 0, _, _, _, _ => none
  | k + 1, x0, x1, x5, x6 => if x6 < (x0.length : Int) then (backreachref18_Some.l1 k x0 x1 x5 x6) else (some true)
def backreachref18_Some.l1 : Nat → List (List Int) → List (List Int) → Int → Int → Option (Bool)
  | 0, _, _, _, _ => none
  | k + 1, x0, x1, x5, x6 => if x5 < (x1.length : Int) then (if 0 ≤ x6 then (if x6 ≤ (wrap64 (x6 + 1)) then (if (wrap64 (x6 + 1)) ≤ (x0.length : Int) then (if 0 ≤ x5 then (if x5 ≤ (wrap64 (x5 + 1)) then (if (wrap64 (x5 + 1)) ≤ (x1.length : Int) then ((backreachref14_Same.f k ((x0.take ((wrap64 (x6 + 1)) : Int).toNat).drop (x6 : Int).toNat) ((x1.take ((wrap64 (x5 + 1)) : Int).toNat).drop (x5 : Int).toNat)).bind fun t266 => (if t266 = true then (if x5 = (x1.length : Int) then (some false) else (backreachref18_Some.l0 k x0 x1 (wrap64 (x5 + 1)) (wrap64 (x6 + 1)))) else (backreachref18_Some.l1 k x0 x1 (wrap64 (x5 + 1)) x6))) else (none)) else (none)) else (none)) else (none)) else (none)) else (none)) else (if x5 = (x1.length : Int) then (some false) else (backreachref18_Some.l0 k x0 x1 (wrap64 (x5 + 1)) (wrap64 (x6 + 1))))
end
def backreachref18_Some.f (k : Nat) (l0 : List (List Int)) (l1 : List (List Int)) : Option (Bool) := backreachref18_Some.l0 k l0 l1 0 0
theorem backreachref18_Some.mono_l : ∀ k, (∀ y0 y1 y2 y3, LeO (backreachref18_Some.l0 k y0 y1 y2 y3) (backreachref18_Some.l0 (k + 1) y0 y1 y2 y3)) ∧ (∀ y0 y1 y2 y3, LeO (backreachref18_Some.l1 k y0 y1 y2 y3) (backreachref18_Some.l1 (k + 1) y0 y1 y2 y3))
  | 0 => ⟨fun _ _ _ _ r h => by simp [backreachref18_Some.l0] at h, fun _ _ _ _ r h => by simp [backreachref18_Some.l1] at h⟩
  | k + 1 => by
    obtain ⟨ih0, ih1⟩ := backreachref18_Some.mono_l k
    refine ⟨?_, ?_⟩
    · intro y0 y1 y2 y3
      unfold backreachref18_Some.l0
      repeat' first
      | (with_reducible exact ih0 _ _ _ _)
      | (with_reducible exact ih1 _ _ _ _)
      | (with_reducible exact backreachref14_Same.mono _ _ _)
      | (with_reducible exact LeO.refl _)
      | (with_reducible exact LeO.none _)
      | (with_reducible refine LeO.ite ?_ ?_)
      | (with_reducible refine LeO.bind ?_ (fun _ => ?_))
      | exact ih0 _ _ _ _
      | exact ih1 _ _ _ _
      | exact backreachref14_Same.mono _ _ _
      | exact LeO.none _
      | refine LeO.ite ?_ ?_
      | refine LeO.bind ?_ (fun _ => ?_)
    · intro y0 y1 y2 y3
      unfold backreachref18_Some.l1
      repeat' first
      | (with_reducible exact ih0 _ _ _ _)
      | (with_reducible exact ih1 _ _ _ _)
      | (with_reducible exact backreachref14_Same.mono _ _ _)
      | (with_reducible exact LeO.refl _)
      | (with_reducible exact LeO.none _)
      | (with_reducible refine LeO.ite ?_ ?_)
      | (with_reducible refine LeO.bind ?_ (fun _ => ?_))
      | exact ih0 _ _ _ _
      | exact ih1 _ _ _ _
      | exact backreachref14_Same.mono _ _ _
      | exact LeO.none _
      | refine LeO.ite ?_ ?_
      | refine LeO.bind ?_ (fun _ => ?_)
theorem backreachref18_Some.mono : ∀ a0 a1 k, LeO (backreachref18_Some.f k a0 a1) (backreachref18_Some.f (k + 1) a0 a1) := by
  intro a0 a1 k
  obtain ⟨ih0, ih1⟩ := backreachref18_Some.mono_l k
  unfold backreachref18_Some.f
  repeat' first
      | (with_reducible exact ih0 _ _ _ _)
      | (with_reducible exact ih1 _ _ _ _)
      | (with_reducible exact backreachref14_Same.mono _ _ _)
      | (with_reducible exact LeO.refl _)
      | (with_reducible exact LeO.none _)
      | (with_reducible refine LeO.ite ?_ ?_)
      | (with_reducible refine LeO.bind ?_ (fun _ => ?_))
      | exact ih0 _ _ _ _
      | exact ih1 _ _ _ _
      | exact backreachref14_Same.mono _ _ _
      | exact LeO.none _
      | refine LeO.ite ?_ ?_
      | refine LeO.bind ?_ (fun _ => ?_)
set_option maxHeartbeats 8000000 in
set_option maxRecDepth 100000 in
theorem backreachref18_Some.calls (k : Nat) (A0 : Option Addr) (c0 : Nat) (l0 : List (List Int)) (A1 : Option Addr) (c1 : Nat) (l1 : List (List Int)) (r : Bool) (w : World) (hr0 : Kd.C (Kd.slice 3 (Kd.int .i64)) w A0 l0.length l0) (hc0 : l0.length ≤ c0) (hr1 : Kd.C (Kd.slice 3 (Kd.int .i64)) w A1 l1.length l1) (hc1 : l1.length ≤ c1) (h : backreachref18_Some.f k l0 l1 = some r) :
    Calls Try.prog 18 #[.slice A0 l0.length c0, .slice A1 l1.length c1] w fun e w' => e = .returned (.bool r) ∧ Drawn0 w w' := by
  have HR0 := Aside0.mk hr0
  have HC0 := Aside0.mk hc0
  clear hr0 hc0
  have HR1 := Aside0.mk hr1
  have HC1 := Aside0.mk hc1
  clear hr1 hc1
  have H : (backreachref18_Some.l0 k l0 l1 0 0) = some r := h
  clear h
  have H' := Aside0.mk H
  clear H
  go_enter Try.func18, Try.ntmps18
  go_wp2
  repeat (go_quiet (fail); try go_wp2)
  go_loopg [5, 6] k (fun kq v5 v6 w' => ∃ (x5_1 : Int) (x6_1 : Int), v5 = .int .i64 x5_1 ∧ v6 = .int .i64 x6_1 ∧ Aside0 (backreachref18_Some.l0 kq l0 l1 x5_1 x6_1 = some r) ∧ Aside0 (kq ≤ k) ∧ Drawn0 w w')
  case atStart => exact ⟨(0), (0), (by first | rfl | (simp; done) | (simp [*]; done)), (by first | rfl | (simp; done) | (simp [*]; done)), H', ⟨Nat.le_refl _⟩, by repeat (first | exact Drawn0.refl _ | apply Drawn0.step)⟩
  case round =>
    clear H'
    try clear c1
    try clear p2
    obtain ⟨x5_1, x6_1, rfl, rfl, HA, HK1, ⟨m1, rfl⟩⟩ := hrel
    cases gk with
    | zero => exact absurd HA.out (by simp [backreachref18_Some.l0])
    | succ k1 =>
      have H := HA.out
      clear HA
      simp only [backreachref18_Some.l0] at H
      by_cases c3 : x6_1 < (l0.length : Int)
      · rw [if_pos c3] at H
        have c3b0 : decide (x6_1 < (l0.length : Int)) = true := decide_eq_true c3
        clear c3
        have H' := Aside0.mk H
        clear H
        go_wp2
        repeat (go_quiet (fail); try go_wp2)
        go_loopg [5] k1 (fun kq v5 w' => ∃ (x5_2 : Int), v5 = .int .i64 x5_2 ∧ Aside0 (backreachref18_Some.l1 kq l0 l1 x5_2 x6_1 = some r) ∧ Aside0 (kq ≤ k1) ∧ Drawn0 w w')
        case atStart => exact ⟨(x5_1), (by first | rfl | (simp; done) | (simp [*]; done)), H', ⟨Nat.le_refl _⟩, by repeat (first | exact Drawn0.refl _ | apply Drawn0.step)⟩
        case round =>
          clear H'
          try clear c1
          try clear p2
          try clear c3
          try clear c3b0
          try clear p2
          obtain ⟨x5_2, rfl, HA, HK2, ⟨m2, rfl⟩⟩ := hrel
          cases gk with
          | zero => exact absurd HA.out (by simp [backreachref18_Some.l1])
          | succ k2 =>
            have H := HA.out
            clear HA
            simp only [backreachref18_Some.l1] at H
            by_cases c4 : x5_2 < (l1.length : Int)
            · rw [if_pos c4] at H
              have c4b0 : decide (x5_2 < (l1.length : Int)) = true := decide_eq_true c4
              clear c4
              by_cases c5 : 0 ≤ x6_1
              · rw [if_pos c5] at H
                have c5b0 := eq_true c5
                have c5b1 : decide (0 ≤ x6_1) = true := decide_eq_true c5
                clear c5
                by_cases c6 : x6_1 ≤ (wrap64 (x6_1 + 1))
                · rw [if_pos c6] at H
                  have c6b0 := eq_true c6
                  have c6b1 : decide (x6_1 ≤ (wrap64 (x6_1 + 1))) = true := decide_eq_true c6
                  by_cases c7 : (wrap64 (x6_1 + 1)) ≤ (l0.length : Int)
                  · rw [if_pos c7] at H
                    have c7b0 := eq_true c7
                    have c7b1 : decide ((wrap64 (x6_1 + 1)) ≤ (l0.length : Int)) = true := decide_eq_true c7
                    obtain ⟨y258, hy258⟩ : ∃ y_ : List (List Int), y_ = ((l0.take ((wrap64 (x6_1 + 1)) : Int).toNat).drop (x6_1 : Int).toNat) := ⟨_, rfl⟩
                    replace H : (if 0 ≤ x5_2 then (if x5_2 ≤ (wrap64 (x5_2 + 1)) then (if (wrap64 (x5_2 + 1)) ≤ (l1.length : Int) then ((backreachref14_Same.f k2 y258 ((l1.take ((wrap64 (x5_2 + 1)) : Int).toNat).drop (x5_2 : Int).toNat)).bind fun t266 => (if t266 = true then (if x5_2 = (l1.length : Int) then (some false) else (backreachref18_Some.l0 k2 l0 l1 (wrap64 (x5_2 + 1)) (wrap64 (x6_1 + 1)))) else (backreachref18_Some.l1 k2 l0 l1 (wrap64 (x5_2 + 1)) x6_1))) else (none)) else (none)) else (none)) = some r := by first | (rw [hy258]; with_reducible exact H) | (have H2_ := (Option.bind_some _ _).symm.trans H; rw [hy258]; with_reducible exact H2_) | (have H2_ := (Option.bind_some _ _).symm.trans H; with_reducible exact H2_) | with_reducible exact H | (rw [hy258]; exact H) | exact H
                    have Ny258 := Aside0.mk hy258
                    clear hy258
                    by_cases c8 : 0 ≤ x5_2
                    · rw [if_pos c8] at H
                      have c8b0 := eq_true c8
                      have c8b1 : decide (0 ≤ x5_2) = true := decide_eq_true c8
                      clear c8
                      by_cases c9 : x5_2 ≤ (wrap64 (x5_2 + 1))
                      · rw [if_pos c9] at H
                        have c9b0 := eq_true c9
                        have c9b1 : decide (x5_2 ≤ (wrap64 (x5_2 + 1))) = true := decide_eq_true c9
                        by_cases c10 : (wrap64 (x5_2 + 1)) ≤ (l1.length : Int)
                        · rw [if_pos c10] at H
                          have c10b0 := eq_true c10
                          have c10b1 : decide ((wrap64 (x5_2 + 1)) ≤ (l1.length : Int)) = true := decide_eq_true c10
                          obtain ⟨y262, hy262⟩ : ∃ y_ : List (List Int), y_ = ((l1.take ((wrap64 (x5_2 + 1)) : Int).toNat).drop (x5_2 : Int).toNat) := ⟨_, rfl⟩
                          replace H : ((backreachref14_Same.f k2 y258 y262).bind fun t266 => (if t266 = true then (if x5_2 = (l1.length : Int) then (some false) else (backreachref18_Some.l0 k2 l0 l1 (wrap64 (x5_2 + 1)) (wrap64 (x6_1 + 1)))) else (backreachref18_Some.l1 k2 l0 l1 (wrap64 (x5_2 + 1)) x6_1))) = some r := by first | (rw [hy262]; with_reducible exact H) | (have H2_ := (Option.bind_some _ _).symm.trans H; rw [hy262]; with_reducible exact H2_) | (have H2_ := (Option.bind_some _ _).symm.trans H; with_reducible exact H2_) | with_reducible exact H | (rw [hy262]; exact H) | exact H
                          have Ny262 := Aside0.mk hy262
                          clear hy262
                          replace H := Option.bind_eq_some_iff.mp H
                          obtain ⟨t266, A110, H⟩ := H
                          replace H : (if t266 = true then (if x5_2 = (l1.length : Int) then (some false) else (backreachref18_Some.l0 k2 l0 l1 (wrap64 (x5_2 + 1)) (wrap64 (x6_1 + 1)))) else (backreachref18_Some.l1 k2 l0 l1 (wrap64 (x5_2 + 1)) x6_1)) = some r := H
                          have A11 := Aside0.mk A110
                          clear A110
                          by_cases c12 : t266 = true
                          · subst c12
                            have H1 : (if x5_2 = (l1.length : Int) then (some false) else (backreachref18_Some.l0 k2 l0 l1 (wrap64 (x5_2 + 1)) (wrap64 (x6_1 + 1)))) = some r := by rw [if_pos rfl] at H; exact H
                            clear H
                            have H := H1
                            clear H1
                            by_cases c13 : x5_2 = (l1.length : Int)
                            · rw [if_pos c13] at H
                              have c13b0 : (x5_2 == (l1.length : Int)) = true := beq_iff_eq.mpr c13
                              have c13b1 : (x5_2 != (l1.length : Int)) = false := bne_eq_false_iff_eq.mpr c13
                              clear c13
                              obtain rfl := Option.some.inj H
                              have q14 : ((wrap64 (x6_1 + 1)) : Int) ≤ ((l0.length : Int) : Int) := of_decide_eq_true (by first | (with_reducible assumption) | assumption)
                              obtain ⟨i014, hi014, _, hsz14, _⟩ := info_parts info35
                              have hroom14 : l0.length ≤ c0 := HC0.out
                              have hC14 : Kd.C (Kd.slice 3 (Kd.int .i64)) _ A0 l0.length l0 := HR0.out
                              have ql14 : (x6_1 : Int) ≤ ((wrap64 (x6_1 + 1)) : Int) := of_decide_eq_true (by first | (with_reducible assumption) | assumption)
                              have q014 : (0 : Int) ≤ (x6_1 : Int) := of_decide_eq_true (by first | (with_reducible assumption) | assumption)
                              have hcut14 := cut_mid (P := Try.prog) 22 35 .i64 .i64 Try.underlying22 hi014 1 hsz14 A0 l0.length c0 x6_1 (wrap64 (x6_1 + 1)) q014 ql14 q14 hroom14
                              have hr14 := Kd.C_mid (lo := (x6_1 : Int).toNat) (hi := ((wrap64 (x6_1 + 1)) : Int).toNat) (c := c0) hC14 (by omega) (by omega) hroom14
                              obtain ⟨A14, hA14⟩ : ∃ A_x, A_x = (if c0 = (x6_1 : Int).toNat then A0 else (A0 : Option Addr).map (·.add ((x6_1 : Int).toNat * 1))) := ⟨_, rfl⟩
                              obtain ⟨c14, hc14⟩ : ∃ c_x, c_x = c0 - (x6_1 : Int).toNat := ⟨_, rfl⟩
                              have hy14 : y258.length = ((wrap64 (x6_1 + 1)) : Int).toNat - (x6_1 : Int).toNat := (by rw [Ny258.out, List.length_drop, List.length_take] <;> omega)
                              rw [show ((l0).take ((wrap64 (x6_1 + 1)) : Int).toNat).drop (x6_1 : Int).toNat = y258 from Ny258.out.symm] at hr14
                              replace hr14 : Kd.C (Kd.slice 3 (Kd.int .i64)) _ A14 y258.length y258 := (by rw [hA14]; exact hr14)
                              rw [← hy14, ← hA14, ← hc14] at hcut14
                              have HR261 := Aside0.mk hr14
                              have HC261 := Aside0.mk (show y258.length ≤ c14 from by rw [hy14, hc14]; exact Nat.sub_le_sub_right (Nat.le_trans (by omega) hroom14) _)
                              clear hr14 hC14 hroom14 hi014 hsz14 hc14
                              have KY14 := Aside0.mk hy14
                              have KA14 := Aside0.mk hA14
                              clear hy14 hA14
                              replace q14 := eq_true q14
                              have q15 : ((wrap64 (x5_2 + 1)) : Int) ≤ ((l1.length : Int) : Int) := of_decide_eq_true (by first | (with_reducible assumption) | assumption)
                              obtain ⟨i015, hi015, _, hsz15, _⟩ := info_parts info35
                              have hroom15 : l1.length ≤ c1 := HC1.out
                              have hC15 : Kd.C (Kd.slice 3 (Kd.int .i64)) _ A1 l1.length l1 := HR1.out
                              have ql15 : (x5_2 : Int) ≤ ((wrap64 (x5_2 + 1)) : Int) := of_decide_eq_true (by first | (with_reducible assumption) | assumption)
                              have q015 : (0 : Int) ≤ (x5_2 : Int) := of_decide_eq_true (by first | (with_reducible assumption) | assumption)
                              have hcut15 := cut_mid (P := Try.prog) 22 35 .i64 .i64 Try.underlying22 hi015 1 hsz15 A1 l1.length c1 x5_2 (wrap64 (x5_2 + 1)) q015 ql15 q15 hroom15
                              have hr15 := Kd.C_mid (lo := (x5_2 : Int).toNat) (hi := ((wrap64 (x5_2 + 1)) : Int).toNat) (c := c1) hC15 (by omega) (by omega) hroom15
                              obtain ⟨A15, hA15⟩ : ∃ A_x, A_x = (if c1 = (x5_2 : Int).toNat then A1 else (A1 : Option Addr).map (·.add ((x5_2 : Int).toNat * 1))) := ⟨_, rfl⟩
                              obtain ⟨c15, hc15⟩ : ∃ c_x, c_x = c1 - (x5_2 : Int).toNat := ⟨_, rfl⟩
                              have hy15 : y262.length = ((wrap64 (x5_2 + 1)) : Int).toNat - (x5_2 : Int).toNat := (by rw [Ny262.out, List.length_drop, List.length_take] <;> omega)
                              rw [show ((l1).take ((wrap64 (x5_2 + 1)) : Int).toNat).drop (x5_2 : Int).toNat = y262 from Ny262.out.symm] at hr15
                              replace hr15 : Kd.C (Kd.slice 3 (Kd.int .i64)) _ A15 y262.length y262 := (by rw [hA15]; exact hr15)
                              rw [← hy15, ← hA15, ← hc15] at hcut15
                              have HR265 := Aside0.mk hr15
                              have HC265 := Aside0.mk (show y262.length ≤ c15 from by rw [hy15, hc15]; exact Nat.sub_le_sub_right (Nat.le_trans (by omega) hroom15) _)
                              clear hr15 hC15 hroom15 hi015 hsz15 hc15
                              have KY15 := Aside0.mk hy15
                              have KA15 := Aside0.mk hA15
                              clear hy15 hA15
                              replace q15 := eq_true q15
                              go_wp2_with (first | (go_at_call 42; (with_reducible refine (backreachref14_Same.calls k2 _ _ y258 _ _ y262 true _ ?side1 ?side2 ?side3 ?side4 A11.out).mono ?_); (case side1 => repeat (first | exact HR261.out | (with_reducible refine Kd.C_alloc ?_ _) | (with_reducible refine Kd.C_drewN ?_ _) | (with_reducible refine Kd.C_drew ?_))); (case side2 => exact HC261.out); (case side3 => repeat (first | exact HR265.out | (with_reducible refine Kd.C_alloc ?_ _) | (with_reducible refine Kd.C_drewN ?_ _) | (with_reducible refine Kd.C_drew ?_))); (case side4 => exact HC265.out); rintro e w' ⟨rfl, ⟨nd, rfl⟩⟩; (try first | exact ⟨rfl, _, World.drewN_drewN _ _ _⟩ | exact ⟨rfl, _, Eq.trans (World.drewN_drewN _ _ _) (congrArg (World.drewN _) (Nat.add_assoc _ _ _))⟩)))
                              repeat (go_quiet (first | (go_at_call 42; (with_reducible refine (backreachref14_Same.calls k2 _ _ y258 _ _ y262 true _ ?side1 ?side2 ?side3 ?side4 A11.out).mono ?_); (case side1 => repeat (first | exact HR261.out | (with_reducible refine Kd.C_alloc ?_ _) | (with_reducible refine Kd.C_drewN ?_ _) | (with_reducible refine Kd.C_drew ?_))); (case side2 => exact HC261.out); (case side3 => repeat (first | exact HR265.out | (with_reducible refine Kd.C_alloc ?_ _) | (with_reducible refine Kd.C_drewN ?_ _) | (with_reducible refine Kd.C_drew ?_))); (case side4 => exact HC265.out); rintro e w' ⟨rfl, ⟨nd, rfl⟩⟩; (try first | exact ⟨rfl, _, World.drewN_drewN _ _ _⟩ | exact ⟨rfl, _, Eq.trans (World.drewN_drewN _ _ _) (congrArg (World.drewN _) (Nat.add_assoc _ _ _))⟩))); try go_wp2_with (first | (go_at_call 42; (with_reducible refine (backreachref14_Same.calls k2 _ _ y258 _ _ y262 true _ ?side1 ?side2 ?side3 ?side4 A11.out).mono ?_); (case side1 => repeat (first | exact HR261.out | (with_reducible refine Kd.C_alloc ?_ _) | (with_reducible refine Kd.C_drewN ?_ _) | (with_reducible refine Kd.C_drew ?_))); (case side2 => exact HC261.out); (case side3 => repeat (first | exact HR265.out | (with_reducible refine Kd.C_alloc ?_ _) | (with_reducible refine Kd.C_drewN ?_ _) | (with_reducible refine Kd.C_drew ?_))); (case side4 => exact HC265.out); rintro e w' ⟨rfl, ⟨nd, rfl⟩⟩; (try first | exact ⟨rfl, _, World.drewN_drewN _ _ _⟩ | exact ⟨rfl, _, Eq.trans (World.drewN_drewN _ _ _) (congrArg (World.drewN _) (Nat.add_assoc _ _ _))⟩))))
                              go_ret
                              exact ⟨by first | rfl | (simp; done) | (simp [*]; done), by repeat (first | exact Drawn0.refl _ | apply Drawn0.step)⟩
                            · rw [if_neg c13] at H
                              have c13b0 : (x5_2 == (l1.length : Int)) = false := beq_eq_false_iff_ne.mpr c13
                              have c13b1 : (x5_2 != (l1.length : Int)) = true := bne_iff_ne.mpr c13
                              have H' := Aside0.mk H
                              clear H
                              have q16 : ((wrap64 (x6_1 + 1)) : Int) ≤ ((l0.length : Int) : Int) := of_decide_eq_true (by first | (with_reducible assumption) | assumption)
                              obtain ⟨i016, hi016, _, hsz16, _⟩ := info_parts info35
                              have hroom16 : l0.length ≤ c0 := HC0.out
                              have hC16 : Kd.C (Kd.slice 3 (Kd.int .i64)) _ A0 l0.length l0 := HR0.out
                              have ql16 : (x6_1 : Int) ≤ ((wrap64 (x6_1 + 1)) : Int) := of_decide_eq_true (by first | (with_reducible assumption) | assumption)
                              have q016 : (0 : Int) ≤ (x6_1 : Int) := of_decide_eq_true (by first | (with_reducible assumption) | assumption)
                              have hcut16 := cut_mid (P := Try.prog) 22 35 .i64 .i64 Try.underlying22 hi016 1 hsz16 A0 l0.length c0 x6_1 (wrap64 (x6_1 + 1)) q016 ql16 q16 hroom16
                              have hr16 := Kd.C_mid (lo := (x6_1 : Int).toNat) (hi := ((wrap64 (x6_1 + 1)) : Int).toNat) (c := c0) hC16 (by omega) (by omega) hroom16
                              obtain ⟨A16, hA16⟩ : ∃ A_x, A_x = (if c0 = (x6_1 : Int).toNat then A0 else (A0 : Option Addr).map (·.add ((x6_1 : Int).toNat * 1))) := ⟨_, rfl⟩
                              obtain ⟨c16, hc16⟩ : ∃ c_x, c_x = c0 - (x6_1 : Int).toNat := ⟨_, rfl⟩
                              have hy16 : y258.length = ((wrap64 (x6_1 + 1)) : Int).toNat - (x6_1 : Int).toNat := (by rw [Ny258.out, List.length_drop, List.length_take] <;> omega)
                              rw [show ((l0).take ((wrap64 (x6_1 + 1)) : Int).toNat).drop (x6_1 : Int).toNat = y258 from Ny258.out.symm] at hr16
                              replace hr16 : Kd.C (Kd.slice 3 (Kd.int .i64)) _ A16 y258.length y258 := (by rw [hA16]; exact hr16)
                              rw [← hy16, ← hA16, ← hc16] at hcut16
                              have HR261 := Aside0.mk hr16
                              have HC261 := Aside0.mk (show y258.length ≤ c16 from by rw [hy16, hc16]; exact Nat.sub_le_sub_right (Nat.le_trans (by omega) hroom16) _)
                              clear hr16 hC16 hroom16 hi016 hsz16 hc16
                              have KY16 := Aside0.mk hy16
                              have KA16 := Aside0.mk hA16
                              clear hy16 hA16
                              replace q16 := eq_true q16
                              have q17 : ((wrap64 (x5_2 + 1)) : Int) ≤ ((l1.length : Int) : Int) := of_decide_eq_true (by first | (with_reducible assumption) | assumption)
                              obtain ⟨i017, hi017, _, hsz17, _⟩ := info_parts info35
                              have hroom17 : l1.length ≤ c1 := HC1.out
                              have hC17 : Kd.C (Kd.slice 3 (Kd.int .i64)) _ A1 l1.length l1 := HR1.out
                              have ql17 : (x5_2 : Int) ≤ ((wrap64 (x5_2 + 1)) : Int) := of_decide_eq_true (by first | (with_reducible assumption) | assumption)
                              have q017 : (0 : Int) ≤ (x5_2 : Int) := of_decide_eq_true (by first | (with_reducible assumption) | assumption)
                              have hcut17 := cut_mid (P := Try.prog) 22 35 .i64 .i64 Try.underlying22 hi017 1 hsz17 A1 l1.length c1 x5_2 (wrap64 (x5_2 + 1)) q017 ql17 q17 hroom17
                              have hr17 := Kd.C_mid (lo := (x5_2 : Int).toNat) (hi := ((wrap64 (x5_2 + 1)) : Int).toNat) (c := c1) hC17 (by omega) (by omega) hroom17
                              obtain ⟨A17, hA17⟩ : ∃ A_x, A_x = (if c1 = (x5_2 : Int).toNat then A1 else (A1 : Option Addr).map (·.add ((x5_2 : Int).toNat * 1))) := ⟨_, rfl⟩
                              obtain ⟨c17, hc17⟩ : ∃ c_x, c_x = c1 - (x5_2 : Int).toNat := ⟨_, rfl⟩
                              have hy17 : y262.length = ((wrap64 (x5_2 + 1)) : Int).toNat - (x5_2 : Int).toNat := (by rw [Ny262.out, List.length_drop, List.length_take] <;> omega)
                              rw [show ((l1).take ((wrap64 (x5_2 + 1)) : Int).toNat).drop (x5_2 : Int).toNat = y262 from Ny262.out.symm] at hr17
                              replace hr17 : Kd.C (Kd.slice 3 (Kd.int .i64)) _ A17 y262.length y262 := (by rw [hA17]; exact hr17)
                              rw [← hy17, ← hA17, ← hc17] at hcut17
                              have HR265 := Aside0.mk hr17
                              have HC265 := Aside0.mk (show y262.length ≤ c17 from by rw [hy17, hc17]; exact Nat.sub_le_sub_right (Nat.le_trans (by omega) hroom17) _)
                              clear hr17 hC17 hroom17 hi017 hsz17 hc17
                              have KY17 := Aside0.mk hy17
                              have KA17 := Aside0.mk hA17
                              clear hy17 hA17
                              replace q17 := eq_true q17
                              go_wp2_with (first | (go_at_call 42; (with_reducible refine (backreachref14_Same.calls k2 _ _ y258 _ _ y262 true _ ?side1 ?side2 ?side3 ?side4 A11.out).mono ?_); (case side1 => repeat (first | exact HR261.out | (with_reducible refine Kd.C_alloc ?_ _) | (with_reducible refine Kd.C_drewN ?_ _) | (with_reducible refine Kd.C_drew ?_))); (case side2 => exact HC261.out); (case side3 => repeat (first | exact HR265.out | (with_reducible refine Kd.C_alloc ?_ _) | (with_reducible refine Kd.C_drewN ?_ _) | (with_reducible refine Kd.C_drew ?_))); (case side4 => exact HC265.out); rintro e w' ⟨rfl, ⟨nd, rfl⟩⟩; (try first | exact ⟨rfl, _, World.drewN_drewN _ _ _⟩ | exact ⟨rfl, _, Eq.trans (World.drewN_drewN _ _ _) (congrArg (World.drewN _) (Nat.add_assoc _ _ _))⟩)))
                              repeat (go_quiet (first | (go_at_call 42; (with_reducible refine (backreachref14_Same.calls k2 _ _ y258 _ _ y262 true _ ?side1 ?side2 ?side3 ?side4 A11.out).mono ?_); (case side1 => repeat (first | exact HR261.out | (with_reducible refine Kd.C_alloc ?_ _) | (with_reducible refine Kd.C_drewN ?_ _) | (with_reducible refine Kd.C_drew ?_))); (case side2 => exact HC261.out); (case side3 => repeat (first | exact HR265.out | (with_reducible refine Kd.C_alloc ?_ _) | (with_reducible refine Kd.C_drewN ?_ _) | (with_reducible refine Kd.C_drew ?_))); (case side4 => exact HC265.out); rintro e w' ⟨rfl, ⟨nd, rfl⟩⟩; (try first | exact ⟨rfl, _, World.drewN_drewN _ _ _⟩ | exact ⟨rfl, _, Eq.trans (World.drewN_drewN _ _ _) (congrArg (World.drewN _) (Nat.add_assoc _ _ _))⟩))); try go_wp2_with (first | (go_at_call 42; (with_reducible refine (backreachref14_Same.calls k2 _ _ y258 _ _ y262 true _ ?side1 ?side2 ?side3 ?side4 A11.out).mono ?_); (case side1 => repeat (first | exact HR261.out | (with_reducible refine Kd.C_alloc ?_ _) | (with_reducible refine Kd.C_drewN ?_ _) | (with_reducible refine Kd.C_drew ?_))); (case side2 => exact HC261.out); (case side3 => repeat (first | exact HR265.out | (with_reducible refine Kd.C_alloc ?_ _) | (with_reducible refine Kd.C_drewN ?_ _) | (with_reducible refine Kd.C_drew ?_))); (case side4 => exact HC265.out); rintro e w' ⟨rfl, ⟨nd, rfl⟩⟩; (try first | exact ⟨rfl, _, World.drewN_drewN _ _ _⟩ | exact ⟨rfl, _, Eq.trans (World.drewN_drewN _ _ _) (congrArg (World.drewN _) (Nat.add_assoc _ _ _))⟩))))
                              go_roundg k2
                              case measure => have := HK1.out; have := HK2.out; omega
                              case rel => exact ⟨(wrap64 (x5_2 + 1)), (wrap64 (x6_1 + 1)), (by first | rfl | (simp; done) | (simp [*]; done)), (by first | rfl | (simp; done) | (simp [*]; done)), H', ⟨by have := HK1.out; have := HK2.out; omega⟩, by repeat (first | exact Drawn0.refl _ | apply Drawn0.step)⟩
                          · replace c12 := Bool.eq_false_iff.mpr c12
                            subst c12
                            have H1 : (backreachref18_Some.l1 k2 l0 l1 (wrap64 (x5_2 + 1)) x6_1) = some r := by rw [if_neg (show ¬ (false = true) by decide)] at H; exact H
                            clear H
                            have H := H1
                            clear H1
                            have H' := Aside0.mk H
                            clear H
                            have q18 : ((wrap64 (x6_1 + 1)) : Int) ≤ ((l0.length : Int) : Int) := of_decide_eq_true (by first | (with_reducible assumption) | assumption)
                            obtain ⟨i018, hi018, _, hsz18, _⟩ := info_parts info35
                            have hroom18 : l0.length ≤ c0 := HC0.out
                            have hC18 : Kd.C (Kd.slice 3 (Kd.int .i64)) _ A0 l0.length l0 := HR0.out
                            have ql18 : (x6_1 : Int) ≤ ((wrap64 (x6_1 + 1)) : Int) := of_decide_eq_true (by first | (with_reducible assumption) | assumption)
                            have q018 : (0 : Int) ≤ (x6_1 : Int) := of_decide_eq_true (by first | (with_reducible assumption) | assumption)
                            have hcut18 := cut_mid (P := Try.prog) 22 35 .i64 .i64 Try.underlying22 hi018 1 hsz18 A0 l0.length c0 x6_1 (wrap64 (x6_1 + 1)) q018 ql18 q18 hroom18
                            have hr18 := Kd.C_mid (lo := (x6_1 : Int).toNat) (hi := ((wrap64 (x6_1 + 1)) : Int).toNat) (c := c0) hC18 (by omega) (by omega) hroom18
                            obtain ⟨A18, hA18⟩ : ∃ A_x, A_x = (if c0 = (x6_1 : Int).toNat then A0 else (A0 : Option Addr).map (·.add ((x6_1 : Int).toNat * 1))) := ⟨_, rfl⟩
                            obtain ⟨c18, hc18⟩ : ∃ c_x, c_x = c0 - (x6_1 : Int).toNat := ⟨_, rfl⟩
                            have hy18 : y258.length = ((wrap64 (x6_1 + 1)) : Int).toNat - (x6_1 : Int).toNat := (by rw [Ny258.out, List.length_drop, List.length_take] <;> omega)
                            rw [show ((l0).take ((wrap64 (x6_1 + 1)) : Int).toNat).drop (x6_1 : Int).toNat = y258 from Ny258.out.symm] at hr18
                            replace hr18 : Kd.C (Kd.slice 3 (Kd.int .i64)) _ A18 y258.length y258 := (by rw [hA18]; exact hr18)
                            rw [← hy18, ← hA18, ← hc18] at hcut18
                            have HR261 := Aside0.mk hr18
                            have HC261 := Aside0.mk (show y258.length ≤ c18 from by rw [hy18, hc18]; exact Nat.sub_le_sub_right (Nat.le_trans (by omega) hroom18) _)
                            clear hr18 hC18 hroom18 hi018 hsz18 hc18
                            have KY18 := Aside0.mk hy18
                            have KA18 := Aside0.mk hA18
                            clear hy18 hA18
                            replace q18 := eq_true q18
                            have q19 : ((wrap64 (x5_2 + 1)) : Int) ≤ ((l1.length : Int) : Int) := of_decide_eq_true (by first | (with_reducible assumption) | assumption)
                            obtain ⟨i019, hi019, _, hsz19, _⟩ := info_parts info35
                            have hroom19 : l1.length ≤ c1 := HC1.out
                            have hC19 : Kd.C (Kd.slice 3 (Kd.int .i64)) _ A1 l1.length l1 := HR1.out
                            have ql19 : (x5_2 : Int) ≤ ((wrap64 (x5_2 + 1)) : Int) := of_decide_eq_true (by first | (with_reducible assumption) | assumption)
                            have q019 : (0 : Int) ≤ (x5_2 : Int) := of_decide_eq_true (by first | (with_reducible assumption) | assumption)
                            have hcut19 := cut_mid (P := Try.prog) 22 35 .i64 .i64 Try.underlying22 hi019 1 hsz19 A1 l1.length c1 x5_2 (wrap64 (x5_2 + 1)) q019 ql19 q19 hroom19
                            have hr19 := Kd.C_mid (lo := (x5_2 : Int).toNat) (hi := ((wrap64 (x5_2 + 1)) : Int).toNat) (c := c1) hC19 (by omega) (by omega) hroom19
                            obtain ⟨A19, hA19⟩ : ∃ A_x, A_x = (if c1 = (x5_2 : Int).toNat then A1 else (A1 : Option Addr).map (·.add ((x5_2 : Int).toNat * 1))) := ⟨_, rfl⟩
                            obtain ⟨c19, hc19⟩ : ∃ c_x, c_x = c1 - (x5_2 : Int).toNat := ⟨_, rfl⟩
                            have hy19 : y262.length = ((wrap64 (x5_2 + 1)) : Int).toNat - (x5_2 : Int).toNat := (by rw [Ny262.out, List.length_drop, List.length_take] <;> omega)
                            rw [show ((l1).take ((wrap64 (x5_2 + 1)) : Int).toNat).drop (x5_2 : Int).toNat = y262 from Ny262.out.symm] at hr19
                            replace hr19 : Kd.C (Kd.slice 3 (Kd.int .i64)) _ A19 y262.length y262 := (by rw [hA19]; exact hr19)
                            rw [← hy19, ← hA19, ← hc19] at hcut19
                            have HR265 := Aside0.mk hr19
                            have HC265 := Aside0.mk (show y262.length ≤ c19 from by rw [hy19, hc19]; exact Nat.sub_le_sub_right (Nat.le_trans (by omega) hroom19) _)
                            clear hr19 hC19 hroom19 hi019 hsz19 hc19
                            have KY19 := Aside0.mk hy19
                            have KA19 := Aside0.mk hA19
                            clear hy19 hA19
                            replace q19 := eq_true q19
                            go_wp2_with (first | (go_at_call 42; (with_reducible refine (backreachref14_Same.calls k2 _ _ y258 _ _ y262 false _ ?side1 ?side2 ?side3 ?side4 A11.out).mono ?_); (case side1 => repeat (first | exact HR261.out | (with_reducible refine Kd.C_alloc ?_ _) | (with_reducible refine Kd.C_drewN ?_ _) | (with_reducible refine Kd.C_drew ?_))); (case side2 => exact HC261.out); (case side3 => repeat (first | exact HR265.out | (with_reducible refine Kd.C_alloc ?_ _) | (with_reducible refine Kd.C_drewN ?_ _) | (with_reducible refine Kd.C_drew ?_))); (case side4 => exact HC265.out); rintro e w' ⟨rfl, ⟨nd, rfl⟩⟩; (try first | exact ⟨rfl, _, World.drewN_drewN _ _ _⟩ | exact ⟨rfl, _, Eq.trans (World.drewN_drewN _ _ _) (congrArg (World.drewN _) (Nat.add_assoc _ _ _))⟩)))
                            repeat (go_quiet (first | (go_at_call 42; (with_reducible refine (backreachref14_Same.calls k2 _ _ y258 _ _ y262 false _ ?side1 ?side2 ?side3 ?side4 A11.out).mono ?_); (case side1 => repeat (first | exact HR261.out | (with_reducible refine Kd.C_alloc ?_ _) | (with_reducible refine Kd.C_drewN ?_ _) | (with_reducible refine Kd.C_drew ?_))); (case side2 => exact HC261.out); (case side3 => repeat (first | exact HR265.out | (with_reducible refine Kd.C_alloc ?_ _) | (with_reducible refine Kd.C_drewN ?_ _) | (with_reducible refine Kd.C_drew ?_))); (case side4 => exact HC265.out); rintro e w' ⟨rfl, ⟨nd, rfl⟩⟩; (try first | exact ⟨rfl, _, World.drewN_drewN _ _ _⟩ | exact ⟨rfl, _, Eq.trans (World.drewN_drewN _ _ _) (congrArg (World.drewN _) (Nat.add_assoc _ _ _))⟩))); try go_wp2_with (first | (go_at_call 42; (with_reducible refine (backreachref14_Same.calls k2 _ _ y258 _ _ y262 false _ ?side1 ?side2 ?side3 ?side4 A11.out).mono ?_); (case side1 => repeat (first | exact HR261.out | (with_reducible refine Kd.C_alloc ?_ _) | (with_reducible refine Kd.C_drewN ?_ _) | (with_reducible refine Kd.C_drew ?_))); (case side2 => exact HC261.out); (case side3 => repeat (first | exact HR265.out | (with_reducible refine Kd.C_alloc ?_ _) | (with_reducible refine Kd.C_drewN ?_ _) | (with_reducible refine Kd.C_drew ?_))); (case side4 => exact HC265.out); rintro e w' ⟨rfl, ⟨nd, rfl⟩⟩; (try first | exact ⟨rfl, _, World.drewN_drewN _ _ _⟩ | exact ⟨rfl, _, Eq.trans (World.drewN_drewN _ _ _) (congrArg (World.drewN _) (Nat.add_assoc _ _ _))⟩))))
                            go_roundg k2
                            case measure => have := HK1.out; have := HK2.out; omega
                            case rel => exact ⟨(wrap64 (x5_2 + 1)), (by first | rfl | (simp; done) | (simp [*]; done)), H', ⟨by have := HK1.out; have := HK2.out; omega⟩, by repeat (first | exact Drawn0.refl _ | apply Drawn0.step)⟩
                        · rw [if_neg c10] at H
                          exact absurd H (by simp)
                      · rw [if_neg c9] at H
                        exact absurd H (by simp)
                    · rw [if_neg c8] at H
                      exact absurd H (by simp)
                  · rw [if_neg c7] at H
                    exact absurd H (by simp)
                · rw [if_neg c6] at H
                  exact absurd H (by simp)
              · rw [if_neg c5] at H
                exact absurd H (by simp)
            · rw [if_neg c4] at H
              have c4b0 : decide (x5_2 < (l1.length : Int)) = false := decide_eq_false c4
              clear c4
              by_cases c20 : x5_2 = (l1.length : Int)
              · rw [if_pos c20] at H
                have c20b0 : (x5_2 == (l1.length : Int)) = true := beq_iff_eq.mpr c20
                have c20b1 : (x5_2 != (l1.length : Int)) = false := bne_eq_false_iff_eq.mpr c20
                clear c20
                obtain rfl := Option.some.inj H
                go_wp2
                repeat (go_quiet (fail); try go_wp2)
                go_ret
                exact ⟨by first | rfl | (simp; done) | (simp [*]; done), by repeat (first | exact Drawn0.refl _ | apply Drawn0.step)⟩
              · rw [if_neg c20] at H
                have c20b0 : (x5_2 == (l1.length : Int)) = false := beq_eq_false_iff_ne.mpr c20
                have c20b1 : (x5_2 != (l1.length : Int)) = true := bne_iff_ne.mpr c20
                have H' := Aside0.mk H
                clear H
                go_wp2
                repeat (go_quiet (fail); try go_wp2)
                go_roundg k2
                case measure => have := HK1.out; have := HK2.out; omega
                case rel => exact ⟨(wrap64 (x5_2 + 1)), (wrap64 (x6_1 + 1)), (by first | rfl | (simp; done) | (simp [*]; done)), (by first | rfl | (simp; done) | (simp [*]; done)), H', ⟨by have := HK1.out; have := HK2.out; omega⟩, by repeat (first | exact Drawn0.refl _ | apply Drawn0.step)⟩
      · rw [if_neg c3] at H
        have c3b0 : decide (x6_1 < (l0.length : Int)) = false := decide_eq_false c3
        clear c3
        obtain rfl := Option.some.inj H
        go_wp2
        repeat (go_quiet (fail); try go_wp2)
        go_ret
        exact ⟨by first | rfl | (simp; done) | (simp [*]; done), by repeat (first | exact Drawn0.refl _ | apply Drawn0.step)⟩

end Go.Proofs.Ytphloehjcfipfaa.X
end

section
/- slices.Concat at lists of clauses, once more: it is told, too, where its clauses lie. -/
set_option linter.unusedVariables false
set_option linter.unusedSimpArgs false
namespace Go.Proofs.Ytphloehjcfipfaa.Cl
open Go.RowKit Go.Proofs.YtphloehjcfipfaaW.PrintWords Go.Proofs.YtphloehjcfipfaaW.PrintLast Go.Proofs.YtphloehjcfipfaaW.PrintMore

set_option maxRecDepth 100000 in
set_option maxHeartbeats 1000000 in
theorem growF_some (n : Nat) (w : World) (hn : 0 < n) (hl : n * 24 ≤ 140737488355328) : Calls Try.prog 72 #[.slice none 0 0, .int .i64 n] w fun e w' => ∃ v, e = .returned v ∧ Kd.N KR 35 w' w.heap.size (fun k => w.heap.size ≤ k) v [] ∧ Below w.heap.size w w' := by
  have hb1 : decide ((n : Int) > 0) = true := by simp; omega
  have hb2 : decide ((n : Int) < 0) = false := by simp
  obtain ⟨i0, hi0, _, hsz0, _⟩ := info_parts info35
  have hcut := fun (A : Option Addr) (n c : Nat) (hc : n ≤ c) => cut_to (P := Try.prog) 22 35 .i64 Try.underlying22 hi0 A n c 0 (Int.le_refl _) (by omega) hc
  have HCUT := Lib.hid hcut
  clear hcut
  have hcut0 : ∀ w, (Instr.slice 22 (.slice none 0 0) none (some (.int .i64 0)) none).run Try.prog w = .ok (.slice none 0 0) w := fun w => by kernel_rfl
  go_enter Try.func72, Try.ntmps72
  go_wp2_with (first
    | (at_builtin; refine Kd.N_append_zeros KR (w0 := w) w.heap.size rfl _ _ 22 3 35 (.slice none 0 0) 24 rfl Try.underlying22 Try.underlying3 info35 rfl (by decide) (by omega) (.slice none 0 0) [] [] (n : Int) (fun k => w.heap.size ≤ k) rfl rfl ?hz (fun k hk => hk) (Kd.N_nil _ _ _ _ _) (by omega) (Below.refl _ _) (Nat.le_refl _) (by simp; omega) ?_; rotate_left 1; intro v1 w1 hN hB hg hat; simp only [List.nil_append, Int.toNat_natCast] at hN; obtain ⟨A1, c1, hv, hle, _⟩ := Kd.N_reads hN; rw [List.length_replicate] at hv hle; subst hv; have hcut := HCUT.out A1 n c1 hle w1; have HN := Aside0.mk hN; have HB := Aside0.mk hB; clear hN hB hg hat)
    | go_in)
  · go_ret
    have h0 := Kd.N_take (m := 0) (xs := List.replicate n ([] : List Int)) HN.out (Nat.zero_le _)
    exact ⟨_, rfl, by simpa using h0, HB.out⟩
  · exact fun W' _ => ⟨none, 0, rfl, Nat.le_refl _, Kd.C_nil _ _⟩

/-- Room for so many. -/
theorem growF_calls (n : Nat) (w : World) (hl : n * 24 ≤ 140737488355328) : Calls Try.prog 72 #[.slice none 0 0, .int .i64 n] w fun e w' => ∃ v, e = .returned v ∧ Kd.N KR 35 w' w.heap.size (fun k => w.heap.size ≤ k) v [] ∧ Below w.heap.size w w' := by
  rcases Nat.eq_zero_or_pos n with rfl | hn
  · exact (grow_zero w).mono fun e w' ⟨he, hw⟩ => ⟨_, he, Kd.N_nil _ _ _ _ _, by rw [hw]; exact Below.refl _ _⟩
  · exact growF_some n w hn hl

set_option maxRecDepth 100000 in
set_option maxHeartbeats 2000000 in
theorem concatF_calls (A : Option Addr) (cap : Nat) (ss : List (List (List Int))) (w : World) (hC : Kd.C KRR w A ss.length ss) (hcap : ss.length ≤ cap) (hl : (cat ss).length * 24 ≤ 140737488355328) (okp : Nat → Prop) (hokp : ∀ k, okp k → k < w.heap.size)
    (hF : ∀ (i : Nat) (hi : i < ss.length) (ad : Addr) (A0 : Option Addr) (c0 : Nat), A = some ad → w.cell? (ad.add i) = some (.slice A0 ss[i].length c0) → Kd.F KR w okp A0 ss[i].length ss[i]) :
    Calls Try.prog 54 #[.slice A ss.length cap] w fun e w' => ∃ v, e = .returned v ∧ Kd.N KR 35 w' w.heap.size (fun k => okp k ∨ w.heap.size ≤ k) v (cat ss) ∧ Below w.heap.size w w' := by
  have HC := Aside0.mk hC
  have HFT := Lib.hid hF
  have HOKP := Lib.hid hokp
  clear hF hokp
  have hlen : ss.length ≤ 9223372036854775807 := by have h1 := hC.1; have h2 := hC.2.1; omega
  have hmono : ∀ i, i ≤ ss.length → (cat (ss.take i)).length ≤ (cat ss).length := fun i hi => by
    have : cat ss = cat (ss.take i) ++ cat (ss.drop i) := by
      have h2 : ∀ xs ys : List (List (List Int)), cat (xs ++ ys) = cat xs ++ cat ys := by
        intro xs ys
        induction xs with
        | nil => simp [cat]
        | cons x xs ih => simp only [cat, List.cons_append, List.foldr_cons] at *; rw [ih, List.append_assoc]
      rw [← h2, List.take_append_drop]
    rw [this, List.length_append]
    omega
  have HM := Aside0.mk hmono
  clear hC hmono
  go_enter Try.func54, Try.ntmps54
  go_wp2
  go_loop [3, 11] (fun v3 v11 => ∃ i : Nat, v11 = .int .i64 i ∧ Aside0 (i ≤ ss.length) ∧ v3 = .int .i64 ((cat (ss.take i)).length : Int)) (fun _ i => ss.length - (intOf i).toNat)
  case atStart => exact ⟨0, rfl, ⟨Nat.zero_le _⟩, rfl⟩
  case round =>
    obtain ⟨i, rfl, hi, rfl⟩ := hrel
    have hi := hi.out
    have hm := HM.out i hi
    by_cases hlt : i < ss.length
    · obtain ⟨ad, A0, c0, e, hcell, hlc, hrow⟩ := rowsAt HC.out hlt
      cases e
      have hm1 := HM.out (i + 1) hlt
      have hcat := cat_take hlt
      have hlc1 : (cat (ss.take (i + 1))).length = (cat (ss.take i)).length + ss[i].length := by rw [hcat, List.length_append]
      have HL := Lib.hid hlc1
      rw [hlc1] at hm1
      have hneg : decide (((cat (ss.take i)).length : Int) + (ss[i].length : Int) < 0) = false := by simp; omega
      clear hcat hlc1 hrow
      go_wp2
      go_round
      case rel => exact ⟨i + 1, by go_num, ⟨hlt⟩, by rw [HL.out]; go_num⟩
      case measure => simp [intOf]; omega
    · have ei : i = ss.length := by omega
      subst ei
      have hgrow := growF_calls (cat ss).length w hl
      have HG := Lib.hid hgrow
      clear hgrow
      go_wp2_with (go_at_call 72; refine (HG.out).mono ?_; rintro e w1 ⟨v1, rfl, hN, hB⟩; have HN := Aside0.mk (Kd.N_mono (ok' := (fun k => okp k ∨ w.heap.size ≤ k)) hN (fun k hk => .inr hk)); have HB := Aside0.mk hB; clear hN hB)
      go_loopw [6, 27] (fun v6 v27 wr => ∃ i : Nat, v27 = .int .i64 i ∧ Aside0 (i ≤ ss.length) ∧ Aside0 (Kd.N KR 35 wr w.heap.size (fun k => okp k ∨ w.heap.size ≤ k) v6 (cat (ss.take i))) ∧ Aside0 (Below w.heap.size w wr)) (fun _ i _ => ss.length - (intOf i).toNat)
      case atStart => exact ⟨0, rfl, ⟨Nat.zero_le _⟩, HN, HB⟩
      case round =>
        clear HN HB
        obtain ⟨i, rfl, hi, hN, hB⟩ := hrel
        have hi := hi.out
        by_cases hlt : i < ss.length
        · obtain ⟨ad, A0, c0, e, hcell, hlc, hrow⟩ := rowsAt (Kd.C_below HC.out hB.out) hlt
          cases e
          have hm1 := HM.out (i + 1) hlt
          rw [cat_take hlt, List.length_append] at hm1
          have hF : Kd.F KR wr okp A0 ss[i].length ss[i] := by
            obtain ⟨ad2, A2, c2, e2, hcell2, _, hrow2⟩ := rowsAt HC.out hlt
            cases e2
            have := (hB.out.cell (World.block_lt_of_cell? w _ hcell2)).trans hcell2
            rw [hcell] at this
            cases this
            exact Kd.F_below (HFT.out i hlt ad A0 c0 rfl hcell2) hB.out
          have HF := Aside0.mk hF
          have HCT := Lib.hid (cat_take hlt)
          clear hF hrow
          go_wp2_with (first
            | (at_builtin; refine Kd.N_append_rows KR (w0 := w) w.heap.size rfl _ _ 22 35 (.slice none 0 0) 24 rfl Try.underlying22 info35 rfl (by decide) (by omega) u6 (cat (ss.take i)) ss[i] A0 ss[i].length c0 (fun k => okp k ∨ w.heap.size ≤ k) okp rfl rfl hN.out HF.out (fun k hk => ⟨.inl hk, fun e => by have := Kd.N_base hN.out k e.symm; have := HOKP.out k hk; omega⟩) (fun k hk => .inr (Nat.le_trans hB.out.size hk)) hB.out hB.out.size (by omega) ?_; intro v8 w8 hN8 hB8 hg8 hat8; have HN8 := Aside0.mk hN8; have HB8 := Aside0.mk hB8; clear hN8 hB8 hg8 hat8)
            | go_in)
          go_roundw
          case rel => exact ⟨i + 1, by go_num, ⟨hlt⟩, ⟨by rw [HCT.out]; exact HN8.out⟩, HB8⟩
          case measure => simp [intOf]; omega
        · have ei : i = ss.length := by omega
          subst ei
          go_wp2
          go_ret
          exact ⟨u6, rfl, by have := hN.out; rwa [List.take_length] at this, hB.out⟩
/-- The call of 'joined', with where the clauses lie. -/
theorem joinedF_calls (A : Option Addr) (cap : Nat) (ss : List (List (List Int))) (w : World) (hC : Kd.C KRR w A ss.length ss) (hcap : ss.length ≤ cap) (hl : (cat ss).length * 24 ≤ 140737488355328) (okp : Nat → Prop) (hokp : ∀ k, okp k → k < w.heap.size)
    (hF : ∀ (i : Nat) (hi : i < ss.length) (ad : Addr) (A0 : Option Addr) (c0 : Nat), A = some ad → w.cell? (ad.add i) = some (.slice A0 ss[i].length c0) → Kd.F KR w okp A0 ss[i].length ss[i]) :
    Calls Try.prog 34 #[.slice A ss.length cap] w fun e w' => ∃ v, e = .returned v ∧ Kd.N KR 35 w' w.heap.size (fun k => okp k ∨ w.heap.size ≤ k) v (cat ss) ∧ Below w.heap.size w w' := by
  have HCON := Lib.hid (concatF_calls A cap ss w hC hcap hl okp hokp hF)
  clear hC hF
  go_enter Try.func34, Try.ntmps34
  go_wp2_with (go_at_call 54; refine (HCON.out).mono ?_; rintro e w1 ⟨v1, rfl, hN, hB⟩; have HN := Aside0.mk hN; have HB := Aside0.mk hB; clear hN hB)
  go_ret
  exact ⟨v1, rfl, HN.out, HB.out⟩
end Go.Proofs.Ytphloehjcfipfaa.Cl
end

section
/- slices.Clone of a clause: the same, in memory of its own. -/
set_option linter.unusedVariables false
set_option linter.unusedSimpArgs false
namespace Go.Proofs.Ytphloehjcfipfaa.Cl
open Go.RowKit Go.Proofs.YtphloehjcfipfaaW.PrintWords Go.Proofs.YtphloehjcfipfaaW.PrintLast Go.Proofs.YtphloehjcfipfaaW.PrintMore

abbrev KI : Kd Int := Kd.int .i64
theorem info3c : (Try.prog.info? 3).map (fun i => (i.zero, i.size, i.bytes)) = some (some (.int .i64 0), 1, 8) := by kernel_rfl

set_option maxRecDepth 100000 in
set_option maxHeartbeats 1000000 in
theorem clone_calls (A : Option Addr) (cap : Nat) (c : List Int) (w : World) (hC : KI.C w A c.length c) (hcap : c.length ≤ cap) (hl : c.length * 8 ≤ 140737488355328) :
    Calls Try.prog 40 #[.slice A c.length cap] w fun e w' => ∃ A' c', e = .returned (.slice A' c.length c') ∧ c.length ≤ c' ∧ Kd.F KI w' (fun k => w.heap.size ≤ k) A' c.length c ∧ Below w.heap.size w w' := by
  cases A with
  | none =>
    have h0 : c = [] := by
      cases c with
      | nil => rfl
      | cons x r =>
        obtain ⟨ad, e, _⟩ := hC.2.2 (by simp)
        cases e
    subst h0
    have hq := fun W => run_eql_slice_nil (P := Try.prog) W 35 3 none 0 cap Try.underlying35
    simp only [Option.isNone_none] at hq
    simp only [List.length_nil]
    go_enter Try.func40, Try.ntmps40
    go_wp2
    go_ret
    exact ⟨none, 0, rfl, Nat.le_refl _, fun W' _ => Kd.C_nil _ _, Below.refl _ _⟩
  | some ad =>
    have HF := Aside0.mk (Kd.C_F (Kd.heap_int .i64) hC)
    clear hC
    have hq := fun W => run_eql_slice_nil (P := Try.prog) W 35 3 (some ad) c.length cap Try.underlying35
    simp only [Option.isNone_some] at hq
    go_enter Try.func40, Try.ntmps40
    go_wp2_with (first
      | ((with_reducible refine gate_dst (N := 5) rfl ?_); refine Kd.N_lit KI w.heap.size 3 ?hg (w0 := w) (N' := 5) ?hd (xs := ([] : List Int)) (inner := []) (ok := fun k => w.heap.size ≤ k) (okp := fun k => w.heap.size ≤ k) ?hr (Reps.none _ _) (fun _ h => h) (Nat.le_refl _) (Below.refl _ _) (Nat.le_refl _) (by simp) ?_; (case hd => rfl); (case hg => rfl); (case hr => first | (go_simp; done) | (go_simp; rfl)); intro v1 w1 hN1 hB1 hg1 hat1; have HN1 := Aside0.mk hN1; have HB1 := Aside0.mk hB1; clear hN1 hB1 hg1 hat1)
      | (at_builtin; refine Kd.N_append_rows KI (w0 := w) w.heap.size rfl _ _ 35 3 (.int .i64 0) 8 rfl Try.underlying35 info3c rfl (by decide) (by omega) v1 [] c (some ad) c.length cap (fun k => True) (fun k => k < w.heap.size) rfl rfl (Kd.N_mono HN1.out (fun _ _ => trivial)) (Kd.F_below HF.out HB1.out) (fun k hk => ⟨trivial, fun e => by have := Kd.N_base HN1.out k e.symm; omega⟩) (fun _ _ => trivial) HB1.out HB1.out.size (by simp; omega) ?_; intro v2 w2 hN2 hB2 hg2 hat2; have HN2 := Aside0.mk hN2; have HB2 := Aside0.mk hB2; clear hN2 hB2 hg2 hat2)
      | go_in)
    go_ret
    have hN' : Kd.N KI 3 w2 w.heap.size (fun k => w.heap.size ≤ k) v2 ([] ++ c) := by
      obtain ⟨_, rows, hl, hR, hf⟩ := HN2.out
      exact ⟨fun k hk => Kd.N_base HN2.out k hk, rows, hl, hR, fun j x cc hx hc W' _ => (show KI.K W' x cc from (Kd.FK_now (hf j x cc hx hc) : KI.K w2 x cc))⟩
    obtain ⟨A', c', rfl, hle, hC'⟩ := Kd.N_reads hN'
    have hF' := Kd.N_F hN'
    rw [List.nil_append] at hle hF'
    exact ⟨A', c', rfl, hle, hF', HB2.out⟩
end Go.Proofs.Ytphloehjcfipfaa.Cl
end

section
/- proof.Trim's closure: one clause left out, where the rest is a proof still. -/
set_option linter.unusedVariables false
set_option linter.unusedSimpArgs false
namespace Go.Proofs.Ytphloehjcfipfaa.Cl
open Go.RowKit Go.Proofs.YtphloehjcfipfaaW.PrintWords Go.Proofs.YtphloehjcfipfaaW.PrintLast Go.Proofs.YtphloehjcfipfaaW.PrintMore

/-- A list but one of its clauses. -/
def wo (l : List (List Int)) (k : Nat) : List (List Int) := l.take k ++ l.drop (k + 1)
theorem wo_length {l : List (List Int)} {k : Nat} (h : k < l.length) : (wo l k).length + 1 = l.length := by
  unfold wo
  rw [List.length_append, List.length_take, List.length_drop]
  omega
theorem wo_total {l : List (List Int)} {k : Nat} : total (wo l k) ≤ total l := by
  unfold wo
  rw [total_append]
  have h := total_append (l.take k) (l.drop k)
  rw [List.take_append_drop] at h
  have h2 : total (l.drop (k + 1)) ≤ total (l.drop k) := by
    have h3 := total_append ((l.drop k).take 1) ((l.drop k).drop 1)
    rw [List.take_append_drop, List.drop_drop] at h3
    omega
  omega
theorem two_feet {W1 : World} {b : Nat} {A B : Option Addr} {l p : List (List Int)} {c1 c2 : Nat} {okp : Nat → Prop} (hx : W1.cell? ⟨b, 0, none⟩ = some (.slice A l.length c1)) (hy : W1.cell? ⟨b, 1, none⟩ = some (.slice B p.length c2))
    (h1 : Kd.F KR W1 okp A l.length l) (h2 : Kd.F KR W1 okp B p.length p) : ∀ (i : Nat) (hi : i < [l, p].length) (ad : Addr) (A0 : Option Addr) (c0 : Nat), (some ⟨b, 0, none⟩ : Option Addr) = some ad → W1.cell? (ad.add i) = some (.slice A0 [l, p][i].length c0) → Kd.F KR W1 okp A0 [l, p][i].length [l, p][i] := by
  intro i hi ad A0 c0 e hc
  cases e
  rw [add_plain] at hc
  rcases i with _ | _ | i
  · have hc : some (Value.slice A l.length c1) = some (.slice A0 l.length c0) := hx.symm.trans hc
    cases hc
    exact h1
  · have hc : some (Value.slice B p.length c2) = some (.slice A0 p.length c0) := hy.symm.trans hc
    cases hc
    exact h2
  · simp at hi
    omega

theorem one_cell {W : World} {b : Nat} {v : Value} {t : TypeId} (h : W.heap[b]? = some (.cells #[v] t (0, 0))) : W.cell? ⟨b, 0, none⟩ = some v := by simp [World.cell?, h]
/-- What is known between the steps: the cell holds the list, which lies apart from it. -/
structure TrimSt (w0 W : World) (b8 b2 : Nat) (lv v : Value) (out : List (List Int)) : Prop where
  heap : W.heap[b8]? = some (.cells #[v] 22 (0, 0))
  box : W.heap[b2]? = some (.cells #[lv] 22 (0, 0))
  row : Kd.N KR 35 W w0.heap.size (fun q => q ≠ b8) v out
  below : Below w0.heap.size w0 W
  old8 : w0.heap.size ≤ b8
  apart : b2 ≠ b8

theorem TrimSt.cell {w0 W : World} {b8 b2 : Nat} {lv v : Value} {out : List (List Int)} (h : TrimSt w0 W b8 b2 lv v out) : W.cell? ⟨b8, 0, none⟩ = some v := one_cell h.heap

set_option maxRecDepth 100000 in
set_option maxHeartbeats 4000000 in
theorem trim1_calls {w0 W : World} {b8 b2 : Nat} {A : Option Addr} {cap : Nat} {l out : List (List Int)} {v : Value} (k : Nat) (hC0 : KR.C w0 A l.length l) (hcap : l.length ≤ cap) (hst : TrimSt w0 W b8 b2 (.slice A l.length cap) v out) (hk : k < out.length) (hfit : Fit2 l out) :
    Calls Try.prog 41 #[.int .i64 k, .pointer (some ⟨b8, 0, none⟩), .pointer (some ⟨b2, 0, none⟩)] W fun e W' => ∃ v', e = .returned (.bool (decide ((check l (wo out k)).1 = 0))) ∧
      TrimSt w0 W' b8 b2 (.slice A l.length cap) v' (if (check l (wo out k)).1 = 0 then wo out k else out) := by
  have HST := Aside0.mk hst
  have HC0 := Aside0.mk hC0
  obtain ⟨Av, cv, rfl⟩ := Kd.N_slice hst.row
  obtain ⟨_, hcv, _⟩ := Kd.N_reads' hst.row
  have HCELL := Aside0.mk hst.cell
  have HBOX := Aside0.mk (one_cell hst.box)
  have hb8 : b8 < W.heap.size := World.block_lt_of_cell? W _ hst.cell
  have hb2 : b2 < W.heap.size := World.block_lt_of_cell? W _ (one_cell hst.box)
  obtain ⟨i0, hi0, _, hsz0, _⟩ := info_parts info35
  have hct := cut_to (P := Try.prog) 22 35 .i64 Try.underlying22 hi0 Av out.length cv (k : Int) (by omega) (by omega) hcv
  have hcf := cut_from (P := Try.prog) 22 35 .i64 Try.underlying22 hi0 1 hsz0 Av out.length cv ((k : Int) + 1) (by omega) (by omega)
  rw [Int.toNat_natCast] at hct
  rw [show ((k : Int) + 1).toNat = k + 1 by omega] at hcf
  have hF := Kd.N_F hst.row
  have hFt := Kd.F_bound (Kd.F_take (m := k) hF (by omega))
  have hFd := Kd.F_bound (Kd.F_cut (m := k + 1) (c := cv) hF (by omega) hcv)
  rw [show KR.sz = 1 from rfl] at hFd
  generalize (if cv = k + 1 then Av else Av.map (·.add ((k + 1) * 1))) = Ad at hcf hFd
  have htl : (out.take k).length = k := by rw [List.length_take]; omega
  have hdl : (out.drop (k + 1)).length = out.length - (k + 1) := List.length_drop
  have hj : ∀ W1, W1 = W.drew.alloc (.cells #[.slice Av k cv, .slice Ad (out.length - (k + 1)) (cv - (k + 1))] 22) →
      Calls Try.prog 34 #[.slice (some ⟨W.heap.size, 0, none⟩) 2 2] W1 fun e w' => ∃ vj, e = .returned vj ∧ Kd.N KR 35 w' w0.heap.size (fun q => q ≠ b8) vj (wo out k) ∧ Below W.heap.size W w' := by
    intro W1 e1
    subst e1
    have hx := (two_cells W.drew (.slice Av k cv) (.slice Ad (out.length - (k + 1)) (cv - (k + 1))) 22).1
    have hy := (two_cells W.drew (.slice Av k cv) (.slice Ad (out.length - (k + 1)) (cv - (k + 1))) 22).2
    rw [show W.drew.heap.size = W.heap.size from rfl] at hx hy
    have hbw := below_alloc (below_drew (Below.refl W.heap.size W)) (.cells #[.slice Av k cv, .slice Ad (out.length - (k + 1)) (cv - (k + 1))] 22)
    have hx : (W.drew.alloc (.cells #[.slice Av k cv, .slice Ad (out.length - (k + 1)) (cv - (k + 1))] 22)).cell? ⟨W.heap.size, 0, none⟩ = some (.slice Av (out.take k).length cv) := by rw [htl]; exact hx
    have hy : (W.drew.alloc (.cells #[.slice Av k cv, .slice Ad (out.length - (k + 1)) (cv - (k + 1))] 22)).cell? ⟨W.heap.size, 1, none⟩ = some (.slice Ad (out.drop (k + 1)).length (cv - (k + 1))) := by rw [hdl]; exact hy
    generalize W.drew.alloc (.cells #[.slice Av k cv, .slice Ad (out.length - (k + 1)) (cv - (k + 1))] 22) = W1 at hx hy hbw
    have hF1 := Kd.F_below hFt hbw
    have hF2 := Kd.F_below hFd hbw
    have hcl : cat [out.take k, out.drop (k + 1)] = wo out k := by simp [cat, wo]
    refine (joinedF_calls (some ⟨W.heap.size, 0, none⟩) 2 [out.take k, out.drop (k + 1)] W1
      (two_rows (w := W1) (Kd.F_now hF1) (by omega) (Kd.F_now hF2) (by omega) (Below.refl _ _) hx hy) (by simp) (by rw [hcl]; have := wo_length hk; have := hfit.2; omega)
      (fun q => q ≠ b8 ∧ q < W.heap.size) (fun q hq => Nat.lt_of_lt_of_le hq.2 hbw.size) (two_feet hx hy hF1 hF2)).mono fun e w' ⟨vj, he, hN, hB⟩ => ?_
    rw [hcl] at hN
    exact ⟨vj, he, Kd.N_lower (Kd.N_mono hN fun q hq => by
      rcases hq with hq | hq
      · exact hq.1
      · have := hbw.size; omega) (Nat.le_trans hst.below.size hbw.size), below_then hbw hbw.size hB⟩
  have HJ := Lib.hid hj
  have HK := Aside0.mk hk
  have HCAP := Aside0.mk hcap
  have HFIT := Aside0.mk hfit
  have HB8 := Aside0.mk hb8
  have HB2 := Aside0.mk hb2
  have hwr : IntKind.i64.wrap ((k : Int) + 1) = (k : Int) + 1 := IntWalk.i64_in _ (by have := hfit.2; omega)
  clear hst hC0 hj hF hFt hFd htl hdl hi0 hsz0 hk hfit hb8 hb2 hcap hcv
  go_enter Try.func41, Try.ntmps41
  go_wp2_with fail
  refine start_ (n := 10) (S := fun w' => w'.cell? ⟨b8, 0, none⟩ = some (.slice Av out.length cv)) (ds := [7, 8]) #[false, false, false, false, false, false, false, false, false, false] (by kernel_rfl) rfl rfl (HCELL.out) (fun hHeld => ?_)
  refine pure_ (i := 1) (N := some 9) (v := ?_) (a' := ?_) #[false, true, false, false, false, false, false, false, false, false] rfl rfl (by kernel_rfl) (fun _ _ _ h => h) (Or.inl ⟨by rfl, ?_⟩) ?_ ?_
  rotate_left
  · intro w'
    go_simp
    with_reducible rfl
  rotate_left
  · simp only [Act.put, List.setIfInBounds_toArray, List.set_cons_zero, List.set_cons_succ, i64_w, i32_w]
    rfl
  refine pure_ (i := 4) (N := some 12) (v := ?_) (a' := ?_) #[false, true, false, false, true, false, false, false, false, false] rfl rfl (by kernel_rfl) (fun _ _ _ h => h) (Or.inl ⟨by rfl, ?_⟩) ?_ ?_
  rotate_left
  · intro w'
    go_simp
    with_reducible rfl
  rotate_left
  · simp only [Act.put, List.setIfInBounds_toArray, List.set_cons_zero, List.set_cons_succ, i64_w, i32_w]
    rfl
  refine pure_ (i := 5) (N := some 13) (v := ?_) (a' := ?_) #[false, true, false, false, true, true, false, false, false, false] rfl rfl (by kernel_rfl) (fun _ _ _ h => h) (Or.inl ⟨by rfl, ?_⟩) ?_ ?_
  rotate_left
  · intro w'
    go_simp
    with_reducible rfl
  rotate_left
  · simp only [Act.put, List.setIfInBounds_toArray, List.set_cons_zero, List.set_cons_succ, i64_w, i32_w]
    rfl
  refine take_ (i := 0) (N := some 8) (v := ?_) (a' := ?_) #[true, true, false, false, true, true, false, false, false, false] rfl rfl (by kernel_rfl) (fun _ _ _ h => h) (Or.inl ⟨by rfl, ?_⟩) hHeld ?_ ?_
  rotate_left
  · intro w' s0
    go_simp
    with_reducible rfl
  rotate_left
  · simp only [Act.put, List.setIfInBounds_toArray, List.set_cons_zero, List.set_cons_succ, i64_w, i32_w]
    rfl
  refine pure_ (i := 2) (N := some 10) (v := ?_) (a' := ?_) #[true, true, true, false, true, true, false, false, false, false] rfl rfl (by kernel_rfl) (fun _ _ _ h => h) (Or.inl ⟨by rfl, ?_⟩) ?_ ?_
  rotate_left
  · intro w'
    go_simp
    with_reducible rfl
  rotate_left
  · simp only [Act.put, List.setIfInBounds_toArray, List.set_cons_zero, List.set_cons_succ, i64_w, i32_w]
    rfl
  refine take_ (i := 3) (N := some 11) (v := ?_) (a' := ?_) #[true, true, true, true, true, true, false, false, false, false] rfl rfl (by kernel_rfl) (fun _ _ _ h => h) (Or.inl ⟨by rfl, ?_⟩) hHeld ?_ ?_
  rotate_left
  · intro w' s0
    go_simp
    with_reducible rfl
  rotate_left
  · simp only [Act.put, List.setIfInBounds_toArray, List.set_cons_zero, List.set_cons_succ, i64_w, i32_w]
    rfl
  refine pure_ (i := 6) (N := some 14) (v := ?_) (a' := ?_) #[true, true, true, true, true, true, true, false, false, false] rfl rfl (by kernel_rfl) (fun _ _ _ h => h) (Or.inl ⟨by rfl, ?_⟩) ?_ ?_
  rotate_left
  · intro w'
    go_simp
    with_reducible rfl
  rotate_left
  · simp only [Act.put, List.setIfInBounds_toArray, List.set_cons_zero, List.set_cons_succ, i64_w, i32_w]
    rfl
  refine last_ (i := 7) (N := some 15) #[true, true, true, true, true, true, true, true, false, false] rfl rfl (by kernel_rfl) (by decide) (fun K hK => ?_)
  refine value_ (w1 := ?_) (v := ?_) (by rfl) rfl ?_ ?_
  rotate_left 2
  · go_simp
    constructor
    · rfl
    · rfl
  refine hK.out _ _ ?_
  clear hK K
  refine norm_ (a' := ?_) ?_ ?_
  rotate_left
  · show Act.put _ (some 15) _ = _
    simp only [Act.put, List.setIfInBounds_toArray, List.set_cons_zero, List.set_cons_succ, i64_w, i32_w]
    rfl
  refine last_ (i := 8) (N := some 16) #[true, true, true, true, true, true, true, true, true, false] rfl rfl (by kernel_rfl) (by decide) (fun K hK => ?_)
  refine goes_ Try.func34 (by kernel_rfl) rfl #[.slice (some ⟨W.heap.size, 0, none⟩) 2 2] (by rfl) rfl rfl (by simp only [List.map_toArray, List.map_cons, List.map_nil]; rfl) ?_
  refine (HJ.out _ rfl).mono ?_
  rintro e w5 ⟨vj, rfl, hNj, hBj⟩
  refine ⟨_, rfl, ?_⟩
  have HNJ := Aside0.mk hNj
  have HBJ := Aside0.mk hBj
  clear hNj hBj
  refine hK.out _ _ ?_
  clear hK K
  refine norm_ (a' := ?_) ?_ ?_
  rotate_left
  · show Act.put _ (some 16) _ = _
    simp only [Act.put, List.setIfInBounds_toArray, List.set_cons_zero, List.set_cons_succ, i64_w, i32_w]
    rfl
  refine pure_ (i := 9) (N := some 5) (v := ?_) (a' := ?_) #[true, true, true, true, true, true, true, true, true, true] rfl rfl (by kernel_rfl) (fun _ _ _ h => h) (Or.inl ⟨by rfl, ?_⟩) ?_ ?_
  rotate_left
  · intro w'
    go_simp
    with_reducible rfl
  rotate_left
  · simp only [Act.put, List.setIfInBounds_toArray, List.set_cons_zero, List.set_cons_succ, i64_w, i32_w]
    rfl
  refine done_ (by kernel_rfl) ?_
  clear hcf hct hwr
  have hbx5 : w5.cell? ⟨b2, 0, none⟩ = some (.slice A l.length cap) := (HBJ.out.cell HB2.out).trans HBOX.out
  have HW5 := Aside0.mk (below_then HST.out.below HST.out.below.size HBJ.out)
  obtain ⟨Aj, cj, rfl, hjl, hjC⟩ := Kd.N_reads HNJ.out
  have HCK := Lib.hid (check_calls A cap l Aj cj (wo out k) w5 (Kd.C_below HC0.out HW5.out) HCAP.out hjC hjl ⟨by have := HFIT.out.1; have := wo_total (l := out) (k := k); omega, by have := HFIT.out.2; have := wo_length HK.out; omega⟩)
  clear hjC hjl
  go_wp2_with fail
  refine HCK.out.mono ?_
  intro e w6 hp
  obtain ⟨rfl, hb6⟩ := hp
  have HW6 := Aside0.mk (below_then HBJ.out HBJ.out.size hb6)
  have HN6 := Aside0.mk (Kd.N_below HNJ.out hb6)
  clear hb6 HCK
  have hc6 : w6.cell? ⟨b8, 0, none⟩ = some (.slice Av out.length cv) := (HW6.out.cell HB8.out).trans HCELL.out
  have hh6 : w6.heap[b8]? = some (.cells #[.slice Av out.length cv] 22 (0, 0)) := (HW6.out.block b8 HB8.out).trans HST.out.heap
  have hfr6 := free_of_one hh6
  have HH6 := Aside0.mk hh6
  clear hh6
  have HBX6 := Aside0.mk ((HW6.out.block b2 HB2.out).trans HST.out.box)
  by_cases h0 : (check l (wo out k)).1 = 0
  · have HE := Lib.hid h0
    have hz : ((check l (wo out k)).1 != 0) = false := by simpa using h0
    clear h0
    go_wp2
    go_ret
    refine ⟨rfl, .slice Aj (wo out k).length cj, ?_, ?_, ?_, ?_, HST.out.old8, HST.out.apart⟩
    · exact one_setCell HH6.out
    · exact (Below.heap_setCell w6 ⟨b8, 0, none⟩ (.slice Aj (wo out k).length cj) b2 HST.out.apart).trans HBX6.out
    · exact Kd.N_far (p := ⟨b8, 0, none⟩) HN6.out (fun q hq => hq) _
    · exact below_set (below_then HST.out.below HST.out.below.size HW6.out) HST.out.old8
  · have hz : ((check l (wo out k)).1 != 0) = true := by simpa using h0
    have HE := Lib.hid h0
    clear h0
    go_wp2
    go_ret
    exact ⟨rfl, .slice Av out.length cv, HH6.out, HBX6.out, Kd.N_below HST.out.row HW6.out, below_then HST.out.below HST.out.below.size HW6.out, HST.out.old8, HST.out.apart⟩
end Go.Proofs.Ytphloehjcfipfaa.Cl
end

section
/- A proof of some clauses is one of more: the plain law. -/
set_option linter.unusedVariables false
set_option linter.unusedSimpArgs false
namespace Go.Proofs.Ytphloehjcfipfaa.Cl

theorem Der.more {l l' : List (List Int)} (h : ∀ c ∈ l, c ∈ l') {fr : List Int} {x : Int} (hd : Der l fr x) : Der l' fr x := fun S hf hS => hd S hf fun c hc => hS c (h c hc)
theorem Fails.more {l l' : List (List Int)} (h : ∀ c ∈ l, c ∈ l') {fr : List Int} (hd : Fails l fr) : Fails l' fr := by
  rcases hd with ⟨x, h1, h2⟩ | ⟨c, hc, hy⟩
  · exact .inl ⟨x, h1.more h, h2.more h⟩
  · exact .inr ⟨c, h c hc, fun y hy' => (hy y hy').more h⟩
theorem opp_right {c : List Int} (h : cRight c = true) : cRight (opp c) = true := by
  unfold cRight opp
  rw [List.all_eq_true]
  intro x hx
  rw [List.mem_map] at hx
  obtain ⟨y, hy, rfl⟩ := hx
  have := lit_bounds h hy
  simp [litOk]
  omega
theorem follows_iff {l : List (List Int)} {c : List Int} (hl : lRight l = true) (hc : cRight c = true) : followsB l c = true ↔ Fails l (opp c) := by
  unfold followsB
  rcases spread_char hl (opp_right hc) with ⟨h, e⟩ | ⟨h, r, e, _⟩
  · rw [e]; simp [h]
  · rw [e]; simp [h]
theorem lRight_append {l p : List (List Int)} : lRight (l ++ p) = (lRight l && lRight p) := by simp [lRight]
/-- What 'Check' asks, told for all at once. -/
theorem checkGo_zero {l p : List (List Int)} : ∀ (d i : Nat), i + d = p.length → ((checkGo l p (p.drop i)).1 = 0 ↔ (∀ j (hj : j < p.length), i ≤ j → cRight p[j] = true ∧ followsB (l ++ p.take j) p[j] = true) ∧ p.any List.isEmpty = true)
  | 0, i, h => by
    have e : i = p.length := by omega
    subst e
    rw [List.drop_length, checkGo]
    cases hany : p.any List.isEmpty with
    | true => simp; intro j hj hi; omega
    | false => simp
  | d + 1, i, h => by
    have hlt : i < p.length := by omega
    have ih := checkGo_zero (l := l) (p := p) d (i + 1) (by omega)
    have hidx : p.length - ((p.drop (i + 1)).length + 1) = i := by rw [List.length_drop]; omega
    rw [List.drop_eq_getElem_cons hlt, checkGo, hidx]
    cases hc : cRight p[i] with
    | false =>
      rw [if_neg (by simp)]
      constructor
      · intro h; simp at h
      · rintro ⟨h1, _⟩
        have := (h1 i hlt (Nat.le_refl _)).1
        rw [hc] at this
        cases this
    | true =>
      rw [if_pos rfl]
      cases hf : followsB (l ++ p.take i) p[i] with
      | false =>
        rw [if_neg (by simp)]
        constructor
        · intro h; simp at h
        · rintro ⟨h1, _⟩
          have := (h1 i hlt (Nat.le_refl _)).2
          rw [hf] at this
          cases this
      | true =>
        rw [if_pos rfl, ih]
        constructor
        · rintro ⟨h1, h2⟩
          refine ⟨fun j hj hij => ?_, h2⟩
          rcases Nat.lt_or_ge i j with h3 | h3
          · exact h1 j hj h3
          · obtain rfl : i = j := by omega
            exact ⟨hc, hf⟩
        · rintro ⟨h1, h2⟩
          exact ⟨fun j hj hij => h1 j hj (by omega), h2⟩
theorem check_zero {l p : List (List Int)} : (check l p).1 = 0 ↔ lRight l = true ∧ (∀ j (hj : j < p.length), cRight p[j] = true ∧ followsB (l ++ p.take j) p[j] = true) ∧ p.any List.isEmpty = true := by
  unfold check
  cases h : lRight l with
  | false => simp
  | true =>
    rw [if_pos rfl]
    have := checkGo_zero (l := l) (p := p) p.length 0 (by omega)
    rw [List.drop_zero] at this
    rw [this]
    simp
/-- Where it is one, the place is 0. -/
theorem checkGo_at {l p : List (List Int)} : ∀ r, (checkGo l p r).1 = 0 → checkGo l p r = (0, 0)
  | [], h => by
    unfold checkGo at *
    split at h
    · rename_i h1; rw [if_pos h1]
    · simp at h
  | c :: r, h => by
    unfold checkGo at *
    split at h
    · rename_i h1
      rw [if_pos h1]
      split at h
      · rename_i h2
        rw [if_pos h2]
        exact checkGo_at r h
      · simp at h
    · simp at h
theorem check_at {l p : List (List Int)} (h : (check l p).1 = 0) : check l p = (0, 0) := by
  unfold check at *
  split at h
  · rename_i h1
    rw [if_pos h1]
    exact checkGo_at p h
  · simp at h
theorem check_more {l l' p : List (List Int)} (h : (check l p).1 = 0) (hr : lRight l' = true) (hs : ∀ c ∈ l, c ∈ l') : check l' p = (0, 0) := by
  refine check_at ?_
  obtain ⟨h1, h2, h3⟩ := check_zero.1 h
  refine check_zero.2 ⟨hr, fun j hj => ?_, h3⟩
  obtain ⟨h4, h5⟩ := h2 j hj
  refine ⟨h4, ?_⟩
  have hp : lRight (p.take j) = true := by
    unfold lRight
    rw [List.all_eq_true]
    intro c hc
    obtain ⟨k, hk, rfl⟩ := List.mem_iff_getElem.1 (List.mem_of_mem_take hc)
    exact (h2 k hk).1
  rw [follows_iff (by rw [lRight_append, h1, hp]; rfl) h4] at h5
  rw [follows_iff (by rw [lRight_append, hr, hp]; rfl) h4]
  refine h5.more fun c hc => ?_
  rcases List.mem_append.1 hc with h | h
  · exact List.mem_append_left _ (hs c h)
  · exact List.mem_append_right _ h
end Go.Proofs.Ytphloehjcfipfaa.Cl
end

section
/- proof.Trim: the plain function. -/
set_option linter.unusedVariables false
set_option linter.unusedSimpArgs false
namespace Go.Proofs.Ytphloehjcfipfaa.Cl

/-- One way down: each clause is tried, from the last but one on. -/
def down (l : List (List Int)) : Nat → List (List Int) → Bool → List (List Int) × Bool
  | 0, out, ag => (out, ag)
  | k + 1, out, ag => if (check l (wo out k)).1 = 0 then down l k (wo out k) true else down l k out ag
def passes (l : List (List Int)) : Nat → List (List Int) → List (List Int)
  | 0, out => out
  | n + 1, out => if (down l (out.length - 1) out false).2 then passes l n (down l (out.length - 1) out false).1 else (down l (out.length - 1) out false).1
def trim (l p : List (List Int)) : List (List Int) × Int :=
  if (check l p).1 = 0 then (passes l ((firstE p).toNat + 1 + 1) (p.take ((firstE p).toNat + 1)), 0) else ([], (check l p).1)

theorem fit_wo {l out : List (List Int)} {k : Nat} (hk : k < out.length) (h : Fit2 l out) : Fit2 l (wo out k) :=
  ⟨by have := wo_total (l := out) (k := k); have := h.1; omega, by have := wo_length hk; have := h.2; omega⟩
theorem fit_take {l p : List (List Int)} {k : Nat} (h : Fit2 l p) : Fit2 l (p.take k) :=
  ⟨by have := total_take_le p k; have := h.1; omega, by have := h.2; rw [List.length_take]; omega⟩
theorem down_length {l : List (List Int)} : ∀ (k : Nat) (out : List (List Int)) (ag : Bool), k < out.length ∨ k = 0 → (down l k out ag).1.length ≤ out.length ∧ ((down l k out ag).2 = true → ag = false → (down l k out ag).1.length < out.length)
  | 0, out, ag, _ => by simp [down]
  | k + 1, out, ag, h => by
    have hk : k + 1 < out.length := by omega
    unfold down
    split
    · have hw := wo_length (l := out) (k := k) (by omega)
      have ih := down_length (l := l) k (wo out k) true (by omega)
      exact ⟨by omega, fun _ _ => by omega⟩
    · exact down_length k out ag (by omega)
end Go.Proofs.Ytphloehjcfipfaa.Cl
end

section
/- proof.Trim: the walk. -/
set_option linter.unusedVariables false
set_option linter.unusedSimpArgs false
namespace Go.Proofs.Ytphloehjcfipfaa.Cl
open Go.RowKit Go.Proofs.YtphloehjcfipfaaW.PrintWords Go.Proofs.YtphloehjcfipfaaW.PrintLast Go.Proofs.YtphloehjcfipfaaW.PrintMore

def TrimPost (l p : List (List Int)) (w : World) (e : Ending) (w' : World) : Prop := ∃ v, e = .returned (.tuple #[v, .int .i64 (trim l p).2]) ∧ Kd.N KR 35 w' w.heap.size (fun _ => True) v (trim l p).1 ∧ Below w.heap.size w w'

set_option maxRecDepth 100000 in
set_option maxHeartbeats 8000000 in
theorem trim_calls (A : Option Addr) (cap : Nat) (l : List (List Int)) (B : Option Addr) (bcap : Nat) (p : List (List Int)) (w : World) (hC : KR.C w A l.length l) (hcap : l.length ≤ cap) (hP : KR.C w B p.length p) (hbcap : p.length ≤ bcap) (hfit : Fit2 l p) :
    Calls Try.prog 17 #[.slice A l.length cap, .slice B p.length bcap] w (TrimPost l p w) := by
  have HC := Aside0.mk hC
  have HP := Aside0.mk hP
  have HCAP := Aside0.mk hcap
  have HBCAP := Aside0.mk hbcap
  have HFIT := Aside0.mk hfit
  have hck := fun W (hW : Below w.heap.size w W) => check_calls A cap l B bcap p W (Kd.C_below HC.out hW) hcap (Kd.C_below HP.out hW) hbcap hfit
  have HCK := Lib.hid hck
  have hix := fun W (hW : Below w.heap.size w W) => index_calls B bcap p W (Kd.C_below HP.out hW) hbcap
  have HIX := Lib.hid hix
  obtain ⟨i0, hi0, _, hsz0, _⟩ := info_parts info35
  have HI0 := Lib.hid hi0
  clear hC hP hcap hbcap hfit hck hix hi0 hsz0
  go_enter Try.func17, Try.ntmps17
  go_wp2_with fail
  refine (HCK.out _ (by repeat (first | exact Below.refl _ _ | apply below_alloc))).mono ?_
  intro e w1 hp
  obtain ⟨rfl, hb1⟩ := hp
  have HB1 : Aside0 (Below w.heap.size w w1) := ⟨below_then (below_alloc (Below.refl _ _) _) (by rw [size_alloc]; omega) hb1⟩
  have HX1 : Aside0 (w1.heap[w.heap.size]? = some (.cells #[.slice A l.length cap] 22 (0, 0))) := ⟨(hb1.block w.heap.size (by rw [size_alloc]; omega)).trans (heap_alloc_new w _)⟩
  clear hb1 HCK
  have hbx1 := one_cell HX1.out
  by_cases h0 : (check l p).1 = 0
  · have hz : ((check l p).1 != 0) = false := by simpa using h0
    have HZ := Lib.hid h0
    obtain ⟨n, hn, hnp⟩ : ∃ n : Nat, firstE p = (n : Int) ∧ n < p.length := by
      have h1 := (check_zero.1 h0).2.2
      rw [← firstE_any] at h1
      have h1 := of_decide_eq_true h1
      have h2 := firstE_range p
      exact ⟨(firstE p).toNat, by omega, by rcases h2 with h2 | ⟨_, h2⟩ <;> omega⟩
    have hR : (trim l p).1 = passes l (n + 2) (p.take (n + 1)) ∧ (trim l p).2 = 0 := by
      unfold trim
      rw [if_pos h0, hn, Int.toNat_natCast]
      exact ⟨rfl, rfl⟩
    have HR := Lib.hid hR
    have hix := fun W hW => HIX.out W hW
    rw [hn] at hix
    have HIX2 := Lib.hid hix
    have HNP := Aside0.mk hnp
    have hwr : IntKind.i64.wrap ((n : Int) + 1) = (n : Int) + 1 := IntWalk.i64_in _ (by have := HFIT.out.2; omega)
    have hct := cut_to (P := Try.prog) 22 35 .i64 Try.underlying22 HI0.out B p.length bcap ((n : Int) + 1) (by omega) (by omega) HBCAP.out
    rw [show ((n : Int) + 1).toNat = n + 1 by omega] at hct
    clear h0 hn hnp hR hix HIX
    go_wp2_with (go_at_call 39; refine (HIX2.out _ (by repeat (first | exact HB1.out | apply below_alloc))).mono ?_; rintro e w' ⟨rfl, rfl⟩)
    clear hwr hct hbx1
    have HST1 : Aside0 (TrimSt w (w1.alloc (.cells #[.slice none 0 0] 22)) w1.heap.size w.heap.size (.slice A l.length cap) (.slice none 0 0) (p.take 0)) := ⟨⟨heap_alloc_new w1 _, (Below.heap_alloc w1 _ _ (blk_lt HX1.out)).trans HX1.out, Kd.N_nil _ _ _ _ _, below_alloc HB1.out _, HB1.out.size, fun e => by have := blk_lt HX1.out; omega⟩⟩
    have HW1 : Aside0 (w1.heap.size < (w1.alloc (.cells #[.slice none 0 0] 22)).heap.size) := ⟨by rw [size_alloc]; omega⟩
    generalize w1.heap.size = b8 at HST1 HW1 ⊢
    generalize w1.alloc (.cells #[.slice none 0 0] 22) = w2 at HST1 HW1 ⊢
    go_loopw [29] (fun v29 wr => ∃ (i : Nat) (v : Value), v29 = .int .i64 i ∧ Aside0 (i ≤ n + 1) ∧ Aside0 (TrimSt w wr b8 w.heap.size (.slice A l.length cap) v (p.take i))) (fun i _ => n + 1 - (intOf i).toNat)
    case atStart => exact ⟨0, _, rfl, ⟨Nat.zero_le _⟩, HST1⟩
    case round =>
      clear HST1 HW1
      obtain ⟨i, v, rfl, hi, HST⟩ := hrel
      have hi := hi.out
      have hil := HNP.out
      by_cases hlt : i < n + 1
      · have hltp : i < p.length := by omega
        obtain ⟨ad, c, e, _, hK, hc0⟩ := Kd.C_get (Kd.C_below HP.out HST.out.below) ([] : List Int) (i : Int) (by omega) (by omega)
        simp only [Int.toNat_natCast, List.getD_eq_getElem?_getD, List.getElem?_eq_getElem hltp, Option.getD_some] at hK hc0
        obtain ⟨A0, c0, rfl, l0, g0⟩ := hK
        cases e
        have hcell : wr.cell? (ad.add i) = some (.slice A0 p[i].length c0) := by
          have hq := hc0 0 _ rfl
          rwa [Nat.add_zero, show (i * KR.sz) = i from Nat.mul_one i] at hq
        have hgt := getElem_total hltp
        have hcln := fun W' (hW : Below wr.heap.size wr W') => clone_calls A0 c0 p[i] W' (Kd.C_below g0 hW) l0 (by have := HFIT.out.1; omega)
        have HCLN := Lib.hid hcln
        have htl : (p.take i).length = i := by rw [List.length_take]; omega
        have HTL := Aside0.mk htl
        have HLIM : Aside0 (i < 2199023255552) := ⟨by have := HFIT.out.2; omega⟩
        have HCELL := Aside0.mk HST.out.cell
        have HBOX := Aside0.mk HST.out.box
        have HB8 : Aside0 (b8 < wr.heap.size) := ⟨blk_lt HST.out.heap⟩
        have HB2 : Aside0 (w.heap.size < wr.heap.size) := ⟨blk_lt HST.out.box⟩
        have HNB := Lib.hid (Kd.N_ne HST.out.row HST.out.box (by decide))
        have htk := List.take_succ_eq_append_getElem hltp
        have HTK := Lib.hid htk
        clear hgt hcln htl htk hc0 g0
        go_wp2_with fail
        refine start_ (n := 6) (S := fun w' => w'.cell? ⟨b8, 0, none⟩ = some v) (ds := [4, 5]) #[false, false, false, false, false, false] (by kernel_rfl) rfl rfl (HCELL.out) (fun hHeld => ?_)
        refine pure_ (i := 1) (N := some 34) (v := ?_) (a' := ?_) #[false, true, false, false, false, false] rfl rfl (by kernel_rfl) (fun _ _ _ h => h) (Or.inl ⟨by rfl, ?_⟩) ?_ ?_
        rotate_left
        · intro w'
          go_simp
          with_reducible rfl
        rotate_left
        · simp only [Act.put, List.setIfInBounds_toArray, List.set_cons_zero, List.set_cons_succ, i64_w, i32_w]
          rfl
        refine take_ (i := 0) (N := some 33) (v := ?_) (a' := ?_) #[true, true, false, false, false, false] rfl rfl (by kernel_rfl) (fun _ _ _ h => h) (Or.inl ⟨by rfl, ?_⟩) hHeld ?_ ?_
        rotate_left
        · intro w' s0
          go_simp
          with_reducible rfl
        rotate_left
        · simp only [Act.put, List.setIfInBounds_toArray, List.set_cons_zero, List.set_cons_succ, i64_w, i32_w]
          rfl
        refine one_ (i := 2) (N := some 35) #[true, true, true, false, false, false] rfl rfl (by kernel_rfl) (by decide) (fun K hK => ?_)
        refine goes_ Try.func40 (by kernel_rfl) rfl #[.slice A0 p[i].length c0] (by rfl) rfl rfl (by simp only [List.map_toArray, List.map_cons, List.map_nil]; rfl) ?_
        refine (HCLN.out _ (below_drew (Below.refl _ _))).mono ?_
        rintro e w5 ⟨Ac, cc, rfl, hlc, hFc, hBc⟩
        refine ⟨_, rfl, ?_⟩
        have HFC := Aside0.mk (Kd.F_bound hFc)
        have HLC := Aside0.mk hlc
        have HBC : Aside0 (Below wr.heap.size wr w5) := ⟨below_then (below_drew (Below.refl _ _)) (Nat.le_refl _) hBc⟩
        clear hlc hFc hBc
        refine hK.out _ _ (((HBC.out.cell HB8.out).trans HCELL.out)) (fun hHeld => ?_)
        clear hK K
        refine norm_ (a' := ?_) ?_ ?_
        rotate_left
        · show Act.put _ (some 35) _ = _
          simp only [Act.put, List.setIfInBounds_toArray, List.set_cons_zero, List.set_cons_succ, i64_w, i32_w]
          rfl
        refine one_ (i := 3) (N := some 36) #[true, true, true, true, false, false] rfl rfl (by kernel_rfl) (by decide) (fun K hK => ?_)
        refine value_ (w1 := ?_) (v := ?_) (by rfl) rfl ?_ ?_
        rotate_left 2
        · go_simp
          constructor
          · rfl
          · rfl
        refine hK.out _ _ ((((below_alloc HBC.out _).cell HB8.out).trans HCELL.out)) (fun hHeld => ?_)
        clear hK K
        refine norm_ (a' := ?_) ?_ ?_
        rotate_left
        · show Act.put _ (some 36) _ = _
          simp only [Act.put, List.setIfInBounds_toArray, List.set_cons_zero, List.set_cons_succ, i64_w, i32_w]
          rfl
        refine last_ (i := 4) (N := some 37) #[true, true, true, true, true, false] rfl rfl (by kernel_rfl) (by decide) (fun K hK => ?_)
        refine Kd.N_append_step KR (w0 := w) w.heap.size (by rfl) (.tmp 33) (.tmp 36) 22 35 (.slice none 0 0) 24 rfl Try.underlying22 info35 rfl (by decide) (by omega) v (p.take i) p[i] [.slice Ac p[i].length cc] (fun q => q ≠ b8) (fun q => wr.heap.size ≤ q ∧ q < w5.heap.size) rfl rfl (Kd.FK_slice_mk HLC.out HFC.out) (fun q hq => ⟨by have := HB8.out; omega, fun e => by have := Kd.N_lt HST.out.row q e.symm; omega⟩) (fun q hq => by have := HB8.out; have := HBC.out.size; omega) (Kd.N_below HST.out.row HBC.out) (below_then HST.out.below HST.out.below.size HBC.out) (Nat.le_trans HST.out.below.size HBC.out.size) (by rw [HTL.out]; have := HLIM.out; omega) ?_
        intro v6 w6 hN6 hB6 hg6 hat6
        obtain ⟨Aq, nq, cq, rfl⟩ : ∃ A n c, v6 = .slice A n c := by obtain ⟨A, c, h⟩ := Kd.N_slice hN6; exact ⟨_, _, _, h⟩
        have HN6 := Aside0.mk hN6
        have HB6 := Aside0.mk hB6
        have hh6 : w6.heap[b8]? = some (.cells #[v] 22 (0, 0)) := (hg6.block b8 (Nat.lt_of_lt_of_le HB8.out HBC.out.size) (fun e => Kd.N_away HST.out.row (fun q hq => hq) e)).trans ((HBC.out.block b8 HB8.out).trans HST.out.heap)
        have hx6 : w6.heap[w.heap.size]? = some (.cells #[.slice A l.length cap] 22 (0, 0)) := (hg6.block w.heap.size (Nat.lt_of_lt_of_le HB2.out HBC.out.size) (fun e => HNB.out e)).trans ((HBC.out.block w.heap.size HB2.out).trans HBOX.out)
        have hc6 := one_cell hh6
        have hf6 := free_of_one hh6
        have HH6 := Aside0.mk hh6
        have HX6 := Aside0.mk hx6
        clear hN6 hB6 hg6 hat6 hh6 hx6
        refine hK.out _ _ ?_
        clear hK K
        refine norm_ (a' := ?_) ?_ ?_
        rotate_left
        · show Act.put _ (some 37) _ = _
          simp only [Act.put, List.setIfInBounds_toArray, List.set_cons_zero, List.set_cons_succ, i64_w, i32_w]
          rfl
        refine last_ (i := 5) (N := none) #[true, true, true, true, true, true] rfl rfl (by kernel_rfl) (by decide) (fun K hK => ?_)
        refine skip_ (w1 := ?_) (by rfl) rfl ?_ ?_
        rotate_left
        · go_simp
          rfl
        refine hK.out _ _ ?_
        clear hK K
        refine done_ (by kernel_rfl) ?_
        have hlim := HLIM.out
        go_wp2
        go_roundw
        case rel => exact ⟨i + 1, .slice Aq nq cq, by go_num, ⟨by omega⟩, ⟨one_setCell HH6.out, (Below.heap_setCell w6 ⟨b8, 0, none⟩ (.slice Aq nq cq) w.heap.size HST.out.apart).trans HX6.out, by rw [HTK.out]; exact Kd.N_far (p := ⟨b8, 0, none⟩) HN6.out (fun q hq => hq) _, below_set HB6.out HST.out.old8, HST.out.old8, HST.out.apart⟩⟩
        case measure => simp [intOf]; omega
      · have ei : i = n + 1 := by omega
        subst ei
        clear hi hil hlt
        have hl0 : (p.take (n + 1)).length = n + 1 := by rw [List.length_take]; have := HNP.out; omega
        have HL0 := Aside0.mk hl0
        clear hl0
        go_wp2_with fail
        go_loopg [12] (n + 2) (fun kq v12 wr => ∃ (out : List (List Int)) (v : Value) (ag : Bool), v12 = .bool ag ∧ Aside0 (TrimSt w wr b8 w.heap.size (.slice A l.length cap) v out) ∧ Aside0 (Fit2 l out) ∧ Aside0 (0 < out.length) ∧ Aside0 ((if ag then passes l kq out else out) = (trim l p).1) ∧ Aside0 (ag = true → out.length < kq))
        case atStart => exact ⟨p.take (n + 1), v, true, rfl, HST, ⟨fit_take HFIT.out⟩, ⟨by rw [HL0.out]; omega⟩, ⟨HR.out.1.symm⟩, ⟨fun _ => by rw [HL0.out]; omega⟩⟩
        case round =>
          clear HST
          obtain ⟨out, v, ag, rfl, HST, HFI, HPO, HPA, HLT⟩ := hrel
          obtain ⟨Av, cv, hv⟩ := Kd.N_slice HST.out.row
          have hcell := HST.out.cell
          cases ag with
          | false =>
            have hout := HPA.out
            rw [if_neg (by simp)] at hout
            have HOUT := Lib.hid hout
            clear hout
            subst hv
            go_wp2
            go_ret2
            exact ⟨.slice Av out.length cv, by rw [HR.out.2]; rfl, by rw [← HOUT.out]; exact Kd.N_mono HST.out.row (fun _ _ => trivial), HST.out.below⟩
          | true =>
            cases gk with
            | zero => exact absurd (HLT.out rfl) (Nat.not_lt_zero _)
            | succ g =>
              have hpo := HPO.out
              have hfi := HFI.out.2
              subst hv
              obtain ⟨m, hm⟩ : ∃ m, out.length = m + 1 := ⟨out.length - 1, by omega⟩
              have HM := Aside0.mk hm
              have hsub : IntKind.i64.wrap ((out.length : Int) - 2) = (m : Int) - 1 := by rw [IntWalk.i64_in _ (by omega), hm]; omega
              clear hpo hfi hm
              go_wp2_with fail
              go_loopw [12, 13] (fun v12 v13 wr => ∃ (k : Nat) (z : Int) (ag : Bool) (o : List (List Int)) (v : Value), v12 = .bool ag ∧ v13 = .int .i64 z ∧ Aside0 (z = (k : Int) - 1) ∧ Aside0 (TrimSt w wr b8 w.heap.size (.slice A l.length cap) v o) ∧ Aside0 (Fit2 l o) ∧ Aside0 (k < o.length) ∧ Aside0 (down l k o ag = down l (out.length - 1) out false)) (fun _ v13 _ => (intOf v13 + 1).toNat)
              case atStart => exact ⟨m, _, false, out, _, rfl, rfl, ⟨rfl⟩, HST, HFI, ⟨by have := HM.out; omega⟩, ⟨by rw [HM.out]; rfl⟩⟩
              case round =>
                clear HST
                obtain ⟨k, z, ag, o, v, rfl, rfl, hz2, HST, HFO, HKO, HDN⟩ := hrel
                cases k with
                | zero =>
                  obtain rfl : z = -1 := hz2.out
                  have hdn := HDN.out
                  simp only [down] at hdn
                  have hdl := down_length (l := l) (out.length - 1) out false (by have := HM.out; omega)
                  rw [← hdn] at hdl
                  have hpa : passes l (g + 1) out = (trim l p).1 := by
                    have := HPA.out
                    rwa [if_pos trivial] at this
                  rw [passes, ← hdn] at hpa
                  have HP2 := Aside0.mk hpa
                  have HD2 := Aside0.mk hdl
                  clear hdn hdl hpa hz2
                  go_wp2
                  go_roundg g
                  case measure => omega
                  case rel => exact ⟨o, v, ag, rfl, HST, HFO, ⟨HKO.out⟩, HP2, ⟨fun h => by have h1 := HD2.out.2 h (by simp); have h2 := HLT.out (by simp); omega⟩⟩
                | succ k =>
                  obtain rfl : z = (k : Int) := by have := hz2.out; omega
                  have hko := HKO.out
                  have hfl := HFO.out.2
                  have hdn := HDN.out
                  rw [down] at hdn
                  have hcl := trim1_calls (l := l) k HC.out HCAP.out HST.out (by omega) HFO.out
                  have hdec : IntKind.i64.wrap ((k : Int) - 1) = (k : Int) - 1 := IntWalk.i64_in _ (by omega)
                  by_cases h0 : (check l (wo o k)).1 = 0
                  · rw [if_pos h0] at hdn
                    have hcl := hcl.mono (R' := fun e W' => ∃ v', e = .returned (.bool true) ∧ TrimSt w W' b8 w.heap.size (.slice A l.length cap) v' (wo o k)) fun e W' ⟨v', he, hs⟩ => by
                      rw [if_pos h0] at hs
                      rw [decide_eq_true h0] at he
                      exact ⟨v', he, hs⟩
                    have HCL := Lib.hid hcl
                    have HDN2 := Aside0.mk hdn
                    have hwl := wo_length (l := o) (k := k) (by omega)
                    have HWL := Aside0.mk hwl
                    have HFO2 := Aside0.mk (fit_wo (l := l) (out := o) (k := k) (by omega) HFO.out)
                    clear hcl hdn h0 hko hfl hwl hz2
                    go_wp2_with fail
                    refine HCL.out.mono ?_
                    rintro e w9 ⟨v9, rfl, hs9⟩
                    have HS9 := Aside0.mk hs9
                    clear hs9 HST
                    go_wp2
                    go_roundw
                    case rel => exact ⟨k, _, true, wo o k, v9, rfl, rfl, ⟨rfl⟩, HS9, HFO2, ⟨by have := HWL.out; have := HKO.out; omega⟩, HDN2⟩
                    case measure => simp [intOf]
                  · rw [if_neg h0] at hdn
                    have hcl := hcl.mono (R' := fun e W' => ∃ v', e = .returned (.bool false) ∧ TrimSt w W' b8 w.heap.size (.slice A l.length cap) v' o) fun e W' ⟨v', he, hs⟩ => by
                      rw [if_neg h0] at hs
                      rw [decide_eq_false h0] at he
                      exact ⟨v', he, hs⟩
                    have HCL := Lib.hid hcl
                    have HDN2 := Aside0.mk hdn
                    clear hcl hdn h0 hko hfl hz2
                    go_wp2_with fail
                    refine HCL.out.mono ?_
                    rintro e w9 ⟨v9, rfl, hs9⟩
                    have HS9 := Aside0.mk hs9
                    clear hs9 HST
                    go_wp2
                    go_roundw
                    case rel => exact ⟨k, _, ag, o, v9, rfl, rfl, ⟨rfl⟩, HS9, HFO, ⟨by have := HKO.out; omega⟩, HDN2⟩
                    case measure => simp [intOf]
  · have hz : ((check l p).1 != 0) = true := by simpa using h0
    have HZ := Lib.hid h0
    clear h0
    go_wp2
    go_ret2
    have ht : trim l p = ([], (check l p).1) := by unfold trim; rw [if_neg HZ.out]
    unfold TrimPost
    rw [ht]
    exact ⟨.slice none 0 0, rfl, Kd.N_nil _ _ _ _ _, HB1.out⟩
end Go.Proofs.Ytphloehjcfipfaa.Cl
end

section
/- proof.Trim, for the printed callers. -/
set_option linter.unusedVariables false
namespace Go.Proofs.Ytphloehjcfipfaa.X
open Go.RowKit Go.Proofs.YtphloehjcfipfaaW.PrintWords Go.Proofs.YtphloehjcfipfaaW.PrintMore Go.Proofs.Ytphloehjcfipfaa.Cl

/-- What it answers, where the lists aren't beyond all measure. -/
def proof_Trim.f (l0 : List (List Int)) (l1 : List (List Int)) : Option (List (List Int) × Int) := if total l0 + total l1 < 2199023255552 ∧ l0.length + l1.length < 2199023255552 then some (trim l0 l1) else none
theorem proof_Trim.calls (A0 : Option Addr) (c0 : Nat) (l0 : List (List Int)) (A1 : Option Addr) (c1 : Nat) (l1 : List (List Int)) (r1 : List (List Int)) (r2 : Int) (w : World) (hr0 : Kd.C (Kd.slice 3 (Kd.int .i64)) w A0 l0.length l0) (hc0 : l0.length ≤ c0) (hr1 : Kd.C (Kd.slice 3 (Kd.int .i64)) w A1 l1.length l1) (hc1 : l1.length ≤ c1) (h : proof_Trim.f l0 l1 = some (r1, r2)) :
    Calls Try.prog 17 #[.slice A0 l0.length c0, .slice A1 l1.length c1] w fun e w' => ∃ v0_ : Value, e = .returned (.tuple #[v0_, .int .i64 r2]) ∧ Kd.N (Kd.slice 3 (Kd.int .i64)) 35 w' w.heap.size (fun _ => True) v0_ r1 ∧ Below w.heap.size w w' := by
  unfold proof_Trim.f at h
  split at h
  · rename_i hs
    have e := Option.some.inj h
    refine (trim_calls A0 c0 l0 A1 c1 l1 w hr0 hc0 hr1 hc1 hs).mono fun e' w' hp => ?_
    unfold TrimPost at hp
    rw [e] at hp
    exact hp
  · cases h
end Go.Proofs.Ytphloehjcfipfaa.X
end
