/- Part 5 of 5 of the proof that the statement of the row ProofTrims holds: the texts Xx8, ClRefA, ClRefP, ClRefB, ClFew, ClRefC, ClTrimL, ClTrimR, LRows, LawProofTrims, one behind the other. -/
import Derived.Deep.Matrix
import Derived.SizedLaws
import Derived.Test.YtphloehjcfipfaaWWords
import Derived.Test.YtphloehjcfipfaaRows
import Derived.WalkKit
import Derived.ProofKit
import Derived.OpenShut
import Derived.ShutString
import Derived.ChangeOld
import Derived.Below
import Derived.Test.YtphloehjcfipfaaTrims1
import Derived.Test.YtphloehjcfipfaaTrims2
import Derived.Test.YtphloehjcfipfaaTrims3
import Derived.Test.YtphloehjcfipfaaTrims4

section
-- Lines printed by a program of the session's own (wip/pr.py over the kit's print.py); Lean checks them.
namespace Go.Proofs.Ytphloehjcfipfaa.X
open Go.RowKit Go.Proofs.YtphloehjcfipfaaW.PrintWords Go.Proofs.YtphloehjcfipfaaW.PrintLast Go.Proofs.YtphloehjcfipfaaW.PrintMore
attribute [local go_sem] max2_int min2_int max_two min_two max_three min_three max_four min_four   -- for this text's walks alone
set_option linter.unusedVariables false
set_option linter.unusedSimpArgs false

/-! ### backreachref18_Without: function 19 -/
def backreachref18_Without.f (l0 : List (List Int)) (a1 : Int) : Option ((List (List Int))) := (some (([] : List (List Int)) : List (List Int))).bind fun y267 => (if 0 ≤ a1 then (if a1 ≤ (l0.length : Int) then ((some (l0.take (a1 : Int).toNat : List (List Int))).bind fun y270 => (if y267.length + y270.length < 5864062014805 then ((some (y267 ++ y270 : List (List Int))).bind fun y275 => (if 0 ≤ (wrap64 (a1 + 1)) then (if (wrap64 (a1 + 1)) ≤ (l0.length : Int) then ((some (l0.drop ((wrap64 (a1 + 1)) : Int).toNat : List (List Int))).bind fun y278 => (if y275.length + y278.length < 5864062014805 then (some (y275 ++ y278)) else (none))) else (none)) else (none))) else (none))) else (none)) else (none))
def backreachref18_Without.T1 : Bool × List (List Nat × List Nat) := (true, [([], []), ([], []), ([], []), ([1, 2], [1, 2]), ([0, 3], [0, 3]), ([], []), ([], []), ([6], [6]), ([5, 7], [5, 7]), ([4, 8, 4], [4, 8]), ([9, 9, 0, 1, 2, 3, 4, 5, 6, 7, 8, 9], [9])])
def backreachref18_Without.B1 : List Nat := [0, 0, 0, 6, 15, 0, 0, 64, 224, 511, 1023]
theorem backreachref18_Without.tab1 : rtab .any (opsOf Try.f19 1) = backreachref18_Without.T1 := by kernel_rfl
theorem backreachref18_Without.bits1 : waitsOk backreachref18_Without.T1.2 backreachref18_Without.B1 = true := by kernel_rfl
set_option maxHeartbeats 8000000 in
set_option maxRecDepth 100000 in
theorem backreachref18_Without.calls (P0_ : Nat → Prop) (A0 : Option Addr) (c0 : Nat) (l0 : List (List Int)) (a1 : Int) (r : List (List Int)) (w : World) (hs0 : Kd.V (Kd.slice 3 (Kd.int .i64)) 35 w w.heap.size (fun k_ => P0_ k_) (.slice A0 l0.length c0) l0) (h : backreachref18_Without.f l0 a1 = some r) :
    Calls Try.prog 19 #[.slice A0 l0.length c0, .int .i64 a1] w fun e w' => ∃ v0_ : Value, e = .returned (v0_) ∧ Kd.N (Kd.slice 3 (Kd.int .i64)) 35 w' w.heap.size (fun k_ => (P0_ k_ ∨ w.heap.size ≤ k_)) v0_ r ∧ Below w.heap.size w w' := by
  have HO0 := Aside0.mk (show Kd.V (Kd.slice 3 (Kd.int .i64)) 35 w w.heap.size (fun k_ => (P0_ k_ ∨ w.heap.size ≤ k_)) (.slice A0 l0.length c0) l0 from Kd.V_mono hs0 (fun k_ hk => .inl hk))
  have HB := Aside0.mk (Below.refl w.heap.size w)
  have H : ((some (([] : List (List Int)) : List (List Int))).bind fun y267 => (if 0 ≤ a1 then (if a1 ≤ (l0.length : Int) then ((some (l0.take (a1 : Int).toNat : List (List Int))).bind fun y270 => (if y267.length + y270.length < 5864062014805 then ((some (y267 ++ y270 : List (List Int))).bind fun y275 => (if 0 ≤ (wrap64 (a1 + 1)) then (if (wrap64 (a1 + 1)) ≤ (l0.length : Int) then ((some (l0.drop ((wrap64 (a1 + 1)) : Int).toNat : List (List Int))).bind fun y278 => (if y275.length + y278.length < 5864062014805 then (some (y275 ++ y278)) else (none))) else (none)) else (none))) else (none))) else (none)) else (none))) = some r := h
  clear h
  obtain ⟨y267, hy267⟩ : ∃ y_ : List (List Int), y_ = (([] : List (List Int))) := ⟨_, rfl⟩
  replace H : (if 0 ≤ a1 then (if a1 ≤ (l0.length : Int) then ((some (l0.take (a1 : Int).toNat : List (List Int))).bind fun y270 => (if y267.length + y270.length < 5864062014805 then ((some (y267 ++ y270 : List (List Int))).bind fun y275 => (if 0 ≤ (wrap64 (a1 + 1)) then (if (wrap64 (a1 + 1)) ≤ (l0.length : Int) then ((some (l0.drop ((wrap64 (a1 + 1)) : Int).toNat : List (List Int))).bind fun y278 => (if y275.length + y278.length < 5864062014805 then (some (y275 ++ y278)) else (none))) else (none)) else (none))) else (none))) else (none)) else (none)) = some r := by first | (rw [hy267]; with_reducible exact H) | (have H2_ := (Option.bind_some _ _).symm.trans H; rw [hy267]; with_reducible exact H2_) | (have H2_ := (Option.bind_some _ _).symm.trans H; with_reducible exact H2_) | with_reducible exact H | (rw [hy267]; exact H) | exact H
  have Ny267 := Aside0.mk hy267
  clear hy267
  by_cases c3 : 0 ≤ a1
  · rw [if_pos c3] at H
    have c3b0 := eq_true c3
    have c3b1 : decide (0 ≤ a1) = true := decide_eq_true c3
    clear c3
    by_cases c4 : a1 ≤ (l0.length : Int)
    · rw [if_pos c4] at H
      have c4b0 := eq_true c4
      have c4b1 : decide (a1 ≤ (l0.length : Int)) = true := decide_eq_true c4
      clear c4
      obtain ⟨y270, hy270⟩ : ∃ y_ : List (List Int), y_ = (l0.take (a1 : Int).toNat) := ⟨_, rfl⟩
      replace H : (if y267.length + y270.length < 5864062014805 then ((some (y267 ++ y270 : List (List Int))).bind fun y275 => (if 0 ≤ (wrap64 (a1 + 1)) then (if (wrap64 (a1 + 1)) ≤ (l0.length : Int) then ((some (l0.drop ((wrap64 (a1 + 1)) : Int).toNat : List (List Int))).bind fun y278 => (if y275.length + y278.length < 5864062014805 then (some (y275 ++ y278)) else (none))) else (none)) else (none))) else (none)) = some r := by first | (rw [hy270]; with_reducible exact H) | (have H2_ := (Option.bind_some _ _).symm.trans H; rw [hy270]; with_reducible exact H2_) | (have H2_ := (Option.bind_some _ _).symm.trans H; with_reducible exact H2_) | with_reducible exact H | (rw [hy270]; exact H) | exact H
      have Ny270 := Aside0.mk hy270
      clear hy270
      by_cases c5 : y267.length + y270.length < 5864062014805
      · rw [if_pos c5] at H
        have LMc5 := Aside0.mk c5
        clear c5
        obtain ⟨y275, hy275⟩ : ∃ y_ : List (List Int), y_ = (y267 ++ y270) := ⟨_, rfl⟩
        replace H : (if 0 ≤ (wrap64 (a1 + 1)) then (if (wrap64 (a1 + 1)) ≤ (l0.length : Int) then ((some (l0.drop ((wrap64 (a1 + 1)) : Int).toNat : List (List Int))).bind fun y278 => (if y275.length + y278.length < 5864062014805 then (some (y275 ++ y278)) else (none))) else (none)) else (none)) = some r := by first | (rw [hy275]; with_reducible exact H) | (have H2_ := (Option.bind_some _ _).symm.trans H; rw [hy275]; with_reducible exact H2_) | (have H2_ := (Option.bind_some _ _).symm.trans H; with_reducible exact H2_) | with_reducible exact H | (rw [hy275]; exact H) | exact H
        have Ny275 := Aside0.mk hy275
        clear hy275
        obtain ⟨ji6, hji6⟩ : ∃ j_ : Int, (wrap64 (a1 + 1)) = j_ := ⟨_, rfl⟩
        replace H : (if 0 ≤ (ji6) then (if (ji6) ≤ (l0.length : Int) then ((some (l0.drop ((ji6) : Int).toNat : List (List Int))).bind fun y278 => (if y275.length + y278.length < 5864062014805 then (some (y275 ++ y278)) else (none))) else (none)) else (none)) = some r := by first | (rw [hji6] at H; exact H) | (simp only [hji6] at H ⊢; exact H)
        have hji6w : (IntKind.i64.wrap (a1 + 1)) = ji6 := (i64_w _).trans hji6
        by_cases c7 : 0 ≤ (ji6)
        · rw [if_pos c7] at H
          have c7b0 := eq_true c7
          have c7b1 : decide (0 ≤ (ji6)) = true := decide_eq_true c7
          clear c7
          by_cases c8 : (ji6) ≤ (l0.length : Int)
          · rw [if_pos c8] at H
            have c8b0 := eq_true c8
            have c8b1 : decide ((ji6) ≤ (l0.length : Int)) = true := decide_eq_true c8
            clear c8
            obtain ⟨y278, hy278⟩ : ∃ y_ : List (List Int), y_ = (l0.drop ((ji6) : Int).toNat) := ⟨_, rfl⟩
            replace H : (if y275.length + y278.length < 5864062014805 then (some (y275 ++ y278)) else (none)) = some r := by first | (rw [hy278]; with_reducible exact H) | (have H2_ := (Option.bind_some _ _).symm.trans H; rw [hy278]; with_reducible exact H2_) | (have H2_ := (Option.bind_some _ _).symm.trans H; with_reducible exact H2_) | with_reducible exact H | (rw [hy278]; exact H) | exact H
            have Ny278 := Aside0.mk hy278
            clear hy278
            by_cases c9 : y275.length + y278.length < 5864062014805
            · rw [if_pos c9] at H
              have LMc9 := Aside0.mk c9
              clear c9
              obtain ⟨y283, hy283⟩ : ∃ y_ : List (List Int), y_ = (y275 ++ y278) := ⟨_, rfl⟩
              replace H : (some y283) = some r := by first | (rw [hy283]; with_reducible exact H) | (have H2_ := (Option.bind_some _ _).symm.trans H; rw [hy283]; with_reducible exact H2_) | (have H2_ := (Option.bind_some _ _).symm.trans H; with_reducible exact H2_) | with_reducible exact H | (rw [hy283]; exact H) | exact H
              have Ny283 := Aside0.mk hy283
              clear hy283
              obtain rfl := Option.some.inj H
              go_enter Try.func19, Try.ntmps19
              try go_wp2
              have n0_ := Aside0.mk (Kd.V_drew HO0.out)
              have n1_ := Aside0.mk (below_drew1 HB.out)
              clear HO0
              clear HB
              have HO0 := n0_
              have HB := n1_
              clear n0_ n1_
              have q11 : (a1 : Int) ≤ ((l0.length : Int) : Int) := of_decide_eq_true (by first | (with_reducible assumption) | assumption)
              obtain ⟨i011, hi011, _, hsz11, _⟩ := info_parts info35
              have hroom11 : l0.length ≤ c0 := (Kd.V_reads' HO0.out).2.1
              have hC11 : Kd.F (Kd.slice 3 (Kd.int .i64)) _ _ A0 l0.length l0 := (Kd.V_at (base := w.heap.size) HO0.out).2.2
              have hcut11 := cut_to (P := Try.prog) 22 35 .i64 Try.underlying22 hi011 A0 l0.length c0 a1 (of_decide_eq_true (by first | (with_reducible assumption) | assumption)) q11 hroom11
              have hr11 := Kd.F_take (m := (a1 : Int).toNat) hC11 (by omega)
              have hy11 : y270.length = (a1 : Int).toNat := (by rw [Ny270.out, List.length_take]; omega)
              rw [← Ny270.out] at hr11
              rw [← hy11] at hcut11
              have HO274 := Aside0.mk (show Kd.V (Kd.slice 3 (Kd.int .i64)) 35 _ w.heap.size _ (.slice A0 y270.length c0) y270 from Kd.V_mk (by omega) hr11)
              have HC274 := Aside0.mk (show y270.length ≤ c0 from by omega)
              clear hr11 hC11 hroom11 hi011 hsz11
              have KY11 := Aside0.mk hy11
              clear hy11
              replace q11 := eq_true q11
              have q12 : ((ji6) : Int) ≤ ((l0.length : Int) : Int) := of_decide_eq_true (by first | (with_reducible assumption) | assumption)
              obtain ⟨i012, hi012, _, hsz12, _⟩ := info_parts info35
              have hroom12 : l0.length ≤ c0 := (Kd.V_reads' HO0.out).2.1
              have hC12 : Kd.F (Kd.slice 3 (Kd.int .i64)) _ _ A0 l0.length l0 := (Kd.V_at (base := w.heap.size) HO0.out).2.2
              have q012 : (0 : Int) ≤ ((ji6) : Int) := of_decide_eq_true (by first | (with_reducible assumption) | assumption)
              have hcut12 := cut_from (P := Try.prog) 22 35 .i64 Try.underlying22 hi012 1 hsz12 A0 l0.length c0 (ji6) q012 q12
              have hr12 := Kd.F_cut (m := ((ji6) : Int).toNat) (c := c0) hC12 (by omega) hroom12
              obtain ⟨A12, hA12⟩ : ∃ A_x, A_x = (if c0 = ((ji6) : Int).toNat then A0 else (A0 : Option Addr).map (·.add (((ji6) : Int).toNat * 1))) := ⟨_, rfl⟩
              obtain ⟨c12, hc12⟩ : ∃ c_x, c_x = c0 - ((ji6) : Int).toNat := ⟨_, rfl⟩
              have hy12 : y278.length = l0.length - ((ji6) : Int).toNat := (by rw [Ny278.out, List.length_drop] <;> omega)
              rw [show (l0).drop ((ji6) : Int).toNat = y278 from Ny278.out.symm] at hr12
              replace hr12 : Kd.F (Kd.slice 3 (Kd.int .i64)) _ _ A12 y278.length y278 := (by rw [hA12]; exact hr12)
              rw [← hy12, ← hA12, ← hc12] at hcut12
              have HO282 := Aside0.mk (show Kd.V (Kd.slice 3 (Kd.int .i64)) 35 _ w.heap.size _ (.slice A12 y278.length c12) y278 from Kd.V_mk (by rw [hy12, hc12]; exact Nat.sub_le_sub_right hroom12 _) hr12)
              have HC282 := Aside0.mk (show y278.length ≤ c12 from by rw [hy12, hc12]; exact Nat.sub_le_sub_right hroom12 _)
              clear hr12 hC12 hroom12 hi012 hsz12 hc12
              have KY12 := Aside0.mk hy12
              have KA12 := Aside0.mk hA12
              clear hy12 hA12
              replace q12 := eq_true q12
              refine start_ (n := 11) (S := fun w' => True) (ds := []) #[false, false, false, false, false, false, false, false, false, false, false] (by kernel_rfl) rfl rfl trivial (fun hHeld => ?_); refine with_tabW backreachref18_Without.tab1 backreachref18_Without.bits1 (fun HT_ HW_ => ?_)
              generalize w.drew = w10 at HO0 HB HO274 HO282 hHeld ⊢
              refine pure_ (i := 1) (N := some 6) (v := ?_) (a' := ?_) #[false, true, false, false, false, false, false, false, false, false, false] rfl rfl (any_of HT_.out (by kernel_rfl)) (fun _ _ _ h => h) (Or.inl ⟨by rfl, ?_⟩) ?_ ?_
              rotate_left
              · intro w'
                go_simp
                with_reducible rfl
              rotate_left
              · simp only [Act.put, List.setIfInBounds_toArray, List.set_cons_zero, List.set_cons_succ, i64_w, i32_w]
                rfl
              refine pure_ (i := 2) (N := some 7) (v := ?_) (a' := ?_) #[false, true, true, false, false, false, false, false, false, false, false] rfl rfl (any_of HT_.out (by kernel_rfl)) (fun _ _ _ h => h) (Or.inl ⟨by rfl, ?_⟩) ?_ ?_
              rotate_left
              · intro w'
                go_simp
                with_reducible rfl
              rotate_left
              · simp only [Act.put, List.setIfInBounds_toArray, List.set_cons_zero, List.set_cons_succ, i64_w, i32_w]
                rfl
              refine pure_ (i := 3) (N := some 8) (v := ?_) (a' := ?_) #[false, true, true, true, false, false, false, false, false, false, false] rfl rfl (any_of HT_.out (by kernel_rfl)) (fun _ _ _ h => h) (Or.inl ⟨by rfl, ?_⟩) ?_ ?_
              rotate_left
              · intro w'
                go_simp
                with_reducible rfl
              rotate_left
              · simp only [Act.put, List.setIfInBounds_toArray, List.set_cons_zero, List.set_cons_succ, i64_w, i32_w]
                rfl
              refine pure_ (i := 5) (N := some 10) (v := ?_) (a' := ?_) #[false, true, true, true, false, true, false, false, false, false, false] rfl rfl (any_of HT_.out (by kernel_rfl)) (fun _ _ _ h => h) (Or.inl ⟨by rfl, ?_⟩) ?_ ?_
              rotate_left
              · intro w'
                go_simp
                with_reducible rfl
              rotate_left
              · simp only [Act.put, List.setIfInBounds_toArray, List.set_cons_zero, List.set_cons_succ, i64_w, i32_w]
                rfl
              refine pure_ (i := 6) (N := some 11) (v := ?_) (a' := ?_) #[false, true, true, true, false, true, true, false, false, false, false] rfl rfl (any_of HT_.out (by kernel_rfl)) (fun _ _ _ h => h) (Or.inl ⟨by rfl, ?_⟩) ?_ ?_
              rotate_left
              · intro w'
                go_simp
                with_reducible rfl
              rotate_left
              · simp only [Act.put, List.setIfInBounds_toArray, List.set_cons_zero, List.set_cons_succ, i64_w, i32_w]
                rfl
              refine pure_ (i := 7) (N := some 12) (v := ?_) (a' := ?_) #[false, true, true, true, false, true, true, true, false, false, false] rfl rfl (any_of HT_.out (by kernel_rfl)) (fun _ _ _ h => h) (Or.inl ⟨by rfl, ?_⟩) ?_ ?_
              rotate_left
              · intro w'
                go_simp
                with_reducible rfl
              rotate_left
              · simp only [Act.put, List.setIfInBounds_toArray, List.set_cons_zero, List.set_cons_succ, i64_w, i32_w]
                rfl
              refine pure_ (i := 8) (N := some 13) (v := ?_) (a' := ?_) #[false, true, true, true, false, true, true, true, true, false, false] rfl rfl (any_of HT_.out (by kernel_rfl)) (fun _ _ _ h => h) (Or.inl ⟨by rfl, ?_⟩) ?_ ?_
              rotate_left
              · intro w'
                go_simp
                with_reducible rfl
              rotate_left
              · simp only [Act.put, List.setIfInBounds_toArray, List.set_cons_zero, List.set_cons_succ, i64_w, i32_w]
                rfl
              refine one_ (i := 0) (N := some 5) #[true, true, true, true, false, true, true, true, true, false, false] rfl rfl (one_of HT_.out (by kernel_rfl)) (by decide) (fun K hK => ?_)
              refine Kd.N_lit_step (Kd.slice 3 (Kd.int .i64)) _ 35 ?hg (N' := 5) ?hd (xs := ([] : List (List Int))) (inner := []) (ok := (fun k_ => (P0_ k_ ∨ w.heap.size ≤ k_))) (okp := (fun k_ => (P0_ k_ ∨ w.heap.size ≤ k_))) ?hr ?hp (fun _ hk => hk) ((show ∀ k_, w10.heap.size ≤ k_ → (fun k_ => (P0_ k_ ∨ w.heap.size ≤ k_)) k_ from fun k_ hk => (.inr (Nat.le_trans (below_size (by repeat (first | (with_reducible first | exact HB.out | apply below_alloc | apply pw_below_drewN | apply below_drew1) | exact HB.out))) hk))) _ (Nat.le_refl _)) (Below.refl _ _) (Nat.le_refl _) (by simp) ?_; (case hd => rfl); (case hg => rfl); (case hr => first | (go_simp; done) | (go_simp; rfl)); (case hp => exact (Reps.none _ _))
              intro v268 w13 ho14 hb hg_ hnew_
              clear hg_ hnew_
              (first | rw [← Ny267.out] at ho14 | (simp only [Int.reduceToNat] at ho14; rw [← Ny267.out] at ho14))
              have n0_ := Aside0.mk (Kd.V_elder' (by (with_reducible repeat (first | apply Kd.V_alloc | apply Kd.V_drewN | apply Kd.V_drew)); exact HO0.out) (Kd.N_base ho14) hb)
              have n1_ := Aside0.mk (Kd.V_elder' (by (with_reducible repeat (first | apply Kd.V_alloc | apply Kd.V_drewN | apply Kd.V_drew)); exact HO274.out) (Kd.N_base ho14) hb)
              have n2_ := Aside0.mk (Kd.V_elder' (by (with_reducible repeat (first | apply Kd.V_alloc | apply Kd.V_drewN | apply Kd.V_drew)); exact HO282.out) (Kd.N_base ho14) hb)
              have n3_ := Aside0.mk (Kd.N_lower ho14 (below_size (by repeat (first | (with_reducible first | exact HB.out | apply below_alloc | apply pw_below_drewN | apply below_drew1) | exact HB.out))))
              have n4_ := Aside0.mk (below_step (by repeat (first | (with_reducible first | exact HB.out | apply below_alloc | apply pw_below_drewN | apply below_drew1) | exact HB.out)) hb)
              clear HO0
              clear HO274
              clear HO282
              clear HB
              have HO0 := n0_
              have HO274 := n1_
              have HO282 := n2_
              have HO269 := n3_
              have HB := n4_
              clear n0_ n1_ n2_ n3_ n4_
              clear hb ho14
              refine hK.out _ _ trivial (fun hHeld => ?_)
              clear hK K
              refine norm_ (a' := ?_) ?_ ?_
              rotate_left
              · show Act.put _ (some 5) _ = _
                simp only [Act.put, List.setIfInBounds_toArray, List.set_cons_zero, List.set_cons_succ, i64_w, i32_w]
                rfl
              refine one_ (i := 4) (N := some 9) #[true, true, true, true, true, true, true, true, true, false, false] rfl rfl (one_of HT_.out (by kernel_rfl)) (by decide) (fun K hK => ?_)
              refine Kd.N_append_rows_step (Kd.slice 3 (Kd.int .i64)) (w0 := w) w.heap.size (by rfl) (.tmp 5) (.tmp 8) 22 35 (.slice none 0 0) 24 rfl Try.underlying22 info35 rfl (by decide) (by omega) v268 y267 y270 _ _ _ (fun k_ => (P0_ k_ ∨ w.heap.size ≤ k_)) (fun k_ => ((fun k_ => (P0_ k_ ∨ w.heap.size ≤ k_))) k_ ∧ some k_ ≠ (v268 : Value).ownBlock) rfl rfl ?aO ?aR (fun _ hk => hk) ?aF ?aB ?aS ?aL ?_
              (case aR => exact (by skip; exact Kd.V_F (Kd.V_mono (ok' := (fun k_ => ((fun k_ => (P0_ k_ ∨ w.heap.size ≤ k_))) k_ ∧ some k_ ≠ (v268 : Value).ownBlock)) (HO274.out) (fun k_ hk => ⟨hk.1, hk.2⟩))))
              (case aB => exact (by repeat (first | (with_reducible first | exact HB.out | apply below_alloc | apply pw_below_drewN | apply below_drew1) | exact HB.out)))
              (case aF => exact (fun k_ hk => (.inr (Nat.le_trans (below_size (by repeat (first | (with_reducible first | exact HB.out | apply below_alloc | apply pw_below_drewN | apply below_drew1) | exact HB.out))) hk))))
              (case aO => exact (by (with_reducible repeat (first | apply Kd.N_alloc | apply Kd.N_drewN | apply Kd.N_drew)); exact HO269.out))
              (case aS => exact (below_size (by repeat (first | (with_reducible first | exact HB.out | apply below_alloc | apply pw_below_drewN | apply below_drew1) | exact HB.out))))
              (case aL => have := LMc5.out; omega)
              intro v276 w15 ho hb hg hat
              rw [← Ny275.out] at ho
              have n0_ := Aside0.mk (Kd.V_afterv (ok := (fun k_ => (P0_ k_ ∨ w.heap.size ≤ k_))) (by (with_reducible repeat (first | apply Kd.V_alloc | apply Kd.V_drewN | apply Kd.V_drew)); exact HO0.out) hg hat)
              have n1_ := Aside0.mk (Kd.V_afterv (ok := (fun k_ => (P0_ k_ ∨ w.heap.size ≤ k_))) (by (with_reducible repeat (first | apply Kd.V_alloc | apply Kd.V_drewN | apply Kd.V_drew)); exact HO274.out) hg hat)
              have n2_ := Aside0.mk (Kd.V_afterv (ok := (fun k_ => (P0_ k_ ∨ w.heap.size ≤ k_))) (by (with_reducible repeat (first | apply Kd.V_alloc | apply Kd.V_drewN | apply Kd.V_drew)); exact HO282.out) hg hat)
              have n3_ := Aside0.mk (hb)
              have n4_ := Aside0.mk (ho)
              clear HO0
              clear HO274
              clear HO282
              clear HB
              clear HO269
              have HO0 := n0_
              have HO274 := n1_
              have HO282 := n2_
              have HB := n3_
              have HO277 := n4_
              clear n0_ n1_ n2_ n3_ n4_
              clear ho hb hg hat
              refine hK.out _ _ trivial (fun hHeld => ?_)
              clear hK K
              refine norm_ (a' := ?_) ?_ ?_
              rotate_left
              · show Act.put _ (some 9) _ = _
                simp only [Act.put, List.setIfInBounds_toArray, List.set_cons_zero, List.set_cons_succ, i64_w, i32_w]
                rfl
              refine one_ (i := 9) (N := some 14) #[true, true, true, true, true, true, true, true, true, true, false] rfl rfl (one_of HT_.out (by kernel_rfl)) (by decide) (fun K hK => ?_)
              refine Kd.N_append_rows_step (Kd.slice 3 (Kd.int .i64)) (w0 := w) w.heap.size (by rfl) (.tmp 9) (.tmp 13) 22 35 (.slice none 0 0) 24 rfl Try.underlying22 info35 rfl (by decide) (by omega) v276 y275 y278 _ _ _ (fun k_ => (P0_ k_ ∨ w.heap.size ≤ k_)) (fun k_ => ((fun k_ => (P0_ k_ ∨ w.heap.size ≤ k_))) k_ ∧ some k_ ≠ (v276 : Value).ownBlock) rfl rfl ?aO ?aR (fun _ hk => hk) ?aF ?aB ?aS ?aL ?_
              (case aR => exact (by skip; exact Kd.V_F (Kd.V_mono (ok' := (fun k_ => ((fun k_ => (P0_ k_ ∨ w.heap.size ≤ k_))) k_ ∧ some k_ ≠ (v276 : Value).ownBlock)) (HO282.out) (fun k_ hk => ⟨hk.1, hk.2⟩))))
              (case aB => exact (by repeat (first | (with_reducible first | exact HB.out | apply below_alloc | apply pw_below_drewN | apply below_drew1) | exact HB.out)))
              (case aF => exact (fun k_ hk => (.inr (Nat.le_trans (below_size (by repeat (first | (with_reducible first | exact HB.out | apply below_alloc | apply pw_below_drewN | apply below_drew1) | exact HB.out))) hk))))
              (case aO => exact (by (with_reducible repeat (first | apply Kd.N_alloc | apply Kd.N_drewN | apply Kd.N_drew)); exact HO277.out))
              (case aS => exact (below_size (by repeat (first | (with_reducible first | exact HB.out | apply below_alloc | apply pw_below_drewN | apply below_drew1) | exact HB.out))))
              (case aL => have := LMc9.out; omega)
              intro v284 w16 ho hb hg hat
              rw [← Ny283.out] at ho
              have n0_ := Aside0.mk (Kd.V_afterv (ok := (fun k_ => (P0_ k_ ∨ w.heap.size ≤ k_))) (by (with_reducible repeat (first | apply Kd.V_alloc | apply Kd.V_drewN | apply Kd.V_drew)); exact HO0.out) hg hat)
              have n1_ := Aside0.mk (Kd.V_afterv (ok := (fun k_ => (P0_ k_ ∨ w.heap.size ≤ k_))) (by (with_reducible repeat (first | apply Kd.V_alloc | apply Kd.V_drewN | apply Kd.V_drew)); exact HO274.out) hg hat)
              have n2_ := Aside0.mk (Kd.V_afterv (ok := (fun k_ => (P0_ k_ ∨ w.heap.size ≤ k_))) (by (with_reducible repeat (first | apply Kd.V_alloc | apply Kd.V_drewN | apply Kd.V_drew)); exact HO282.out) hg hat)
              have n3_ := Aside0.mk (hb)
              have n4_ := Aside0.mk (ho)
              clear HO0
              clear HO274
              clear HO282
              clear HB
              clear HO277
              have HO0 := n0_
              have HO274 := n1_
              have HO282 := n2_
              have HB := n3_
              have HO285 := n4_
              clear n0_ n1_ n2_ n3_ n4_
              clear ho hb hg hat
              refine hK.out _ _ trivial (fun hHeld => ?_)
              clear hK K
              refine norm_ (a' := ?_) ?_ ?_
              rotate_left
              · show Act.put _ (some 14) _ = _
                simp only [Act.put, List.setIfInBounds_toArray, List.set_cons_zero, List.set_cons_succ, i64_w, i32_w]
                rfl
              refine pure_ (i := 10) (N := some 4) (v := ?_) (a' := ?_) #[true, true, true, true, true, true, true, true, true, true, true] rfl rfl (any_of HT_.out (by kernel_rfl)) (fun _ _ _ h => h) (Or.inl ⟨by rfl, ?_⟩) ?_ ?_
              rotate_left
              · intro w'
                go_simp
                with_reducible rfl
              rotate_left
              · simp only [Act.put, List.setIfInBounds_toArray, List.set_cons_zero, List.set_cons_succ, i64_w, i32_w]
                rfl
              refine done_ (done_of HT_.out (by kernel_rfl)) ?_
              try go_wp2
              go_ret
              exact ⟨_, by first | rfl | (simp [errW_none, errW_some] <;> rfl) | (simp only [← hji6]; first | rfl | (simp [errW_none, errW_some] <;> rfl)) | (simp [*, errW_none, errW_some] <;> rfl), by (with_reducible repeat (first | apply Kd.N_alloc | apply Kd.N_drewN | apply Kd.N_drew)); exact HO285.out, by repeat (first | (with_reducible first | exact HB.out | apply below_alloc | apply pw_below_drewN | apply below_drew1) | exact HB.out)⟩
            · rw [if_neg c9] at H
              exact absurd H (by simp)
          · rw [if_neg c8] at H
            exact absurd H (by simp)
        · rw [if_neg c7] at H
          exact absurd H (by simp)
      · rw [if_neg c5] at H
        exact absurd H (by simp)
    · rw [if_neg c4] at H
      exact absurd H (by simp)
  · rw [if_neg c3] at H
    exact absurd H (by simp)

/-! ### backreachlaw18_ProofTrims: function 5 -/
mutual
def backreachlaw18_ProofTrims.j0 : Nat → List (List Int) → List (List Int) → Bool → Option (Bool)
  | 0, _, _, _ => none
  | k + 1, x0, x1, x28 => if x28 = true then (some true) else ((proof_Trim.f x0 x1).bind fun bt289 => ((backreachref18_Check.f k x0 x1).bind fun bt293 => (if bt293.1 = 0 then ((backreachref18_Check.f k x0 bt289.1).bind fun bt295 => (if bt289.2 = 0 then (if bt295.1 = 0 then ((backreachref18_Some.f k bt289.1 x1).bind fun t297 => (if t297 = true then (if (bt289.1.length : Int) = 0 then (backreachlaw18_ProofTrims.j1 k x0 bt289.1 true) else (if 0 ≤ (wrap64 ((bt289.1.length : Int) - 1)) then (if (wrap64 ((bt289.1.length : Int) - 1)) < (bt289.1.length : Int) then (backreachlaw18_ProofTrims.j1 k x0 bt289.1 (((rd_L1 bt289.1 (wrap64 ((bt289.1.length : Int) - 1))).length : Int) != 0)) else (none)) else (none))) else (backreachlaw18_ProofTrims.j1 k x0 bt289.1 true))) else (backreachlaw18_ProofTrims.j1 k x0 bt289.1 true)) else (backreachlaw18_ProofTrims.j1 k x0 bt289.1 true))) else (if bt289.2 = bt293.1 then (some ((bt289.1.length : Int) == 0)) else (some false)))))
def backreachlaw18_ProofTrims.j1 : Nat → List (List Int) → List (List Int) → Bool → Option (Bool)
  | 0, _, _, _ => none
  | k + 1, x0, x5, x83 => if x83 = true then (some false) else (backreachlaw18_ProofTrims.l0 k x0 x5 0)
def backreachlaw18_ProofTrims.l0 : Nat → List (List Int) → List (List Int) → Int → Option (Bool)
  | 0, _, _, _ => none
  | k + 1, x0, x5, x11 => if x11 < (wrap64 ((x5.length : Int) - 1)) then ((backreachref18_Without.f x5 x11).bind fun t299 => ((backreachref18_Check.f k x0 t299).bind fun bt302 => (if bt302.1 = 0 then (some false) else (if 0 ≤ x11 then (if x11 < (x5.length : Int) then (if ((rd_L1 x5 x11).length : Int) = 0 then (some false) else (backreachlaw18_ProofTrims.l0 k x0 x5 (wrap64 (x11 + 1)))) else (none)) else (none))))) else (some true)
end
def backreachlaw18_ProofTrims.f (k : Nat) (l0 : List (List Int)) (l1 : List (List Int)) : Option (Bool) := (backreachlaw18_awake.f).bind fun t286 => (if t286 = true then ((backreachlaw18_few.f k l0).bind fun t287 => (if t287 = true then ((backreachlaw18_few.f k l1).bind fun t288 => (if t288 = true then (backreachlaw18_ProofTrims.j0 k l0 l1 (decide ((l1.length : Int) > 25))) else (backreachlaw18_ProofTrims.j0 k l0 l1 true))) else (backreachlaw18_ProofTrims.j0 k l0 l1 true))) else (some false))
theorem backreachlaw18_ProofTrims.mono_l : ∀ k, (∀ y0 y1 y2, LeO (backreachlaw18_ProofTrims.j0 k y0 y1 y2) (backreachlaw18_ProofTrims.j0 (k + 1) y0 y1 y2)) ∧ (∀ y0 y1 y2, LeO (backreachlaw18_ProofTrims.j1 k y0 y1 y2) (backreachlaw18_ProofTrims.j1 (k + 1) y0 y1 y2)) ∧ (∀ y0 y1 y2, LeO (backreachlaw18_ProofTrims.l0 k y0 y1 y2) (backreachlaw18_ProofTrims.l0 (k + 1) y0 y1 y2))
  | 0 => ⟨fun _ _ _ r h => by simp [backreachlaw18_ProofTrims.j0] at h, fun _ _ _ r h => by simp [backreachlaw18_ProofTrims.j1] at h, fun _ _ _ r h => by simp [backreachlaw18_ProofTrims.l0] at h⟩
  | k + 1 => by
    obtain ⟨ih0, ih1, ih2⟩ := backreachlaw18_ProofTrims.mono_l k
    refine ⟨?_, ?_, ?_⟩
    · intro y0 y1 y2
      unfold backreachlaw18_ProofTrims.j0
      repeat' first
      | (with_reducible exact ih0 _ _ _)
      | (with_reducible exact ih1 _ _ _)
      | (with_reducible exact ih2 _ _ _)
      | (with_reducible exact backreachlaw18_few.mono _ _)
      | (with_reducible exact backreachref18_Check.mono _ _ _)
      | (with_reducible exact backreachref18_Some.mono _ _ _)
      | (with_reducible exact LeO.refl _)
      | (with_reducible exact LeO.none _)
      | (with_reducible refine LeO.ite ?_ ?_)
      | (with_reducible refine LeO.bind ?_ (fun _ => ?_))
      | exact ih0 _ _ _
      | exact ih1 _ _ _
      | exact ih2 _ _ _
      | exact backreachlaw18_few.mono _ _
      | exact backreachref18_Check.mono _ _ _
      | exact backreachref18_Some.mono _ _ _
      | exact LeO.none _
      | refine LeO.ite ?_ ?_
      | refine LeO.bind ?_ (fun _ => ?_)
    · intro y0 y1 y2
      unfold backreachlaw18_ProofTrims.j1
      repeat' first
      | (with_reducible exact ih0 _ _ _)
      | (with_reducible exact ih1 _ _ _)
      | (with_reducible exact ih2 _ _ _)
      | (with_reducible exact backreachlaw18_few.mono _ _)
      | (with_reducible exact backreachref18_Check.mono _ _ _)
      | (with_reducible exact backreachref18_Some.mono _ _ _)
      | (with_reducible exact LeO.refl _)
      | (with_reducible exact LeO.none _)
      | (with_reducible refine LeO.ite ?_ ?_)
      | (with_reducible refine LeO.bind ?_ (fun _ => ?_))
      | exact ih0 _ _ _
      | exact ih1 _ _ _
      | exact ih2 _ _ _
      | exact backreachlaw18_few.mono _ _
      | exact backreachref18_Check.mono _ _ _
      | exact backreachref18_Some.mono _ _ _
      | exact LeO.none _
      | refine LeO.ite ?_ ?_
      | refine LeO.bind ?_ (fun _ => ?_)
    · intro y0 y1 y2
      unfold backreachlaw18_ProofTrims.l0
      repeat' first
      | (with_reducible exact ih0 _ _ _)
      | (with_reducible exact ih1 _ _ _)
      | (with_reducible exact ih2 _ _ _)
      | (with_reducible exact backreachlaw18_few.mono _ _)
      | (with_reducible exact backreachref18_Check.mono _ _ _)
      | (with_reducible exact backreachref18_Some.mono _ _ _)
      | (with_reducible exact LeO.refl _)
      | (with_reducible exact LeO.none _)
      | (with_reducible refine LeO.ite ?_ ?_)
      | (with_reducible refine LeO.bind ?_ (fun _ => ?_))
      | exact ih0 _ _ _
      | exact ih1 _ _ _
      | exact ih2 _ _ _
      | exact backreachlaw18_few.mono _ _
      | exact backreachref18_Check.mono _ _ _
      | exact backreachref18_Some.mono _ _ _
      | exact LeO.none _
      | refine LeO.ite ?_ ?_
      | refine LeO.bind ?_ (fun _ => ?_)
theorem backreachlaw18_ProofTrims.mono : ∀ a0 a1 k, LeO (backreachlaw18_ProofTrims.f k a0 a1) (backreachlaw18_ProofTrims.f (k + 1) a0 a1) := by
  intro a0 a1 k
  obtain ⟨ih0, ih1, ih2⟩ := backreachlaw18_ProofTrims.mono_l k
  unfold backreachlaw18_ProofTrims.f
  repeat' first
      | (with_reducible exact ih0 _ _ _)
      | (with_reducible exact ih1 _ _ _)
      | (with_reducible exact ih2 _ _ _)
      | (with_reducible exact backreachlaw18_few.mono _ _)
      | (with_reducible exact backreachref18_Check.mono _ _ _)
      | (with_reducible exact backreachref18_Some.mono _ _ _)
      | (with_reducible exact LeO.refl _)
      | (with_reducible exact LeO.none _)
      | (with_reducible refine LeO.ite ?_ ?_)
      | (with_reducible refine LeO.bind ?_ (fun _ => ?_))
      | exact ih0 _ _ _
      | exact ih1 _ _ _
      | exact ih2 _ _ _
      | exact backreachlaw18_few.mono _ _
      | exact backreachref18_Check.mono _ _ _
      | exact backreachref18_Some.mono _ _ _
      | exact LeO.none _
      | refine LeO.ite ?_ ?_
      | refine LeO.bind ?_ (fun _ => ?_)
set_option maxHeartbeats 8000000 in
set_option maxRecDepth 100000 in
theorem backreachlaw18_ProofTrims.calls (k : Nat) (A0 : Option Addr) (c0 : Nat) (l0 : List (List Int)) (A1 : Option Addr) (c1 : Nat) (l1 : List (List Int)) (r : Bool) (w : World) (hr0 : Kd.C (Kd.slice 3 (Kd.int .i64)) w A0 l0.length l0) (hc0 : l0.length ≤ c0) (hr1 : Kd.C (Kd.slice 3 (Kd.int .i64)) w A1 l1.length l1) (hc1 : l1.length ≤ c1) (h : backreachlaw18_ProofTrims.f k l0 l1 = some r) :
    Calls Try.prog 5 #[.slice A0 l0.length c0, .slice A1 l1.length c1] w fun e w' => e = .returned (.bool r) ∧ Below w.heap.size w w' := by
  have HR0 := Aside0.mk hr0
  have HC0 := Aside0.mk hc0
  clear hr0 hc0
  have HR1 := Aside0.mk hr1
  have HC1 := Aside0.mk hc1
  clear hr1 hc1
  have HB := Aside0.mk (Below.refl w.heap.size w)
  have H : ((backreachlaw18_awake.f).bind fun t286 => (if t286 = true then ((backreachlaw18_few.f k l0).bind fun t287 => (if t287 = true then ((backreachlaw18_few.f k l1).bind fun t288 => (if t288 = true then (backreachlaw18_ProofTrims.j0 k l0 l1 (decide ((l1.length : Int) > 25))) else (backreachlaw18_ProofTrims.j0 k l0 l1 true))) else (backreachlaw18_ProofTrims.j0 k l0 l1 true))) else (some false))) = some r := h
  clear h
  replace H := Option.bind_eq_some_iff.mp H
  obtain ⟨t286, A30, H⟩ := H
  replace H : (if t286 = true then ((backreachlaw18_few.f k l0).bind fun t287 => (if t287 = true then ((backreachlaw18_few.f k l1).bind fun t288 => (if t288 = true then (backreachlaw18_ProofTrims.j0 k l0 l1 (decide ((l1.length : Int) > 25))) else (backreachlaw18_ProofTrims.j0 k l0 l1 true))) else (backreachlaw18_ProofTrims.j0 k l0 l1 true))) else (some false)) = some r := H
  have A3 := Aside0.mk A30
  clear A30
  by_cases c4 : t286 = true
  · subst c4
    have H1 : ((backreachlaw18_few.f k l0).bind fun t287 => (if t287 = true then ((backreachlaw18_few.f k l1).bind fun t288 => (if t288 = true then (backreachlaw18_ProofTrims.j0 k l0 l1 (decide ((l1.length : Int) > 25))) else (backreachlaw18_ProofTrims.j0 k l0 l1 true))) else (backreachlaw18_ProofTrims.j0 k l0 l1 true))) = some r := by rw [if_pos rfl] at H; exact H
    clear H
    have H := H1
    clear H1
    have HC5 := Aside0.mk H
    clear H
    go_enter Try.func5, Try.ntmps5
    go_upto_region 3 with (first | ((with_reducible refine gate_callee (f := 12) rfl ?_); refine goesL_ (some 14) rfl rfl Try.func12 (by kernel_rfl) rfl #[] rfl (by (try simp only [List.map_toArray, List.map_cons, List.map_nil]); first | done | rfl | (simp only [List.length_drop, List.length_take]; rfl)) ?_; (with_reducible refine (backreachlaw18_awake.calls  true _ A3.out).mono ?_); rintro e w6 ⟨rfl, hb⟩; refine ⟨_, rfl, ?_⟩; have n0_ := Aside0.mk (below_step (by repeat (first | (with_reducible first | exact HB.out | apply below_alloc | apply pw_below_drewN | apply below_drew1) | exact HB.out)) hb); clear HB; have HB := n0_; clear n0_; (try clear hb); (try clear hb2); (try clear hk); (try clear hi)))
    (try simp only [Act.put, List.setIfInBounds_toArray, List.set_cons_zero, List.set_cons_succ])
    go_cut [28] (fun v28 wc => ∃ (kq : Nat) (x28_4 : Bool), v28 = .bool x28_4 ∧ Aside0 (backreachlaw18_ProofTrims.j0 kq l0 l1 x28_4 = some r) ∧ Aside0 (kq ≤ k) ∧ Aside0 (Below w.heap.size w wc))
    case first =>
      have H := HC5.out
      clear HC5
      replace H := Option.bind_eq_some_iff.mp H
      obtain ⟨t287, A70, H⟩ := H
      replace H : (if t287 = true then ((backreachlaw18_few.f k l1).bind fun t288 => (if t288 = true then (backreachlaw18_ProofTrims.j0 k l0 l1 (decide ((l1.length : Int) > 25))) else (backreachlaw18_ProofTrims.j0 k l0 l1 true))) else (backreachlaw18_ProofTrims.j0 k l0 l1 true)) = some r := H
      have A7 := Aside0.mk A70
      clear A70
      by_cases c8 : t287 = true
      · subst c8
        have H1 : ((backreachlaw18_few.f k l1).bind fun t288 => (if t288 = true then (backreachlaw18_ProofTrims.j0 k l0 l1 (decide ((l1.length : Int) > 25))) else (backreachlaw18_ProofTrims.j0 k l0 l1 true))) = some r := by rw [if_pos rfl] at H; exact H
        clear H
        have H := H1
        clear H1
        replace H := Option.bind_eq_some_iff.mp H
        obtain ⟨t288, A90, H⟩ := H
        replace H : (if t288 = true then (backreachlaw18_ProofTrims.j0 k l0 l1 (decide ((l1.length : Int) > 25))) else (backreachlaw18_ProofTrims.j0 k l0 l1 true)) = some r := H
        have A9 := Aside0.mk A90
        clear A90
        by_cases c10 : t288 = true
        · subst c10
          have H1 : (backreachlaw18_ProofTrims.j0 k l0 l1 (decide ((l1.length : Int) > 25))) = some r := by rw [if_pos rfl] at H; exact H
          clear H
          have H := H1
          clear H1
          have H' := Aside0.mk H
          clear H
          go_wp2_with (first | ((with_reducible refine gate_callee (f := 13) rfl ?_); refine goesL_ (some 17) rfl rfl Try.func13 (by kernel_rfl) rfl #[.slice A0 l0.length c0] rfl (by (try simp only [List.map_toArray, List.map_cons, List.map_nil]); first | done | rfl | (simp only [List.length_drop, List.length_take]; rfl)) ?_; (with_reducible refine (backreachlaw18_few.calls k _ _ l0 true _ ?side1 ?side2 A7.out).mono ?_); (case side1 => repeat (first | exact (Kd.C_below HR0.out HB.out) | (with_reducible refine Kd.C_alloc ?_ _) | (with_reducible refine Kd.C_drewN ?_ _) | (with_reducible refine Kd.C_drew ?_))); (case side2 => exact HC0.out); rintro e w' ⟨rfl, ⟨nd, rfl⟩⟩; refine ⟨_, rfl, ?_⟩) | (go_at_call 13; (with_reducible refine (backreachlaw18_few.calls k _ _ l1 true _ ?side1 ?side2 A9.out).mono ?_); (case side1 => repeat (first | exact (Kd.C_below HR1.out (by repeat (first | (with_reducible first | exact HB.out | apply below_alloc | apply pw_below_drewN | apply below_drew1) | exact HB.out))) | (with_reducible refine Kd.C_alloc ?_ _) | (with_reducible refine Kd.C_drewN ?_ _) | (with_reducible refine Kd.C_drew ?_))); (case side2 => exact HC1.out); rintro e w' ⟨rfl, ⟨nd, rfl⟩⟩))
          go_meet
          case rel => exact ⟨_, (decide ((l1.length : Int) > 25)), (by first | rfl | (simp; done) | (simp [*]; done)), H', ⟨by first | omega | exact Nat.le_refl _⟩, ⟨by repeat (first | (with_reducible first | exact HB.out | apply below_alloc | apply pw_below_drewN | apply below_drew1) | exact HB.out)⟩⟩
        · replace c10 := Bool.eq_false_iff.mpr c10
          subst c10
          have H1 : (backreachlaw18_ProofTrims.j0 k l0 l1 true) = some r := by rw [if_neg (show ¬ (false = true) by decide)] at H; exact H
          clear H
          have H := H1
          clear H1
          have H' := Aside0.mk H
          clear H
          go_wp2_with (first | ((with_reducible refine gate_callee (f := 13) rfl ?_); refine goesL_ (some 17) rfl rfl Try.func13 (by kernel_rfl) rfl #[.slice A0 l0.length c0] rfl (by (try simp only [List.map_toArray, List.map_cons, List.map_nil]); first | done | rfl | (simp only [List.length_drop, List.length_take]; rfl)) ?_; (with_reducible refine (backreachlaw18_few.calls k _ _ l0 true _ ?side1 ?side2 A7.out).mono ?_); (case side1 => repeat (first | exact (Kd.C_below HR0.out HB.out) | (with_reducible refine Kd.C_alloc ?_ _) | (with_reducible refine Kd.C_drewN ?_ _) | (with_reducible refine Kd.C_drew ?_))); (case side2 => exact HC0.out); rintro e w' ⟨rfl, ⟨nd, rfl⟩⟩; refine ⟨_, rfl, ?_⟩) | (go_at_call 13; (with_reducible refine (backreachlaw18_few.calls k _ _ l1 false _ ?side1 ?side2 A9.out).mono ?_); (case side1 => repeat (first | exact (Kd.C_below HR1.out (by repeat (first | (with_reducible first | exact HB.out | apply below_alloc | apply pw_below_drewN | apply below_drew1) | exact HB.out))) | (with_reducible refine Kd.C_alloc ?_ _) | (with_reducible refine Kd.C_drewN ?_ _) | (with_reducible refine Kd.C_drew ?_))); (case side2 => exact HC1.out); rintro e w' ⟨rfl, ⟨nd, rfl⟩⟩))
          go_meet
          case rel => exact ⟨_, (true), (by first | rfl | (simp; done) | (simp [*]; done)), H', ⟨by first | omega | exact Nat.le_refl _⟩, ⟨by repeat (first | (with_reducible first | exact HB.out | apply below_alloc | apply pw_below_drewN | apply below_drew1) | exact HB.out)⟩⟩
      · replace c8 := Bool.eq_false_iff.mpr c8
        subst c8
        have H1 : (backreachlaw18_ProofTrims.j0 k l0 l1 true) = some r := by rw [if_neg (show ¬ (false = true) by decide)] at H; exact H
        clear H
        have H := H1
        clear H1
        have H' := Aside0.mk H
        clear H
        go_wp2_with (first | ((with_reducible refine gate_callee (f := 13) rfl ?_); refine goesL_ (some 17) rfl rfl Try.func13 (by kernel_rfl) rfl #[.slice A0 l0.length c0] rfl (by (try simp only [List.map_toArray, List.map_cons, List.map_nil]); first | done | rfl | (simp only [List.length_drop, List.length_take]; rfl)) ?_; (with_reducible refine (backreachlaw18_few.calls k _ _ l0 false _ ?side1 ?side2 A7.out).mono ?_); (case side1 => repeat (first | exact (Kd.C_below HR0.out HB.out) | (with_reducible refine Kd.C_alloc ?_ _) | (with_reducible refine Kd.C_drewN ?_ _) | (with_reducible refine Kd.C_drew ?_))); (case side2 => exact HC0.out); rintro e w' ⟨rfl, ⟨nd, rfl⟩⟩; refine ⟨_, rfl, ?_⟩))
        go_meet
        case rel => exact ⟨_, (true), (by first | rfl | (simp; done) | (simp [*]; done)), H', ⟨by first | omega | exact Nat.le_refl _⟩, ⟨by repeat (first | (with_reducible first | exact HB.out | apply below_alloc | apply pw_below_drewN | apply below_drew1) | exact HB.out)⟩⟩
    case rest =>
      clear HC5
      try clear c1
      try clear p2
      try clear c4
      try clear c5
      try clear c8
      try clear c10
      obtain ⟨kq, x28_4, rfl, HA, HJ4, HB⟩ := hcut
      cases kq with
      | zero => exact absurd HA.out (by simp [backreachlaw18_ProofTrims.j0])
      | succ kj4 =>
        have H := HA.out
        clear HA
        simp only [backreachlaw18_ProofTrims.j0] at H
        by_cases c11 : x28_4 = true
        · subst c11
          have H1 : (some true) = some r := by rw [if_pos rfl] at H; exact H
          clear H
          have H := H1
          clear H1
          obtain rfl := Option.some.inj H
          go_wp2
          go_ret
          exact ⟨by first | rfl | (simp [errW_none, errW_some] <;> rfl) | (simp [*, errW_none, errW_some] <;> rfl), by repeat (first | (with_reducible first | exact HB.out | apply below_alloc | apply pw_below_drewN | apply below_drew1) | exact HB.out)⟩
        · replace c11 := Bool.eq_false_iff.mpr c11
          subst c11
          have H1 : ((proof_Trim.f l0 l1).bind fun bt289 => ((backreachref18_Check.f kj4 l0 l1).bind fun bt293 => (if bt293.1 = 0 then ((backreachref18_Check.f kj4 l0 bt289.1).bind fun bt295 => (if bt289.2 = 0 then (if bt295.1 = 0 then ((backreachref18_Some.f kj4 bt289.1 l1).bind fun t297 => (if t297 = true then (if (bt289.1.length : Int) = 0 then (backreachlaw18_ProofTrims.j1 kj4 l0 bt289.1 true) else (if 0 ≤ (wrap64 ((bt289.1.length : Int) - 1)) then (if (wrap64 ((bt289.1.length : Int) - 1)) < (bt289.1.length : Int) then (backreachlaw18_ProofTrims.j1 kj4 l0 bt289.1 (((rd_L1 bt289.1 (wrap64 ((bt289.1.length : Int) - 1))).length : Int) != 0)) else (none)) else (none))) else (backreachlaw18_ProofTrims.j1 kj4 l0 bt289.1 true))) else (backreachlaw18_ProofTrims.j1 kj4 l0 bt289.1 true)) else (backreachlaw18_ProofTrims.j1 kj4 l0 bt289.1 true))) else (if bt289.2 = bt293.1 then (some ((bt289.1.length : Int) == 0)) else (some false))))) = some r := by rw [if_neg (show ¬ (false = true) by decide)] at H; exact H
          clear H
          have H := H1
          clear H1
          replace H := Option.bind_eq_some_iff.mp H
          obtain ⟨⟨t289, t290⟩, A120, H⟩ := H
          replace H : ((backreachref18_Check.f kj4 l0 l1).bind fun bt293 => (if bt293.1 = 0 then ((backreachref18_Check.f kj4 l0 t289).bind fun bt295 => (if t290 = 0 then (if bt295.1 = 0 then ((backreachref18_Some.f kj4 t289 l1).bind fun t297 => (if t297 = true then (if (t289.length : Int) = 0 then (backreachlaw18_ProofTrims.j1 kj4 l0 t289 true) else (if 0 ≤ (wrap64 ((t289.length : Int) - 1)) then (if (wrap64 ((t289.length : Int) - 1)) < (t289.length : Int) then (backreachlaw18_ProofTrims.j1 kj4 l0 t289 (((rd_L1 t289 (wrap64 ((t289.length : Int) - 1))).length : Int) != 0)) else (none)) else (none))) else (backreachlaw18_ProofTrims.j1 kj4 l0 t289 true))) else (backreachlaw18_ProofTrims.j1 kj4 l0 t289 true)) else (backreachlaw18_ProofTrims.j1 kj4 l0 t289 true))) else (if t290 = bt293.1 then (some ((t289.length : Int) == 0)) else (some false)))) = some r := H
          have A12 := Aside0.mk A120
          clear A120
          replace H := Option.bind_eq_some_iff.mp H
          obtain ⟨⟨t293, t294⟩, A130, H⟩ := H
          replace H : (if t293 = 0 then ((backreachref18_Check.f kj4 l0 t289).bind fun bt295 => (if t290 = 0 then (if bt295.1 = 0 then ((backreachref18_Some.f kj4 t289 l1).bind fun t297 => (if t297 = true then (if (t289.length : Int) = 0 then (backreachlaw18_ProofTrims.j1 kj4 l0 t289 true) else (if 0 ≤ (wrap64 ((t289.length : Int) - 1)) then (if (wrap64 ((t289.length : Int) - 1)) < (t289.length : Int) then (backreachlaw18_ProofTrims.j1 kj4 l0 t289 (((rd_L1 t289 (wrap64 ((t289.length : Int) - 1))).length : Int) != 0)) else (none)) else (none))) else (backreachlaw18_ProofTrims.j1 kj4 l0 t289 true))) else (backreachlaw18_ProofTrims.j1 kj4 l0 t289 true)) else (backreachlaw18_ProofTrims.j1 kj4 l0 t289 true))) else (if t290 = t293 then (some ((t289.length : Int) == 0)) else (some false))) = some r := H
          have A13 := Aside0.mk A130
          clear A130
          by_cases c14 : t293 = 0
          · rw [if_pos c14] at H
            have c14b0 : (t293 == 0) = true := beq_iff_eq.mpr c14
            have c14b1 : (t293 != 0) = false := bne_eq_false_iff_eq.mpr c14
            clear c14
            replace H := Option.bind_eq_some_iff.mp H
            obtain ⟨⟨t295, t296⟩, A150, H⟩ := H
            replace H : (if t290 = 0 then (if t295 = 0 then ((backreachref18_Some.f kj4 t289 l1).bind fun t297 => (if t297 = true then (if (t289.length : Int) = 0 then (backreachlaw18_ProofTrims.j1 kj4 l0 t289 true) else (if 0 ≤ (wrap64 ((t289.length : Int) - 1)) then (if (wrap64 ((t289.length : Int) - 1)) < (t289.length : Int) then (backreachlaw18_ProofTrims.j1 kj4 l0 t289 (((rd_L1 t289 (wrap64 ((t289.length : Int) - 1))).length : Int) != 0)) else (none)) else (none))) else (backreachlaw18_ProofTrims.j1 kj4 l0 t289 true))) else (backreachlaw18_ProofTrims.j1 kj4 l0 t289 true)) else (backreachlaw18_ProofTrims.j1 kj4 l0 t289 true)) = some r := H
            have A15 := Aside0.mk A150
            clear A150
            have HC16 := Aside0.mk H
            clear H
            go_upto_region 10 with (first | ((with_reducible refine gate_callee (f := 17) rfl ?_); refine goesL_ (some 32) rfl rfl Try.func17 (by kernel_rfl) rfl #[.slice A0 l0.length c0, .slice A1 l1.length c1] rfl (by (try simp only [List.map_toArray, List.map_cons, List.map_nil]); first | done | rfl | (simp only [List.length_drop, List.length_take]; rfl)) ?_; (with_reducible refine (proof_Trim.calls _ _ l0 _ _ l1 t289 t290 _ ?side1 ?side2 ?side3 ?side4 A12.out).mono ?_); (case side1 => repeat (first | exact (Kd.C_below HR0.out HB.out) | (with_reducible refine Kd.C_alloc ?_ _) | (with_reducible refine Kd.C_drewN ?_ _) | (with_reducible refine Kd.C_drew ?_))); (case side2 => exact HC0.out); (case side3 => repeat (first | exact (Kd.C_below HR1.out HB.out) | (with_reducible refine Kd.C_alloc ?_ _) | (with_reducible refine Kd.C_drewN ?_ _) | (with_reducible refine Kd.C_drew ?_))); (case side4 => exact HC1.out); rintro e w17 ⟨v291, rfl, ho0, hb⟩; refine ⟨_, rfl, ?_⟩; have n0_ := Aside0.mk (Kd.N_lower (Kd.N_mono (ok' := fun k_ => True) ho0 (fun k_ hk_ => trivial)) (below_size (by repeat (first | (with_reducible first | exact HB.out | apply below_alloc | apply pw_below_drewN | apply below_drew1) | exact HB.out)))); have n1_ := Aside0.mk (below_step (by repeat (first | (with_reducible first | exact HB.out | apply below_alloc | apply pw_below_drewN | apply below_drew1) | exact HB.out)) hb); clear HB; have HO292 := n0_; have HB := n1_; clear n0_ n1_; (try clear hb); (try clear hb2); (try clear hk); (try clear hi); (try clear ho0)) | ((with_reducible refine gate_callee (f := 15) rfl ?_); refine goesL_ (some 38) rfl rfl Try.func15 (by kernel_rfl) rfl #[.slice A0 l0.length c0, .slice A1 l1.length c1] rfl (by (try simp only [List.map_toArray, List.map_cons, List.map_nil]); first | done | rfl | (simp only [List.length_drop, List.length_take]; rfl)) ?_; (with_reducible refine (backreachref18_Check.calls kj4 (fun k_ => k_ < w.heap.size) _ _ l0 (fun k_ => k_ < w.heap.size) _ _ l1 t293 t294 _ ?side1 ?side2 A13.out).mono ?_); (case side1 => exact Kd.V_mk HC0.out (Kd.F_below (Kd.C_F (Kd.heap_slice 3 (Kd.heap_int .i64)) HR0.out) (by repeat (first | (with_reducible first | exact HB.out | apply below_alloc | apply pw_below_drewN | apply below_drew1) | exact HB.out)))); (case side2 => exact Kd.V_mk HC1.out (Kd.F_below (Kd.C_F (Kd.heap_slice 3 (Kd.heap_int .i64)) HR1.out) (by repeat (first | (with_reducible first | exact HB.out | apply below_alloc | apply pw_below_drewN | apply below_drew1) | exact HB.out)))); rintro e w18 ⟨rfl, hb⟩; refine ⟨_, rfl, ?_⟩; have n0_ := Aside0.mk (Kd.N_below (by (with_reducible repeat (first | apply Kd.N_alloc | apply Kd.N_drewN | apply Kd.N_drew)); exact HO292.out) hb); have n1_ := Aside0.mk (below_step (by repeat (first | (with_reducible first | exact HB.out | apply below_alloc | apply pw_below_drewN | apply below_drew1) | exact HB.out)) hb); clear HO292; clear HB; have HO292 := n0_; have HB := n1_; clear n0_ n1_; (try clear hb); (try clear hb2); (try clear hk); (try clear hi); obtain ⟨Ao19, co19, eo19⟩ := Kd.N_slice HO292.out; subst eo19) | ((with_reducible refine gate_callee (f := 15) rfl ?_); refine goesL_ (some 54) rfl rfl Try.func15 (by kernel_rfl) rfl #[.slice A0 l0.length c0, .slice Ao19 t289.length co19] rfl (by (try simp only [List.map_toArray, List.map_cons, List.map_nil]); first | done | rfl | (simp only [List.length_drop, List.length_take]; rfl)) ?_; (with_reducible refine (backreachref18_Check.calls kj4 (fun k_ => k_ < w.heap.size) _ _ l0 (fun k_ => True) _ _ t289 t295 t296 _ ?side1 ?side2 A15.out).mono ?_); (case side1 => exact Kd.V_mk HC0.out (Kd.F_below (Kd.C_F (Kd.heap_slice 3 (Kd.heap_int .i64)) HR0.out) (by repeat (first | (with_reducible first | exact HB.out | apply below_alloc | apply pw_below_drewN | apply below_drew1) | exact HB.out)))); (case side2 => exact Kd.N_V (HO292.out)); rintro e w20 ⟨rfl, hb⟩; refine ⟨_, rfl, ?_⟩; have n0_ := Aside0.mk (Kd.N_below (by (with_reducible repeat (first | apply Kd.N_alloc | apply Kd.N_drewN | apply Kd.N_drew)); exact HO292.out) hb); have n1_ := Aside0.mk (below_step (by repeat (first | (with_reducible first | exact HB.out | apply below_alloc | apply pw_below_drewN | apply below_drew1) | exact HB.out)) hb); clear HO292; clear HB; have HO292 := n0_; have HB := n1_; clear n0_ n1_; (try clear hb); (try clear hb2); (try clear hk); (try clear hi)))
            (try simp only [Act.put, List.setIfInBounds_toArray, List.set_cons_zero, List.set_cons_succ])
            go_cut [83] (fun v83 wc => ∃ (kq : Nat) (x83_15 : Bool), v83 = .bool x83_15 ∧ Aside0 (backreachlaw18_ProofTrims.j1 kq l0 t289 x83_15 = some r) ∧ Aside0 (kq ≤ kj4) ∧ Aside0 (Kd.N (Kd.slice 3 (Kd.int .i64)) 35 wc w.heap.size (fun _ => True) (.slice Ao19 t289.length co19) t289) ∧ Aside0 (Below w.heap.size w wc))
            case first =>
              have H := HC16.out
              clear HC16
              by_cases c21 : t290 = 0
              · rw [if_pos c21] at H
                have c21b0 : (t290 == 0) = true := beq_iff_eq.mpr c21
                have c21b1 : (t290 != 0) = false := bne_eq_false_iff_eq.mpr c21
                clear c21
                (first | rw [c21b0] | (simp only [i64_w, i32_w]; rw [c21b0]) | skip)
                by_cases c22 : t295 = 0
                · rw [if_pos c22] at H
                  have c22b0 : (t295 == 0) = true := beq_iff_eq.mpr c22
                  have c22b1 : (t295 != 0) = false := bne_eq_false_iff_eq.mpr c22
                  clear c22
                  replace H := Option.bind_eq_some_iff.mp H
                  obtain ⟨t297, A230, H⟩ := H
                  replace H : (if t297 = true then (if (t289.length : Int) = 0 then (backreachlaw18_ProofTrims.j1 kj4 l0 t289 true) else (if 0 ≤ (wrap64 ((t289.length : Int) - 1)) then (if (wrap64 ((t289.length : Int) - 1)) < (t289.length : Int) then (backreachlaw18_ProofTrims.j1 kj4 l0 t289 (((rd_L1 t289 (wrap64 ((t289.length : Int) - 1))).length : Int) != 0)) else (none)) else (none))) else (backreachlaw18_ProofTrims.j1 kj4 l0 t289 true)) = some r := H
                  have A23 := Aside0.mk A230
                  clear A230
                  by_cases c24 : t297 = true
                  · subst c24
                    have H1 : (if (t289.length : Int) = 0 then (backreachlaw18_ProofTrims.j1 kj4 l0 t289 true) else (if 0 ≤ (wrap64 ((t289.length : Int) - 1)) then (if (wrap64 ((t289.length : Int) - 1)) < (t289.length : Int) then (backreachlaw18_ProofTrims.j1 kj4 l0 t289 (((rd_L1 t289 (wrap64 ((t289.length : Int) - 1))).length : Int) != 0)) else (none)) else (none))) = some r := by rw [if_pos rfl] at H; exact H
                    clear H
                    have H := H1
                    clear H1
                    by_cases c25 : (t289.length : Int) = 0
                    · rw [if_pos c25] at H
                      have c25b0 : ((t289.length : Int) == 0) = true := beq_iff_eq.mpr c25
                      have c25b1 : ((t289.length : Int) != 0) = false := bne_eq_false_iff_eq.mpr c25
                      clear c25
                      have H' := Aside0.mk H
                      clear H
                      go_wp2_with (first | (go_at_call 18; (with_reducible refine (backreachref18_Some.calls kj4 _ _ t289 _ _ l1 true _ ?side1 ?side2 ?side3 ?side4 A23.out).mono ?_); (case side1 => repeat (first | exact (Kd.N_reads' HO292.out).2.2 | (with_reducible refine Kd.C_alloc ?_ _) | (with_reducible refine Kd.C_drewN ?_ _) | (with_reducible refine Kd.C_drew ?_))); (case side2 => exact (Kd.N_reads' HO292.out).2.1); (case side3 => repeat (first | exact (Kd.C_below HR1.out HB.out) | (with_reducible refine Kd.C_alloc ?_ _) | (with_reducible refine Kd.C_drewN ?_ _) | (with_reducible refine Kd.C_drew ?_))); (case side4 => exact HC1.out); rintro e w' ⟨rfl, ⟨nd, rfl⟩⟩))
                      go_meet
                      case rel => exact ⟨_, (true), (by first | rfl | (simp; done) | (simp [*]; done)), H', ⟨by have := HJ4.out; first | omega | exact Nat.le_refl _⟩, ⟨by (with_reducible repeat (first | apply Kd.N_alloc | apply Kd.N_drewN | apply Kd.N_drew)); exact HO292.out⟩, ⟨by repeat (first | (with_reducible first | exact HB.out | apply below_alloc | apply pw_below_drewN | apply below_drew1) | exact HB.out)⟩⟩
                    · rw [if_neg c25] at H
                      have c25b0 : ((t289.length : Int) == 0) = false := beq_eq_false_iff_ne.mpr c25
                      have c25b1 : ((t289.length : Int) != 0) = true := bne_iff_ne.mpr c25
                      have c25b2 : ¬ (t289 = []) := fun h_ => c25 (by rw [h_]; rfl)
                      obtain ⟨ji26, hji26⟩ : ∃ j_ : Int, (wrap64 ((t289.length : Int) - 1)) = j_ := ⟨_, rfl⟩
                      replace H : (if 0 ≤ (ji26) then (if (ji26) < (t289.length : Int) then (backreachlaw18_ProofTrims.j1 kj4 l0 t289 (((rd_L1 t289 (ji26)).length : Int) != 0)) else (none)) else (none)) = some r := by first | (rw [hji26] at H; exact H) | (simp only [hji26] at H ⊢; exact H)
                      (try rw [hji26] at A23)
                      have hji26w : (IntKind.i64.wrap ((t289.length : Int) - 1)) = ji26 := (i64_w _).trans hji26
                      by_cases c27 : 0 ≤ (ji26)
                      · rw [if_pos c27] at H
                        have c27b0 : decide (0 ≤ (ji26)) = true := decide_eq_true c27
                        clear c27
                        by_cases c28 : (ji26) < (t289.length : Int)
                        · rw [if_pos c28] at H
                          have c28b0 : decide ((ji26) < (t289.length : Int)) = true := decide_eq_true c28
                          clear c28
                          have H' := Aside0.mk H
                          clear H
                          go_wp2_with (first | (go_at_call 18; (with_reducible refine (backreachref18_Some.calls kj4 _ _ t289 _ _ l1 true _ ?side1 ?side2 ?side3 ?side4 A23.out).mono ?_); (case side1 => repeat (first | exact (Kd.N_reads' HO292.out).2.2 | (with_reducible refine Kd.C_alloc ?_ _) | (with_reducible refine Kd.C_drewN ?_ _) | (with_reducible refine Kd.C_drew ?_))); (case side2 => exact (Kd.N_reads' HO292.out).2.1); (case side3 => repeat (first | exact (Kd.C_below HR1.out HB.out) | (with_reducible refine Kd.C_alloc ?_ _) | (with_reducible refine Kd.C_drewN ?_ _) | (with_reducible refine Kd.C_drew ?_))); (case side4 => exact HC1.out); rintro e w' ⟨rfl, ⟨nd, rfl⟩⟩; have p298 : 0 ≤ ((ji26) : Int) := of_decide_eq_true (by first | (with_reducible assumption) | assumption); have q298 : (ji26) < (t289.length : Int) := of_decide_eq_true (by first | (with_reducible assumption) | assumption); obtain ⟨ad298, A298_0, c298_0, e298, hx298_0, hl298_0, hi298_0⟩ := at_L1 (Kd.N_reads' HO292.out).2.2 (ji26) p298 q298; cases e298; obtain ⟨ce298, hce298, hMe298, hcc298⟩ := Kd.N_get HO292.out [] (ji26) p298 (by first | exact q298 | exact of_decide_eq_true (by first | (with_reducible assumption) | assumption) | (have e_ := (Kd.N_reads' HO292.out).1; omega)); obtain ⟨ua298_0, uc298_0, rfl, ul298_0, ge298_0⟩ := Kd.FK_slice_open hMe298; have hv298_0 := hcc298 0 _ rfl; rw [Nat.add_zero, show ((Kd.slice 3 (Kd.int .i64))).sz = 1 from rfl, Nat.mul_one] at hv298_0; replace hv298_0 := Option.some.inj (hv298_0.symm.trans hx298_0); injection hv298_0 with hva_ hvn_ hvc_; rw [hva_] at ge298_0; rw [hvc_] at ul298_0; have HL298_0 := Aside0.mk (show Kd.V (Kd.int .i64) 3 _ w.heap.size _ _ (rd_L1 t289 (ji26)) from Kd.V_mk ul298_0 ge298_0); clear hva_ hvn_ hvc_ ge298_0 ul298_0; clear hcc298 hce298; have HR298_0 := Aside0.mk hi298_0; have HC298_0 := Aside0.mk hl298_0; clear hi298_0 hl298_0; replace p298 := eq_true p298; replace q298 := eq_true q298))
                          go_meet
                          case rel => exact ⟨_, ((((rd_L1 t289 (ji26)).length : Int) != 0)), (by first | rfl | (simp; done) | (simp only [← hji26] <;> (first | rfl | simp)) | (simp [*]; done)), H', ⟨by have := HJ4.out; first | omega | exact Nat.le_refl _⟩, ⟨by (with_reducible repeat (first | apply Kd.N_alloc | apply Kd.N_drewN | apply Kd.N_drew)); exact HO292.out⟩, ⟨by repeat (first | (with_reducible first | exact HB.out | apply below_alloc | apply pw_below_drewN | apply below_drew1) | exact HB.out)⟩⟩
                        · rw [if_neg c28] at H
                          exact absurd H (by simp)
                      · rw [if_neg c27] at H
                        exact absurd H (by simp)
                  · replace c24 := Bool.eq_false_iff.mpr c24
                    subst c24
                    have H1 : (backreachlaw18_ProofTrims.j1 kj4 l0 t289 true) = some r := by rw [if_neg (show ¬ (false = true) by decide)] at H; exact H
                    clear H
                    have H := H1
                    clear H1
                    have H' := Aside0.mk H
                    clear H
                    go_wp2_with (first | (go_at_call 18; (with_reducible refine (backreachref18_Some.calls kj4 _ _ t289 _ _ l1 false _ ?side1 ?side2 ?side3 ?side4 A23.out).mono ?_); (case side1 => repeat (first | exact (Kd.N_reads' HO292.out).2.2 | (with_reducible refine Kd.C_alloc ?_ _) | (with_reducible refine Kd.C_drewN ?_ _) | (with_reducible refine Kd.C_drew ?_))); (case side2 => exact (Kd.N_reads' HO292.out).2.1); (case side3 => repeat (first | exact (Kd.C_below HR1.out HB.out) | (with_reducible refine Kd.C_alloc ?_ _) | (with_reducible refine Kd.C_drewN ?_ _) | (with_reducible refine Kd.C_drew ?_))); (case side4 => exact HC1.out); rintro e w' ⟨rfl, ⟨nd, rfl⟩⟩))
                    go_meet
                    case rel => exact ⟨_, (true), (by first | rfl | (simp; done) | (simp [*]; done)), H', ⟨by have := HJ4.out; first | omega | exact Nat.le_refl _⟩, ⟨by (with_reducible repeat (first | apply Kd.N_alloc | apply Kd.N_drewN | apply Kd.N_drew)); exact HO292.out⟩, ⟨by repeat (first | (with_reducible first | exact HB.out | apply below_alloc | apply pw_below_drewN | apply below_drew1) | exact HB.out)⟩⟩
                · rw [if_neg c22] at H
                  have c22b0 : (t295 == 0) = false := beq_eq_false_iff_ne.mpr c22
                  have c22b1 : (t295 != 0) = true := bne_iff_ne.mpr c22
                  have H' := Aside0.mk H
                  clear H
                  go_wp2
                  go_meet
                  case rel => exact ⟨_, (true), (by first | rfl | (simp; done) | (simp [*]; done)), H', ⟨by have := HJ4.out; first | omega | exact Nat.le_refl _⟩, ⟨by (with_reducible repeat (first | apply Kd.N_alloc | apply Kd.N_drewN | apply Kd.N_drew)); exact HO292.out⟩, ⟨by repeat (first | (with_reducible first | exact HB.out | apply below_alloc | apply pw_below_drewN | apply below_drew1) | exact HB.out)⟩⟩
              · rw [if_neg c21] at H
                have c21b0 : (t290 == 0) = false := beq_eq_false_iff_ne.mpr c21
                have c21b1 : (t290 != 0) = true := bne_iff_ne.mpr c21
                (first | rw [c21b0] | (simp only [i64_w, i32_w]; rw [c21b0]) | skip)
                have H' := Aside0.mk H
                clear H
                go_wp2
                go_meet
                case rel => exact ⟨_, (true), (by first | rfl | (simp; done) | (simp [*]; done)), H', ⟨by have := HJ4.out; first | omega | exact Nat.le_refl _⟩, ⟨by (with_reducible repeat (first | apply Kd.N_alloc | apply Kd.N_drewN | apply Kd.N_drew)); exact HO292.out⟩, ⟨by repeat (first | (with_reducible first | exact HB.out | apply below_alloc | apply pw_below_drewN | apply below_drew1) | exact HB.out)⟩⟩
            case rest =>
              clear HC16
              try clear c1
              try clear c2
              try clear p2
              try clear q2
              try clear hx2
              try clear c4
              try clear c5
              try clear p6
              try clear c8
              try clear c10
              try clear c11
              try clear c12
              try clear c13
              try clear c14
              try clear c14b0
              try clear c14b1
              try clear c15
              try clear c17
              try clear c21
              try clear c21b0
              try clear c21b1
              try clear c22
              try clear c22b0
              try clear c22b1
              try clear c24
              try clear c25
              try clear c25b0
              try clear c25b1
              try clear c25b2
              try clear c27
              try clear c27b0
              try clear c28
              try clear c28b0
              try clear hx298_0
              try clear p2
              try clear p298
              try clear q298
              obtain ⟨kq, x83_15, rfl, HA, HJ15, HO_5, HB⟩ := hcut
              cases kq with
              | zero => exact absurd HA.out (by simp [backreachlaw18_ProofTrims.j1])
              | succ kj15 =>
                have H := HA.out
                clear HA
                simp only [backreachlaw18_ProofTrims.j1] at H
                by_cases c29 : x83_15 = true
                · subst c29
                  have H1 : (some false) = some r := by rw [if_pos rfl] at H; exact H
                  clear H
                  have H := H1
                  clear H1
                  obtain rfl := Option.some.inj H
                  go_wp2
                  go_ret
                  exact ⟨by first | rfl | (simp [errW_none, errW_some] <;> rfl) | (simp [*, errW_none, errW_some] <;> rfl), by repeat (first | (with_reducible first | exact HB.out | apply below_alloc | apply pw_below_drewN | apply below_drew1) | exact HB.out)⟩
                · replace c29 := Bool.eq_false_iff.mpr c29
                  subst c29
                  have H1 : (backreachlaw18_ProofTrims.l0 kj15 l0 t289 0) = some r := by rw [if_neg (show ¬ (false = true) by decide)] at H; exact H
                  clear H
                  have H := H1
                  clear H1
                  have H' := Aside0.mk H
                  clear H
                  go_wp2
                  go_loopg [11] kj15 (fun kq v11 w' => ∃ (x11_3 : Int), v11 = .int .i64 x11_3 ∧ Aside0 (backreachlaw18_ProofTrims.l0 kq l0 t289 x11_3 = some r) ∧ Aside0 (kq ≤ kj15) ∧ Aside0 (Kd.N (Kd.slice 3 (Kd.int .i64)) 35 w' w.heap.size (fun _ => True) (.slice Ao19 t289.length co19) t289) ∧ Aside0 (Below w.heap.size w w'))
                  case atStart => exact ⟨(0), (by first | rfl | (simp; done) | (simp [*]; done)), H', ⟨Nat.le_refl _⟩, ⟨by (with_reducible repeat (first | apply Kd.N_alloc | apply Kd.N_drewN | apply Kd.N_drew)); exact HO_5.out⟩, ⟨by repeat (first | (with_reducible first | exact HB.out | apply below_alloc | apply pw_below_drewN | apply below_drew1) | exact HB.out)⟩⟩
                  case round =>
                    clear H'
                    try clear c1
                    try clear c2
                    try clear p2
                    try clear q2
                    try clear hx2
                    try clear c4
                    try clear c5
                    try clear p6
                    try clear c8
                    try clear c10
                    try clear c11
                    try clear c12
                    try clear c13
                    try clear c14
                    try clear c14b0
                    try clear c14b1
                    try clear c15
                    try clear c17
                    try clear c21
                    try clear c21b0
                    try clear c21b1
                    try clear c22
                    try clear c22b0
                    try clear c22b1
                    try clear c24
                    try clear c25
                    try clear c25b0
                    try clear c25b1
                    try clear c25b2
                    try clear c27
                    try clear c27b0
                    try clear c28
                    try clear c28b0
                    try clear c29
                    try clear p29
                    try clear q29
                    try clear hx29
                    try clear hx298_0
                    try clear p2
                    try clear p298
                    try clear p6
                    try clear q2
                    try clear q298
                    obtain ⟨x11_3, rfl, HA, HK3, HO_5, HB⟩ := hrel
                    cases gk with
                    | zero => exact absurd HA.out (by simp [backreachlaw18_ProofTrims.l0])
                    | succ k3 =>
                      have H := HA.out
                      clear HA
                      simp only [backreachlaw18_ProofTrims.l0] at H
                      by_cases c30 : x11_3 < (wrap64 ((t289.length : Int) - 1))
                      · rw [if_pos c30] at H
                        have c30b0 : decide (x11_3 < (wrap64 ((t289.length : Int) - 1))) = true := decide_eq_true c30
                        clear c30
                        replace H := Option.bind_eq_some_iff.mp H
                        obtain ⟨t299, A310, H⟩ := H
                        replace H : ((backreachref18_Check.f k3 l0 t299).bind fun bt302 => (if bt302.1 = 0 then (some false) else (if 0 ≤ x11_3 then (if x11_3 < (t289.length : Int) then (if ((rd_L1 t289 x11_3).length : Int) = 0 then (some false) else (backreachlaw18_ProofTrims.l0 k3 l0 t289 (wrap64 (x11_3 + 1)))) else (none)) else (none)))) = some r := H
                        have A31 := Aside0.mk A310
                        clear A310
                        replace H := Option.bind_eq_some_iff.mp H
                        obtain ⟨⟨t302, t303⟩, A320, H⟩ := H
                        replace H : (if t302 = 0 then (some false) else (if 0 ≤ x11_3 then (if x11_3 < (t289.length : Int) then (if ((rd_L1 t289 x11_3).length : Int) = 0 then (some false) else (backreachlaw18_ProofTrims.l0 k3 l0 t289 (wrap64 (x11_3 + 1)))) else (none)) else (none))) = some r := H
                        have A32 := Aside0.mk A320
                        clear A320
                        by_cases c33 : t302 = 0
                        · rw [if_pos c33] at H
                          have c33b0 : (t302 == 0) = true := beq_iff_eq.mpr c33
                          have c33b1 : (t302 != 0) = false := bne_eq_false_iff_eq.mpr c33
                          clear c33
                          obtain rfl := Option.some.inj H
                          go_wp2_with (first | ((with_reducible refine gate_callee (f := 19) rfl ?_); refine goesL_ (some 95) rfl rfl Try.func19 (by kernel_rfl) rfl #[.slice Ao19 t289.length co19, .int .i64 x11_3] rfl (by (try simp only [List.map_toArray, List.map_cons, List.map_nil]); first | done | rfl | (simp only [List.length_drop, List.length_take]; rfl)) ?_; (with_reducible refine (backreachref18_Without.calls (fun k_ => True) _ _ t289 x11_3 t299 _ ?side1 A31.out).mono ?_); (case side1 => exact Kd.N_V (HO_5.out)); rintro e w34 ⟨v300, rfl, ho0, hb⟩; refine ⟨_, rfl, ?_⟩; have n0_ := Aside0.mk (Kd.N_elder' (by (with_reducible repeat (first | apply Kd.N_alloc | apply Kd.N_drewN | apply Kd.N_drew)); exact HO_5.out) (Kd.N_base ho0) hb); have n1_ := Aside0.mk (Kd.N_lower (Kd.N_mono (ok' := fun k_ => True) ho0 (fun k_ hk_ => trivial)) (below_size (by repeat (first | (with_reducible first | exact HB.out | apply below_alloc | apply pw_below_drewN | apply below_drew1) | exact HB.out)))); have n2_ := Aside0.mk (below_step (by repeat (first | (with_reducible first | exact HB.out | apply below_alloc | apply pw_below_drewN | apply below_drew1) | exact HB.out)) hb); clear HO_5; clear HB; have HO_5 := n0_; have HO301 := n1_; have HB := n2_; clear n0_ n1_ n2_; (try clear hb); (try clear hb2); (try clear hk); (try clear hi); (try clear ho0); obtain ⟨Ao35, co35, eo35⟩ := Kd.N_slice HO301.out; subst eo35) | ((with_reducible refine gate_callee (f := 15) rfl ?_); refine goesL_ (some 96) rfl rfl Try.func15 (by kernel_rfl) rfl #[.slice A0 l0.length c0, .slice Ao35 t299.length co35] rfl (by (try simp only [List.map_toArray, List.map_cons, List.map_nil]); first | done | rfl | (simp only [List.length_drop, List.length_take]; rfl)) ?_; (with_reducible refine (backreachref18_Check.calls k3 (fun k_ => k_ < w.heap.size) _ _ l0 (fun k_ => True) _ _ t299 t302 t303 _ ?side1 ?side2 A32.out).mono ?_); (case side1 => exact Kd.V_mk HC0.out (Kd.F_below (Kd.C_F (Kd.heap_slice 3 (Kd.heap_int .i64)) HR0.out) (by repeat (first | (with_reducible first | exact HB.out | apply below_alloc | apply pw_below_drewN | apply below_drew1) | exact HB.out)))); (case side2 => exact Kd.N_V (HO301.out)); rintro e w36 ⟨rfl, hb⟩; refine ⟨_, rfl, ?_⟩; have n0_ := Aside0.mk (Kd.N_below (by (with_reducible repeat (first | apply Kd.N_alloc | apply Kd.N_drewN | apply Kd.N_drew)); exact HO_5.out) hb); have n1_ := Aside0.mk (Kd.N_below (by (with_reducible repeat (first | apply Kd.N_alloc | apply Kd.N_drewN | apply Kd.N_drew)); exact HO301.out) hb); have n2_ := Aside0.mk (below_step (by repeat (first | (with_reducible first | exact HB.out | apply below_alloc | apply pw_below_drewN | apply below_drew1) | exact HB.out)) hb); clear HO_5; clear HO301; clear HB; have HO_5 := n0_; have HO301 := n1_; have HB := n2_; clear n0_ n1_ n2_; (try clear hb); (try clear hb2); (try clear hk); (try clear hi)))
                          go_ret
                          exact ⟨by first | rfl | (simp [errW_none, errW_some] <;> rfl) | (simp [*, errW_none, errW_some] <;> rfl), by repeat (first | (with_reducible first | exact HB.out | apply below_alloc | apply pw_below_drewN | apply below_drew1) | exact HB.out)⟩
                        · rw [if_neg c33] at H
                          have c33b0 : (t302 == 0) = false := beq_eq_false_iff_ne.mpr c33
                          have c33b1 : (t302 != 0) = true := bne_iff_ne.mpr c33
                          by_cases c37 : 0 ≤ x11_3
                          · rw [if_pos c37] at H
                            have c37b0 : decide (0 ≤ x11_3) = true := decide_eq_true c37
                            clear c37
                            by_cases c38 : x11_3 < (t289.length : Int)
                            · rw [if_pos c38] at H
                              have c38b0 : decide (x11_3 < (t289.length : Int)) = true := decide_eq_true c38
                              clear c38
                              by_cases c39 : ((rd_L1 t289 x11_3).length : Int) = 0
                              · rw [if_pos c39] at H
                                have c39b0 : (((rd_L1 t289 x11_3).length : Int) == 0) = true := beq_iff_eq.mpr c39
                                have c39b1 : (((rd_L1 t289 x11_3).length : Int) != 0) = false := bne_eq_false_iff_eq.mpr c39
                                clear c39
                                obtain rfl := Option.some.inj H
                                go_wp2_with (first | ((with_reducible refine gate_callee (f := 19) rfl ?_); refine goesL_ (some 95) rfl rfl Try.func19 (by kernel_rfl) rfl #[.slice Ao19 t289.length co19, .int .i64 x11_3] rfl (by (try simp only [List.map_toArray, List.map_cons, List.map_nil]); first | done | rfl | (simp only [List.length_drop, List.length_take]; rfl)) ?_; (with_reducible refine (backreachref18_Without.calls (fun k_ => True) _ _ t289 x11_3 t299 _ ?side1 A31.out).mono ?_); (case side1 => exact Kd.N_V (HO_5.out)); rintro e w40 ⟨v300, rfl, ho0, hb⟩; refine ⟨_, rfl, ?_⟩; have n0_ := Aside0.mk (Kd.N_elder' (by (with_reducible repeat (first | apply Kd.N_alloc | apply Kd.N_drewN | apply Kd.N_drew)); exact HO_5.out) (Kd.N_base ho0) hb); have n1_ := Aside0.mk (Kd.N_lower (Kd.N_mono (ok' := fun k_ => True) ho0 (fun k_ hk_ => trivial)) (below_size (by repeat (first | (with_reducible first | exact HB.out | apply below_alloc | apply pw_below_drewN | apply below_drew1) | exact HB.out)))); have n2_ := Aside0.mk (below_step (by repeat (first | (with_reducible first | exact HB.out | apply below_alloc | apply pw_below_drewN | apply below_drew1) | exact HB.out)) hb); clear HO_5; clear HB; have HO_5 := n0_; have HO301 := n1_; have HB := n2_; clear n0_ n1_ n2_; (try clear hb); (try clear hb2); (try clear hk); (try clear hi); (try clear ho0); obtain ⟨Ao41, co41, eo41⟩ := Kd.N_slice HO301.out; subst eo41) | ((with_reducible refine gate_callee (f := 15) rfl ?_); refine goesL_ (some 96) rfl rfl Try.func15 (by kernel_rfl) rfl #[.slice A0 l0.length c0, .slice Ao41 t299.length co41] rfl (by (try simp only [List.map_toArray, List.map_cons, List.map_nil]); first | done | rfl | (simp only [List.length_drop, List.length_take]; rfl)) ?_; (with_reducible refine (backreachref18_Check.calls k3 (fun k_ => k_ < w.heap.size) _ _ l0 (fun k_ => True) _ _ t299 t302 t303 _ ?side1 ?side2 A32.out).mono ?_); (case side1 => exact Kd.V_mk HC0.out (Kd.F_below (Kd.C_F (Kd.heap_slice 3 (Kd.heap_int .i64)) HR0.out) (by repeat (first | (with_reducible first | exact HB.out | apply below_alloc | apply pw_below_drewN | apply below_drew1) | exact HB.out)))); (case side2 => exact Kd.N_V (HO301.out)); rintro e w42 ⟨rfl, hb⟩; refine ⟨_, rfl, ?_⟩; have n0_ := Aside0.mk (Kd.N_below (by (with_reducible repeat (first | apply Kd.N_alloc | apply Kd.N_drewN | apply Kd.N_drew)); exact HO_5.out) hb); have n1_ := Aside0.mk (Kd.N_below (by (with_reducible repeat (first | apply Kd.N_alloc | apply Kd.N_drewN | apply Kd.N_drew)); exact HO301.out) hb); have n2_ := Aside0.mk (below_step (by repeat (first | (with_reducible first | exact HB.out | apply below_alloc | apply pw_below_drewN | apply below_drew1) | exact HB.out)) hb); clear HO_5; clear HO301; clear HB; have HO_5 := n0_; have HO301 := n1_; have HB := n2_; clear n0_ n1_ n2_; (try clear hb); (try clear hb2); (try clear hk); (try clear hi); have p304 : 0 ≤ (x11_3 : Int) := of_decide_eq_true (by first | (with_reducible assumption) | assumption); have q304 : x11_3 < (t289.length : Int) := of_decide_eq_true (by first | (with_reducible assumption) | assumption); obtain ⟨ad304, A304_0, c304_0, e304, hx304_0, hl304_0, hi304_0⟩ := at_L1 (Kd.N_reads' HO_5.out).2.2 x11_3 p304 q304; cases e304; obtain ⟨ce304, hce304, hMe304, hcc304⟩ := Kd.N_get HO_5.out [] x11_3 p304 (by first | exact q304 | exact of_decide_eq_true (by first | (with_reducible assumption) | assumption) | (have e_ := (Kd.N_reads' HO_5.out).1; omega)); obtain ⟨ua304_0, uc304_0, rfl, ul304_0, ge304_0⟩ := Kd.FK_slice_open hMe304; have hv304_0 := hcc304 0 _ rfl; rw [Nat.add_zero, show ((Kd.slice 3 (Kd.int .i64))).sz = 1 from rfl, Nat.mul_one] at hv304_0; replace hv304_0 := Option.some.inj (hv304_0.symm.trans hx304_0); injection hv304_0 with hva_ hvn_ hvc_; rw [hva_] at ge304_0; rw [hvc_] at ul304_0; have HL304_0 := Aside0.mk (show Kd.V (Kd.int .i64) 3 _ w.heap.size _ _ (rd_L1 t289 x11_3) from Kd.V_mk ul304_0 ge304_0); clear hva_ hvn_ hvc_ ge304_0 ul304_0; clear hcc304 hce304; have HR304_0 := Aside0.mk hi304_0; have HC304_0 := Aside0.mk hl304_0; clear hi304_0 hl304_0; replace p304 := eq_true p304; replace q304 := eq_true q304))
                                go_ret
                                exact ⟨by first | rfl | (simp [errW_none, errW_some] <;> rfl) | (simp [*, errW_none, errW_some] <;> rfl), by repeat (first | (with_reducible first | exact HB.out | apply below_alloc | apply pw_below_drewN | apply below_drew1) | exact HB.out)⟩
                              · rw [if_neg c39] at H
                                have c39b0 : (((rd_L1 t289 x11_3).length : Int) == 0) = false := beq_eq_false_iff_ne.mpr c39
                                have c39b1 : (((rd_L1 t289 x11_3).length : Int) != 0) = true := bne_iff_ne.mpr c39
                                have c39b2 : ¬ ((rd_L1 t289 x11_3) = []) := fun h_ => c39 (by rw [h_]; rfl)
                                have H' := Aside0.mk H
                                clear H
                                go_wp2_with (first | ((with_reducible refine gate_callee (f := 19) rfl ?_); refine goesL_ (some 95) rfl rfl Try.func19 (by kernel_rfl) rfl #[.slice Ao19 t289.length co19, .int .i64 x11_3] rfl (by (try simp only [List.map_toArray, List.map_cons, List.map_nil]); first | done | rfl | (simp only [List.length_drop, List.length_take]; rfl)) ?_; (with_reducible refine (backreachref18_Without.calls (fun k_ => True) _ _ t289 x11_3 t299 _ ?side1 A31.out).mono ?_); (case side1 => exact Kd.N_V (HO_5.out)); rintro e w43 ⟨v300, rfl, ho0, hb⟩; refine ⟨_, rfl, ?_⟩; have n0_ := Aside0.mk (Kd.N_elder' (by (with_reducible repeat (first | apply Kd.N_alloc | apply Kd.N_drewN | apply Kd.N_drew)); exact HO_5.out) (Kd.N_base ho0) hb); have n1_ := Aside0.mk (Kd.N_lower (Kd.N_mono (ok' := fun k_ => True) ho0 (fun k_ hk_ => trivial)) (below_size (by repeat (first | (with_reducible first | exact HB.out | apply below_alloc | apply pw_below_drewN | apply below_drew1) | exact HB.out)))); have n2_ := Aside0.mk (below_step (by repeat (first | (with_reducible first | exact HB.out | apply below_alloc | apply pw_below_drewN | apply below_drew1) | exact HB.out)) hb); clear HO_5; clear HB; have HO_5 := n0_; have HO301 := n1_; have HB := n2_; clear n0_ n1_ n2_; (try clear hb); (try clear hb2); (try clear hk); (try clear hi); (try clear ho0); obtain ⟨Ao44, co44, eo44⟩ := Kd.N_slice HO301.out; subst eo44) | ((with_reducible refine gate_callee (f := 15) rfl ?_); refine goesL_ (some 96) rfl rfl Try.func15 (by kernel_rfl) rfl #[.slice A0 l0.length c0, .slice Ao44 t299.length co44] rfl (by (try simp only [List.map_toArray, List.map_cons, List.map_nil]); first | done | rfl | (simp only [List.length_drop, List.length_take]; rfl)) ?_; (with_reducible refine (backreachref18_Check.calls k3 (fun k_ => k_ < w.heap.size) _ _ l0 (fun k_ => True) _ _ t299 t302 t303 _ ?side1 ?side2 A32.out).mono ?_); (case side1 => exact Kd.V_mk HC0.out (Kd.F_below (Kd.C_F (Kd.heap_slice 3 (Kd.heap_int .i64)) HR0.out) (by repeat (first | (with_reducible first | exact HB.out | apply below_alloc | apply pw_below_drewN | apply below_drew1) | exact HB.out)))); (case side2 => exact Kd.N_V (HO301.out)); rintro e w45 ⟨rfl, hb⟩; refine ⟨_, rfl, ?_⟩; have n0_ := Aside0.mk (Kd.N_below (by (with_reducible repeat (first | apply Kd.N_alloc | apply Kd.N_drewN | apply Kd.N_drew)); exact HO_5.out) hb); have n1_ := Aside0.mk (Kd.N_below (by (with_reducible repeat (first | apply Kd.N_alloc | apply Kd.N_drewN | apply Kd.N_drew)); exact HO301.out) hb); have n2_ := Aside0.mk (below_step (by repeat (first | (with_reducible first | exact HB.out | apply below_alloc | apply pw_below_drewN | apply below_drew1) | exact HB.out)) hb); clear HO_5; clear HO301; clear HB; have HO_5 := n0_; have HO301 := n1_; have HB := n2_; clear n0_ n1_ n2_; (try clear hb); (try clear hb2); (try clear hk); (try clear hi); have p304 : 0 ≤ (x11_3 : Int) := of_decide_eq_true (by first | (with_reducible assumption) | assumption); have q304 : x11_3 < (t289.length : Int) := of_decide_eq_true (by first | (with_reducible assumption) | assumption); obtain ⟨ad304, A304_0, c304_0, e304, hx304_0, hl304_0, hi304_0⟩ := at_L1 (Kd.N_reads' HO_5.out).2.2 x11_3 p304 q304; cases e304; obtain ⟨ce304, hce304, hMe304, hcc304⟩ := Kd.N_get HO_5.out [] x11_3 p304 (by first | exact q304 | exact of_decide_eq_true (by first | (with_reducible assumption) | assumption) | (have e_ := (Kd.N_reads' HO_5.out).1; omega)); obtain ⟨ua304_0, uc304_0, rfl, ul304_0, ge304_0⟩ := Kd.FK_slice_open hMe304; have hv304_0 := hcc304 0 _ rfl; rw [Nat.add_zero, show ((Kd.slice 3 (Kd.int .i64))).sz = 1 from rfl, Nat.mul_one] at hv304_0; replace hv304_0 := Option.some.inj (hv304_0.symm.trans hx304_0); injection hv304_0 with hva_ hvn_ hvc_; rw [hva_] at ge304_0; rw [hvc_] at ul304_0; have HL304_0 := Aside0.mk (show Kd.V (Kd.int .i64) 3 _ w.heap.size _ _ (rd_L1 t289 x11_3) from Kd.V_mk ul304_0 ge304_0); clear hva_ hvn_ hvc_ ge304_0 ul304_0; clear hcc304 hce304; have HR304_0 := Aside0.mk hi304_0; have HC304_0 := Aside0.mk hl304_0; clear hi304_0 hl304_0; replace p304 := eq_true p304; replace q304 := eq_true q304))
                                go_roundg k3
                                case measure => have := HJ4.out; have := HJ15.out; have := HK3.out; omega
                                case rel => exact ⟨(wrap64 (x11_3 + 1)), (by first | rfl | (simp; done) | (simp [*]; done)), H', ⟨by have := HJ4.out; have := HJ15.out; have := HK3.out; omega⟩, ⟨by (with_reducible repeat (first | apply Kd.N_alloc | apply Kd.N_drewN | apply Kd.N_drew)); exact Kd.N_mono HO_5.out (fun _ hk => trivial)⟩, ⟨by repeat (first | (with_reducible first | exact HB.out | apply below_alloc | apply pw_below_drewN | apply below_drew1) | exact HB.out)⟩⟩
                            · rw [if_neg c38] at H
                              exact absurd H (by simp)
                          · rw [if_neg c37] at H
                            exact absurd H (by simp)
                      · rw [if_neg c30] at H
                        have c30b0 : decide (x11_3 < (wrap64 ((t289.length : Int) - 1))) = false := decide_eq_false c30
                        clear c30
                        obtain rfl := Option.some.inj H
                        go_wp2
                        go_ret
                        exact ⟨by first | rfl | (simp [errW_none, errW_some] <;> rfl) | (simp [*, errW_none, errW_some] <;> rfl), by repeat (first | (with_reducible first | exact HB.out | apply below_alloc | apply pw_below_drewN | apply below_drew1) | exact HB.out)⟩
          · rw [if_neg c14] at H
            have c14b0 : (t293 == 0) = false := beq_eq_false_iff_ne.mpr c14
            have c14b1 : (t293 != 0) = true := bne_iff_ne.mpr c14
            by_cases c46 : t290 = t293
            · rw [if_pos c46] at H
              have c46b0 : (t290 == t293) = true := beq_iff_eq.mpr c46
              have c46b1 : (t290 != t293) = false := bne_eq_false_iff_eq.mpr c46
              clear c46
              obtain rfl := Option.some.inj H
              go_wp2_with (first | ((with_reducible refine gate_callee (f := 17) rfl ?_); refine goesL_ (some 32) rfl rfl Try.func17 (by kernel_rfl) rfl #[.slice A0 l0.length c0, .slice A1 l1.length c1] rfl (by (try simp only [List.map_toArray, List.map_cons, List.map_nil]); first | done | rfl | (simp only [List.length_drop, List.length_take]; rfl)) ?_; (with_reducible refine (proof_Trim.calls _ _ l0 _ _ l1 t289 t290 _ ?side1 ?side2 ?side3 ?side4 A12.out).mono ?_); (case side1 => repeat (first | exact (Kd.C_below HR0.out HB.out) | (with_reducible refine Kd.C_alloc ?_ _) | (with_reducible refine Kd.C_drewN ?_ _) | (with_reducible refine Kd.C_drew ?_))); (case side2 => exact HC0.out); (case side3 => repeat (first | exact (Kd.C_below HR1.out HB.out) | (with_reducible refine Kd.C_alloc ?_ _) | (with_reducible refine Kd.C_drewN ?_ _) | (with_reducible refine Kd.C_drew ?_))); (case side4 => exact HC1.out); rintro e w47 ⟨v291, rfl, ho0, hb⟩; refine ⟨_, rfl, ?_⟩; have n0_ := Aside0.mk (Kd.N_lower (Kd.N_mono (ok' := fun k_ => True) ho0 (fun k_ hk_ => trivial)) (below_size (by repeat (first | (with_reducible first | exact HB.out | apply below_alloc | apply pw_below_drewN | apply below_drew1) | exact HB.out)))); have n1_ := Aside0.mk (below_step (by repeat (first | (with_reducible first | exact HB.out | apply below_alloc | apply pw_below_drewN | apply below_drew1) | exact HB.out)) hb); clear HB; have HO292 := n0_; have HB := n1_; clear n0_ n1_; (try clear hb); (try clear hb2); (try clear hk); (try clear hi); (try clear ho0)) | ((with_reducible refine gate_callee (f := 15) rfl ?_); refine goesL_ (some 38) rfl rfl Try.func15 (by kernel_rfl) rfl #[.slice A0 l0.length c0, .slice A1 l1.length c1] rfl (by (try simp only [List.map_toArray, List.map_cons, List.map_nil]); first | done | rfl | (simp only [List.length_drop, List.length_take]; rfl)) ?_; (with_reducible refine (backreachref18_Check.calls kj4 (fun k_ => k_ < w.heap.size) _ _ l0 (fun k_ => k_ < w.heap.size) _ _ l1 t293 t294 _ ?side1 ?side2 A13.out).mono ?_); (case side1 => exact Kd.V_mk HC0.out (Kd.F_below (Kd.C_F (Kd.heap_slice 3 (Kd.heap_int .i64)) HR0.out) (by repeat (first | (with_reducible first | exact HB.out | apply below_alloc | apply pw_below_drewN | apply below_drew1) | exact HB.out)))); (case side2 => exact Kd.V_mk HC1.out (Kd.F_below (Kd.C_F (Kd.heap_slice 3 (Kd.heap_int .i64)) HR1.out) (by repeat (first | (with_reducible first | exact HB.out | apply below_alloc | apply pw_below_drewN | apply below_drew1) | exact HB.out)))); rintro e w48 ⟨rfl, hb⟩; refine ⟨_, rfl, ?_⟩; have n0_ := Aside0.mk (Kd.N_below (by (with_reducible repeat (first | apply Kd.N_alloc | apply Kd.N_drewN | apply Kd.N_drew)); exact HO292.out) hb); have n1_ := Aside0.mk (below_step (by repeat (first | (with_reducible first | exact HB.out | apply below_alloc | apply pw_below_drewN | apply below_drew1) | exact HB.out)) hb); clear HO292; clear HB; have HO292 := n0_; have HB := n1_; clear n0_ n1_; (try clear hb); (try clear hb2); (try clear hk); (try clear hi); obtain ⟨Ao49, co49, eo49⟩ := Kd.N_slice HO292.out; subst eo49))
              go_ret
              exact ⟨by first | rfl | (simp [errW_none, errW_some] <;> rfl) | (simp [*, errW_none, errW_some] <;> rfl), by repeat (first | (with_reducible first | exact HB.out | apply below_alloc | apply pw_below_drewN | apply below_drew1) | exact HB.out)⟩
            · rw [if_neg c46] at H
              have c46b0 : (t290 == t293) = false := beq_eq_false_iff_ne.mpr c46
              have c46b1 : (t290 != t293) = true := bne_iff_ne.mpr c46
              obtain rfl := Option.some.inj H
              go_wp2_with (first | ((with_reducible refine gate_callee (f := 17) rfl ?_); refine goesL_ (some 32) rfl rfl Try.func17 (by kernel_rfl) rfl #[.slice A0 l0.length c0, .slice A1 l1.length c1] rfl (by (try simp only [List.map_toArray, List.map_cons, List.map_nil]); first | done | rfl | (simp only [List.length_drop, List.length_take]; rfl)) ?_; (with_reducible refine (proof_Trim.calls _ _ l0 _ _ l1 t289 t290 _ ?side1 ?side2 ?side3 ?side4 A12.out).mono ?_); (case side1 => repeat (first | exact (Kd.C_below HR0.out HB.out) | (with_reducible refine Kd.C_alloc ?_ _) | (with_reducible refine Kd.C_drewN ?_ _) | (with_reducible refine Kd.C_drew ?_))); (case side2 => exact HC0.out); (case side3 => repeat (first | exact (Kd.C_below HR1.out HB.out) | (with_reducible refine Kd.C_alloc ?_ _) | (with_reducible refine Kd.C_drewN ?_ _) | (with_reducible refine Kd.C_drew ?_))); (case side4 => exact HC1.out); rintro e w50 ⟨v291, rfl, ho0, hb⟩; refine ⟨_, rfl, ?_⟩; have n0_ := Aside0.mk (Kd.N_lower (Kd.N_mono (ok' := fun k_ => True) ho0 (fun k_ hk_ => trivial)) (below_size (by repeat (first | (with_reducible first | exact HB.out | apply below_alloc | apply pw_below_drewN | apply below_drew1) | exact HB.out)))); have n1_ := Aside0.mk (below_step (by repeat (first | (with_reducible first | exact HB.out | apply below_alloc | apply pw_below_drewN | apply below_drew1) | exact HB.out)) hb); clear HB; have HO292 := n0_; have HB := n1_; clear n0_ n1_; (try clear hb); (try clear hb2); (try clear hk); (try clear hi); (try clear ho0)) | ((with_reducible refine gate_callee (f := 15) rfl ?_); refine goesL_ (some 38) rfl rfl Try.func15 (by kernel_rfl) rfl #[.slice A0 l0.length c0, .slice A1 l1.length c1] rfl (by (try simp only [List.map_toArray, List.map_cons, List.map_nil]); first | done | rfl | (simp only [List.length_drop, List.length_take]; rfl)) ?_; (with_reducible refine (backreachref18_Check.calls kj4 (fun k_ => k_ < w.heap.size) _ _ l0 (fun k_ => k_ < w.heap.size) _ _ l1 t293 t294 _ ?side1 ?side2 A13.out).mono ?_); (case side1 => exact Kd.V_mk HC0.out (Kd.F_below (Kd.C_F (Kd.heap_slice 3 (Kd.heap_int .i64)) HR0.out) (by repeat (first | (with_reducible first | exact HB.out | apply below_alloc | apply pw_below_drewN | apply below_drew1) | exact HB.out)))); (case side2 => exact Kd.V_mk HC1.out (Kd.F_below (Kd.C_F (Kd.heap_slice 3 (Kd.heap_int .i64)) HR1.out) (by repeat (first | (with_reducible first | exact HB.out | apply below_alloc | apply pw_below_drewN | apply below_drew1) | exact HB.out)))); rintro e w51 ⟨rfl, hb⟩; refine ⟨_, rfl, ?_⟩; have n0_ := Aside0.mk (Kd.N_below (by (with_reducible repeat (first | apply Kd.N_alloc | apply Kd.N_drewN | apply Kd.N_drew)); exact HO292.out) hb); have n1_ := Aside0.mk (below_step (by repeat (first | (with_reducible first | exact HB.out | apply below_alloc | apply pw_below_drewN | apply below_drew1) | exact HB.out)) hb); clear HO292; clear HB; have HO292 := n0_; have HB := n1_; clear n0_ n1_; (try clear hb); (try clear hb2); (try clear hk); (try clear hi)))
              go_ret
              exact ⟨by first | rfl | (simp [errW_none, errW_some] <;> rfl) | (simp [*, errW_none, errW_some] <;> rfl), by repeat (first | (with_reducible first | exact HB.out | apply below_alloc | apply pw_below_drewN | apply below_drew1) | exact HB.out)⟩
  · replace c4 := Bool.eq_false_iff.mpr c4
    subst c4
    have H1 : (some false) = some r := by rw [if_neg (show ¬ (false = true) by decide)] at H; exact H
    clear H
    have H := H1
    clear H1
    obtain rfl := Option.some.inj H
    go_enter Try.func5, Try.ntmps5
    go_wp2_with (first | ((with_reducible refine gate_callee (f := 12) rfl ?_); refine goesL_ (some 14) rfl rfl Try.func12 (by kernel_rfl) rfl #[] rfl (by (try simp only [List.map_toArray, List.map_cons, List.map_nil]); first | done | rfl | (simp only [List.length_drop, List.length_take]; rfl)) ?_; (with_reducible refine (backreachlaw18_awake.calls  false _ A3.out).mono ?_); rintro e w52 ⟨rfl, hb⟩; refine ⟨_, rfl, ?_⟩; have n0_ := Aside0.mk (below_step (by repeat (first | (with_reducible first | exact HB.out | apply below_alloc | apply pw_below_drewN | apply below_drew1) | exact HB.out)) hb); clear HB; have HB := n0_; clear n0_; (try clear hb); (try clear hb2); (try clear hk); (try clear hi)))
    go_ret
    exact ⟨by first | rfl | (simp [errW_none, errW_some] <;> rfl) | (simp [*, errW_none, errW_some] <;> rfl), by repeat (first | (with_reducible first | exact HB.out | apply below_alloc | apply pw_below_drewN | apply below_drew1) | exact HB.out)⟩

/-- THE ONE PURE STATEMENT of backreachlaw18_ProofTrims: yours. -/
def backreachlaw18_ProofTrims.Pure : Prop := ∀ (l0 : List (List Int)) (l1 : List (List Int)), l0.length ≤ maxLen → l0.length * 24 ≤ 140737488351232 → (∀ c ∈ l0, ∀ x ∈ c, (Lit.int .i64 x).wf = true) → l1.length ≤ maxLen → l1.length * 24 ≤ 140737488351232 → (∀ c ∈ l1, ∀ x ∈ c, (Lit.int .i64 x).wf = true) → ∃ k, backreachlaw18_ProofTrims.f k l0 l1 = some true

-- NOT PRINTED: function 57 (clause_Most)

-- NOT PRINTED: function 67 (slices_IndexFunc_int_int_67)

-- NOT PRINTED: function 50 (slices_ContainsFunc_int_int_50)

-- NOT PRINTED: function 81 (search_table_bool_at)

-- NOT PRINTED: function 86 (search_variable)

-- NOT PRINTED: function 64 (search_solver_hold)

-- NOT PRINTED: function 80 (search_table_int_at)

-- NOT PRINTED: function 77 (search_solver_keep)

-- NOT PRINTED: function 58 (search_solver_add)

-- NOT PRINTED: function 95 (cmp_isNaN_int)

-- NOT PRINTED: function 102 (cmp_Less_int)

-- NOT PRINTED: function 96 (slices_insertionSortOrdered_int)

-- NOT PRINTED: function 115 (slices_siftDownOrdered_int)

-- NOT PRINTED: function 97 (slices_heapSortOrdered_int)

-- NOT PRINTED: function 98 (slices_breakPatternsOrdered_int)

-- NOT PRINTED: function 123 (slices_order2Ordered_int)

-- NOT PRINTED: function 119 (slices_medianOrdered_int)

-- NOT PRINTED: function 118 (slices_medianAdjacentOrdered_int)

-- NOT PRINTED: function 99 (slices_choosePivotOrdered_int)

-- NOT PRINTED: function 100 (slices_reverseRangeOrdered_int)

-- NOT PRINTED: function 101 (slices_partialInsertionSortOrdered_int)

-- NOT PRINTED: function 103 (slices_partitionEqualOrdered_int)

-- NOT PRINTED: function 104 (slices_partitionOrdered_int)

-- NOT PRINTED: function 92 (slices_pdqsortOrdered_int)

-- NOT PRINTED: function 78 (slices_Sort_int_int)

-- NOT PRINTED: function 79 (slices_Compact_int_int)

-- NOT PRINTED: function 59 (search_clean)

-- NOT PRINTED: function 60 (search_solver_spread)

-- NOT PRINTED: function 43 (search_fresh)

-- NOT PRINTED: function 84 (search_solver_level)

-- NOT PRINTED: function 82 (search_solver_learn)

-- NOT PRINTED: function 83 (search_solver_undo)

-- NOT PRINTED: function 61 (search_solver_turn)

-- NOT PRINTED: function 85 (search_solver_open)

-- NOT PRINTED: function 62 (search_solver_next)

-- NOT PRINTED: function 63 (search_solver_model)

-- NOT PRINTED: function 44 (search_solver_run)

-- NOT PRINTED: function 22 (search_Solve)

end Go.Proofs.Ytphloehjcfipfaa.X
end

section
/- The document's Right, Most, few, In, left: what the printed functions tell. -/
set_option linter.unusedVariables false
set_option linter.unusedSimpArgs false
namespace Go.Proofs.Ytphloehjcfipfaa.Cl
open Go.RowKit Go.Proofs.YtphloehjcfipfaaW.PrintWords Go.Proofs.YtphloehjcfipfaaW.PrintMore
open Go.Proofs.Ytphloehjcfipfaa.X

theorem wrap_nat {i : Nat} (h : i < 9223372036854775807) : wrap64 ((i : Int) + 1) = ((i + 1 : Nat) : Int) := by rw [wrap_up (by omega) (by omega)]; omega
theorem lit_f (x : Int) : backreachref14_Literal.f x = some (litOk x) := by
  unfold backreachref14_Literal.f litOk
  by_cases h : x = 0
  · subst h; rfl
  · rw [if_neg h]
    by_cases h1 : x ≥ -1048576
    · rw [if_pos h1]; simp [h, show -1048576 ≤ x from h1]
    · rw [if_neg h1]; simp [h, show ¬ -1048576 ≤ x from h1]

/-- Lists whose lengths are whole numbers of Go's. -/
def Fine (l : List (List Int)) : Prop := l.length < 9223372036854775807 ∧ ∀ c ∈ l, c.length < 9223372036854775807

theorem rright_in {l : List (List Int)} (hf : Fine l) {m : Nat} (hm : m < l.length) {r0 : Bool} (h0 : Ev (fun k => backreachref14_Right.l0 k l ((m + 1 : Nat) : Int)) r0) (d : Nat) :
    ∀ i : Nat, i ≤ l[m].length → l[m].length - i = d → Ev (fun k => backreachref14_Right.l1 k l (m : Int) (i : Int)) ((l[m].drop i).all litOk && r0) := by
  have hc := hf.2 _ (List.getElem_mem hm)
  have hl := hf.1
  induction d with
  | zero =>
    intro i hi hd
    have e : i = l[m].length := by omega
    subst e
    rw [List.drop_length, List.all_nil, Bool.true_and]
    refine Ev.step (f := fun k => backreachref14_Right.l0 k l ((m + 1 : Nat) : Int)) (fun k => ?_) h0
    simp only [backreachref14_Right.l1]
    rw [if_pos (by omega), if_pos (by omega), rdL_at hm, if_neg (by omega), wrap_nat (by omega)]
  | succ d ih =>
    intro i hi hd
    have hlt : i < l[m].length := by omega
    rw [drop_all litOk hlt]
    cases hx : litOk l[m][i] with
    | true =>
      refine Ev.step (f := fun k => backreachref14_Right.l1 k l (m : Int) ((i + 1 : Nat) : Int)) (fun k => ?_) (ih (i + 1) hlt (by omega))
      simp only [backreachref14_Right.l1]
      rw [if_pos (by omega), if_pos (by omega), rdL_at hm, if_pos (by omega), if_pos (by omega), rd_at hlt, lit_f, hx, Option.bind_some, if_pos rfl, wrap_nat (by omega)]
    | false =>
      refine Ev.step (f := fun _ => some false) (fun k => ?_) (Ev.now false)
      simp only [backreachref14_Right.l1]
      rw [if_pos (by omega), if_pos (by omega), rdL_at hm, if_pos (by omega), if_pos (by omega), rd_at hlt, lit_f, hx, Option.bind_some]
      rfl
theorem rright_out {l : List (List Int)} (hf : Fine l) (d : Nat) : ∀ i : Nat, i ≤ l.length → l.length - i = d → Ev (fun k => backreachref14_Right.l0 k l (i : Int)) ((l.drop i).all cRight) := by
  induction d with
  | zero =>
    intro i hi hd
    have e : i = l.length := by omega
    subst e
    rw [List.drop_length]
    refine Ev.step (f := fun _ => some true) (fun k => ?_) (Ev.now true)
    simp only [backreachref14_Right.l0]
    rw [if_neg (by omega)]
  | succ d ih =>
    intro i hi hd
    have hlt : i < l.length := by omega
    have h1 := rright_in hf hlt (ih (i + 1) hlt (by omega)) _ 0 (Nat.zero_le _) rfl
    rw [drop_all cRight hlt]
    refine Ev.step (f := fun k => backreachref14_Right.l1 k l (i : Int) 0) (fun k => ?_) ?_
    · simp only [backreachref14_Right.l0]
      rw [if_pos (by omega)]
    · simpa [cRight] using h1
theorem rright_ev {l : List (List Int)} (hf : Fine l) : Ev (fun k => backreachref14_Right.f k l) (lRight l) := by
  have := rright_out hf _ 0 (Nat.zero_le _) rfl
  simpa [backreachref14_Right.f, lRight] using this

/-! ### The greatest variable -/
def mostC (n : Nat) : List Int → Nat
  | [] => n
  | x :: r => mostC (max n x.natAbs) r
def most (l : List (List Int)) : Nat := l.foldl mostC 0
theorem mostC_ge : ∀ (c : List Int) (n : Nat), n ≤ mostC n c ∧ ∀ x ∈ c, x.natAbs ≤ mostC n c
  | [], n => ⟨Nat.le_refl _, by simp⟩
  | x :: r, n => by
    have h := mostC_ge r (max n x.natAbs)
    refine ⟨by have := h.1; simp only [mostC]; omega, fun y hy => ?_⟩
    rcases List.mem_cons.1 hy with rfl | hy
    · have := h.1; simp only [mostC]; omega
    · exact h.2 y hy
theorem most_ge {l : List (List Int)} {c : List Int} (hc : c ∈ l) {x : Int} (hx : x ∈ c) : x.natAbs ≤ most l := by
  have : ∀ (l : List (List Int)) (n : Nat), n ≤ l.foldl mostC n ∧ ∀ c ∈ l, ∀ x ∈ c, x.natAbs ≤ l.foldl mostC n := by
    intro l
    induction l with
    | nil => intro n; exact ⟨Nat.le_refl _, by simp⟩
    | cons d l ih =>
      intro n
      have h := ih (mostC n d)
      have h2 := mostC_ge d n
      refine ⟨Nat.le_trans h2.1 h.1, fun c hc x hx => ?_⟩
      rcases List.mem_cons.1 hc with rfl | hc
      · exact Nat.le_trans (h2.2 x hx) h.1
      · exact h.2 c hc x hx
  exact (this l 0).2 c hc x hx
theorem most_le {l : List (List Int)} {n : Nat} (h : ∀ c ∈ l, ∀ x ∈ c, x.natAbs ≤ n) : most l ≤ n := by
  have hC : ∀ (c : List Int) (m : Nat), m ≤ n → (∀ x ∈ c, x.natAbs ≤ n) → mostC m c ≤ n := by
    intro c
    induction c with
    | nil => intro m hm _; exact hm
    | cons x r ih => intro m hm hx; exact ih _ (by have := hx x (by simp); omega) fun y hy => hx y (by simp [hy])
  have : ∀ (l : List (List Int)) (m : Nat), m ≤ n → (∀ c ∈ l, ∀ x ∈ c, x.natAbs ≤ n) → l.foldl mostC m ≤ n := by
    intro l
    induction l with
    | nil => intro m hm _; exact hm
    | cons d l ih => intro m hm hc; exact ih _ (hC d m hm (hc d (by simp))) fun c hc' => hc c (by simp [hc'])
  exact this l 0 (Nat.zero_le _) h
theorem var_f {x : Int} (h1 : -9223372036854775807 ≤ x) (h2 : x ≤ 9223372036854775807) : backreachref14_Var.f x = some (x.natAbs : Int) := by
  unfold backreachref14_Var.f
  split
  · rw [show wrap64 (-x) = -x by unfold wrap64; omega]
    congr 1
    omega
  · congr 1
    omega
/-- Whole numbers of Go's but the least. -/
def Plain (l : List (List Int)) : Prop := ∀ c ∈ l, ∀ x ∈ c, -9223372036854775807 ≤ x ∧ x ≤ 9223372036854775807
theorem plain_right {l : List (List Int)} (h : lRight l = true) : Plain l := fun c hc x hx => by
  have := List.all_eq_true.1 (cRight_of h hc) x hx
  simp [litOk] at this
  omega
theorem rmost_in {l : List (List Int)} (hf : Fine l) (hp : Plain l) {m : Nat} (hm : m < l.length) {r0 : Nat → Nat} (h0 : ∀ n : Nat, Ev (fun k => backreachref14_Most.l0 k l (n : Int) ((m + 1 : Nat) : Int)) (r0 n : Int)) (d : Nat) :
    ∀ (i n : Nat), i ≤ l[m].length → l[m].length - i = d → Ev (fun k => backreachref14_Most.l1 k l (n : Int) (m : Int) (i : Int)) (r0 (mostC n (l[m].drop i)) : Int) := by
  have hc := hf.2 _ (List.getElem_mem hm)
  have hl := hf.1
  induction d with
  | zero =>
    intro i n hi hd
    have e : i = l[m].length := by omega
    subst e
    rw [List.drop_length]
    refine Ev.step (f := fun k => backreachref14_Most.l0 k l (n : Int) ((m + 1 : Nat) : Int)) (fun k => ?_) (h0 n)
    simp only [backreachref14_Most.l1]
    rw [if_pos (by omega), if_pos (by omega), rdL_at hm, if_neg (by omega), wrap_nat (by omega)]
  | succ d ih =>
    intro i n hi hd
    have hlt : i < l[m].length := by omega
    have hx := hp _ (List.getElem_mem hm) _ (List.getElem_mem hlt)
    rw [List.drop_eq_getElem_cons hlt]
    simp only [mostC]
    refine Ev.step (f := fun k => backreachref14_Most.l1 k l ((max n l[m][i].natAbs : Nat) : Int) (m : Int) ((i + 1 : Nat) : Int)) (fun k => ?_) (ih (i + 1) _ hlt (by omega))
    simp only [backreachref14_Most.l1]
    rw [if_pos (by omega), if_pos (by omega), rdL_at hm, if_pos (by omega), if_pos (by omega), rd_at hlt, var_f hx.1 hx.2, Option.bind_some, wrap_nat (by omega)]
    split
    · rw [show (max n l[m][i].natAbs : Nat) = l[m][i].natAbs by omega]
    · rw [show (max n l[m][i].natAbs : Nat) = n by omega]
theorem rmost_out {l : List (List Int)} (hf : Fine l) (hp : Plain l) (d : Nat) : ∀ (i n : Nat), i ≤ l.length → l.length - i = d → Ev (fun k => backreachref14_Most.l0 k l (n : Int) (i : Int)) (((l.drop i).foldl mostC n : Nat) : Int) := by
  induction d with
  | zero =>
    intro i n hi hd
    have e : i = l.length := by omega
    subst e
    rw [List.drop_length]
    refine Ev.step (f := fun _ => some (n : Int)) (fun k => ?_) (Ev.now _)
    simp only [backreachref14_Most.l0]
    rw [if_neg (by omega)]
  | succ d ih =>
    intro i n hi hd
    have hlt : i < l.length := by omega
    have h1 := rmost_in hf hp hlt (r0 := fun n => (l.drop (i + 1)).foldl mostC n) (fun n => ih (i + 1) n hlt (by omega)) _ 0 n (Nat.zero_le _) rfl
    rw [List.drop_eq_getElem_cons hlt, List.foldl_cons]
    refine Ev.step (f := fun k => backreachref14_Most.l1 k l (n : Int) (i : Int) 0) (fun k => ?_) (by simpa using h1)
    simp only [backreachref14_Most.l0]
    rw [if_pos (by omega)]
theorem rmost_ev {l : List (List Int)} (hf : Fine l) (hp : Plain l) : Ev (fun k => backreachref14_Most.f k l) (most l : Int) := by
  have := rmost_out hf hp _ 0 0 (Nat.zero_le _) rfl
  simpa [backreachref14_Most.f, most] using this

/-! ### Few -/
def small (l : List (List Int)) (a b : Nat) (v : Nat) : Bool := decide (l.length ≤ a) && (l.all (fun c => decide (c.length ≤ b)) && (!lRight l || decide (most l ≤ v)))
theorem rsmall_ev {l : List (List Int)} (hl : l.length < 9223372036854775807) {a b v : Nat} (hb : b < 9223372036854775807) : Ev (fun k => backreachref14_Small.f k l (a : Int) (b : Int) (v : Int)) (small l a b v) := by
  unfold small
  by_cases h1 : l.length ≤ a
  · rw [decide_eq_true h1, Bool.true_and]
    have loop : ∀ d i : Nat, i ≤ l.length → l.length - i = d → (∀ j, j < i → ∀ hj : j < l.length, l[j].length ≤ b) → Ev (fun k => backreachref14_Small.l0 k l (b : Int) (v : Int) (i : Int)) (l.all (fun c => decide (c.length ≤ b)) && (!lRight l || decide (most l ≤ v))) := by
      intro d
      induction d with
      | zero =>
        intro i hi hd hprev
        have e : i = l.length := by omega
        subst e
        have hall : ∀ c ∈ l, c.length ≤ b := fun c hc => by
          obtain ⟨j, hj, rfl⟩ := List.mem_iff_getElem.1 hc
          exact hprev j hj hj
        have hf : Fine l := ⟨hl, fun c hc => by have := hall c hc; omega⟩
        rw [List.all_eq_true.2 (fun c hc => decide_eq_true (hall c hc)), Bool.true_and]
        refine Ev.step (f := fun k => (backreachref14_Right.f k l).bind fun t122 => (if t122 = true then ((backreachref14_Most.f k l).bind fun t123 => (some (decide (t123 ≤ (v : Int))))) else (some true))) (fun k => ?_) ?_
        · simp only [backreachref14_Small.l0]
          rw [if_neg (by omega)]
        · refine Ev.bind (rright_ev hf) ?_
          cases h2 : lRight l with
          | true =>
            refine Ev.congr (f := fun k => (backreachref14_Most.f k l).bind fun t123 => (some (decide (t123 ≤ (v : Int))))) (fun k => rfl) (Ev.bind (rmost_ev hf (plain_right h2)) ?_)
            have : decide ((most l : Int) ≤ (v : Int)) = (!true || decide (most l ≤ v)) := by simp
            rw [this]
            exact Ev.now _
          | false => exact Ev.now _
      | succ d ih =>
        intro i hi hd hprev
        have hlt : i < l.length := by omega
        by_cases h2 : l[i].length ≤ b
        · refine Ev.step (f := fun k => backreachref14_Small.l0 k l (b : Int) (v : Int) ((i + 1 : Nat) : Int)) (fun k => ?_) (ih (i + 1) hlt (by omega) fun j hj hj2 => ?_)
          · simp only [backreachref14_Small.l0]
            rw [if_pos (by omega), if_pos (by omega), rdL_at hlt, if_neg (by omega), wrap_nat (by omega)]
          · rcases Nat.lt_or_ge j i with h3 | h3
            · exact hprev j h3 hj2
            · obtain rfl : j = i := by omega
              exact h2
        · have hno : l.all (fun c => decide (c.length ≤ b)) = false := by
            rw [List.all_eq_false]
            exact ⟨l[i], List.getElem_mem hlt, by simpa using h2⟩
          rw [hno, Bool.false_and]
          refine Ev.step (f := fun _ => some false) (fun k => ?_) (Ev.now false)
          simp only [backreachref14_Small.l0]
          rw [if_pos (by omega), if_pos (by omega), rdL_at hlt, if_pos (by omega)]
    refine Ev.congr (f := fun k => backreachref14_Small.l0 k l (b : Int) (v : Int) 0) (fun k => ?_) (loop l.length 0 (Nat.zero_le _) rfl fun j hj => by omega)
    simp only [backreachref14_Small.f]
    rw [if_neg (by omega)]
  · rw [decide_eq_false h1, Bool.false_and]
    refine Ev.congr (f := fun _ => some false) (fun k => ?_) (Ev.now false)
    simp only [backreachref14_Small.f]
    rw [if_pos (by omega)]
theorem small_fine {l : List (List Int)} {a b v : Nat} (ha : a < 9223372036854775807) (hb : b < 9223372036854775807) (h : small l a b v = true) : Fine l ∧ l.length ≤ a ∧ (∀ c ∈ l, c.length ≤ b) ∧ (lRight l = true → most l ≤ v) := by
  simp only [small, Bool.and_eq_true, decide_eq_true_eq, List.all_eq_true, Bool.or_eq_true, Bool.not_eq_true'] at h
  refine ⟨⟨by omega, fun c hc => by have := h.2.1 c hc; omega⟩, h.1, h.2.1, fun hr => ?_⟩
  rcases h.2.2 with h' | h'
  · rw [hr] at h'; cases h'
  · exact h'
theorem small_total {l : List (List Int)} {b : Nat} (h : ∀ c ∈ l, c.length ≤ b) : total l ≤ l.length * b := by
  induction l with
  | nil => simp [total]
  | cons c l ih =>
    have h1 := ih fun d hd => h d (by simp [hd])
    have h2 := h c (by simp)
    simp only [total, List.map_cons, List.foldr_cons, List.length_cons] at *
    rw [Nat.add_mul, Nat.one_mul]
    omega

/-! ### In, and what is left of a clause -/
theorem rin_ev {c : List Int} (hc : c.length < 9223372036854775807) (x : Int) : Ev (fun k => backreachref14_In.f k c x) (c.contains x) := by
  have loop : ∀ d i : Nat, i ≤ c.length → c.length - i = d → Ev (fun k => backreachref14_In.l0 k c x (i : Int)) ((c.drop i).contains x) := by
    intro d
    induction d with
    | zero =>
      intro i hi hd
      have e : i = c.length := by omega
      subst e
      rw [List.drop_length]
      refine Ev.step (f := fun _ => some false) (fun k => ?_) (Ev.now _)
      simp only [backreachref14_In.l0]
      rw [if_neg (by omega)]
    | succ d ih =>
      intro i hi hd
      have hlt : i < c.length := by omega
      rw [List.drop_eq_getElem_cons hlt, List.contains_cons]
      by_cases h : c[i] = x
      · have : (x == c[i]) = true := by simp [h]
        rw [this, Bool.true_or]
        refine Ev.step (f := fun _ => some true) (fun k => ?_) (Ev.now _)
        simp only [backreachref14_In.l0]
        rw [if_pos (by omega), if_pos (by omega), rd_at hlt, if_pos h]
      · have : (x == c[i]) = false := by simpa using fun e => h e.symm
        rw [this, Bool.false_or]
        refine Ev.step (f := fun k => backreachref14_In.l0 k c x ((i + 1 : Nat) : Int)) (fun k => ?_) (ih (i + 1) hlt (by omega))
        simp only [backreachref14_In.l0]
        rw [if_pos (by omega), if_pos (by omega), rd_at hlt, if_neg h, wrap_nat (by omega)]
  have := loop c.length 0 (Nat.zero_le _) rfl
  simpa [backreachref14_In.f] using this
end Go.Proofs.Ytphloehjcfipfaa.Cl
end

section
/- The document's way of spreading: a sign at each variable. The plain part: what a table of signs tells, what is left of a clause, the list at the end. -/
set_option linter.unusedVariables false
set_option linter.unusedSimpArgs false
namespace Go.Proofs.Ytphloehjcfipfaa.Cl

def sg (x : Int) : Int := if x < 0 then -1 else 1
def at0 (s : List Int) (n : Nat) : Int := s.getD n 0
/-- Is a literal held? -/
def hb (s : List Int) (x : Int) : Bool := at0 s x.natAbs == sg x
def Tri (s : List Int) : Prop := ∀ n, at0 s n = 0 ∨ at0 s n = 1 ∨ at0 s n = -1
theorem hb_iff {s : List Int} {x : Int} : hb s x = true ↔ at0 s x.natAbs = sg x := by simp [hb]
theorem hb_not {s : List Int} {x : Int} (h : hb s x = true) (h0 : x ≠ 0) : hb s (-x) = false := by
  have h := hb_iff.1 h
  cases e : hb s (-x) with
  | false => rfl
  | true =>
    have e := hb_iff.1 e
    rw [Int.natAbs_neg] at e
    unfold sg at *
    split at h <;> split at e <;> omega
theorem hb_false {s : List Int} (ht : Tri s) {x : Int} (h0 : x ≠ 0) : hb s (-x) = (decide (at0 s x.natAbs ≠ 0) && (decide (at0 s x.natAbs > 0) != decide (x > 0))) := by
  have h := ht x.natAbs
  rw [Bool.eq_iff_iff]
  rw [hb_iff, Int.natAbs_neg]
  unfold sg
  rcases h with h | h | h <;> rw [h] <;> split <;> simp <;> omega
theorem hb_or {s : List Int} (ht : Tri s) {x : Int} (h0 : x ≠ 0) (h : at0 s x.natAbs ≠ 0) (h2 : hb s (-x) = false) : hb s x = true := by
  have h3 := ht x.natAbs
  rw [hb_iff]
  have h2 : ¬ at0 s x.natAbs = sg (-x) := fun e => by
    rw [show hb s (-x) = true from hb_iff.2 (by rw [Int.natAbs_neg]; exact e)] at h2
    cases h2
  unfold sg at *
  split at h2 <;> split <;> omega
theorem at0_set (s : List Int) (n : Nat) (v : Int) (h : n < s.length) (m : Nat) : at0 (s.set n v) m = if m = n then v else at0 s m := by
  unfold at0
  simp only [List.getD_eq_getElem?_getD, List.getElem?_set]
  by_cases e : m = n
  · subst e; simp [h]
  · rw [if_neg (fun e' => e e'.symm), if_neg e]
theorem tri_set {s : List Int} (ht : Tri s) {n : Nat} (h : n < s.length) (x : Int) : Tri (s.set n (sg x)) := fun m => by
  rw [at0_set s n _ h]
  split
  · unfold sg; split <;> omega
  · exact ht m
theorem hb_set {s : List Int} {x : Int} (h : x.natAbs < s.length) (h1 : at0 s x.natAbs = 0 ∨ at0 s x.natAbs = sg x) (z : Int) (hz : z ≠ 0) : hb (s.set x.natAbs (sg x)) z = true ↔ z = x ∨ hb s z = true := by
  rw [hb_iff, hb_iff, at0_set _ _ _ h]
  split
  · rename_i e
    rw [e]
    unfold sg at *
    split <;> split <;> rcases h1 with h1 | h1 <;> (try split at h1) <;> constructor <;> intro h2 <;> omega
  · rename_i e
    constructor
    · exact .inr
    · rintro (rfl | h)
      · exact absurd rfl e
      · exact h

/-! ### How many signs are left -/
def zeros : List Int → Nat
  | [] => 0
  | x :: r => (if x = 0 then 1 else 0) + zeros r
theorem zeros_set : ∀ (s : List Int) (n : Nat) (v : Int), n < s.length → at0 s n = 0 → v ≠ 0 → zeros (s.set n v) < zeros s
  | [], n, v, h, _, _ => absurd h (by simp)
  | x :: r, 0, v, _, h0, hv => by
    simp [at0] at h0
    subst h0
    simp [zeros, hv]
  | x :: r, n + 1, v, h, h0, hv => by
    have := zeros_set r n v (by simpa using h) (by simpa [at0] using h0) hv
    simp only [List.set_cons_succ, zeros]
    omega
theorem sg_ne (x : Int) : sg x ≠ 0 := by unfold sg; split <;> omega

/-! ### What is left of a clause -/
def leftL (s : List Int) : List Int → List Int → List Int
  | [], o => o
  | x :: c, o => if hb s (-x) then leftL s c o else if o.contains x then leftL s c o else leftL s c (o ++ [x])
theorem mem_leftL (s : List Int) (z : Int) : ∀ (c o : List Int), z ∈ leftL s c o ↔ z ∈ o ∨ (z ∈ c ∧ hb s (-z) = false)
  | [], o => by simp [leftL]
  | x :: c, o => by
    unfold leftL
    split
    · rename_i h
      rw [mem_leftL s z c o]
      constructor
      · rintro (h1 | ⟨h1, h2⟩)
        · exact .inl h1
        · exact .inr ⟨by simp [h1], h2⟩
      · rintro (h1 | ⟨h1, h2⟩)
        · exact .inl h1
        · rcases List.mem_cons.1 h1 with rfl | h1
          · rw [h] at h2; cases h2
          · exact .inr ⟨h1, h2⟩
    · rename_i h
      split
      · rename_i h3
        rw [mem_leftL s z c o]
        constructor
        · rintro (h1 | ⟨h1, h2⟩)
          · exact .inl h1
          · exact .inr ⟨by simp [h1], h2⟩
        · rintro (h1 | ⟨h1, h2⟩)
          · exact .inl h1
          · rcases List.mem_cons.1 h1 with rfl | h1
            · exact .inl (by simpa using h3)
            · exact .inr ⟨h1, h2⟩
      · rw [mem_leftL s z c]
        simp only [List.mem_append, List.mem_cons, List.not_mem_nil, or_false]
        constructor
        · rintro ((h1 | h1) | ⟨h1, h2⟩)
          · exact .inl h1
          · subst h1; exact .inr ⟨.inl rfl, by simpa using h⟩
          · exact .inr ⟨.inr h1, h2⟩
        · rintro (h1 | ⟨h1 | h1, h2⟩)
          · exact .inl (.inl h1)
          · exact .inl (.inr h1)
          · exact .inr ⟨h1, h2⟩
theorem nodup_leftL (s : List Int) : ∀ (c o : List Int), o.Nodup → (leftL s c o).Nodup
  | [], o, h => h
  | x :: c, o, h => by
    unfold leftL
    split
    · exact nodup_leftL s c o h
    · split
      · exact nodup_leftL s c o h
      · rename_i h3
        refine nodup_leftL s c _ ?_
        rw [List.nodup_append]
        refine ⟨h, by simp, fun a ha b hb e => ?_⟩
        rw [List.mem_singleton] at hb
        subst hb e
        exact h3 (by simpa using ha)

/-- A clause that asks for nothing more, by the signs. -/
def SettledS (s : List Int) (c : List Int) : Prop := (∃ x ∈ c, hb s x = true) ∨ ∃ u ∈ c, ∃ v ∈ c, u ≠ v ∧ hb s (-u) = false ∧ hb s (-v) = false

/-! ### The list at the end -/
def outL (s : List Int) : Nat → Nat → List Int
  | 0, _ => []
  | d + 1, v => if at0 s v = 0 then outL s d (v + 1) else (at0 s v * v) :: outL s d (v + 1)
theorem mem_outL {s : List Int} (ht : Tri s) (x : Int) : ∀ (d v : Nat), 1 ≤ v → (x ∈ outL s d v ↔ v ≤ x.natAbs ∧ x.natAbs < v + d ∧ hb s x = true)
  | 0, v, _ => by simp [outL]; omega
  | d + 1, v, hv => by
    have ih := mem_outL ht x d (v + 1) (by omega)
    unfold outL
    have hz : x.natAbs = v → (hb s x = true ↔ at0 s v ≠ 0 ∧ x = at0 s v * v) := fun e => by
      rw [hb_iff, e]
      unfold sg
      rcases ht v with h | h | h <;> rw [h] <;> split <;> constructor <;> intro h3 <;> first | omega | exact absurd h3 (by omega)
    split
    · rename_i h
      rw [ih]
      constructor
      · rintro ⟨h1, h2, h3⟩; exact ⟨by omega, by omega, h3⟩
      · rintro ⟨h1, h2, h3⟩
        refine ⟨?_, by omega, h3⟩
        by_cases e : x.natAbs = v
        · exact absurd h ((hz e).1 h3).1
        · omega
    · rename_i h
      rw [List.mem_cons, ih]
      constructor
      · rintro (h1 | ⟨h1, h2, h3⟩)
        · have e : x.natAbs = v := by
            subst h1
            rcases ht v with h | h | h <;> rw [h] <;> first | omega | contradiction
          exact ⟨by omega, by omega, (hz e).2 ⟨h, h1⟩⟩
        · exact ⟨by omega, by omega, h3⟩
      · rintro ⟨h1, h2, h3⟩
        by_cases e : x.natAbs = v
        · exact .inl ((hz e).1 h3).2
        · exact .inr ⟨by omega, by omega, h3⟩
theorem up_outL {s : List Int} (ht : Tri s) : ∀ (d v : Nat), 1 ≤ v → Up (outL s d v)
  | 0, v, _ => by simp [outL, Up]
  | d + 1, v, hv => by
    have ih := up_outL ht d (v + 1) (by omega)
    unfold outL
    split
    · exact ih
    · rename_i h
      refine List.pairwise_cons.2 ⟨fun y hy => ?_, ih⟩
      have := ((mem_outL ht y d (v + 1) (by omega)).1 hy).1
      rcases ht v with h | h | h <;> rw [h] <;> first | omega | contradiction

/-- All that is known on the way. -/
structure RWay (l : List (List Int)) (fr : List Int) (n : Nat) (s : List Int) : Prop where
  len : s.length = n + 1
  tri : Tri s
  der : ∀ x, x ≠ 0 → hb s x = true → Der l fr x
theorem RWay.set {l : List (List Int)} {fr s : List Int} {n : Nat} {x : Int} (h : RWay l fr n s) (hx : Der l fr x) (h0 : x ≠ 0) (hn : x.natAbs ≤ n) (h1 : at0 s x.natAbs = 0 ∨ at0 s x.natAbs = sg x) : RWay l fr n (s.set x.natAbs (sg x)) :=
  ⟨by rw [List.length_set]; exact h.len, tri_set h.tri (by rw [h.len]; omega) x, fun z hz hb => by
    rcases (hb_set (by rw [h.len]; omega) h1 z hz).1 hb with rfl | hb
    · exact hx
    · exact h.der z hz hb⟩
theorem RWay.start (l : List (List Int)) (fr : List Int) (n : Nat) : RWay l fr n (List.replicate (n + 1) 0) := by
  have h : ∀ m, at0 (List.replicate (n + 1) (0 : Int)) m = 0 := fun m => by
    unfold at0
    rw [List.getD_eq_getElem?_getD]
    by_cases e : m < n + 1
    · simp [List.getElem?_replicate, e]
    · simp [List.getElem?_replicate, e]
  exact ⟨by simp, fun m => .inl (h m), fun x hx hb => by
    rw [hb_iff, h] at hb
    exact absurd hb.symm (sg_ne x)⟩

theorem rend {l : List (List Int)} {fr s : List Int} {n : Nat} (hl : lRight l = true) (hf : cRight fr = true) (h : RWay l fr n s) (hfr : ∀ x ∈ fr, x.natAbs ≤ n ∧ hb s x = true) (hn : ∀ c ∈ l, ∀ x ∈ c, x.natAbs ≤ n) (hc : ∀ c ∈ l, SettledS s c) :
    spread l fr = (outL s n 1, true) := by
  have hm : ∀ x, x ≠ 0 → x.natAbs ≤ n → (x ∈ outL s n 1 ↔ hb s x = true) := fun x h0 hn => by
    rw [mem_outL h.tri x n 1 (by omega)]
    constructor
    · exact fun h => h.2.2
    · exact fun h => ⟨by omega, by omega, h⟩
  have hm2 : ∀ x, x ∈ outL s n 1 → x ≠ 0 ∧ hb s x = true := fun x hx => by
    have := (mem_outL h.tri x n 1 (by omega)).1 hx
    exact ⟨by omega, this.2.2⟩
  have hu := up_outL h.tri n 1 (by omega)
  have hd := done (l := l) (fr := fr) (S := outL s n 1) (fun x hx => (hm x (ne_zero_of hf hx) (hfr x hx).1).2 (hfr x hx).2) (fun x hx => h.der x (hm2 x hx).1 (hm2 x hx).2)
    (hu.imp fun h => by omega) (fun x hx => (hm2 x hx).1) (fun c hcl => by
      have h0 : ∀ x ∈ c, x ≠ 0 := fun x hx => ne_zero_of (cRight_of hl hcl) hx
      have hn' : ∀ x ∈ c, hb s (-x) = false → -x ∉ outL s n 1 := fun x hx hb h => by
        have := (hm2 _ h).2
        rw [hb] at this
        cases this
      rcases hc c hcl with ⟨x, hx, hb⟩ | ⟨u, hu, v, hv, huv, h1, h2⟩
      · exact .inl ⟨x, hx, (hm x (h0 x hx) (hn c hcl x hx)).2 hb⟩
      · exact .inr ⟨u, hu, v, hv, huv, hn' u hu h1, hn' v hv h2⟩)
  exact spread_some hl hf hd.1 hu hd.2
end Go.Proofs.Ytphloehjcfipfaa.Cl
end

section
/- The document's Spread, as printed, tells what 'spread' tells. -/
set_option linter.unusedVariables false
set_option linter.unusedSimpArgs false
namespace Go.Proofs.Ytphloehjcfipfaa.Cl
open Go.RowKit Go.Proofs.YtphloehjcfipfaaW.PrintWords Go.Proofs.YtphloehjcfipfaaW.PrintMore
open Go.Proofs.Ytphloehjcfipfaa.X

theorem rd_at0 (s : List Int) (n : Nat) : rd s (n : Int) = at0 s n := by simp [rd, at0]
theorem sign_f (x : Int) : backreachref14_sign.f x = some (sg x) := by
  unfold backreachref14_sign.f sg
  split <;> rfl
theorem var_lit {c : List Int} (h : cRight c = true) {x : Int} (hx : x ∈ c) : backreachref14_Var.f x = some (x.natAbs : Int) := by
  have := List.all_eq_true.1 h x hx
  simp [litOk] at this
  exact var_f (by omega) (by omega)

theorem rleft_ev {c s : List Int} (hr : cRight c = true) (ht : Tri s) (hn : ∀ x ∈ c, x.natAbs < s.length) (hc : c.length < 4398046511104) : Ev (fun k => backreachref14_left.f k c s) (leftL s c []) := by
  have loop : ∀ (d i : Nat) (o : List Int), i ≤ c.length → c.length - i = d → o.length ≤ i → Ev (fun k => backreachref14_left.l0 k c s o (i : Int)) (leftL s (c.drop i) o) := by
    intro d
    induction d with
    | zero =>
      intro i o hi hd ho
      have e : i = c.length := by omega
      subst e
      rw [List.drop_length]
      refine Ev.step (f := fun _ => some o) (fun k => ?_) (Ev.now _)
      simp only [backreachref14_left.l0]
      rw [if_neg (by omega)]
    | succ d ih =>
      intro i o hi hd ho
      have hlt : i < c.length := by omega
      have hx := List.getElem_mem hlt
      have h0 := ne_zero_of hr hx
      have hv := var_lit hr hx
      have hs := hn _ hx
      rw [List.drop_eq_getElem_cons hlt]
      have htail : Ev (fun k => (backreachref14_In.f k o c[i]).bind fun t130 => (if t130 = true then (backreachref14_left.l0 k c s o (wrap64 ((i : Int) + 1))) else (if o.length < 17592186044416 then (backreachref14_left.l0 k c s (o ++ [c[i]]) (wrap64 ((i : Int) + 1))) else (none)))) (if o.contains c[i] then leftL s (c.drop (i + 1)) o else leftL s (c.drop (i + 1)) (o ++ [c[i]])) := by
        refine Ev.bind (rin_ev (by omega) _) ?_
        cases hco : o.contains c[i] with
        | true =>
          rw [if_pos rfl]
          refine Ev.congr (fun k => ?_) (ih (i + 1) o hlt (by omega) (by omega))
          rw [if_pos rfl, wrap_nat (by omega)]
        | false =>
          rw [if_neg (by simp)]
          refine Ev.congr (fun k => ?_) (ih (i + 1) (o ++ [c[i]]) hlt (by omega) (by simp; omega))
          rw [if_neg (by simp), if_pos (by omega), wrap_nat (by omega)]
      by_cases hz : at0 s c[i].natAbs = 0
      · have hb0 : hb s (-c[i]) = false := by rw [hb_false ht h0, hz]; simp
        rw [leftL, if_neg (by rw [hb0]; simp)]
        refine Ev.step (fun k => ?_) htail
        simp only [backreachref14_left.l0]
        rw [if_pos (by omega), if_pos (by omega), rd_at hlt, hv, Option.bind_some, if_pos (by omega), if_pos (by omega), rd_at0, if_pos hz]
      · have hb0 : hb s (-c[i]) = (decide (at0 s c[i].natAbs > 0) != decide (c[i] > 0)) := by rw [hb_false ht h0]; simp [hz]
        rw [leftL]
        by_cases hb1 : hb s (-c[i]) = true
        · rw [if_pos hb1]
          refine Ev.step (fun k => ?_) (ih (i + 1) o hlt (by omega) (by omega))
          simp only [backreachref14_left.l0]
          rw [if_pos (by omega), if_pos (by omega), rd_at hlt, hv, Option.bind_some, if_pos (by omega), if_pos (by omega), rd_at0, if_neg hz, Option.bind_some, if_pos (by omega), if_pos (by omega), rd_at0, if_pos (by rw [← hb0]; exact hb1), wrap_nat (by omega)]
        · rw [if_neg hb1]
          refine Ev.step (fun k => ?_) htail
          simp only [backreachref14_left.l0]
          rw [if_pos (by omega), if_pos (by omega), rd_at hlt, hv, Option.bind_some, if_pos (by omega), if_pos (by omega), rd_at0, if_neg hz, Option.bind_some, if_pos (by omega), if_pos (by omega), rd_at0, if_neg (by rw [← hb0]; exact hb1)]
  have := loop c.length 0 [] (Nat.zero_le _) rfl (Nat.zero_le _)
  simpa [backreachref14_left.f] using this

theorem rout_ev {s : List Int} {n : Nat} (ht : Tri s) (hs : s.length = n + 1) (hn : n ≤ 1048576) (d : Nat) : ∀ (v : Nat) (o : List Int), v + d = n + 1 → 1 ≤ v → o.length ≤ v → Ev (fun k => backreachref14_Spread.l3 k (n : Int) s o (v : Int)) (o ++ outL s d v, true) := by
  induction d with
  | zero =>
    intro v o hd hv ho
    refine Ev.step (f := fun _ => some (o ++ outL s 0 v, true)) (fun k => ?_) (Ev.now _)
    simp only [backreachref14_Spread.l3]
    rw [if_neg (by omega), outL, List.append_nil]
  | succ d ih =>
    intro v o hd hv ho
    rw [outL]
    by_cases hz : at0 s v = 0
    · rw [if_pos hz]
      refine Ev.step (fun k => ?_) (ih (v + 1) o (by omega) (by omega) (by omega))
      simp only [backreachref14_Spread.l3]
      rw [if_pos (by omega), if_pos (by omega), if_pos (by omega), rd_at0, if_pos hz, wrap_nat (by omega)]
    · rw [if_neg hz, List.append_cons]
      refine Ev.step (fun k => ?_) (ih (v + 1) _ (by omega) (by omega) (by simp; omega))
      simp only [backreachref14_Spread.l3]
      have hw : wrap64 (at0 s v * (v : Int)) = at0 s v * (v : Int) := by
        rcases ht v with h | h | h <;> rw [h] <;> unfold wrap64 <;> omega
      rw [if_pos (by omega), if_pos (by omega), if_pos (by omega), rd_at0, if_neg hz, if_pos (by omega), wrap_nat (by omega), hw]

theorem single_of {r : List Int} (h : r.length = 1) : r = [r.getD 0 0] := by
  match r, h with
  | [x], _ => rfl

theorem two_of {r : List Int} (hn : r.Nodup) (h0 : r.length ≠ 0) (h1 : r.length ≠ 1) : ∃ u ∈ r, ∃ v ∈ r, u ≠ v := by
  match r, hn, h0, h1 with
  | u :: v :: r, hn, _, _ =>
    have := List.nodup_cons.1 hn
    exact ⟨u, by simp, v, by simp, fun e => this.1 (by simp [e])⟩

section
variable {l : List (List Int)} {fr : List Int} {n : Nat} (hl : lRight l = true) (hf : cRight fr = true) (hfine : ∀ c ∈ l, c.length < 4398046511104) (hll : l.length < 4398046511104) (hn : n ≤ 1048576)
  (hln : ∀ c ∈ l, ∀ x ∈ c, x.natAbs ≤ n) (hfn : ∀ x ∈ fr, x.natAbs ≤ n)
include hl hf hfine hll hn hln hfn
theorem rl2_ev {z : Nat} (ihz : ∀ s, RWay l fr n s → (∀ x ∈ fr, hb s x = true) → zeros s < z → Ev (fun k => backreachref14_Spread.l1 k l (n : Int) s true) (spread l fr)) (d : Nat) :
    ∀ (i : Nat) (s : List Int) (again : Bool), i ≤ l.length → l.length - i = d → RWay l fr n s → (∀ x ∈ fr, hb s x = true) → zeros s ≤ z → (again = true → zeros s < z) → (again = false → ∀ j (hj : j < l.length), j < i → SettledS s l[j]) →
    Ev (fun k => backreachref14_Spread.l2 k l (n : Int) s again (i : Int)) (spread l fr) := by
  induction d with
  | zero =>
    intro i s again hi hd hw hfr hz ha hs
    have e : i = l.length := by omega
    subst e
    refine Ev.step (f := fun k => backreachref14_Spread.l1 k l (n : Int) s again) (fun k => ?_) ?_
    · simp only [backreachref14_Spread.l2]
      rw [if_neg (by omega)]
    · cases again with
      | true => exact ihz s hw hfr (ha rfl)
      | false =>
        rw [rend hl hf hw (fun x hx => ⟨hfn x hx, hfr x hx⟩) hln fun c hc => by
          obtain ⟨j, hj, rfl⟩ := List.mem_iff_getElem.1 hc
          exact hs rfl j hj hj]
        refine Ev.step (f := fun k => backreachref14_Spread.l3 k (n : Int) s [] 1) (fun k => ?_) ?_
        · simp only [backreachref14_Spread.l1]
          rw [if_neg (by simp)]
        · have := rout_ev hw.tri hw.len hn n 1 [] (by omega) (by omega) (by simp)
          simpa using this
  | succ d ih =>
    intro i s again hi hd hw hfr hz ha hs
    have hlt : i < l.length := by omega
    have hc := List.getElem_mem hlt
    have hcr := cRight_of hl hc
    have hleft := rleft_ev hcr hw.tri (fun x hx => by rw [hw.len]; have := hln _ hc x hx; omega) (hfine _ hc)
    have hmem : ∀ x, x ∈ leftL s l[i] [] ↔ x ∈ l[i] ∧ hb s (-x) = false := fun x => by rw [mem_leftL]; simp
    have hnod := nodup_leftL s l[i] [] (by simp)
    refine Ev.step (f := fun k => (backreachref14_left.f k l[i] s).bind fun t176 => (if (t176.length : Int) = 0 then (some (([] : List Int), false)) else (if (t176.length : Int) = 1 then (if 0 < (t176.length : Int) then ((backreachref14_Var.f (rd t176 0)).bind fun t180 => (if 0 ≤ t180 then (if t180 < (s.length : Int) then (backreachref14_Spread.j4 k l (n : Int) s again (i : Int) t176 ((rd s t180) == 0)) else (none)) else (none))) else (none)) else (backreachref14_Spread.j4 k l (n : Int) s again (i : Int) t176 false)))) (fun k => ?_) ?_
    · simp only [backreachref14_Spread.l2]
      rw [if_pos (by omega), if_pos (by omega), rdL_at hlt]
    refine Ev.bind hleft ?_
    generalize leftL s l[i] [] = r at *
    have hnext : ∀ s' again', RWay l fr n s' → (∀ x ∈ fr, hb s' x = true) → zeros s' ≤ z → (again' = true → zeros s' < z) → (again' = false → ∀ j (hj : j < l.length), j < i + 1 → SettledS s' l[j]) →
        Ev (fun k => backreachref14_Spread.l2 k l (n : Int) s' again' (wrap64 ((i : Int) + 1))) (spread l fr) := fun s' again' h1 h2 h3 h4 h5 => by
      have := ih (i + 1) s' again' hlt (by omega) h1 h2 h3 h4 h5
      rw [wrap_nat (by omega)]
      exact this
    have hstay : SettledS s l[i] → Ev (fun k => backreachref14_Spread.j4 k l (n : Int) s again (i : Int) r false) (spread l fr) := fun hset => by
      refine Ev.step (f := fun k => backreachref14_Spread.l2 k l (n : Int) s again (wrap64 ((i : Int) + 1))) (fun k => ?_) (hnext s again hw hfr hz ha fun e j hj hji => ?_)
      · simp only [backreachref14_Spread.j4]
        rw [if_neg (by simp)]
      · rcases Nat.lt_or_ge j i with h | h
        · exact hs e j hj h
        · obtain rfl : j = i := by omega
          exact hset
    by_cases h0 : r.length = 0
    · have hr0 : r = [] := List.eq_nil_of_length_eq_zero h0
      rw [spread_none hl hf (.inr ⟨l[i], hc, fun y hy => ?_⟩)]
      · refine Ev.congr (fun k => ?_) (Ev.now _)
        rw [if_pos (by omega)]
      · have hy0 := ne_zero_of hcr hy
        refine hw.der _ (by omega) ?_
        cases e : hb s (-y) with
        | true => rfl
        | false =>
          have := (hmem y).2 ⟨hy, e⟩
          rw [hr0] at this
          simp at this
    · by_cases h1 : r.length = 1
      · have hr1 := single_of h1
        have hrd : rd r 0 = r.getD 0 0 := rfl
        generalize r.getD 0 0 = x at hr1 hrd
        have hx := (hmem x).1 (by rw [hr1]; simp)
        have hx0 := ne_zero_of hcr hx.1
        have hxn := hln _ hc x hx.1
        have hvar := var_lit hcr hx.1
        refine Ev.congr (f := fun k => backreachref14_Spread.j4 k l (n : Int) s again (i : Int) r ((at0 s x.natAbs) == 0)) (fun k => ?_) ?_
        · rw [if_neg (by omega), if_pos (by omega), if_pos (by omega), hrd, hvar, Option.bind_some, if_pos (by omega), if_pos (by rw [hw.len]; omega), rd_at0]
        · by_cases hz0 : at0 s x.natAbs = 0
          · have hd : Der l fr x := Der.unit hc hx.1 fun y hy hne => by
              refine hw.der _ (by have := ne_zero_of hcr hy; omega) ?_
              cases e : hb s (-y) with
              | true => rfl
              | false =>
                have := (hmem y).2 ⟨hy, e⟩
                rw [hr1, List.mem_singleton] at this
                exact absurd this hne
            have hlen : x.natAbs < s.length := by rw [hw.len]; omega
            have hzs := zeros_set s x.natAbs (sg x) hlen hz0 (sg_ne x)
            refine Ev.step (f := fun k => backreachref14_Spread.l2 k l (n : Int) (s.set x.natAbs (sg x)) true (wrap64 ((i : Int) + 1))) (fun k => ?_) (hnext _ true (hw.set hd hx0 hxn (.inl hz0)) (fun y hy => (hb_set hlen (.inl hz0) y (ne_zero_of hf hy)).2 (.inr (hfr y hy))) (by omega) (fun _ => by omega) (fun e => by cases e))
            simp only [backreachref14_Spread.j4]
            rw [if_pos (by simp [hz0]), if_pos (by omega), hrd, hvar, Option.bind_some, sign_f, Option.bind_some, if_pos (by omega), if_pos (by omega), Int.toNat_natCast]
          · have hbeq : (at0 s x.natAbs == 0) = false := by simpa using hz0
            rw [hbeq]
            exact hstay (.inl ⟨x, hx.1, hb_or hw.tri hx0 hz0 hx.2⟩)
      · refine Ev.congr (f := fun k => backreachref14_Spread.j4 k l (n : Int) s again (i : Int) r false) (fun k => ?_) ?_
        · rw [if_neg (by omega), if_neg (by omega)]
        · obtain ⟨u, hu, v, hv, huv⟩ := two_of hnod h0 h1
          have hu := (hmem u).1 hu
          have hv := (hmem v).1 hv
          exact hstay (.inr ⟨u, hu.1, v, hv.1, huv, hu.2, hv.2⟩)
theorem rl1_ev (z : Nat) : ∀ s, RWay l fr n s → (∀ x ∈ fr, hb s x = true) → zeros s < z → Ev (fun k => backreachref14_Spread.l1 k l (n : Int) s true) (spread l fr) := by
  induction z with
  | zero => intro s _ _ h; omega
  | succ z ih =>
    intro s hw hfr hz
    refine Ev.step (f := fun k => backreachref14_Spread.l2 k l (n : Int) s false 0) (fun k => ?_) ?_
    · simp only [backreachref14_Spread.l1]
      rw [if_pos trivial]
    · exact rl2_ev hl hf hfine hll hn hln hfn (z := z) ih l.length 0 s false (Nat.zero_le _) rfl hw hfr (by omega) (fun e => by cases e) (fun _ j hj h => by omega)
theorem rl0_ev (hfl : fr.length < 4398046511104) (d : Nat) : ∀ (i : Nat) (s : List Int), i ≤ fr.length → fr.length - i = d → RWay l fr n s → (∀ j (hj : j < fr.length), j < i → hb s fr[j] = true) → Ev (fun k => backreachref14_Spread.l0 k l fr (n : Int) s (i : Int)) (spread l fr) := by
  induction d with
  | zero =>
    intro i s hi hd hw hs
    have e : i = fr.length := by omega
    subst e
    refine Ev.step (f := fun k => backreachref14_Spread.l1 k l (n : Int) s true) (fun k => ?_) (rl1_ev hl hf hfine hll hn hln hfn (zeros s + 1) s hw (fun x hx => ?_) (by omega))
    · simp only [backreachref14_Spread.l0]
      rw [if_neg (by omega)]
    · obtain ⟨j, hj, rfl⟩ := List.mem_iff_getElem.1 hx
      exact hs j hj hj
  | succ d ih =>
    intro i s hi hd hw hs
    have hlt : i < fr.length := by omega
    have hx := List.getElem_mem hlt
    have hx0 := ne_zero_of hf hx
    have hxn := hfn _ hx
    have hvar := var_lit hf hx
    have hlen : fr[i].natAbs < s.length := by rw [hw.len]; omega
    have hgo : ∀ h1 : at0 s fr[i].natAbs = 0 ∨ at0 s fr[i].natAbs = sg fr[i], Ev (fun k => backreachref14_Spread.l0 k l fr (n : Int) (s.set fr[i].natAbs (sg fr[i])) (wrap64 ((i : Int) + 1))) (spread l fr) := fun h1 => by
      have := ih (i + 1) _ hlt (by omega) (hw.set (Der.of_from hx) hx0 hxn h1) (fun j hj hji => by
        rw [hb_set hlen h1 _ (ne_zero_of hf (List.getElem_mem hj))]
        rcases Nat.lt_or_ge j i with h | h
        · exact .inr (hs j hj h)
        · obtain rfl : j = i := by omega
          exact .inl rfl)
      rw [wrap_nat (by omega)]
      exact this
    by_cases hz : at0 s fr[i].natAbs = 0
    · refine Ev.step (fun k => ?_) (hgo (.inl hz))
      simp only [backreachref14_Spread.l0]
      rw [if_pos (by omega), if_pos (by omega), rd_at hlt, hvar, Option.bind_some, if_pos (by omega), if_pos (by omega), rd_at0, if_pos hz, sign_f, Option.bind_some, Int.toNat_natCast]
    · by_cases he : at0 s fr[i].natAbs = sg fr[i]
      · refine Ev.step (fun k => ?_) (hgo (.inr he))
        simp only [backreachref14_Spread.l0]
        rw [if_pos (by omega), if_pos (by omega), rd_at hlt, hvar, Option.bind_some, if_pos (by omega), if_pos (by omega), rd_at0, if_neg hz, sign_f, Option.bind_some, if_pos he, Option.bind_some, Int.toNat_natCast]
      · have hneg : hb s (-fr[i]) = true := by
          cases e : hb s (-fr[i]) with
          | true => rfl
          | false => exact absurd (hb_iff.1 (hb_or hw.tri hx0 hz e)) he
        rw [spread_none hl hf (.inl ⟨fr[i], Der.of_from hx, hw.der _ (by omega) hneg⟩)]
        refine Ev.step (fun k => ?_) (Ev.now _)
        simp only [backreachref14_Spread.l0]
        rw [if_pos (by omega), if_pos (by omega), rd_at hlt, hvar, Option.bind_some, if_pos (by omega), if_pos (by omega), rd_at0, if_neg hz, sign_f, Option.bind_some, if_neg he]
end

theorem rspread_ev {l : List (List Int)} {fr : List Int} (hfine : ∀ c ∈ l, c.length < 4398046511104) (hll : l.length < 4398046511104) (hfl : fr.length < 4398046511104) : Ev (fun k => backreachref14_Spread.f k l fr) (spread l fr) := by
  have hF : Fine l := ⟨by omega, fun c hc => by have := hfine c hc; omega⟩
  have hF1 : Fine [fr] := ⟨by simp, fun c hc => by rw [List.mem_singleton] at hc; subst hc; omega⟩
  have hone : lRight [fr] = cRight fr := by simp [lRight]
  have hno : ∀ (h : (lRight l && cRight fr) = false), Ev (fun k => backreachref14_Spread.j0 k l fr true) (spread l fr) := fun h => by
    rw [spread_wrong h]
    refine Ev.step (fun k => ?_) (Ev.now _)
    simp only [backreachref14_Spread.j0]
    rw [if_pos trivial]
  refine Ev.bind (rright_ev hF) ?_
  cases hl : lRight l with
  | false => exact Ev.congr (fun k => if_neg (by simp)) (hno (by simp [hl]))
  | true =>
    refine Ev.congr (fun k => if_pos rfl) ?_
    refine Ev.bind (rright_ev hF1) ?_
    rw [hone]
    cases hf : cRight fr with
    | false => exact hno (by simp [hf])
    | true =>
      have hall : ∀ c ∈ l ++ [fr], ∀ x ∈ c, x.natAbs ≤ 1048576 := fun c hc x hx => by
        have hcr : cRight c = true := by
          rcases List.mem_append.1 hc with h | h
          · exact cRight_of hl h
          · rw [List.mem_singleton] at h; subst h; exact hf
        have := lit_bounds hcr hx
        omega
      have hn := most_le hall
      have hln : ∀ c ∈ l, ∀ x ∈ c, x.natAbs ≤ most (l ++ [fr]) := fun c hc x hx => most_ge (List.mem_append_left _ hc) hx
      have hfn : ∀ x ∈ fr, x.natAbs ≤ most (l ++ [fr]) := fun x hx => most_ge (List.mem_append_right _ (List.mem_singleton.2 rfl)) hx
      have hm := rmost_ev (l := l ++ [fr]) ⟨by simp; omega, fun c hc => by
        rcases List.mem_append.1 hc with h | h
        · exact hF.2 c h
        · exact hF1.2 c h⟩ (fun c hc x hx => by have := hall c hc x hx; omega)
      generalize most (l ++ [fr]) = n at hm hn hln hfn
      refine Ev.step (f := fun k => (backreachref14_Most.f k (l ++ [fr])).bind fun t159 => (if 0 ≤ (wrap64 (t159 + 1)) then (if (wrap64 (t159 + 1) : Int).toNat ≤ 35184372088832 then (backreachref14_Spread.l0 k l fr t159 (List.replicate (wrap64 (t159 + 1) : Int).toNat 0) 0) else (none)) else (none))) (fun k => ?_) ?_
      · simp only [backreachref14_Spread.j0]
        rw [if_neg (by simp), Option.bind_some, if_pos (by simp; omega), Option.bind_some, List.nil_append, if_pos (by omega)]
      · refine Ev.bind hm ?_
        refine Ev.congr (fun k => ?_) (rl0_ev hl hf hfine hll hn hln hfn hfl fr.length 0 (List.replicate (n + 1) 0) (Nat.zero_le _) rfl (RWay.start l fr n) (fun j hj h => by omega))
        rw [wrap_nat (by omega), if_pos (by omega), Int.toNat_natCast, if_pos (by omega)]
        rfl
end Go.Proofs.Ytphloehjcfipfaa.Cl
end

section
/- The laws' 'few' of layer 18: what it tells, and its call. -/
set_option linter.unusedVariables false
set_option linter.unusedSimpArgs false
namespace Go.Proofs.Ytphloehjcfipfaa.Cl
open Go.RowKit Go.Proofs.YtphloehjcfipfaaW.PrintWords Go.Proofs.YtphloehjcfipfaaW.PrintLast Go.Proofs.YtphloehjcfipfaaW.PrintMore
open Go.Proofs.Ytphloehjcfipfaa.X

theorem few_ev {l : List (List Int)} (hl : l.length < 9223372036854775807) : Ev (fun k => backreachlaw18_few.f k l) (small l 100 12 40) := by
  have h := rsmall_ev hl (a := 100) (b := 12) (v := 40) (by omega)
  exact Ev.bind h (Ev.now _)
theorem few_total {l : List (List Int)} (h : small l 100 12 40 = true) : (∀ c ∈ l, c.length ≤ 12) ∧ l.length ≤ 100 ∧ total l ≤ 1200 := by
  have := small_fine (by omega) (by omega) h
  refine ⟨this.2.2.1, this.2.1, ?_⟩
  have h2 := small_total this.2.2.1
  have h3 := this.2.1
  omega

theorem few_calls18 (A : Option Addr) (cap : Nat) (l : List (List Int)) (w : World) (hC : KR.C w A l.length l) (hcap : l.length ≤ cap) (hl : l.length < 9223372036854775807) :
    Calls Try.prog 13 #[.slice A l.length cap] w fun e w' => e = .returned (.bool (small l 100 12 40)) ∧ ∃ n, w' = w.drewN n := by
  obtain ⟨k, hk⟩ := (few_ev hl).rounds
  exact (backreachlaw18_few.calls k A cap l _ w hC hcap hk).mono fun e w' ⟨he, hd⟩ => ⟨he, hd.out⟩

end Go.Proofs.Ytphloehjcfipfaa.Cl
end

section
/- The document's Turned, Follows and Check, as printed, tell what 'check' tells; and so the law ProofChecks answers true. -/
set_option linter.unusedVariables false
set_option linter.unusedSimpArgs false
namespace Go.Proofs.Ytphloehjcfipfaa.Cl
open Go.RowKit Go.Proofs.YtphloehjcfipfaaW.PrintWords Go.Proofs.YtphloehjcfipfaaW.PrintMore
open Go.Proofs.Ytphloehjcfipfaa.X

theorem rturned_ev {c : List Int} (hr : cRight c = true) (hc : c.length < 4398046511104) : Ev (fun k => backreachref17_Turned.f k c) (opp c) := by
  have loop : ∀ (d i : Nat) (o : List Int), i ≤ c.length → c.length - i = d → o.length = i → Ev (fun k => backreachref17_Turned.l0 k c o (i : Int)) (o ++ opp (c.drop i)) := by
    intro d
    induction d with
    | zero =>
      intro i o hi hd ho
      have e : i = c.length := by omega
      rw [e, List.drop_length]
      refine Ev.step (f := fun _ => some o) (fun k => ?_) (by simpa [opp] using Ev.now o)
      simp only [backreachref17_Turned.l0]
      rw [if_neg (by omega)]
    | succ d ih =>
      intro i o hi hd ho
      have hlt : i < c.length := by omega
      have hx := lit_bounds hr (List.getElem_mem hlt)
      have := ih (i + 1) (o ++ [-c[i]]) hlt (by omega) (by simp; omega)
      rw [List.drop_eq_getElem_cons hlt, show opp (c[i] :: c.drop (i + 1)) = -c[i] :: opp (c.drop (i + 1)) from rfl, List.append_cons]
      refine Ev.step (fun k => ?_) this
      simp only [backreachref17_Turned.l0]
      rw [if_pos (by omega), if_pos (by omega), if_pos (by omega), rd_at hlt, wrap_neg hx.1 hx.2.1, wrap_nat (by omega)]
  have := loop c.length 0 [] (Nat.zero_le _) rfl rfl
  simpa [backreachref17_Turned.f] using this

theorem rfollows_ev {l : List (List Int)} {c : List Int} (hr : cRight c = true) (hfine : ∀ c ∈ l, c.length < 4398046511104) (hll : l.length < 4398046511104) (hc : c.length < 4398046511104) : Ev (fun k => backreachref17_Follows.f k l c) (followsB l c) := by
  have hopp : (opp c).length = c.length := by simp [opp]
  refine Ev.bind (rturned_ev hr hc) ?_
  refine Ev.bind (rspread_ev hfine hll (by omega)) ?_
  exact Ev.now _

theorem take_one {p : List (List Int)} {i : Nat} (h : i < p.length) : (p.take (i + 1)).drop i = [p[i]] := by
  rw [List.take_succ_eq_append_getElem h, List.drop_append_of_le_length (by simp; omega), List.drop_eq_nil_of_le (by rw [List.length_take]; exact Nat.min_le_left _ _)]
  rfl
theorem empty_len (c : List Int) : ((c.length : Int) == 0) = c.isEmpty := by
  cases c with
  | nil => rfl
  | cons x r =>
    have : ((x :: r).length : Int) ≠ 0 := by simp only [List.length_cons]; omega
    rw [List.isEmpty_cons]
    simpa using this
theorem rcheck_ev {l p : List (List Int)} (hfl : ∀ c ∈ l, c.length < 4398046511104) (hfp : ∀ c ∈ p, c.length < 4398046511104) (hll : l.length + p.length < 4398046511104) : Ev (fun k => backreachref18_Check.f k l p) (check l p) := by
  have hF : Fine l := ⟨by omega, fun c hc => by have := hfl c hc; omega⟩
  refine Ev.bind (rright_ev hF) ?_
  unfold check
  cases hl : lRight l with
  | false =>
    rw [if_neg (by simp)]
    exact Ev.congr (fun k => if_neg (by simp)) (Ev.now _)
  | true =>
    rw [if_pos rfl]
    have loop : ∀ (d i : Nat), i ≤ p.length → p.length - i = d → Ev (fun k => backreachref18_Check.l0 k p (l ++ p.take i) ((p.take i).any List.isEmpty) (i : Int)) (checkGo l p (p.drop i)) := by
      intro d
      induction d with
      | zero =>
        intro i hi hd
        have e : i = p.length := by omega
        subst e
        rw [List.drop_length, checkGo, List.take_length]
        refine Ev.step (f := fun _ => some (if p.any List.isEmpty then ((0 : Int), (0 : Int)) else (11, (p.length : Int)))) (fun k => ?_) (Ev.now _)
        simp only [backreachref18_Check.l0]
        rw [if_neg (by omega)]
        cases p.any List.isEmpty <;> rfl
      | succ d ih =>
        intro i hi hd
        have hlt : i < p.length := by omega
        have hx := List.getElem_mem hlt
        have hlen : (p.drop (i + 1)).length + 1 = p.length - i := by simp; omega
        have hidx : p.length - ((p.drop (i + 1)).length + 1) = i := by omega
        have hone : lRight [p[i]] = cRight p[i] := by simp [lRight]
        have hF1 : Fine [p[i]] := ⟨by simp, fun c hc => by rw [List.mem_singleton] at hc; subst hc; have := hfp _ hx; omega⟩
        have hxl : (l ++ p.take i).length = l.length + i := by simp; omega
        have hR := rright_ev hF1
        rw [hone] at hR
        rw [List.drop_eq_getElem_cons hlt, checkGo, hidx]
        refine Ev.step (f := fun k => (backreachref14_Right.f k [p[i]]).bind fun t215 => (if t215 = true then ((backreachref17_Follows.f k (l ++ p.take i) p[i]).bind fun t217 => (if t217 = true then (backreachref18_Check.l0 k p (l ++ p.take (i + 1)) ((p.take (i + 1)).any List.isEmpty) ((i + 1 : Nat) : Int)) else (some (14, (i : Int))))) else (some (3, (i : Int))))) (fun k => ?_) ?_
        · simp only [backreachref18_Check.l0]
          rw [if_pos (by omega), if_pos (by omega), wrap_nat (by omega), if_pos (by omega), if_pos (by omega), Int.toNat_natCast, Int.toNat_natCast, take_one hlt, rdL_at hlt]
          have hlim : (l ++ p.take i).length < 5864062014805 := by omega
          simp only [if_pos hlim]
          have e2 : l ++ p.take i ++ [p[i]] = l ++ p.take (i + 1) := by rw [List.take_succ_eq_append_getElem hlt, List.append_assoc]
          have e3 : (p.take (i + 1)).any List.isEmpty = ((p.take i).any List.isEmpty || p[i].isEmpty) := by
            rw [List.take_succ_eq_append_getElem hlt, List.any_append]
            simp
          rw [e2, e3, empty_len]
          cases (p.take i).any List.isEmpty with
          | true => rfl
          | false => rfl
        · refine Ev.bind hR ?_
          cases hcr : cRight p[i] with
          | false =>
            rw [if_neg (by simp)]
            exact Ev.congr (fun k => if_neg (by simp)) (Ev.now _)
          | true =>
            rw [if_pos rfl]
            refine Ev.congr (fun k => if_pos rfl) ?_
            refine Ev.bind (rfollows_ev (l := l ++ p.take i) hcr (fun c hc => ?_) (by omega) (hfp _ hx)) ?_
            · rcases List.mem_append.1 hc with h | h
              · exact hfl c h
              · exact hfp c (List.mem_of_mem_take h)
            · cases followsB (l ++ p.take i) p[i] with
              | false =>
                rw [if_neg (by simp)]
                exact Ev.congr (fun k => if_neg (by simp)) (Ev.now _)
              | true =>
                rw [if_pos rfl]
                exact Ev.congr (fun k => if_pos rfl) (ih (i + 1) hlt (by omega))
    have := loop p.length 0 (Nat.zero_le _) rfl
    refine Ev.congr (f := fun k => backreachref18_Check.l0 k p l false 0) (fun k => ?_) (by simpa using this)
    rw [if_pos rfl, Option.bind_some, if_pos (by simp; omega), List.nil_append]

theorem checks_pure : backreachlaw18_ProofChecks.Pure := by
  intro l p _ hl _ _ hp _
  have main : Ev (fun k => backreachlaw18_ProofChecks.f k l p) true := by
    have hyes : ∀ b : Bool, (b = false → small l 100 12 40 = true ∧ small p 100 12 40 = true) → Ev (fun k => backreachlaw18_ProofChecks.j0 k l p b) true := fun b hb => by
      cases b with
      | true =>
        refine Ev.step (fun k => ?_) (Ev.now _)
        simp only [backreachlaw18_ProofChecks.j0]
        rw [if_pos trivial]
      | false =>
        obtain ⟨h1, h2⟩ := hb rfl
        obtain ⟨a1, a2, a3⟩ := few_total h1
        obtain ⟨b1, b2, b3⟩ := few_total h2
        refine Ev.step (f := fun k => (backreachref18_Check.f k l p).bind fun bt232 => (if (check l p).1 = bt232.1 then (some ((check l p).2 == bt232.2)) else (some false))) (fun k => ?_) ?_
        · simp only [backreachlaw18_ProofChecks.j0]
          rw [if_neg (by simp)]
          unfold proof_Check.f
          rw [if_pos ⟨by omega, by omega⟩, Option.bind_some]
        · refine Ev.bind (rcheck_ev (fun c hc => by have := a1 c hc; omega) (fun c hc => by have := b1 c hc; omega) (by omega)) ?_
          refine Ev.congr (fun k => ?_) (Ev.now _)
          rw [if_pos rfl]
          simp
    refine Ev.congr (f := fun k => (backreachlaw18_few.f k l).bind fun t228 => (if t228 = true then ((backreachlaw18_few.f k p).bind fun t229 => (backreachlaw18_ProofChecks.j0 k l p (!t229))) else (backreachlaw18_ProofChecks.j0 k l p true))) (fun k => ?_) ?_
    · simp only [backreachlaw18_ProofChecks.f]
      unfold backreachlaw18_awake.f
      rw [Option.bind_some, if_pos rfl]
    · refine Ev.bind (few_ev (by omega)) ?_
      cases h1 : small l 100 12 40 with
      | false => exact Ev.congr (fun k => if_neg (by simp)) (hyes true (fun e => by cases e))
      | true =>
        refine Ev.congr (fun k => if_pos rfl) ?_
        refine Ev.bind (few_ev (by omega)) ?_
        exact hyes _ fun e => by
          cases h2 : small p 100 12 40 with
          | true => exact ⟨h1, rfl⟩
          | false => rw [h2] at e; cases e
  exact main.rounds
end Go.Proofs.Ytphloehjcfipfaa.Cl
end

section
/- What is left of a proof: the plain law. -/
set_option linter.unusedVariables false
set_option linter.unusedSimpArgs false
namespace Go.Proofs.Ytphloehjcfipfaa.Cl

/-- A proof, some of another one's clauses, the empty one at its end and nowhere else. -/
structure Good (l p out : List (List Int)) : Prop where
  ok : (check l out).1 = 0
  sub : out.Sublist p
  fin : ∃ init, out = init ++ [[]] ∧ ∀ c ∈ init, c ≠ []
theorem wo_sub (l : List (List Int)) (k : Nat) : (wo l k).Sublist l := by
  unfold wo
  have h : (l.drop (k + 1)).Sublist (l.drop k) := by
    rw [show l.drop (k + 1) = (l.drop k).drop 1 by rw [List.drop_drop]]
    exact List.drop_sublist 1 _
  have h2 := List.Sublist.append (List.Sublist.refl (l.take k)) h
  rwa [List.take_append_drop] at h2
theorem Good.wo {l p out : List (List Int)} (h : Good l p out) {k : Nat} (hk : k + 1 < out.length) (hc : (check l (wo out k)).1 = 0) : Good l p (wo out k) := by
  obtain ⟨init, e, hi⟩ := h.fin
  refine ⟨hc, (wo_sub out k).trans h.sub, Cl.wo init k, ?_, fun c hc => hi c ((wo_sub init k).mem hc)⟩
  subst e
  have hki : k < init.length := by simp at hk; omega
  unfold Cl.wo
  rw [List.take_append_of_le_length (by omega), List.drop_append_of_le_length (by omega), List.append_assoc]
theorem down_good {l p : List (List Int)} : ∀ (k : Nat) (out : List (List Int)) (ag : Bool), k < out.length → Good l p out → Good l p (down l k out ag).1
  | 0, out, ag, _, h => h
  | k + 1, out, ag, hk, h => by
    unfold down
    split
    · rename_i h0
      have hw := wo_length (l := out) (k := k) (by omega)
      exact down_good k (wo out k) true (by omega) (h.wo hk h0)
    · exact down_good k out ag (by omega) h
theorem down_true {l : List (List Int)} : ∀ (k : Nat) (out : List (List Int)), (down l k out true).2 = true
  | 0, out => rfl
  | k + 1, out => by
    unfold down
    split
    · exact down_true k _
    · exact down_true k out
theorem down_false {l : List (List Int)} : ∀ (k : Nat) (out : List (List Int)), (down l k out false).2 = false → (down l k out false).1 = out ∧ ∀ j, j < k → (check l (wo out j)).1 ≠ 0
  | 0, out, _ => ⟨rfl, fun j h => by omega⟩
  | k + 1, out, h => by
    unfold down at h ⊢
    split at h
    · rw [down_true] at h
      cases h
    · rename_i h0
      rw [if_neg h0]
      obtain ⟨h1, h2⟩ := down_false k out h
      refine ⟨h1, fun j hj => ?_⟩
      rcases Nat.lt_or_ge j k with h3 | h3
      · exact h2 j h3
      · obtain rfl : j = k := by omega
        exact h0
theorem passes_good {l p : List (List Int)} : ∀ (n : Nat) (out : List (List Int)), out.length < n → Good l p out → Good l p (passes l n out) ∧ ∀ j, j + 1 < (passes l n out).length → (check l (wo (passes l n out) j)).1 ≠ 0
  | 0, out, h, _ => by omega
  | n + 1, out, h, hg => by
    obtain ⟨init, e, _⟩ := hg.fin
    have hl : 0 < out.length := by rw [e]; simp
    have hdl := down_length (l := l) (out.length - 1) out false (by omega)
    have hdg := down_good (out.length - 1) out false (by omega) hg
    unfold passes
    cases hd : (down l (out.length - 1) out false).2 with
    | true =>
      rw [if_pos rfl]
      exact passes_good n _ (by have := hdl.2 hd rfl; omega) hdg
    | false =>
      rw [if_neg (by simp)]
      obtain ⟨h1, h2⟩ := down_false _ _ hd
      refine ⟨hdg, fun j hj => ?_⟩
      rw [h1] at hj ⊢
      exact h2 j (by omega)
theorem firstE_at : ∀ (p : List (List Int)) (n : Nat), firstE p = (n : Int) → ∃ h : n < p.length, p[n] = [] ∧ ∀ j (hj : j < p.length), j < n → p[j] ≠ []
  | [], n, h => by simp [firstE] at h
  | c :: r, n, h => by
    unfold firstE at h
    split at h
    · rename_i hc
      obtain rfl : n = 0 := by omega
      exact ⟨by simp, by simpa using hc, fun j _ hj => by omega⟩
    · rename_i hc
      split at h
      · omega
      · rename_i h1
        obtain ⟨m, rfl⟩ : ∃ m, n = m + 1 := ⟨n - 1, by omega⟩
        obtain ⟨h2, h3, h4⟩ := firstE_at r m (by omega)
        refine ⟨by simp; omega, by simpa using h3, fun j hj hjn => ?_⟩
        cases j with
        | zero => simpa using hc
        | succ j => exact h4 j (by simpa using hj) (by omega)
theorem good_start {l p : List (List Int)} (h : (check l p).1 = 0) {n : Nat} (hn : firstE p = (n : Int)) : Good l p (p.take (n + 1)) := by
  obtain ⟨h1, h2, h3⟩ := check_zero.1 h
  obtain ⟨g1, g2, g3⟩ := firstE_at p n hn
  have htk : p.take (n + 1) = p.take n ++ [[]] := by rw [List.take_succ_eq_append_getElem g1, g2]
  refine ⟨check_zero.2 ⟨h1, fun j hj => ?_, ?_⟩, List.take_sublist _ _, p.take n, htk, fun c hc => ?_⟩
  · rw [List.length_take] at hj
    rw [List.getElem_take, List.take_take, show min j (n + 1) = j by omega]
    exact h2 j (by omega)
  · rw [htk, List.any_append]
    simp
  · obtain ⟨j, hj, rfl⟩ := List.mem_iff_getElem.1 hc
    rw [List.length_take] at hj
    rw [List.getElem_take]
    exact g3 j (by omega) (by omega)
theorem trim_good {l p : List (List Int)} (h : (check l p).1 = 0) : (trim l p).2 = 0 ∧ Good l p (trim l p).1 ∧ ∀ j, j + 1 < (trim l p).1.length → (check l (wo (trim l p).1 j)).1 ≠ 0 := by
  have h1 := (check_zero.1 h).2.2
  rw [← firstE_any] at h1
  have h1 := of_decide_eq_true h1
  obtain ⟨n, hn⟩ : ∃ n : Nat, firstE p = (n : Int) := ⟨(firstE p).toNat, by omega⟩
  have hg := good_start h hn
  have hp := passes_good (n + 2) (p.take (n + 1)) (by rw [List.length_take]; omega) hg
  unfold trim
  rw [if_pos h, hn, Int.toNat_natCast]
  exact ⟨rfl, hp⟩
end Go.Proofs.Ytphloehjcfipfaa.Cl
end

section
/- The law ProofTrims: what its printed functions tell, and the call. -/
set_option linter.unusedVariables false
set_option linter.unusedSimpArgs false
namespace Go.Proofs.Ytphloehjcfipfaa.Cl
open Go.RowKit Go.Proofs.YtphloehjcfipfaaW.PrintWords Go.Proofs.YtphloehjcfipfaaW.PrintMore
open Go.Proofs.Ytphloehjcfipfaa.X

theorem rd_one (x : List Int) : rd_L1 [x] 0 = x := by simp [rd_L1]
theorem one_lt (x : List Int) : ((0 : Int) < (([x] : List (List Int)).length : Int)) = True := by simp
theorem one_le : ((0 : Int) ≤ 0) = True := by simp
theorem same_ev {x y : List Int} (hx : x.length < 4398046511104) (hy : y.length < 4398046511104) : Ev (fun k => backreachref14_Same.f k [x] [y]) (decide (x = y)) := by
  have h1 : Ev (fun k => backreachref14_Same.l0 k [x] [y] 0) (decide (x = y)) := by
    by_cases hl : x.length = y.length
    · have loop : ∀ d i : Nat, i ≤ x.length → x.length - i = d → (∀ j (h1 : j < x.length) (h2 : j < y.length), j < i → x[j] = y[j]) → Ev (fun k => backreachref14_Same.l1 k [x] [y] 0 (i : Int)) (decide (x = y)) := by
        intro d
        induction d with
        | zero =>
          intro i hi hd hp
          have e : i = x.length := by omega
          have hxy : x = y := List.ext_getElem hl fun j h1 h2 => hp j h1 h2 (by omega)
          rw [decide_eq_true hxy]
          refine Ev.step (f := fun k => backreachref14_Same.l0 k [x] [y] 1) (fun k => ?_) (Ev.step (f := fun _ => some true) (fun k => ?_) (Ev.now _))
          · simp only [backreachref14_Same.l1, rd_one, one_lt, one_le, if_true]
            rw [if_neg (by omega), show wrap64 (0 + 1) = 1 by unfold wrap64; omega]
          · simp only [backreachref14_Same.l0]
            rw [if_neg (by simp)]
        | succ d ih =>
          intro i hi hd hp
          have hlt : i < x.length := by omega
          have hlty : i < y.length := by omega
          by_cases he : x[i] = y[i]
          · refine Ev.step (f := fun k => backreachref14_Same.l1 k [x] [y] 0 ((i + 1 : Nat) : Int)) (fun k => ?_) (ih (i + 1) hlt (by omega) fun j h1 h2 hj => ?_)
            · simp only [backreachref14_Same.l1, rd_one, one_lt, one_le, if_true]
              rw [if_pos (by omega), if_pos (by omega), if_pos (by omega), rd_at hlt, rd_at hlty, if_pos he, wrap_nat (by omega)]
            · rcases Nat.lt_or_ge j i with h3 | h3
              · exact hp j h1 h2 h3
              · obtain rfl : j = i := by omega
                exact he
          · have hne : x ≠ y := fun e => he (by subst e; rfl)
            rw [decide_eq_false hne]
            refine Ev.step (f := fun _ => some false) (fun k => ?_) (Ev.now _)
            simp only [backreachref14_Same.l1, rd_one, one_lt, one_le, if_true]
            rw [if_pos (by omega), if_pos (by omega), if_pos (by omega), rd_at hlt, rd_at hlty, if_neg he]
      refine Ev.step (f := fun k => backreachref14_Same.l1 k [x] [y] 0 0) (fun k => ?_) (loop x.length 0 (Nat.zero_le _) rfl fun j _ _ h => by omega)
      simp only [backreachref14_Same.l0, rd_one, one_lt, one_le, if_true]
      rw [if_pos (by omega)]
    · have hne : x ≠ y := fun e => hl (by rw [e])
      rw [decide_eq_false hne]
      refine Ev.step (f := fun _ => some false) (fun k => ?_) (Ev.now _)
      simp only [backreachref14_Same.l0, rd_one, one_lt, one_le, if_true]
      rw [if_neg (by omega)]
  refine Ev.congr (fun k => ?_) h1
  simp only [backreachref14_Same.f]
  rw [if_pos (by simp)]

theorem some_ev {t p : List (List Int)} (hs : t.Sublist p) (hp : ∀ c ∈ p, c.length < 4398046511104) (hpl : p.length < 4398046511104) : Ev (fun k => backreachref18_Some.f k t p) true := by
  have htl := hs.length_le
  have main : ∀ d a i : Nat, i ≤ t.length → a ≤ p.length → (t.length - i) + (p.length - a) = d → (t.drop i).Sublist (p.drop a) →
      Ev (fun k => backreachref18_Some.l0 k t p (a : Int) (i : Int)) true ∧ (i < t.length → Ev (fun k => backreachref18_Some.l1 k t p (a : Int) (i : Int)) true) := by
    intro d
    induction d using Nat.strongRecOn with
    | _ d ih =>
      intro a i hi ha hd hsub
      have hl1 : i < t.length → Ev (fun k => backreachref18_Some.l1 k t p (a : Int) (i : Int)) true := fun hlt => by
        have hle := hsub.length_le
        rw [List.length_drop, List.length_drop] at hle
        have halt : a < p.length := by omega
        rw [List.drop_eq_getElem_cons hlt, List.drop_eq_getElem_cons halt] at hsub
        have hti : t[i] ∈ p := hs.mem (List.getElem_mem hlt)
        have hsame := same_ev (hp _ hti) (hp _ (List.getElem_mem halt))
        refine Ev.step (f := fun k => (backreachref14_Same.f k [t[i]] [p[a]]).bind fun t266 => (if t266 = true then (backreachref18_Some.l0 k t p ((a + 1 : Nat) : Int) ((i + 1 : Nat) : Int)) else (backreachref18_Some.l1 k t p ((a + 1 : Nat) : Int) (i : Int)))) (fun k => ?_) ?_
        · simp only [backreachref18_Some.l1]
          rw [if_pos (by omega), if_pos (by omega), wrap_nat (by omega), wrap_nat (by omega), if_pos (by omega), if_pos (by omega), if_pos (by omega), if_pos (by omega), if_pos (by omega), Int.toNat_natCast, Int.toNat_natCast, Int.toNat_natCast, Int.toNat_natCast, take_one hlt, take_one halt]
          have hne : ¬ (a : Int) = (p.length : Int) := by omega
          simp only [if_neg hne]
        · refine Ev.bind hsame ?_
          by_cases he : t[i] = p[a]
          · rw [decide_eq_true he]
            rw [he] at hsub
            refine Ev.congr (fun k => if_pos rfl) (ih (d - 2) (by omega) (a + 1) (i + 1) (by omega) (by omega) (by omega) (List.cons_sublist_cons.1 hsub)).1
          · rw [decide_eq_false he]
            have hsub2 : (t.drop i).Sublist (p.drop (a + 1)) := by
              rw [List.drop_eq_getElem_cons hlt]
              rcases List.sublist_cons_iff.1 hsub with h | ⟨r, e, h⟩
              · exact h
              · exact absurd (List.cons.inj e).1 he
            refine Ev.congr (fun k => if_neg (by simp)) ((ih (d - 1) (by omega) (a + 1) i hi (by omega) (by omega) hsub2).2 hlt)
      refine ⟨?_, hl1⟩
      by_cases hlt : i < t.length
      · refine Ev.step (fun k => ?_) (hl1 hlt)
        simp only [backreachref18_Some.l0]
        rw [if_pos (by omega)]
      · refine Ev.step (f := fun _ => some true) (fun k => ?_) (Ev.now _)
        simp only [backreachref18_Some.l0]
        rw [if_neg (by omega)]
  exact (main _ 0 0 (Nat.zero_le _) (Nat.zero_le _) rfl (by simpa using hs)).1

theorem without_f {l : List (List Int)} {i : Nat} (h : i < l.length) (hl : l.length < 4398046511104) : backreachref18_Without.f l (i : Int) = some (wo l i) := by
  simp only [backreachref18_Without.f]
  rw [Option.bind_some, if_pos (by omega), if_pos (by omega), Option.bind_some, Int.toNat_natCast, if_pos (by simp; omega), Option.bind_some, wrap_nat (by omega), if_pos (by omega), if_pos (by omega), Option.bind_some, Int.toNat_natCast, if_pos (by simp; omega), List.nil_append]
  rfl

theorem trims_pure : backreachlaw18_ProofTrims.Pure := by
  intro l p _ hl _ _ hp _
  have main : Ev (fun k => backreachlaw18_ProofTrims.f k l p) true := by
    have hyes : ∀ b : Bool, (b = false → small l 100 12 40 = true ∧ small p 100 12 40 = true) → Ev (fun k => backreachlaw18_ProofTrims.j0 k l p b) true := fun b hb => by
      cases b with
      | true =>
        refine Ev.step (fun k => ?_) (Ev.now _)
        simp only [backreachlaw18_ProofTrims.j0]
        rw [if_pos trivial]
      | false =>
        obtain ⟨h1, h2⟩ := hb rfl
        obtain ⟨a1, a2, a3⟩ := few_total h1
        obtain ⟨b1, b2, b3⟩ := few_total h2
        have hck := rcheck_ev (l := l) (p := p) (fun c hc => by have := a1 c hc; omega) (fun c hc => by have := b1 c hc; omega) (by omega)
        have htf : proof_Trim.f l p = some (trim l p) := by
          unfold proof_Trim.f
          rw [if_pos ⟨by omega, by omega⟩]
        by_cases h0 : (check l p).1 = 0
        · obtain ⟨t2, tg, tn⟩ := trim_good h0
          generalize htr : trim l p = tr at t2 tg tn htf
          obtain ⟨t, te⟩ := tr
          simp only at t2 tg tn
          subst t2
          obtain ⟨init, hin, hne⟩ := tg.fin
          have hsl := tg.sub.length_le
          have hmem : ∀ c ∈ t, c.length ≤ 12 := fun c hc => b1 c (tg.sub.mem hc)
          have hpos : 0 < t.length := by rw [hin]; simp
          have hck2 := rcheck_ev (l := l) (p := t) (fun c hc => by have := a1 c hc; omega) (fun c hc => by have := hmem c hc; omega) (by omega)
          have hlast : ∀ h : t.length - 1 < t.length, t[t.length - 1] = [] := fun h => by
            subst hin
            simp
          have hinit : ∀ j (hj : j < t.length), j + 1 < t.length → t[j] ≠ [] := fun j hj hj2 => by
            subst hin
            have hji : j < init.length := by simp at hj2; omega
            rw [List.getElem_append_left hji]
            exact hne _ (List.getElem_mem hji)
          have hw1 : wrap64 ((t.length : Int) - 1) = ((t.length - 1 : Nat) : Int) := by unfold wrap64; omega
          have loop : ∀ d i : Nat, i + d + 1 = t.length → Ev (fun k => backreachlaw18_ProofTrims.l0 k l t (i : Int)) true := by
            intro d
            induction d with
            | zero =>
              intro i hi
              refine Ev.step (f := fun _ => some true) (fun k => ?_) (Ev.now _)
              simp only [backreachlaw18_ProofTrims.l0]
              rw [hw1, if_neg (by omega)]
            | succ d ih =>
              intro i hi
              have hlt : i < t.length := by omega
              have hc := tn i (by omega)
              have hwl := wo_length hlt
              have hck3 := rcheck_ev (l := l) (p := wo t i) (fun c hc => by have := a1 c hc; omega) (fun c hc => by have := hmem c ((wo_sub t i).mem hc); omega) (by omega)
              have hnz : ¬ ((t[i].length : Int) = 0) := fun e => hinit i hlt (by omega) (List.eq_nil_of_length_eq_zero (by omega))
              refine Ev.step (f := fun k => (backreachref18_Check.f k l (wo t i)).bind fun bt302 => (if bt302.1 = 0 then (some false) else (backreachlaw18_ProofTrims.l0 k l t ((i + 1 : Nat) : Int)))) (fun k => ?_) ?_
              · simp only [backreachlaw18_ProofTrims.l0]
                rw [hw1, if_pos (by omega), without_f hlt (by omega), Option.bind_some, rdL_at hlt, wrap_nat (by omega)]
                have e1 : (0 : Int) ≤ (i : Int) := by omega
                have e2 : (i : Int) < (t.length : Int) := by omega
                simp only [if_pos e1, if_pos e2, if_neg hnz]
              · refine Ev.bind hck3 ?_
                exact Ev.congr (fun k => if_neg hc) (ih (i + 1) (by omega))
          refine Ev.step (f := fun k => (backreachref18_Check.f k l p).bind fun bt293 => (if bt293.1 = 0 then ((backreachref18_Check.f k l t).bind fun bt295 => (if bt295.1 = 0 then ((backreachref18_Some.f k t p).bind fun t297 => (if t297 = true then (backreachlaw18_ProofTrims.j1 k l t false) else (backreachlaw18_ProofTrims.j1 k l t true))) else (backreachlaw18_ProofTrims.j1 k l t true))) else (if 0 = bt293.1 then (some ((t.length : Int) == 0)) else (some false)))) (fun k => ?_) ?_
          · simp only [backreachlaw18_ProofTrims.j0]
            rw [if_neg (by simp), htf, Option.bind_some]
            have e1 : ¬ (t.length : Int) = 0 := by omega
            have e2 : (0 : Int) ≤ ((t.length - 1 : Nat) : Int) := by omega
            have e3 : ((t.length - 1 : Nat) : Int) < (t.length : Int) := by omega
            have e4 : ((rd_L1 t ((t.length - 1 : Nat) : Int)).length : Int) = 0 := by rw [rdL_at (by omega), hlast]; rfl
            have e5 : (((rd_L1 t ((t.length - 1 : Nat) : Int)).length : Int) != 0) = false := by rw [e4]; rfl
            simp only [hw1, if_neg e1, if_pos e2, if_pos e3, e5, if_true]
          · refine Ev.bind hck ?_
            refine Ev.congr (fun k => if_pos h0) ?_
            refine Ev.bind hck2 ?_
            refine Ev.congr (fun k => if_pos tg.ok) ?_
            refine Ev.bind (some_ev tg.sub (fun c hc => by have := b1 c hc; omega) (by omega)) ?_
            refine Ev.congr (fun k => if_pos rfl) ?_
            refine Ev.step (f := fun k => backreachlaw18_ProofTrims.l0 k l t 0) (fun k => ?_) (loop (t.length - 1) 0 (by omega))
            simp only [backreachlaw18_ProofTrims.j1]
            rw [if_neg (by simp)]
        · have ht : trim l p = ([], (check l p).1) := by unfold trim; rw [if_neg h0]
          rw [ht] at htf
          refine Ev.step (f := fun k => (backreachref18_Check.f k l p).bind fun bt293 => (if bt293.1 = 0 then ((backreachref18_Check.f k l []).bind fun bt295 => (if (check l p).1 = 0 then (if bt295.1 = 0 then ((backreachref18_Some.f k [] p).bind fun t297 => (if t297 = true then (backreachlaw18_ProofTrims.j1 k l [] true) else (backreachlaw18_ProofTrims.j1 k l [] true))) else (backreachlaw18_ProofTrims.j1 k l [] true)) else (backreachlaw18_ProofTrims.j1 k l [] true))) else (if (check l p).1 = bt293.1 then (some true) else (some false)))) (fun k => ?_) ?_
          · simp only [backreachlaw18_ProofTrims.j0]
            rw [if_neg (by simp), htf, Option.bind_some]
            rfl
          · refine Ev.bind hck ?_
            refine Ev.congr (fun k => ?_) (Ev.now _)
            rw [if_neg h0, if_pos rfl]
    refine Ev.congr (f := fun k => (backreachlaw18_few.f k l).bind fun t287 => (if t287 = true then ((backreachlaw18_few.f k p).bind fun t288 => (if t288 = true then (backreachlaw18_ProofTrims.j0 k l p (decide ((p.length : Int) > 25))) else (backreachlaw18_ProofTrims.j0 k l p true))) else (backreachlaw18_ProofTrims.j0 k l p true))) (fun k => ?_) ?_
    · simp only [backreachlaw18_ProofTrims.f]
      unfold backreachlaw18_awake.f
      rw [Option.bind_some, if_pos rfl]
    · refine Ev.bind (few_ev (by omega)) ?_
      cases h1 : small l 100 12 40 with
      | false => exact Ev.congr (fun k => if_neg (by simp)) (hyes true (fun e => by cases e))
      | true =>
        refine Ev.congr (fun k => if_pos rfl) ?_
        refine Ev.bind (few_ev (by omega)) ?_
        cases h2 : small p 100 12 40 with
        | false => exact Ev.congr (fun k => if_neg (by simp)) (hyes true (fun e => by cases e))
        | true => exact Ev.congr (fun k => if_pos rfl) (hyes _ fun _ => ⟨h1, h2⟩)
  exact main.rounds

theorem trims_law (a0 : Option Addr) (c0 : Nat) (l0 : List (List Int)) (a1 : Option Addr) (c1 : Nat) (l1 : List (List Int)) (w : World)
    (hr0 : Kd.C (Kd.slice 3 (Kd.int .i64)) w a0 l0.length l0) (hc0 : l0.length ≤ c0) (hm0 : l0.length ≤ maxLen) (hs0 : l0.length * 24 ≤ 140737488351232) (hw0 : ∀ c ∈ l0, ∀ x ∈ c, (Lit.int .i64 x).wf = true)
    (hr1 : Kd.C (Kd.slice 3 (Kd.int .i64)) w a1 l1.length l1) (hc1 : l1.length ≤ c1) (hm1 : l1.length ≤ maxLen) (hs1 : l1.length * 24 ≤ 140737488351232) (hw1 : ∀ c ∈ l1, ∀ x ∈ c, (Lit.int .i64 x).wf = true) :
    Calls Try.prog 5 #[.slice a0 l0.length c0, .slice a1 l1.length c1] w fun e w' => e = .returned (.bool true) ∧ Below w.heap.size w w' := by
  obtain ⟨k, h⟩ := trims_pure l0 l1 hm0 hs0 hw0 hm1 hs1 hw1
  exact backreachlaw18_ProofTrims.calls k _ _ l0 _ _ l1 true w hr0 hc0 hr1 hc1 h
end Go.Proofs.Ytphloehjcfipfaa.Cl
end

section
/- An argument that is a list of lists of whole numbers: opened in plain words. -/
set_option linter.unusedVariables false
set_option linter.unusedSimpArgs false
namespace Go.Proofs.Ytphloehjcfipfaa.LR
open Go.ChangeShapes Go.WideShapes Go.Proofs.YtphloehjcfipfaaW.PrintWords

theorem open_rows {H : Type} {enc : TypeId × Value → H} {P : Program} {W : World} {t e q : TypeId} {a : Option Addr} {len cap : Nat} {d : DataW H} {ps : List MemPlace} {ts : List TypeId} {ds : List (DataW H)} {j : Nat}
    (hsz : (DataW.weightsEach P ts ds).all (· ≤ reachBytes) = true) (htj : ts[j]? = some t) (hdj : ds[j]? = some d) (ht : P.underlying t = some (.slice e)) (he : P.underlying e = some (.slice q)) (hq : P.underlying q = some (.int .i64)) (ce : P.cellsOf e = 1) (cq : P.cellsOf q = 1) {B : Nat} (hB : P.bytesOf e = B)
    (h : DataW.Trod enc P W 0 (fun _ => true) true t (.slice a len cap) d ps) :
    ∃ ls : List (List Int), len = ls.length ∧ Kd.C (Kd.slice q (Kd.int .i64)) W a ls.length ls ∧ ls.length ≤ cap ∧ ls.length ≤ maxLen ∧ ls.length * B ≤ 140737488351232 ∧ ∀ c ∈ ls, ∀ x ∈ c, (Lit.int .i64 x).wf = true := by
  obtain ⟨fuel, hf⟩ := h
  rcases Deep.open_int_rows ht he hq ce cq hf with ⟨hcs, _⟩ | ⟨a0, n, c0, A, L, C, Z, hcs, _, hl, hm, hx, hr⟩
  · simp [Value.cells] at hcs
    obtain ⟨rfl, rfl, rfl⟩ := hcs
    exact ⟨[], rfl, ⟨rfl, by simp, fun h => absurd h (by simp)⟩, by simp, by simp, by simp, by simp⟩
  · simp [Value.cells] at hcs
    obtain ⟨rfl, rfl, rfl⟩ := hcs
    obtain ⟨hd, _⟩ := Prod.mk.inj hx
    have hz := sized_slice hsz htj (hdj.trans (congrArg some hd)) ht
    rw [hB, List.length_map, List.length_map, List.length_range, List.length_range] at hz
    have hlen : ((List.range len).map fun r => (Z r).take (L r)).length = len := by simp
    have hM : maxLen ≤ 9223372036854775807 := by decide
    refine ⟨(List.range len).map fun r => (Z r).take (L r), hlen.symm, ?_, by rw [hlen]; exact hl, by rw [hlen]; omega, ?_, ?_⟩
    · refine ⟨rfl, by rw [hlen]; omega, fun _ => ⟨a0, rfl, fun i p hi => ?_⟩⟩
      have hilt : i < len := by
        have := (List.getElem?_eq_some_iff.1 hi).1
        rw [hlen] at this
        exact this
      have hp : p = (Z i).take (L i) := by
        rw [List.getElem?_map, List.getElem?_range hilt] at hi
        exact (Option.some.inj hi).symm
      obtain ⟨r1, r2, r3, r4, r5, r6, r7⟩ := hr i (by omega)
      have hpl : p.length = L i := by rw [hp, List.length_take, r4]; omega
      refine ⟨[.slice (A i) (L i) (C i)], rfl, ⟨A i, C i, by rw [hpl], by omega, rfl, by omega, fun h0 => ?_⟩, fun i' u hu => ?_⟩
      · cases hA : A i with
        | none => have := r6 hA; omega
        | some ad =>
          refine ⟨ad, rfl, fun i2 x hx2 => ⟨[.int .i64 x], rfl, rfl, fun i3 u hu => ?_⟩⟩
          have h3 : i3 = 0 := by
            have := (List.getElem?_eq_some_iff.1 hu).1
            simpa using this
          subst h3
          have hu : Value.int .i64 x = u := by simpa using hu
          have h2lt : i2 < L i := by have := (List.getElem?_eq_some_iff.1 hx2).1; omega
          have hc := (r7 ad hA).2 i2 (by omega)
          have hxe : (Z i).getD i2 0 = x := by
            rw [hp, List.getElem?_take, if_pos h2lt] at hx2
            rw [List.getD_eq_getElem?_getD, hx2]
            rfl
          rw [hxe, hu] at hc
          simpa [Kd.int, Kd.scalar] using hc
      · have h3 : i' = 0 := by
          have := (List.getElem?_eq_some_iff.1 hu).1
          simpa using this
        subst h3
        have hu : Value.slice (A i) (L i) (C i) = u := by simpa using hu
        rw [hu] at r1
        simpa [Kd.slice] using r1
    · rw [hlen]
      have : len * B ≤ (len + (cap - len)) * B := Nat.mul_le_mul_right _ (by omega)
      exact Nat.le_trans this hz
    · intro c hc x hx
      rw [List.mem_map] at hc
      obtain ⟨r, hr2, rfl⟩ := hc
      rw [List.mem_range] at hr2
      exact (hr r (by omega)).2.2.2.2.1 x (List.mem_of_mem_take hx)
end Go.Proofs.Ytphloehjcfipfaa.LR
end

section
/- The statement ProofTrims holds: the program's function answers true of every input, and leaves its arguments as they were. -/
namespace Go.Proofs.Ytphloehjcfipfaa.proofTrims
open Go.ChangeShapes Go.WideShapes Go.ChangeAt Go.RowKit
set_option linter.unusedVariables false
theorem own : ownKnob Try.prog.godebug = none := by kernel_rfl
theorem laidOut : laidOutB Try.prog = true := by kernel_rfl
set_option maxRecDepth 100000 in
theorem lifted (os : Os) (started : os.Started) (H : Type) (enc : TypeId × Value → H) :
    ReturnsInHanded {} Try.checked os 5 .any (Rows.proofTrimsSpec.pre6 enc Try.prog Try.f5 Rows.proofTrimsRow.domain false) (Rows.proofTrimsSpec.post enc Try.prog Try.f5 false true false false) := by
  refine returnsInHanded_of_change_sized (C := Try.checked) own started (by kernel_rfl) Try.func5
    (ChangeSpec.witness6 (enc := enc) (C := Try.checked) false ⟨#[], #[.slice none 0 0, .slice none 0 0], []⟩ 8 (by kernel_rfl) (by kernel_rfl) (by kernel_rfl) (by kernel_rfl)) ?_
  intro W base args ds gs before hval0 hW hcnd hsz0 _
  have hsz : (DataW.weightsEach Try.prog (Try.f5.params.toList ++ Rows.proofTrimsSpec.plain.varTypes Try.prog) (ds ++ gs)).all (· ≤ reachBytes) = true := hsz0
  have hval : ∀ (j : Nat) t v, Try.f5.params[j]? = some t → args[j]? = some v → Value.okWide Try.prog W .any base t v := hval0
  have hW' := hW
  obtain ⟨p, q, hA0, hV, rfl, hfz, hnd⟩ := hW
  have hA : DataW.TrodAll enc Try.prog W 0 (fun _ => true) true Try.f5.params.toList args.toList ds p := hA0
  rw [Try.params5] at hA hval hsz
  obtain ⟨v0, vs0, d0, ds0, p0, q0, hargs, rfl, rfl, h0, r0⟩ := trodAll_cons hA
  obtain ⟨v1, vs1, d1, ds1, p1, q1, rfl, rfl, rfl, h1, r1⟩ := trodAll_cons r0
  obtain ⟨rfl, rfl, rfl⟩ := trodAll_nil r1
  obtain rfl : args = #[v0, v1] := by cases args; simp_all
  obtain ⟨rfl, rfl⟩ := trodVars_none hV
  obtain ⟨a0, len0, cap0, rfl⟩ := okWide_slice Try.underlying22 (hval 0 22 v0 rfl rfl)
  have k0 := h0
  have lt0 : ∀ x ∈ p0, x.block < W.heap.size := by obtain ⟨m, hm⟩ := k0; exact DataW.trod_lt m _ _ _ hm
  obtain ⟨l0, rfl, hr0, hc0, hm0, hs0, hw0⟩ := LR.open_rows (B := 24) hsz (j := 0) (t := 22) rfl rfl Try.underlying22 Try.underlying35 Try.underlying3 (by kernel_rfl) (by kernel_rfl) (by kernel_rfl) h0
  obtain ⟨a1, len1, cap1, rfl⟩ := okWide_slice Try.underlying22 (hval 1 22 v1 rfl rfl)
  have k1 := h1
  have lt1 : ∀ x ∈ p1, x.block < W.heap.size := by obtain ⟨m, hm⟩ := k1; exact DataW.trod_lt m _ _ _ hm
  obtain ⟨l1, rfl, hr1, hc1, hm1, hs1, hw1⟩ := LR.open_rows (B := 24) hsz (j := 1) (t := 22) rfl rfl Try.underlying22 Try.underlying35 Try.underlying3 (by kernel_rfl) (by kernel_rfl) (by kernel_rfl) h1
  clear hA0 hval0 hsz0 hsz
  refine (Cl.trims_law a0 cap0 l0 a1 cap1 l1 W hr0 hc0 hm0 hs0 hw0 hr1 hc1 hm1 hs1 hw1).mono fun e W' ⟨he, bel⟩ => ?_
  subst he
  exact ⟨_, rfl, _, _, _, [], _, [], hW', trodAll_mk1 (shut_bool Try.underlying4 _), (trodAll_cons_mk (Below.trod laidOut (by kernel_rfl) (of_decide_eq_true (by kernel_rfl)) k0 bel lt0) (trodAll_cons_mk (Below.trod laidOut (by kernel_rfl) (of_decide_eq_true (by kernel_rfl)) k1 bel lt1) trodAll_mk0)), rfl, bel.frame _, fun h => by cases h⟩
theorem over : Rows.proofTrimsRow.holds Try.pinned (OpenSpec.ofChange Rows.proofTrimsSpec) :=
  OpenClaim.holds_of_wide 5 Try.f5 rfl rfl rfl rfl rfl rfl rfl ⟨rfl, rfl, rfl, rfl, rfl⟩ rfl rfl rfl rfl rfl (by kernel_rfl) Try.func5 (by kernel_rfl)
    (of_decide_eq_true (by kernel_rfl)) (by unfold Func.isWrapper; first | (rw [if_pos (by decide +kernel)]; kernel_rfl) | (rw [if_neg (by decide +kernel)]; exact ⟨rfl, rfl⟩))
    (fun os started H enc _ => lifted os started H enc)
theorem proved : Rows.ProofTrimsSaid := over
#print axioms proved
end Go.Proofs.Ytphloehjcfipfaa.proofTrims
namespace Go.Proofs.Ytphloehjcfipfaa
/-- The row, under a short name, for the claim. -/
theorem proofTrims_holds : Rows.ProofTrimsSaid := proofTrims.proved
end Go.Proofs.Ytphloehjcfipfaa
end
