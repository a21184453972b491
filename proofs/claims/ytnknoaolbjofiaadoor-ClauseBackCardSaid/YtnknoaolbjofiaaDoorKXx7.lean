/- For the statement of the row ClauseBack: what its proof needs of the text Xx7. -/
import Derived.Test.YtnknoaolbjofiaaDoorKB4

namespace Go.Proofs.YtnknoaolbjofiaaDoor.X
open Go.RowKit Go.Proofs.YtnknoaolbjofiaaDoorW.PrintWords Go.Proofs.YtnknoaolbjofiaaDoorW.PrintLast Go.Proofs.YtnknoaolbjofiaaDoorW.PrintMore
attribute [local go_sem] max2_int min2_int max_two min_two max_three min_three max_four min_four
set_option linter.unusedVariables false
set_option linter.unusedSimpArgs false
def backreachref14_True.f (l0 : List Bool) (a1 : Int) : Option (Bool) := (backreachref14_Var.f a1).bind fun t191 => (if t191 < (l0.length : Int) then (if 0 ≤ t191 then (some ((rdOf false l0 t191) == (decide (a1 > 0)))) else (none)) else (some (false == (decide (a1 > 0)))))
set_option maxHeartbeats 8000000 in
set_option maxRecDepth 100000 in
theorem backreachref14_True.calls (A0 : Option Addr) (c0 : Nat) (l0 : List Bool) (a1 : Int) (r : Bool) (w : World) (hr0 : Kd.C Kd.bool w A0 l0.length l0) (hc0 : l0.length ≤ c0) (h : backreachref14_True.f l0 a1 = some r) :
    Calls Tryd.prog 26 #[.slice A0 l0.length c0, .int .i64 a1] w fun e w' => e = .returned (.bool r) ∧ Drawn0 w w' := by
  have HR0 := Aside0.mk hr0
  have HC0 := Aside0.mk hc0
  clear hr0 hc0
  have H : ((backreachref14_Var.f a1).bind fun t191 => (if t191 < (l0.length : Int) then (if 0 ≤ t191 then (some ((rdOf false l0 t191) == (decide (a1 > 0)))) else (none)) else (some (false == (decide (a1 > 0)))))) = some r := h
  clear h
  replace H := Option.bind_eq_some_iff.mp H
  obtain ⟨t191, A30, H⟩ := H
  replace H : (if t191 < (l0.length : Int) then (if 0 ≤ t191 then (some ((rdOf false l0 t191) == (decide (a1 > 0)))) else (none)) else (some (false == (decide (a1 > 0))))) = some r := H
  have A3 := Aside0.mk A30
  clear A30
  by_cases c4 : t191 < (l0.length : Int)
  · rw [if_pos c4] at H
    have c4b0 : decide (t191 < (l0.length : Int)) = true := decide_eq_true c4
    clear c4
    by_cases c5 : 0 ≤ t191
    · rw [if_pos c5] at H
      have c5b0 : decide (0 ≤ t191) = true := decide_eq_true c5
      clear c5
      obtain rfl := Option.some.inj H
      go_enter Tryd.func26, Tryd.ntmps26
      go_wp2_with (first | ((with_reducible refine gate_callee (f := 16) rfl ?_); refine goesL_ (some 8) rfl rfl Tryd.func16 (by kernel_rfl) rfl #[.int .i64 a1] rfl (by (try simp only [List.map_toArray, List.map_cons, List.map_nil]); first | done | rfl | (simp only [List.length_drop, List.length_take]; rfl)) ?_; (with_reducible refine (backreachref14_Var.calls a1 t191 _ A3.out).mono ?_); rintro e w' ⟨rfl, ⟨nd, rfl⟩⟩; refine ⟨_, rfl, ?_⟩; have p192 : 0 ≤ (t191 : Int) := of_decide_eq_true (by first | (with_reducible assumption) | assumption); have q192 : t191 < (l0.length : Int) := of_decide_eq_true (by first | (with_reducible assumption) | assumption); obtain ⟨ad192, e192, hx192_0⟩ := Kd.at_bool HR0.out t191 p192 q192; cases e192; replace p192 := eq_true p192; replace q192 := eq_true q192))
      go_ret
      exact ⟨by first | rfl | (simp; done) | (simp [*]; done), by repeat (first | exact Drawn0.refl _ | apply Drawn0.step)⟩
    · rw [if_neg c5] at H
      exact absurd H (by simp)
  · rw [if_neg c4] at H
    have c4b0 : decide (t191 < (l0.length : Int)) = false := decide_eq_false c4
    clear c4
    obtain rfl := Option.some.inj H
    go_enter Tryd.func26, Tryd.ntmps26
    go_wp2_with (first | ((with_reducible refine gate_callee (f := 16) rfl ?_); refine goesL_ (some 8) rfl rfl Tryd.func16 (by kernel_rfl) rfl #[.int .i64 a1] rfl (by (try simp only [List.map_toArray, List.map_cons, List.map_nil]); first | done | rfl | (simp only [List.length_drop, List.length_take]; rfl)) ?_; (with_reducible refine (backreachref14_Var.calls a1 t191 _ A3.out).mono ?_); rintro e w' ⟨rfl, ⟨nd, rfl⟩⟩; refine ⟨_, rfl, ?_⟩))
    go_ret
    exact ⟨by first | rfl | (simp; done) | (simp [*]; done), by repeat (first | exact Drawn0.refl _ | apply Drawn0.step)⟩
end Go.Proofs.YtnknoaolbjofiaaDoor.X
