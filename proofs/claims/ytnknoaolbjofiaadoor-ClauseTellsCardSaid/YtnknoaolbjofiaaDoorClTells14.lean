/- The law ClauseTells: clauses are right, hold, have their greatest variable and their text as the document says: the call, in plain words. -/
import Derived.Test.YtnknoaolbjofiaaDoorClRefT
set_option linter.unusedVariables false
set_option linter.unusedSimpArgs false
namespace Go.Proofs.YtnknoaolbjofiaaDoor.Cl
open Go.RowKit Go.Proofs.YtnknoaolbjofiaaDoorW.PrintWords Go.Proofs.YtnknoaolbjofiaaDoorW.PrintLast Go.Proofs.YtnknoaolbjofiaaDoorW.PrintMore
open Go.Proofs.YtnknoaolbjofiaaDoor.X

/-- clause.Print of clauses that are not right. -/
theorem print_wrong (A : Option Addr) (cap : Nat) (l : List (List Int)) (w : World) (hC : KRh.C w A l.length l) (hcap : l.length ≤ cap) (hr : lRight l = false) :
    Calls Tryd.prog 19 #[.slice A l.length cap] w fun e w' => e = .returned (.tuple #[.string ⟨#[]⟩, .int .i64 3]) ∧ Below w.heap.size w w' := by
  have hrt := right_calls A cap l w hC hcap
  rw [hr] at hrt
  have HRT := Lib.hid hrt
  clear hrt hr hC
  go_enter Tryd.func19, Tryd.ntmps19
  go_wp2_with fail
  refine HRT.out.mono ?_
  rintro e w1 ⟨rfl, nd, rfl⟩
  go_wp2
  go_ret2
  exact ⟨rfl, pw_below_drewN (Below.refl _ _) _⟩
/-- What clause.Print, and the document's, answer. -/
def printA (l : List (List Int)) : List UInt8 × Int := if lRight l then (printL l, 0) else ([], 3)
theorem printA_calls (A : Option Addr) (cap : Nat) (l : List (List Int)) (w : World) (hC : KRh.C w A l.length l) (hcap : l.length ≤ cap) (hl1 : l.length ≤ 10000) (hl2 : ∀ c ∈ l, c.length ≤ 10000) (hT : Tab w) :
    Calls Tryd.prog 19 #[.slice A l.length cap] w fun e w' => e = .returned (.tuple #[.string ⟨(printA l).1.toArray⟩, .int .i64 (printA l).2]) ∧ Below w.heap.size w w' := by
  unfold printA
  cases hr : lRight l with
  | true => exact print_calls A cap l w hC hcap hr hl1 hl2 hT
  | false => exact print_wrong A cap l w hC hcap hr
theorem rprintA_calls (A : Option Addr) (cap : Nat) (l : List (List Int)) (w : World) (hC : KRh.C w A l.length l) (hcap : l.length ≤ cap) (hl1 : l.length ≤ 10000) (hl2 : ∀ c ∈ l, c.length ≤ 10000) :
    Calls Tryd.prog 20 #[.slice A l.length cap] w fun e w' => e = .returned (.tuple #[.string ⟨(printA l).1.toArray⟩, .int .i64 (printA l).2]) ∧ Below w.heap.size w w' := by
  have h : Ev (fun k => backreachref14_Print.f k l) (⟨(printA l).1.toArray⟩, (printA l).2) := by
    unfold printA
    cases hr : lRight l with
    | true => exact rprint_ev hr hl1 hl2
    | false => exact rprint_wrong ⟨by omega, fun c hc => by have := hl2 c hc; omega⟩ hr
  obtain ⟨k, hk⟩ := h.rounds
  exact backreachref14_Print.calls k A cap l _ _ w hC hcap hk
theorem rright_calls (A : Option Addr) (cap : Nat) (l : List (List Int)) (w : World) (hC : KRh.C w A l.length l) (hcap : l.length ≤ cap) (hf : Fine l) :
    Calls Tryd.prog 21 #[.slice A l.length cap] w fun e w' => e = .returned (.bool (lRight l)) ∧ ∃ n, w' = w.drewN n := by
  obtain ⟨k, hk⟩ := (rright_ev hf).rounds
  exact (backreachref14_Right.calls k A cap l _ w hC hcap hk).mono fun e w' ⟨he, hd⟩ => ⟨he, hd.out⟩
theorem rmost_calls (A : Option Addr) (cap : Nat) (l : List (List Int)) (w : World) (hC : KRh.C w A l.length l) (hcap : l.length ≤ cap) (hf : Fine l) (hr : lRight l = true) :
    Calls Tryd.prog 25 #[.slice A l.length cap] w fun e w' => e = .returned (.int .i64 (most l : Int)) ∧ ∃ n, w' = w.drewN n := by
  obtain ⟨k, hk⟩ := (rmost_ev hf (plain_right hr)).rounds
  exact (backreachref14_Most.calls k A cap l _ w hC hcap hk).mono fun e w' ⟨he, hd⟩ => ⟨he, hd.out⟩
theorem rholds_calls (A : Option Addr) (cap : Nat) (l : List (List Int)) (M : Option Addr) (mc : Nat) (m : List Bool) (w : World) (hC : KRh.C w A l.length l) (hcap : l.length ≤ cap) (hM : KB.C w M m.length m) (hmc : m.length ≤ mc) (hf : Fine l) :
    Calls Tryd.prog 23 #[.slice A l.length cap, .slice M m.length mc] w fun e w' => e = .returned (.bool (holds l m)) ∧ ∃ n, w' = w.drewN n := by
  obtain ⟨k, hk⟩ := (rholds_ev hf m).rounds
  exact (backreachref14_Holds.calls k A cap l M mc m _ w hC hcap hM hmc hk).mono fun e w' ⟨he, hd⟩ => ⟨he, hd.out⟩

set_option maxRecDepth 100000 in
set_option maxHeartbeats 8000000 in
theorem tells14_law (a0 : Option Addr) (c0 : Nat) (l0 : List (List Int)) (a1 : Option Addr) (c1 : Nat) (m : List Bool) (w : World)
    (hr0 : KRd.C w a0 l0.length l0) (hc0 : l0.length ≤ c0) (hm0 : l0.length ≤ maxLen) (hs0 : l0.length * 24 ≤ 140737488351232) (hw0 : ∀ c ∈ l0, ∀ x ∈ c, (Lit.int .i64 x).wf = true)
    (hr1 : KB.C w a1 m.length m) (hc1 : m.length ≤ c1) (hm1 : m.length ≤ maxLen) (hs1 : m.length * 1 ≤ 140737488351232) (hT : Tab w) :
    Calls Tryd.prog 6 #[.slice a0 l0.length c0, .slice a1 m.length c1] w fun e w' => e = .returned (.bool true) ∧ Below w.heap.size w w' := by
  have haw := awake14_calls w hT
  have hf0 := fun W (hW : Below w.heap.size w W) => few14_calls a0 c0 l0 W (Kd.C_below hr0 hW) hc0 (by omega)
  have HAW := Lib.hid haw
  have HF0 := Lib.hid hf0
  have HR0 := Aside0.mk hr0
  have HR1 := Aside0.mk hr1
  have HC0 := Aside0.mk hc0
  have HC1 := Aside0.mk hc1
  have HT := Lib.hid hT
  clear haw hf0 hr0 hr1 hc0 hc1 hm0 hm1 hs0 hs1 hw0 hT
  go_enter Tryd.func6, Tryd.ntmps6
  go_wp2_with fail
  refine HAW.out.mono ?_
  rintro e w1 ⟨rfl, hb1⟩
  have HB1 := Aside0.mk hb1
  clear hb1 HAW
  go_wp2_with fail
  refine (HF0.out _ HB1.out).mono ?_
  cases h0 : small l0 200 20 200 with
  | false =>
    rintro e w' ⟨rfl, nd, rfl⟩
    clear h0
    go_wp2
    go_ret
    exact ⟨rfl, pw_below_drewN HB1.out _⟩
  | true =>
    have hft0 := few14_total h0
    have hfine : Fine l0 := ⟨by have := hft0.2.1; omega, fun c hc => by have := hft0.1 c hc; omega⟩
    have hl1 : l0.length ≤ 10000 := by have := hft0.2.1; omega
    have hl2 : ∀ c ∈ l0, c.length ≤ 10000 := fun c hc => by have := hft0.1 c hc; omega
    have hrt := fun W (hW : Below w.heap.size w W) => right_calls a0 c0 l0 W (Kd.C_below HR0.out hW) HC0.out
    have hpr := fun W (hW : Below w.heap.size w W) => printA_calls a0 c0 l0 W (Kd.C_below HR0.out hW) HC0.out hl1 hl2 ((Lib.tabBelow_of_tabIs HT.out) W hW)
    have hrp := fun W (hW : Below w.heap.size w W) => rprintA_calls a0 c0 l0 W (Kd.C_below HR0.out hW) HC0.out hl1 hl2
    have hrr := fun W (hW : Below w.heap.size w W) => rright_calls a0 c0 l0 W (Kd.C_below HR0.out hW) HC0.out hfine
    have hho := fun W (hW : Below w.heap.size w W) => holds_calls a0 c0 l0 a1 c1 m W (Kd.C_below HR0.out hW) HC0.out (Kd.C_below HR1.out hW)
    have hrh := fun W (hW : Below w.heap.size w W) => rholds_calls a0 c0 l0 a1 c1 m W (Kd.C_below HR0.out hW) HC0.out (Kd.C_below HR1.out hW) HC1.out hfine
    have hmo := fun W (hW : Below w.heap.size w W) (h : lRight l0 = true) => most_calls a0 c0 l0 W (Kd.C_below HR0.out hW) HC0.out h
    have hrm := fun W (hW : Below w.heap.size w W) (h : lRight l0 = true) => rmost_calls a0 c0 l0 W (Kd.C_below HR0.out hW) HC0.out hfine h
    have HRT := Lib.hid hrt
    have HPR := Lib.hid hpr
    have HRP := Lib.hid hrp
    have HRR := Lib.hid hrr
    have HHO := Lib.hid hho
    have HRH := Lib.hid hrh
    have HMO := Lib.hid hmo
    have HRM := Lib.hid hrm
    clear hft0 h0 hfine hl1 hl2 hrt hpr hrp hrr hho hrh hmo hrm
    rintro e w' ⟨rfl, nd0, rfl⟩
    have HB2 : Aside0 (Below w.heap.size w (w1.drewN nd0)) := ⟨pw_below_drewN HB1.out _⟩
    generalize w1.drewN nd0 = w2 at HB2 ⊢
    clear HB1 HF0
    by_cases h3 : m.length > 300
    · have h3b : decide ((m.length : Int) > 300) = true := decide_eq_true (by omega)
      have h3c : decide (300 < m.length) = true := decide_eq_true (by omega)
      clear h3
      go_wp2
      go_ret
      exact ⟨rfl, HB2.out⟩
    have h3b : decide ((m.length : Int) > 300) = false := decide_eq_false (by omega)
    have h3c : decide (300 < m.length) = false := decide_eq_false (by omega)
    clear h3
    generalize (printA l0).1.toArray = pt at HPR HRP
    generalize (printA l0).2 = pe at HPR HRP
    generalize holds l0 m = hb at HHO HRH
    cases hr : lRight l0 with
    | true =>
      rw [hr] at HRT HRR HMO HRM
      simp only [if_true] at HRT
      go_wp2_with fail
      refine (HRT.out _ HB2.out).mono ?_
      rintro e w' ⟨rfl, nd3, rfl⟩
      have HB3 : Aside0 (Below w.heap.size w (w2.drewN nd3)) := ⟨pw_below_drewN HB2.out _⟩
      generalize w2.drewN nd3 = w3 at HB3 ⊢
      clear HB2
      go_wp2_with fail
      refine (HPR.out _ HB3.out).mono ?_
      rintro e w4 ⟨rfl, hb4⟩
      have HB4 := Aside0.mk (below_then HB3.out HB3.out.size hb4)
      clear hb4 HB3
      go_wp2_with fail
      refine (HRP.out _ HB4.out).mono ?_
      rintro e w5 ⟨rfl, hb5⟩
      have HB5 := Aside0.mk (below_then HB4.out HB4.out.size hb5)
      clear hb5 HB4
      go_wp2_with fail
      refine (HRR.out _ HB5.out).mono ?_
      rintro e w' ⟨rfl, nd6, rfl⟩
      have HB6 : Aside0 (Below w.heap.size w (w5.drewN nd6)) := ⟨pw_below_drewN HB5.out _⟩
      generalize w5.drewN nd6 = w6 at HB6 ⊢
      clear HB5
      go_wp2_with fail
      refine (HHO.out _ HB6.out).mono ?_
      rintro e w7 ⟨rfl, hb7⟩
      have HB7 := Aside0.mk (below_then HB6.out HB6.out.size hb7)
      clear hb7 HB6
      go_wp2_with fail
      refine (HRH.out _ HB7.out).mono ?_
      rintro e w' ⟨rfl, nd8, rfl⟩
      have HB8 : Aside0 (Below w.heap.size w (w7.drewN nd8)) := ⟨pw_below_drewN HB7.out _⟩
      generalize w7.drewN nd8 = w8 at HB8 ⊢
      clear HB7
      go_wp2_with fail
      refine (HMO.out _ HB8.out trivial).mono ?_
      rintro e w' ⟨rfl, rfl⟩
      go_wp2_with fail
      refine (HRM.out _ HB8.out trivial).mono ?_
      rintro e w' ⟨rfl, nd9, rfl⟩
      go_wp2
      go_ret
      exact ⟨by simp, pw_below_drewN HB8.out _⟩
    | false =>
      rw [hr] at HRT HRR
      simp only [Bool.false_eq_true, if_false] at HRT
      clear HMO HRM
      go_wp2_with fail
      refine (HRT.out _ HB2.out).mono ?_
      rintro e w' ⟨rfl, nd3, rfl⟩
      have HB3 : Aside0 (Below w.heap.size w (w2.drewN nd3)) := ⟨pw_below_drewN HB2.out _⟩
      generalize w2.drewN nd3 = w3 at HB3 ⊢
      clear HB2
      go_wp2_with fail
      refine (HPR.out _ HB3.out).mono ?_
      rintro e w4 ⟨rfl, hb4⟩
      have HB4 := Aside0.mk (below_then HB3.out HB3.out.size hb4)
      clear hb4 HB3
      go_wp2_with fail
      refine (HRP.out _ HB4.out).mono ?_
      rintro e w5 ⟨rfl, hb5⟩
      have HB5 := Aside0.mk (below_then HB4.out HB4.out.size hb5)
      clear hb5 HB4
      go_wp2_with fail
      refine (HRR.out _ HB5.out).mono ?_
      rintro e w' ⟨rfl, nd6, rfl⟩
      have HB6 : Aside0 (Below w.heap.size w (w5.drewN nd6)) := ⟨pw_below_drewN HB5.out _⟩
      generalize w5.drewN nd6 = w6 at HB6 ⊢
      clear HB5
      go_wp2_with fail
      refine (HRT.out _ HB6.out).mono ?_
      rintro e w' ⟨rfl, nd7, rfl⟩
      have HB6b : Aside0 (Below w.heap.size w (w6.drewN nd7)) := ⟨pw_below_drewN HB6.out _⟩
      generalize w6.drewN nd7 = w6b at HB6b ⊢
      clear HB6
      go_wp2_with fail
      refine (HHO.out _ HB6b.out).mono ?_
      rintro e w7 ⟨rfl, hb7⟩
      have HB7 := Aside0.mk (below_then HB6b.out HB6b.out.size hb7)
      clear hb7 HB6b
      go_wp2_with fail
      refine (HRH.out _ HB7.out).mono ?_
      rintro e w' ⟨rfl, nd8, rfl⟩
      go_wp2
      go_ret
      exact ⟨by simp, pw_below_drewN HB7.out _⟩
end Go.Proofs.YtnknoaolbjofiaaDoor.Cl
