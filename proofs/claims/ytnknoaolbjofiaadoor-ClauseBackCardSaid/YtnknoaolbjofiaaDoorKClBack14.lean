/- For the statement of the row ClauseBack: what its proof needs of the text ClBack14. -/
import Derived.Test.YtnknoaolbjofiaaDoorKClParses14
import Derived.Test.YtnknoaolbjofiaaDoorKClTells14

set_option linter.unusedVariables false
set_option linter.unusedSimpArgs false
namespace Go.Proofs.YtnknoaolbjofiaaDoor.Cl
open Go.RowKit Go.Proofs.YtnknoaolbjofiaaDoorW.PrintWords Go.Proofs.YtnknoaolbjofiaaDoorW.PrintLast Go.Proofs.YtnknoaolbjofiaaDoorW.PrintMore
open Go.Proofs.YtnknoaolbjofiaaDoor.X
theorem pgo_code {v n : Nat} : ∀ {W : List (List UInt8)} {k : Nat} {out R : List (List Int)} {e ln : Int}, pgo v n W k out = (R, e, ln) → e = 0 ∨ e = 2
  | [], k, out, R, e, ln, h => by
    have h : (([] : List (List Int)), (2 : Int), (k : Int) + 1) = (R, e, ln) := h
    cases h
    exact .inr rfl
  | [x], k, out, R, e, ln, h => by
    have h : (if x = [] ∧ n < k then (out, 0, 0) else ([], 2, (k : Int) + 1)) = (R, e, ln) := h
    split at h
    · cases h; exact .inl rfl
    · cases h; exact .inr rfl
  | x :: y :: r, k, out, R, e, ln, h => by
    rw [pgo_step (by simp)] at h
    split at h
    · cases h; exact .inr rfl
    · cases hp : lineP v (splitBy 32 x) with
      | none => rw [hp] at h; cases h; exact .inr rfl
      | some c => rw [hp] at h; exact pgo_code h
theorem parse_code {s : List UInt8} {R : List (List Int)} {e ln : Int} (h : parseP s = (R, e, ln)) : e = 0 ∨ e = 2 := by
  unfold parseP at h
  cases hW : splitBy 10 s with
  | nil => exact absurd hW (splitBy_ne 10 s)
  | cons a r =>
    rw [hW] at h
    have h : (match headP a with
      | none => (([] : List (List Int)), (2 : Int), (1 : Int))
      | some (v, n) => if r = [] then ([], 2, 1) else pgo v n r 1 []) = (R, e, ln) := h
    cases hp : headP a with
    | none => rw [hp] at h; cases h; exact .inr rfl
    | some vn =>
      obtain ⟨v, n⟩ := vn
      rw [hp] at h
      simp only [] at h
      split at h
      · cases h; exact .inr rfl
      · exact pgo_code h
theorem print_len {l : List (List Int)} (hr : lRight l = true) (h1 : l.length ≤ 3001) (h2 : ∀ c ∈ l, c.length ≤ 10000) : (printL l).length ≤ 1000000000 := by
  have hb := linesT_length (l := l) (fun c hc => ⟨h2 c hc, fun x hx => by
    have h := cRight_of hr hc
    unfold cRight at h
    have := lit_in (List.all_eq_true.1 h x hx)
    omega⟩)
  have hm : most l ≤ 1048576 := most_bound (l := l) hr (n := 0) (by omega)
  have s1 := Lib.itoa_length_le (most l : Int) (by omega) (by omega)
  have s2 := Lib.itoa_length_le (l.length : Int) (by omega) (by omega)
  rw [printL_eq]
  simp only [headT, List.length_append, List.length_cons, List.length_nil]
  omega
/-- The reading of what was printed. -/
theorem parse_back {l : List (List Int)} (hr : lRight l = true) (h1 : l.length ≤ 3001) (h2 : ∀ c ∈ l, c.length ≤ 10000) (w : World) (hL : Libs w) :
    Calls Tryd.prog 27 #[.string ⟨(printL l).toArray⟩] w fun e w' => (∃ val, e = .returned (.tuple #[val, .int .i64 0, .int .i64 0]) ∧ Kd.N KRd 23 w' w.heap.size (fun k => w.heap.size ≤ k) val l) ∧ Below w.heap.size w w' := by
  have h := parse_calls (printL l) (print_len hr h1 h2) w hL
  rw [parse_print hr (by omega)] at h
  exact h
set_option maxRecDepth 100000 in
set_option maxHeartbeats 16000000 in
theorem back14_law (a0 : Option Addr) (c0 : Nat) (l0 : List (List Int)) (s : List UInt8) (w : World)
    (hr0 : KRd.C w a0 l0.length l0) (hc0 : l0.length ≤ c0) (hs0 : l0.length * 24 ≤ 140737488351232) (hL : Libs w) :
    Calls Tryd.prog 9 #[.slice a0 l0.length c0, .string ⟨s.toArray⟩] w fun e w' => e = .returned (.bool true) ∧ Below w.heap.size w w' := by
  have haw := awake14_calls w hL.tab
  have hf0 := fun W (hW : Below w.heap.size w W) => few14_calls a0 c0 l0 W (Kd.C_below hr0 hW) hc0 (by omega)
  have HAW := Lib.hid haw
  have HF0 := Lib.hid hf0
  have HR0 := Aside0.mk hr0
  have HC0 := Aside0.mk hc0
  have HT := Lib.hid hL.tab
  have HL := Lib.hid hL
  have hsize : (⟨s.toArray⟩ : ByteArray).size = s.length := by simp [ByteArray.size]
  have HSIZE := Lib.hid hsize
  clear haw hf0 hr0 hc0 hs0 hL hsize
  go_enter Tryd.func9, Tryd.ntmps9
  go_wp2_with fail
  refine HAW.out.mono ?_
  rintro e w1 ⟨rfl, hb1⟩
  have HB1 := Aside0.mk hb1
  clear hb1 HAW
  go_wp2_with fail
  refine (HF0.out _ HB1.out).mono ?_
  cases h0 : small l0 200 20 200 with
  | false =>
    rintro e w' ⟨rfl, nd, rfl⟩
    clear h0
    go_wp2
    go_ret
    exact ⟨rfl, pw_below_drewN HB1.out _⟩
  | true =>
    have hft0 := few14_total h0
    have hfine : Fine l0 := ⟨by have := hft0.2.1; omega, fun c hc => by have := hft0.1 c hc; omega⟩
    have hl1 : l0.length ≤ 3001 := by have := hft0.2.1; omega
    have hl2 : ∀ c ∈ l0, c.length ≤ 10000 := fun c hc => by have := hft0.1 c hc; omega
    have hpr := fun W (hW : Below w.heap.size w W) => printA_calls a0 c0 l0 W (Kd.C_below HR0.out hW) HC0.out (by omega) hl2 ((Lib.tabBelow_of_tabIs HT.out) W hW)
    have HPR := Lib.hid hpr
    have HFINE0 := Lib.hid hfine
    have HL1 := Lib.hid hl1
    have HL2 := Lib.hid hl2
    clear hft0 h0 hfine hl1 hl2 hpr
    rintro e w' ⟨rfl, nd0, rfl⟩
    have HB2 : Aside0 (Below w.heap.size w (w1.drewN nd0)) := ⟨pw_below_drewN HB1.out _⟩
    generalize w1.drewN nd0 = w2 at HB2 ⊢
    clear HB1 HF0
    by_cases h3 : s.length > 3000
    · have h3b : decide ((s.length : Int) > 3000) = true := decide_eq_true (by omega)
      have h3c : decide (3000 < s.length) = true := decide_eq_true (by omega)
      clear h3
      go_wp2
      go_ret
      exact ⟨rfl, HB2.out⟩
    have h3b : decide ((s.length : Int) > 3000) = false := decide_eq_false (by omega)
    have h3c : decide (3000 < s.length) = false := decide_eq_false (by omega)
    have hp := parse_calls s (by omega)
    obtain ⟨R, e1, e2, hR⟩ : ∃ R e1 e2, parseP s = (R, e1, e2) := ⟨_, _, _, rfl⟩
    rw [hR] at hp
    have hcode := parse_code hR
    have hri : e1 = 0 → lRight R = true ∧ R.length ≤ 3001 ∧ (∀ c ∈ R, c.length ≤ 10000) ∧ Fine R := fun h => by
      have h2 := parse_right hR h
      exact ⟨h2.1, by omega, fun c hc => by have := h2.2.2 c hc; omega, ⟨by omega, fun c hc => by have := h2.2.2 c hc; omega⟩⟩
    have HRI := Lib.hid hri
    have HCODE := Lib.hid hcode
    have HP := Lib.hid hp
    clear h3 hp hR hri hcode
    unfold printA at HPR
    cases hr : lRight l0 with
    | true =>
      rw [hr] at HPR
      simp only [if_true] at HPR
      have hpb := fun W hW => parse_back hr HL1.out HL2.out W hW
      have HPB := Lib.hid hpb
      generalize printL l0 = pt0 at HPR HPB hpb
      clear hr hpb
      go_wp2_with fail
      refine (HPR.out _ HB2.out).mono ?_
      rintro e w3 ⟨rfl, hb3⟩
      have HB3 := Aside0.mk (below_then HB2.out HB2.out.size hb3)
      clear hb3 HB2 HPR
      go_wp2_with fail
      refine (HPB.out _ (HL.out.below HB3.out)).mono ?_
      rintro e w4 ⟨⟨v4, rfl, hN4⟩, hb4⟩
      have HB4 := Aside0.mk (below_then HB3.out HB3.out.size hb4)
      obtain ⟨A4, c4, rfl, hl4, hC4⟩ := Kd.N_reads hN4
      have hsm := rsame_calls a0 c0 l0 A4 c4 l0 w4 (Kd.C_below HR0.out HB4.out) HC0.out hC4 hl4 HFINE0.out HFINE0.out
      rw [decide_eq_true rfl] at hsm
      have HSM := Lib.hid hsm
      clear hb4 HB3 hN4 hl4 hC4 hsm HPB
      go_wp2_with fail
      refine HSM.out.mono ?_
      rintro e w' ⟨rfl, nd5, rfl⟩
      have HBk : Aside0 (Below w.heap.size w (w4.drewN nd5)) := ⟨pw_below_drewN HB4.out _⟩
      generalize w4.drewN nd5 = wk at HBk ⊢
      clear HB4 HSM
      go_wp2_with fail
      refine (HP.out _ (HL.out.below HBk.out)).mono ?_
      rintro e wp ⟨⟨v2, rfl, hN2⟩, hb2⟩
      have HBp := Aside0.mk (below_then HBk.out HBk.out.size hb2)
      have HN2 := Aside0.mk hN2
      clear hb2 HBk hN2 HP
      rcases HCODE.out with rfl | rfl
      · obtain ⟨hrr, hrl1, hrl2, hrf⟩ := HRI.out rfl
        obtain ⟨A2, c2, rfl, hl2, hC2⟩ := Kd.N_reads HN2.out
        have hpr2 := print_calls A2 c2 R wp hC2 hl2 hrr (by omega) hrl2 ((Lib.tabBelow_of_tabIs HT.out) wp HBp.out)
        have hpb2 := fun W hW => parse_back hrr hrl1 hrl2 W hW
        have HPR2 := Lib.hid hpr2
        have HPB2 := Lib.hid hpb2
        have HC2 := Aside0.mk hC2
        have HL2' := Aside0.mk hl2
        have HRF := Lib.hid hrf
        clear hpr2 hpb2 hC2 hl2 hrr hrl1 hrl2 hrf HN2 HRI HCODE
        generalize printL R = pt at HPR2 HPB2
        go_wp2_with fail
        refine HPR2.out.mono ?_
        rintro e w5 ⟨rfl, hb5⟩
        have HB5 := Aside0.mk (below_then HBp.out HBp.out.size hb5)
        have HC5 := Aside0.mk (Kd.C_below HC2.out hb5)
        clear hb5 HBp HC2 HPR2
        go_wp2_with fail
        refine (HPB2.out _ (HL.out.below HB5.out)).mono ?_
        rintro e w6 ⟨⟨v6, rfl, hN6⟩, hb6⟩
        have HB6 := Aside0.mk (below_then HB5.out HB5.out.size hb6)
        obtain ⟨A6, c6, rfl, hl6, hC6⟩ := Kd.N_reads hN6
        have hsm2 := rsame_calls A2 c2 R A6 c6 R w6 (Kd.C_below HC5.out hb6) HL2'.out hC6 hl6 HRF.out HRF.out
        rw [decide_eq_true rfl] at hsm2
        have HSM2 := Lib.hid hsm2
        clear hb6 HB5 hN6 hl6 hC6 hsm2 HPB2 HC5 HL2'
        go_wp2_with fail
        refine HSM2.out.mono ?_
        rintro e w7 ⟨rfl, nd7, rfl⟩
        go_wp2
        go_ret
        exact ⟨by simp, pw_below_drewN HB6.out _⟩
      · clear HN2 HRI HCODE
        go_wp2
        go_ret
        exact ⟨rfl, HBp.out⟩
    | false =>
      rw [hr] at HPR
      simp only [Bool.false_eq_true, if_false] at HPR
      clear hr
      go_wp2_with fail
      refine (HPR.out _ HB2.out).mono ?_
      rintro e w3 ⟨rfl, hb3⟩
      have HBk := Aside0.mk (below_then HB2.out HB2.out.size hb3)
      clear hb3 HB2 HPR
      go_wp2_with fail
      refine (HP.out _ (HL.out.below HBk.out)).mono ?_
      rintro e wp ⟨⟨v2, rfl, hN2⟩, hb2⟩
      have HBp := Aside0.mk (below_then HBk.out HBk.out.size hb2)
      have HN2 := Aside0.mk hN2
      clear hb2 HBk hN2 HP
      rcases HCODE.out with rfl | rfl
      · obtain ⟨hrr, hrl1, hrl2, hrf⟩ := HRI.out rfl
        obtain ⟨A2, c2, rfl, hl2, hC2⟩ := Kd.N_reads HN2.out
        have hpr2 := print_calls A2 c2 R wp hC2 hl2 hrr (by omega) hrl2 ((Lib.tabBelow_of_tabIs HT.out) wp HBp.out)
        have hpb2 := fun W hW => parse_back hrr hrl1 hrl2 W hW
        have HPR2 := Lib.hid hpr2
        have HPB2 := Lib.hid hpb2
        have HC2 := Aside0.mk hC2
        have HL2' := Aside0.mk hl2
        have HRF := Lib.hid hrf
        clear hpr2 hpb2 hC2 hl2 hrr hrl1 hrl2 hrf HN2 HRI HCODE
        generalize printL R = pt at HPR2 HPB2
        go_wp2_with fail
        refine HPR2.out.mono ?_
        rintro e w5 ⟨rfl, hb5⟩
        have HB5 := Aside0.mk (below_then HBp.out HBp.out.size hb5)
        have HC5 := Aside0.mk (Kd.C_below HC2.out hb5)
        clear hb5 HBp HC2 HPR2
        go_wp2_with fail
        refine (HPB2.out _ (HL.out.below HB5.out)).mono ?_
        rintro e w6 ⟨⟨v6, rfl, hN6⟩, hb6⟩
        have HB6 := Aside0.mk (below_then HB5.out HB5.out.size hb6)
        obtain ⟨A6, c6, rfl, hl6, hC6⟩ := Kd.N_reads hN6
        have hsm2 := rsame_calls A2 c2 R A6 c6 R w6 (Kd.C_below HC5.out hb6) HL2'.out hC6 hl6 HRF.out HRF.out
        rw [decide_eq_true rfl] at hsm2
        have HSM2 := Lib.hid hsm2
        clear hb6 HB5 hN6 hl6 hC6 hsm2 HPB2 HC5 HL2'
        go_wp2_with fail
        refine HSM2.out.mono ?_
        rintro e w7 ⟨rfl, nd7, rfl⟩
        go_wp2
        go_ret
        exact ⟨by simp, pw_below_drewN HB6.out _⟩
      · clear HN2 HRI HCODE
        go_wp2
        go_ret
        exact ⟨rfl, HBp.out⟩
end Go.Proofs.YtnknoaolbjofiaaDoor.Cl
