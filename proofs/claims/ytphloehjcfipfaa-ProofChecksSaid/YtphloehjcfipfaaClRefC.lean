/- The document's Turned, Follows and Check, as printed, tell what 'check' tells; and so the law ProofChecks answers true. -/
import Derived.Test.YtphloehjcfipfaaXx6
import Derived.Test.YtphloehjcfipfaaClRefB
import Derived.Test.YtphloehjcfipfaaClCheck
set_option linter.unusedVariables false
set_option linter.unusedSimpArgs false
namespace Go.Proofs.Ytphloehjcfipfaa.Cl
open Go.RowKit Go.Proofs.YtphloehjcfipfaaW.PrintWords Go.Proofs.YtphloehjcfipfaaW.PrintMore
open Go.Proofs.Ytphloehjcfipfaa.X

theorem rturned_ev {c : List Int} (hr : cRight c = true) (hc : c.length < 4398046511104) : Ev (fun k => backreachref17_Turned.f k c) (opp c) := by
  have loop : ∀ (d i : Nat) (o : List Int), i ≤ c.length → c.length - i = d → o.length = i → Ev (fun k => backreachref17_Turned.l0 k c o (i : Int)) (o ++ opp (c.drop i)) := by
    intro d
    induction d with
    | zero =>
      intro i o hi hd ho
      have e : i = c.length := by omega
      rw [e, List.drop_length]
      refine Ev.step (f := fun _ => some o) (fun k => ?_) (by simpa [opp] using Ev.now o)
      simp only [backreachref17_Turned.l0]
      rw [if_neg (by omega)]
    | succ d ih =>
      intro i o hi hd ho
      have hlt : i < c.length := by omega
      have hx := lit_bounds hr (List.getElem_mem hlt)
      have := ih (i + 1) (o ++ [-c[i]]) hlt (by omega) (by simp; omega)
      rw [List.drop_eq_getElem_cons hlt, show opp (c[i] :: c.drop (i + 1)) = -c[i] :: opp (c.drop (i + 1)) from rfl, List.append_cons]
      refine Ev.step (fun k => ?_) this
      simp only [backreachref17_Turned.l0]
      rw [if_pos (by omega), if_pos (by omega), if_pos (by omega), rd_at hlt, wrap_neg hx.1 hx.2.1, wrap_nat (by omega)]
  have := loop c.length 0 [] (Nat.zero_le _) rfl rfl
  simpa [backreachref17_Turned.f] using this

theorem rfollows_ev {l : List (List Int)} {c : List Int} (hr : cRight c = true) (hfine : ∀ c ∈ l, c.length < 4398046511104) (hll : l.length < 4398046511104) (hc : c.length < 4398046511104) : Ev (fun k => backreachref17_Follows.f k l c) (followsB l c) := by
  have hopp : (opp c).length = c.length := by simp [opp]
  refine Ev.bind (rturned_ev hr hc) ?_
  refine Ev.bind (rspread_ev hfine hll (by omega)) ?_
  exact Ev.now _

theorem take_one {p : List (List Int)} {i : Nat} (h : i < p.length) : (p.take (i + 1)).drop i = [p[i]] := by
  rw [List.take_succ_eq_append_getElem h, List.drop_append_of_le_length (by simp; omega), List.drop_eq_nil_of_le (by rw [List.length_take]; exact Nat.min_le_left _ _)]
  rfl
theorem empty_len (c : List Int) : ((c.length : Int) == 0) = c.isEmpty := by
  cases c with
  | nil => rfl
  | cons x r =>
    have : ((x :: r).length : Int) ≠ 0 := by simp only [List.length_cons]; omega
    rw [List.isEmpty_cons]
    simpa using this
theorem rcheck_ev {l p : List (List Int)} (hfl : ∀ c ∈ l, c.length < 4398046511104) (hfp : ∀ c ∈ p, c.length < 4398046511104) (hll : l.length + p.length < 4398046511104) : Ev (fun k => backreachref18_Check.f k l p) (check l p) := by
  have hF : Fine l := ⟨by omega, fun c hc => by have := hfl c hc; omega⟩
  refine Ev.bind (rright_ev hF) ?_
  unfold check
  cases hl : lRight l with
  | false =>
    rw [if_neg (by simp)]
    exact Ev.congr (fun k => if_neg (by simp)) (Ev.now _)
  | true =>
    rw [if_pos rfl]
    have loop : ∀ (d i : Nat), i ≤ p.length → p.length - i = d → Ev (fun k => backreachref18_Check.l0 k p (l ++ p.take i) ((p.take i).any List.isEmpty) (i : Int)) (checkGo l p (p.drop i)) := by
      intro d
      induction d with
      | zero =>
        intro i hi hd
        have e : i = p.length := by omega
        subst e
        rw [List.drop_length, checkGo, List.take_length]
        refine Ev.step (f := fun _ => some (if p.any List.isEmpty then ((0 : Int), (0 : Int)) else (11, (p.length : Int)))) (fun k => ?_) (Ev.now _)
        simp only [backreachref18_Check.l0]
        rw [if_neg (by omega)]
        cases p.any List.isEmpty <;> rfl
      | succ d ih =>
        intro i hi hd
        have hlt : i < p.length := by omega
        have hx := List.getElem_mem hlt
        have hlen : (p.drop (i + 1)).length + 1 = p.length - i := by simp; omega
        have hidx : p.length - ((p.drop (i + 1)).length + 1) = i := by omega
        have hone : lRight [p[i]] = cRight p[i] := by simp [lRight]
        have hF1 : Fine [p[i]] := ⟨by simp, fun c hc => by rw [List.mem_singleton] at hc; subst hc; have := hfp _ hx; omega⟩
        have hxl : (l ++ p.take i).length = l.length + i := by simp; omega
        have hR := rright_ev hF1
        rw [hone] at hR
        rw [List.drop_eq_getElem_cons hlt, checkGo, hidx]
        refine Ev.step (f := fun k => (backreachref14_Right.f k [p[i]]).bind fun t215 => (if t215 = true then ((backreachref17_Follows.f k (l ++ p.take i) p[i]).bind fun t217 => (if t217 = true then (backreachref18_Check.l0 k p (l ++ p.take (i + 1)) ((p.take (i + 1)).any List.isEmpty) ((i + 1 : Nat) : Int)) else (some (14, (i : Int))))) else (some (3, (i : Int))))) (fun k => ?_) ?_
        · simp only [backreachref18_Check.l0]
          rw [if_pos (by omega), if_pos (by omega), wrap_nat (by omega), if_pos (by omega), if_pos (by omega), Int.toNat_natCast, Int.toNat_natCast, take_one hlt, rdL_at hlt]
          have hlim : (l ++ p.take i).length < 5864062014805 := by omega
          simp only [if_pos hlim]
          have e2 : l ++ p.take i ++ [p[i]] = l ++ p.take (i + 1) := by rw [List.take_succ_eq_append_getElem hlt, List.append_assoc]
          have e3 : (p.take (i + 1)).any List.isEmpty = ((p.take i).any List.isEmpty || p[i].isEmpty) := by
            rw [List.take_succ_eq_append_getElem hlt, List.any_append]
            simp
          rw [e2, e3, empty_len]
          cases (p.take i).any List.isEmpty with
          | true => rfl
          | false => rfl
        · refine Ev.bind hR ?_
          cases hcr : cRight p[i] with
          | false =>
            rw [if_neg (by simp)]
            exact Ev.congr (fun k => if_neg (by simp)) (Ev.now _)
          | true =>
            rw [if_pos rfl]
            refine Ev.congr (fun k => if_pos rfl) ?_
            refine Ev.bind (rfollows_ev (l := l ++ p.take i) hcr (fun c hc => ?_) (by omega) (hfp _ hx)) ?_
            · rcases List.mem_append.1 hc with h | h
              · exact hfl c h
              · exact hfp c (List.mem_of_mem_take h)
            · cases followsB (l ++ p.take i) p[i] with
              | false =>
                rw [if_neg (by simp)]
                exact Ev.congr (fun k => if_neg (by simp)) (Ev.now _)
              | true =>
                rw [if_pos rfl]
                exact Ev.congr (fun k => if_pos rfl) (ih (i + 1) hlt (by omega))
    have := loop p.length 0 (Nat.zero_le _) rfl
    refine Ev.congr (f := fun k => backreachref18_Check.l0 k p l false 0) (fun k => ?_) (by simpa using this)
    rw [if_pos rfl, Option.bind_some, if_pos (by simp; omega), List.nil_append]

theorem few_ev {l : List (List Int)} (hl : l.length < 9223372036854775807) : Ev (fun k => backreachlaw18_few.f k l) (small l 100 12 40) := by
  have h := rsmall_ev hl (a := 100) (b := 12) (v := 40) (by omega)
  exact Ev.bind h (Ev.now _)
theorem few_total {l : List (List Int)} (h : small l 100 12 40 = true) : (∀ c ∈ l, c.length ≤ 12) ∧ l.length ≤ 100 ∧ total l ≤ 1200 := by
  have := small_fine (by omega) (by omega) h
  refine ⟨this.2.2.1, this.2.1, ?_⟩
  have h2 := small_total this.2.2.1
  have h3 := this.2.1
  omega

theorem checks_pure : backreachlaw18_ProofChecks.Pure := by
  intro l p _ hl _ _ hp _
  have main : Ev (fun k => backreachlaw18_ProofChecks.f k l p) true := by
    have hyes : ∀ b : Bool, (b = false → small l 100 12 40 = true ∧ small p 100 12 40 = true) → Ev (fun k => backreachlaw18_ProofChecks.j0 k l p b) true := fun b hb => by
      cases b with
      | true =>
        refine Ev.step (fun k => ?_) (Ev.now _)
        simp only [backreachlaw18_ProofChecks.j0]
        rw [if_pos trivial]
      | false =>
        obtain ⟨h1, h2⟩ := hb rfl
        obtain ⟨a1, a2, a3⟩ := few_total h1
        obtain ⟨b1, b2, b3⟩ := few_total h2
        refine Ev.step (f := fun k => (backreachref18_Check.f k l p).bind fun bt232 => (if (check l p).1 = bt232.1 then (some ((check l p).2 == bt232.2)) else (some false))) (fun k => ?_) ?_
        · simp only [backreachlaw18_ProofChecks.j0]
          rw [if_neg (by simp)]
          unfold proof_Check.f
          rw [if_pos ⟨by omega, by omega⟩, Option.bind_some]
        · refine Ev.bind (rcheck_ev (fun c hc => by have := a1 c hc; omega) (fun c hc => by have := b1 c hc; omega) (by omega)) ?_
          refine Ev.congr (fun k => ?_) (Ev.now _)
          rw [if_pos rfl]
          simp
    refine Ev.congr (f := fun k => (backreachlaw18_few.f k l).bind fun t228 => (if t228 = true then ((backreachlaw18_few.f k p).bind fun t229 => (backreachlaw18_ProofChecks.j0 k l p (!t229))) else (backreachlaw18_ProofChecks.j0 k l p true))) (fun k => ?_) ?_
    · simp only [backreachlaw18_ProofChecks.f]
      unfold backreachlaw18_awake.f
      rw [Option.bind_some, if_pos rfl]
    · refine Ev.bind (few_ev (by omega)) ?_
      cases h1 : small l 100 12 40 with
      | false => exact Ev.congr (fun k => if_neg (by simp)) (hyes true (fun e => by cases e))
      | true =>
        refine Ev.congr (fun k => if_pos rfl) ?_
        refine Ev.bind (few_ev (by omega)) ?_
        exact hyes _ fun e => by
          cases h2 : small p 100 12 40 with
          | true => exact ⟨h1, rfl⟩
          | false => rw [h2] at e; cases e
  exact main.rounds
end Go.Proofs.Ytphloehjcfipfaa.Cl
