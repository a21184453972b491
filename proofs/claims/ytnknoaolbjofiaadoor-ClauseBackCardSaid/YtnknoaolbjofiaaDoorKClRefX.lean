/- For the statement of the row ClauseBack: what its proof needs of the text ClRefX. -/
import Derived.Test.YtnknoaolbjofiaaDoorKClTextP
import Derived.Test.YtnknoaolbjofiaaDoorKYy3
import Derived.Test.YtnknoaolbjofiaaDoorKYy4
import Derived.Test.YtnknoaolbjofiaaDoorKClIdle14
import Derived.Test.YtnknoaolbjofiaaDoorKXx7
import Derived.Test.YtnknoaolbjofiaaDoorKB4
import Derived.Test.YtnknoaolbjofiaaDoorKClLaw14P
import Derived.Test.YtnknoaolbjofiaaDoorKYy5
import Derived.Test.YtnknoaolbjofiaaDoorKClLine
import Derived.Test.YtnknoaolbjofiaaDoorKYy6
import Derived.Test.YtnknoaolbjofiaaDoorKYy7

set_option linter.unusedVariables false
set_option linter.unusedSimpArgs false
namespace Go.Proofs.YtnknoaolbjofiaaDoor.Cl
open Go.RowKit Go.Proofs.YtnknoaolbjofiaaDoorW.PrintWords Go.Proofs.YtnknoaolbjofiaaDoorW.PrintLast Go.Proofs.YtnknoaolbjofiaaDoorW.PrintMore
open Go.Proofs.YtnknoaolbjofiaaDoor.X
theorem rsame_ev {a b : List (List Int)} (ha : Fine a) (hb : Fine b) : Ev (fun k => backreachref14_Same.f k a b) (decide (a = b)) := by
  by_cases hl : a.length = b.length
  · have out : ∀ d i : Nat, i ≤ a.length → a.length - i = d → (∀ j (h1 : j < a.length) (h2 : j < b.length), j < i → a[j] = b[j]) → Ev (fun k => backreachref14_Same.l0 k a b (i : Int)) (decide (a = b)) := by
      intro d
      induction d with
      | zero =>
        intro i hi hd hp
        have hab : a = b := List.ext_getElem hl fun j h1 h2 => hp j h1 h2 (by omega)
        rw [decide_eq_true hab]
        refine Ev.step (f := fun _ => some true) (fun k => ?_) (Ev.now _)
        simp only [backreachref14_Same.l0]
        rw [if_neg (by omega)]
      | succ d ih =>
        intro i hi hd hp
        have hlt : i < a.length := by omega
        have hltb : i < b.length := by omega
        have hal := ha.1
        have hci := ha.2 _ (List.getElem_mem hlt)
        have bad : a[i] ≠ b[i] → decide (a = b) = false := fun h => decide_eq_false (fun e => h (by subst e; rfl))
        by_cases hll : a[i].length = b[i].length
        · have inn : ∀ e j : Nat, j ≤ a[i].length → a[i].length - j = e → (∀ q (h1 : q < a[i].length) (h2 : q < b[i].length), q < j → a[i][q] = b[i][q]) → Ev (fun k => backreachref14_Same.l1 k a b (i : Int) (j : Int)) (decide (a = b)) := by
            intro e
            induction e with
            | zero =>
              intro j hj he hq
              have hab : a[i] = b[i] := List.ext_getElem hll fun q h1 h2 => hq q h1 h2 (by omega)
              have h2 := ih (i + 1) hlt (by omega) (fun q h1 h2 h3 => by
                rcases Nat.lt_or_ge q i with h | h
                · exact hp q h1 h2 h
                · obtain rfl : q = i := by omega
                  exact hab)
              refine Ev.step (fun k => ?_) h2
              simp only [backreachref14_Same.l1]
              rw [if_pos (by omega), if_pos (by omega), rdL_at hlt, if_neg (by omega), wrap_nat (by omega)]
            | succ e ihe =>
              intro j hj he hq
              have hjlt : j < a[i].length := by omega
              have hjlb : j < b[i].length := by omega
              by_cases hx : a[i][j] = b[i][j]
              · have h2 := ihe (j + 1) hjlt (by omega) (fun q h1 h2 h3 => by
                  rcases Nat.lt_or_ge q j with h | h
                  · exact hq q h1 h2 h
                  · obtain rfl : q = j := by omega
                    exact hx)
                refine Ev.step (fun k => ?_) h2
                simp only [backreachref14_Same.l1]
                rw [if_pos (by omega), if_pos (by omega), rdL_at hlt, if_pos (by omega), if_pos (by omega), if_pos (by omega), rdL_at hltb, if_pos (by omega), rd_at hjlt, rd_at hjlb, if_pos hx, wrap_nat (by omega)]
              · rw [bad (fun h => hx (by simp only [h]))]
                refine Ev.step (f := fun _ => some false) (fun k => ?_) (Ev.now _)
                simp only [backreachref14_Same.l1]
                rw [if_pos (by omega), if_pos (by omega), rdL_at hlt, if_pos (by omega), if_pos (by omega), if_pos (by omega), rdL_at hltb, if_pos (by omega), rd_at hjlt, rd_at hjlb, if_neg hx]
          have h1 := inn _ 0 (Nat.zero_le _) rfl (fun q _ _ h => by omega)
          refine Ev.step (fun k => ?_) h1
          simp only [backreachref14_Same.l0]
          rw [if_pos (by omega), if_pos (by omega), if_pos (by omega), rdL_at hlt, rdL_at hltb, if_pos (by omega)]
          rfl
        · rw [bad (fun h => hll (by rw [h]))]
          refine Ev.step (f := fun _ => some false) (fun k => ?_) (Ev.now _)
          simp only [backreachref14_Same.l0]
          rw [if_pos (by omega), if_pos (by omega), if_pos (by omega), rdL_at hlt, rdL_at hltb, if_neg (by omega)]
    have h := out _ 0 (Nat.zero_le _) rfl (fun j _ _ h => by omega)
    refine Ev.congr (fun k => ?_) h
    simp only [backreachref14_Same.f]
    rw [if_pos (by omega)]
    rfl
  · rw [decide_eq_false (fun e => hl (by rw [e]))]
    refine Ev.congr (f := fun _ => some false) (fun k => ?_) (Ev.now _)
    simp only [backreachref14_Same.f]
    rw [if_neg (by omega)]
end Go.Proofs.YtnknoaolbjofiaaDoor.Cl
