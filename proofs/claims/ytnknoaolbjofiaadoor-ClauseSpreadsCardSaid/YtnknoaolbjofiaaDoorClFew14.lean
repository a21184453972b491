/- The laws' 'few' of layer 14, and 'Ints' of layer 3's reference: what they tell. -/
import Derived.Test.YtnknoaolbjofiaaDoorClRefB
import Derived.Test.YtnknoaolbjofiaaDoorXx6
import Derived.Test.YtnknoaolbjofiaaDoorExtSpread
set_option linter.unusedVariables false
set_option linter.unusedSimpArgs false
namespace Go.Proofs.YtnknoaolbjofiaaDoor.Cl
open Go.RowKit Go.Proofs.YtnknoaolbjofiaaDoorW.PrintWords Go.Proofs.YtnknoaolbjofiaaDoorW.PrintLast Go.Proofs.YtnknoaolbjofiaaDoorW.PrintMore
open Go.Proofs.YtnknoaolbjofiaaDoor.X

theorem few14_ev {l : List (List Int)} (hl : l.length < 9223372036854775807) : Ev (fun k => backreachlaw14_few.f k l) (small l 200 20 200) := by
  have h := rsmall_ev hl (a := 200) (b := 20) (v := 200) (by omega)
  exact Ev.bind h (Ev.now _)
theorem few14_total {l : List (List Int)} (h : small l 200 20 200 = true) : (∀ c ∈ l, c.length ≤ 20) ∧ l.length ≤ 200 ∧ total l ≤ 4000 := by
  have := small_fine (by omega) (by omega) h
  refine ⟨this.2.2.1, this.2.1, ?_⟩
  have h2 := small_total this.2.2.1
  have h3 := this.2.1
  omega
theorem few14_calls (A : Option Addr) (cap : Nat) (l : List (List Int)) (w : World) (hC : Kd.C (Kd.slice 3 (Kd.int .i64)) w A l.length l) (hcap : l.length ≤ cap) (hl : l.length < 9223372036854775807) :
    Calls Tryd.prog 11 #[.slice A l.length cap] w fun e w' => e = .returned (.bool (small l 200 20 200)) ∧ ∃ n, w' = w.drewN n := by
  obtain ⟨k, hk⟩ := (few14_ev hl).rounds
  exact (backreachlaw14_few.calls k A cap l _ w hC hcap hk).mono fun e w' ⟨he, hd⟩ => ⟨he, hd.out⟩

theorem ints_ev {a b : List Int} (ha : a.length ≤ 9223372036854775807) : Ev (fun k => backreachref03_Ints.f k a b) (decide (a = b)) := by
  by_cases hl : a.length = b.length
  · have loop : ∀ d i : Nat, i ≤ a.length → a.length - i = d → (∀ j (h1 : j < a.length) (h2 : j < b.length), j < i → a[j] = b[j]) → Ev (fun k => backreachref03_Ints.l0 k a b (i : Int)) (decide (a = b)) := by
      intro d
      induction d with
      | zero =>
        intro i hi hd hp
        have hab : a = b := List.ext_getElem hl fun j h1 h2 => hp j h1 h2 (by omega)
        rw [decide_eq_true hab]
        refine Ev.step (f := fun _ => some true) (fun k => ?_) (Ev.now _)
        simp only [backreachref03_Ints.l0]
        rw [if_neg (by omega)]
      | succ d ih =>
        intro i hi hd hp
        have hlt : i < a.length := by omega
        have hltb : i < b.length := by omega
        by_cases he : a[i] = b[i]
        · refine Ev.step (f := fun k => backreachref03_Ints.l0 k a b ((i + 1 : Nat) : Int)) (fun k => ?_) (ih (i + 1) hlt (by omega) fun j h1 h2 hj => ?_)
          · simp only [backreachref03_Ints.l0]
            rw [if_pos (by omega), if_pos (by omega), if_pos (by omega), rd_at hlt, rd_at hltb, if_pos he, wrap_nat (by omega)]
          · rcases Nat.lt_or_ge j i with h3 | h3
            · exact hp j h1 h2 h3
            · obtain rfl : j = i := by omega
              exact he
        · have hne : a ≠ b := fun e => he (by subst e; rfl)
          rw [decide_eq_false hne]
          refine Ev.step (f := fun _ => some false) (fun k => ?_) (Ev.now _)
          simp only [backreachref03_Ints.l0]
          rw [if_pos (by omega), if_pos (by omega), if_pos (by omega), rd_at hlt, rd_at hltb, if_neg he]
    refine Ev.congr (f := fun k => backreachref03_Ints.l0 k a b 0) (fun k => ?_) (loop a.length 0 (Nat.zero_le _) rfl fun j _ _ h => by omega)
    simp only [backreachref03_Ints.f]
    rw [if_pos (by omega)]
  · have hne : a ≠ b := fun e => hl (by rw [e])
    rw [decide_eq_false hne]
    refine Ev.congr (f := fun _ => some false) (fun k => ?_) (Ev.now _)
    simp only [backreachref03_Ints.f]
    rw [if_neg (by omega)]
theorem ints_calls (A : Option Addr) (c0 : Nat) (a : List Int) (B : Option Addr) (c1 : Nat) (b : List Int) (w : World) (hr0 : Kd.C (Kd.int .i64) w A a.length a) (hc0 : a.length ≤ c0) (hr1 : Kd.C (Kd.int .i64) w B b.length b) (hc1 : b.length ≤ c1) (ha : a.length ≤ 9223372036854775807) :
    Calls Tryd.prog 14 #[.slice A a.length c0, .slice B b.length c1] w fun e w' => e = .returned (.bool (decide (a = b))) ∧ ∃ n, w' = w.drewN n := by
  obtain ⟨k, hk⟩ := (ints_ev (b := b) ha).rounds
  exact (backreachref03_Ints.calls k A c0 a B c1 b _ w hr0 hc0 hr1 hc1 hk).mono fun e w' ⟨he, hd⟩ => ⟨he, hd.out⟩
/-- Both Spreads, in plain words. -/
theorem spreads_calls (A : Option Addr) (c0 : Nat) (l : List (List Int)) (B : Option Addr) (c1 : Nat) (fr : List Int) (w : World) (hr0 : Kd.C (Kd.slice 3 (Kd.int .i64)) w A l.length l) (hc0 : l.length ≤ c0) (hr1 : Kd.C (Kd.int .i64) w B fr.length fr) (hc1 : fr.length ≤ c1) (hs : fr.length + total l < 4398046511104) (hl : l.length < 4398046511104) :
    Calls Tryd.prog 12 #[.slice A l.length c0, .slice B fr.length c1] w fun e w' => ∃ v, e = .returned (.tuple #[v, .bool (spread l fr).2]) ∧ Kd.R (Kd.int .i64) 3 w' w.heap.size (fun _ => True) v (spread l fr).1 ∧ Below w.heap.size w w' :=
  clause_Spread.calls A c0 l B c1 fr _ _ w hr0 hc0 hr1 hc1 (by unfold clause_Spread.f; rw [if_pos ⟨hs, hl⟩])
theorem rspreads_calls (A : Option Addr) (c0 : Nat) (l : List (List Int)) (B : Option Addr) (c1 : Nat) (fr : List Int) (w : World) (hr0 : Kd.C (Kd.slice 3 (Kd.int .i64)) w A l.length l) (hc0 : l.length ≤ c0) (hr1 : Kd.C (Kd.int .i64) w B fr.length fr) (hc1 : fr.length ≤ c1) (hs : fr.length + total l < 4398046511104) (hl : l.length < 4398046511104) (hf : ∀ c ∈ l, c.length < 4398046511104) :
    Calls Tryd.prog 13 #[.slice A l.length c0, .slice B fr.length c1] w fun e w' => ∃ v, e = .returned (.tuple #[v, .bool (spread l fr).2]) ∧ Kd.R (Kd.int .i64) 3 w' w.heap.size (fun k => w.heap.size ≤ k) v (spread l fr).1 ∧ Below w.heap.size w w' := by
  obtain ⟨k, hk⟩ := (rspread_ev (fr := fr) hf hl (by omega)).rounds
  exact backreachref14_Spread.calls k (fun q => q < w.heap.size) A c0 l (fun q => q < w.heap.size) B c1 fr _ _ w ⟨A, c0, rfl, hc0, Kd.C_F (Kd.heap_slice 3 (Kd.heap_int .i64)) hr0⟩ ⟨B, c1, rfl, hc1, Kd.C_F (Kd.heap_int .i64) hr1⟩ hk
end Go.Proofs.YtnknoaolbjofiaaDoor.Cl
