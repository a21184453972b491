/- clause.Most: the greatest variable. -/
import Derived.Test.YtnknoaolbjofiaaDoorClRefA
import Derived.Test.YtnknoaolbjofiaaDoorClHolds
set_option linter.unusedVariables false
set_option linter.unusedSimpArgs false
namespace Go.Proofs.YtnknoaolbjofiaaDoor.Cl
open Go.RowKit Go.Proofs.YtnknoaolbjofiaaDoorW.PrintWords Go.Proofs.YtnknoaolbjofiaaDoorW.PrintLast Go.Proofs.YtnknoaolbjofiaaDoorW.PrintMore
attribute [local go_sem] max2_int min2_int

theorem most_snoc (l : List (List Int)) (c : List Int) (n : Nat) : (l ++ [c]).foldl mostC n = mostC (l.foldl mostC n) c := by rw [List.foldl_append]; rfl
theorem mostC_snoc (c : List Int) (x : Int) (n : Nat) : mostC n (c ++ [x]) = max (mostC n c) x.natAbs := by
  induction c generalizing n with
  | nil => rfl
  | cons y c ih => simp only [List.cons_append, mostC, ih]

theorem mostC_le {c : List Int} (h : cRight c = true) {n : Nat} (hn : n ≤ 1048576) : mostC n c ≤ 1048576 := by
  induction c generalizing n with
  | nil => exact hn
  | cons x c ih =>
    have h' : litOk x = true ∧ cRight c = true := by
      unfold cRight at h ⊢
      rw [List.all_cons, Bool.and_eq_true] at h
      exact h
    have hx := h'.1
    simp [litOk] at hx
    simp only [mostC]
    exact ih h'.2 (by omega)
theorem most_bound {l : List (List Int)} (h : lRight l = true) {n : Nat} (hn : n ≤ 1048576) : l.foldl mostC n ≤ 1048576 := by
  induction l generalizing n with
  | nil => exact hn
  | cons c l ih =>
    have h' : cRight c = true ∧ lRight l = true := by
      unfold lRight at h ⊢
      rw [List.all_cons, Bool.and_eq_true] at h
      exact h
    exact ih h'.2 (mostC_le h'.1 hn)

set_option maxRecDepth 100000 in
set_option maxHeartbeats 4000000 in
theorem most_calls (A : Option Addr) (cap : Nat) (l : List (List Int)) (w : World) (hC : KRh.C w A l.length l) (hcap : l.length ≤ cap) (hr : lRight l = true) :
    Calls Tryd.prog 24 #[.slice A l.length cap] w fun e w' => e = .returned (.int .i64 (most l : Int)) ∧ w' = w := by
  have HC := Aside0.mk hC
  have HR := Lib.hid hr
  have hlen : l.length ≤ 9223372036854775807 := by have h1 := hC.1; have h2 := hC.2.1; omega
  clear hC hr
  go_enter Tryd.func24, Tryd.ntmps24
  go_wp2
  go_loop [3, 10] (fun v3 v10 => ∃ i n : Nat, v10 = .int .i64 i ∧ v3 = .int .i64 n ∧ Aside0 (i ≤ l.length) ∧ Aside0 (n = (l.take i).foldl mostC 0)) (fun _ i => l.length - (intOf i).toNat)
  case atStart => exact ⟨0, 0, rfl, rfl, ⟨Nat.zero_le _⟩, ⟨rfl⟩⟩
  case round =>
    obtain ⟨i, n, rfl, rfl, hi, hn⟩ := hrel
    have hi := hi.out
    by_cases hlt : i < l.length
    · obtain ⟨ad, c, e, _, hK, hc0⟩ := Kd.C_get HC.out ([] : List Int) (i : Int) (by omega) (by omega)
      simp only [Int.toNat_natCast, List.getD_eq_getElem?_getD, List.getElem?_eq_getElem hlt, Option.getD_some] at hK hc0
      obtain ⟨A0, c0, rfl, l0, g0⟩ := hK
      cases e
      have hcell : w.cell? (ad.add i) = some (.slice A0 l[i].length c0) := by
        have hq := hc0 0 _ rfl
        rwa [Nat.add_zero, show (i * KRh.sz) = i from Nat.mul_one i] at hq
      have G0 := Aside0.mk g0
      have hcl : l[i].length ≤ 9223372036854775807 := by have h1 := g0.1; have h2 := g0.2.1; omega
      have HCR := Lib.hid (cRight_of HR.out (List.getElem_mem hlt))
      have hnb : n ≤ 1048576 := by rw [hn.out]; exact most_bound (by unfold lRight; rw [List.all_eq_true]; intro d hd; exact cRight_of HR.out (List.mem_of_mem_take hd)) (by omega)
      have HNB := Aside0.mk hnb
      have hnx : (l.take (i + 1)).foldl mostC 0 = mostC n l[i] := by rw [List.take_succ_eq_append_getElem hlt, most_snoc, ← hn.out]
      have HNX := Lib.hid hnx
      clear hc0 g0 hnx hnb
      generalize l[i] = c at hcell G0 hcl HCR HNX
      go_wp2
      go_loop [3, 16] (fun v3 v16 => ∃ j m : Nat, v16 = .int .i64 j ∧ v3 = .int .i64 m ∧ Aside0 (j ≤ c.length) ∧ Aside0 (m = mostC n (c.take j))) (fun _ j => c.length - (intOf j).toNat)
      case atStart => exact ⟨0, n, rfl, rfl, ⟨Nat.zero_le _⟩, ⟨rfl⟩⟩
      case round =>
        obtain ⟨j, m, rfl, rfl, hj, hm⟩ := hrel
        have hj := hj.out
        by_cases hjlt : j < c.length
        · obtain ⟨ad2, e2, hcell2⟩ := Kd.at_int G0.out (j : Int) (by omega) (by omega)
          cases e2
          rw [rd_at hjlt, Int.toNat_natCast] at hcell2
          have hx := List.all_eq_true.1 HCR.out c[j] (List.getElem_mem hjlt)
          simp [litOk] at hx
          have hvar := fun W => variable_any c[j] W
          rw [show vr c[j] = (c[j].natAbs : Int) by unfold vr mx wrap64; split <;> omega] at hvar
          have HV := Lib.hid hvar
          have hmx : mostC n (c.take (j + 1)) = max m c[j].natAbs := by rw [List.take_succ_eq_append_getElem hjlt, mostC_snoc, ← hm.out]
          have HMX := Lib.hid hmx
          clear hvar hmx hx
          generalize c[j] = x at hcell2 HV HMX
          generalize x.natAbs = a at HV HMX
          go_wp2_with (go_at_call 35; refine (HV.out _).mono ?_; rintro e w' ⟨rfl, rfl⟩)
          go_round
          case rel => exact ⟨j + 1, max m a, by go_num, by congr 1; omega, ⟨hjlt⟩, ⟨HMX.out.symm⟩⟩
          case measure => simp [intOf]; omega
        · have ej : j = c.length := by omega
          subst ej
          have hfin := HNX.out
          have hmm := hm.out
          rw [List.take_length] at hmm
          have HF := Aside0.mk (hmm.trans hfin.symm)
          clear hfin hmm
          go_wp2
          go_round
          case rel => exact ⟨i + 1, m, by go_num, rfl, ⟨hlt⟩, HF⟩
          case measure => simp [intOf]; omega
    · have ei : i = l.length := by omega
      subst ei
      have hfin := hn.out
      rw [List.take_length] at hfin
      have HF := Lib.hid hfin
      clear hfin
      go_wp2
      go_ret
      exact ⟨by unfold most; rw [← HF.out]; rfl, rfl⟩
end Go.Proofs.YtnknoaolbjofiaaDoor.Cl
