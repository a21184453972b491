/- The document's Print and Holds of layer 14: what the printed functions tell. -/
import Derived.Test.YtnknoaolbjofiaaDoorYy3
import Derived.Test.YtnknoaolbjofiaaDoorYy4
import Derived.Test.YtnknoaolbjofiaaDoorClModels14
set_option linter.unusedVariables false
set_option linter.unusedSimpArgs false
namespace Go.Proofs.YtnknoaolbjofiaaDoor.Cl
open Go.RowKit Go.Proofs.YtnknoaolbjofiaaDoorW.PrintWords Go.Proofs.YtnknoaolbjofiaaDoorW.PrintLast Go.Proofs.YtnknoaolbjofiaaDoorW.PrintMore
open Go.Proofs.YtnknoaolbjofiaaDoor.X

theorem str_one (n : Nat) : strOfNums [(n : Int)] = ⟨[UInt8.ofNat n].toArray⟩ := by
  simp [strOfNums]
theorem size_of (l : List UInt8) : (⟨l.toArray⟩ : ByteArray).size = l.length := by simp [ByteArray.size]
theorem nDigits_bound {u : Nat} (h : u < 18446744073709551616) : (Lib.decDigits u).length ≤ 20 := by rw [Lib.decDigits_length]; exact Lib.nDigits_le20 u h
theorem litsT_cons (x : Int) (c : List Int) : litsT (x :: c) = Lib.itoa x ++ [32] ++ litsT c := by simp [litsT]
theorem linesT_cons (c : List Int) (l : List (List Int)) : linesT (c :: l) = litsT c ++ [48, 10] ++ linesT l := by simp [linesT, printC, litsT]
theorem digits_ev (n : Nat) : ∀ (u : Nat) (acc : List UInt8), u ≤ n → u < 18446744073709551616 → (Lib.decDigits u).length + acc.length ≤ 1000 → Ev (fun k => backreachref04_Digits.l0 k (u : Int) ⟨acc.toArray⟩) ⟨(Lib.decDigits u ++ acc).toArray⟩ := by
  induction n with
  | zero =>
    intro u acc hu _ hl
    obtain rfl : u = 0 := by omega
    have e0 : Lib.decDigits 0 = [48] := Lib.decDigits_one (by omega)
    rw [e0] at hl ⊢
    refine Ev.step (f := fun _ => some _) (fun k => ?_) (Ev.now _)
    simp only [backreachref04_Digits.l0]
    rw [if_neg (by omega), Option.bind_some, show ((IntKind.u64.wrap (48 + ((0 : Nat) : Int))) % 256) = ((48 : Nat) : Int) from by rw [IntWalk.u64_in _ (by omega)]; rfl, str_one, size_of, size_of, if_pos (by simp at hl ⊢; omega), str_app]
    rfl
  | succ n ih =>
    intro u acc hu hlt hl
    by_cases h9 : u < 10
    · have e0 : Lib.decDigits u = [UInt8.ofNat (48 + u)] := Lib.decDigits_one h9
      rw [e0] at hl ⊢
      refine Ev.step (f := fun _ => some _) (fun k => ?_) (Ev.now _)
      simp only [backreachref04_Digits.l0]
      rw [if_neg (by omega), Option.bind_some, show ((IntKind.u64.wrap (48 + (u : Int))) % 256) = ((48 + u : Nat) : Int) from by rw [IntWalk.u64_in _ (by omega)]; omega, str_one, size_of, size_of, if_pos (by simp at hl ⊢; omega), str_app]
    · have e0 : Lib.decDigits u = Lib.decDigits (u / 10) ++ [UInt8.ofNat (48 + u % 10)] := by rw [Lib.decDigits, dif_neg h9]
      rw [e0] at hl ⊢
      have hi := ih (u / 10) ([UInt8.ofNat (48 + u % 10)] ++ acc) (by omega) (by omega) (by simp at hl ⊢; omega)
      rw [← List.append_assoc] at hi
      refine Ev.step (fun k => ?_) hi
      simp only [backreachref04_Digits.l0]
      rw [if_pos (by omega), Option.bind_some, show (Int.tmod (u : Int) 10) = ((u % 10 : Nat) : Int) from by rw [Int.tmod_eq_emod_of_nonneg (by omega)]; omega, show ((IntKind.u64.wrap (48 + ((u % 10 : Nat) : Int))) % 256) = ((48 + u % 10 : Nat) : Int) from by rw [IntWalk.u64_in _ (by omega)]; omega, str_one, size_of, size_of, if_pos (by simp at hl ⊢; omega), str_app, show IntKind.u64.wrap (Int.tdiv (u : Int) 10) = ((u / 10 : Nat) : Int) from by rw [Int.tdiv_eq_ediv_of_nonneg (by omega), IntWalk.u64_in _ (by omega)]; omega]
theorem signed_ev {x : Int} (h0 : -9223372036854775808 ≤ x) (h1 : x ≤ 9223372036854775807) : Ev (fun k => backreachref14_signed.f k x) ⟨(Lib.itoa x).toArray⟩ := by
  by_cases h : x < 0
  · obtain ⟨u, rfl⟩ : ∃ u : Nat, x = -(u : Int) := ⟨x.natAbs, by omega⟩
    have hd := digits_ev u u [] (Nat.le_refl _) (by omega) (by have := nDigits_bound (u := u) (by omega); simp; omega)
    rw [List.append_nil] at hd
    rw [Lib.itoa_neg u (by omega)]
    refine Ev.congr (f := fun k => (backreachref04_Digits.l0 k (u : Int) ⟨([] : List UInt8).toArray⟩).bind fun t107 => (if 1 + t107.size ≤ 9223372036854775807 then (some ((⟨#[45]⟩ : ByteArray) ++ t107)) else (none))) (fun k => ?_) (Ev.bind hd ?_)
    · simp only [backreachref14_signed.f, backreachref04_Digits.f]
      rw [if_pos h]
      have e1 : wrap64 (-(u : Int) + 1) = -(u : Int) + 1 := by unfold wrap64; omega
      have e2 : wrap64 (-(-(u : Int) + 1)) = (u : Int) - 1 := by unfold wrap64; omega
      rw [e1, e2, IntWalk.u64_in ((u : Int) - 1) (by omega), show (u : Int) - 1 + 1 = u by omega, IntWalk.u64_in (u : Int) (by omega)]
    · rw [size_of, if_pos (by have := nDigits_bound (u := u) (by omega); omega)]
      have e : (⟨#[45]⟩ : ByteArray) ++ ⟨(Lib.decDigits u).toArray⟩ = ⟨(45 :: Lib.decDigits u).toArray⟩ := str_app [45] (Lib.decDigits u)
      rw [e]
      exact Ev.now _
  · obtain ⟨u, rfl⟩ : ∃ u : Nat, x = (u : Int) := ⟨x.natAbs, by omega⟩
    have hd := digits_ev u u [] (Nat.le_refl _) (by omega) (by have := nDigits_bound (u := u) (by omega); simp; omega)
    rw [List.append_nil] at hd
    rw [Lib.itoa_nonneg]
    refine Ev.congr (f := fun k => (backreachref04_Digits.l0 k (u : Int) ⟨([] : List UInt8).toArray⟩).bind fun t108 => (some t108)) (fun k => ?_) (Ev.bind hd (Ev.now _))
    simp only [backreachref14_signed.f, backreachref04_Digits.f]
    rw [if_neg h, IntWalk.u64_in _ (by omega)]

/-! ### Print -/
theorem pl_ev {l : List (List Int)} (hr : lRight l = true) (hl1 : l.length ≤ 10000) (hl2 : ∀ c ∈ l, c.length ≤ 10000) (d : Nat) : ∀ (i : Nat) (T : List UInt8), i ≤ l.length → l.length - i = d → T.length ≤ 60 + 220002 * i → Ev (fun k => backreachref14_Print.l0 k l ⟨T.toArray⟩ (i : Int)) (⟨(T ++ linesT (l.drop i)).toArray⟩, 0) := by
  induction d with
  | zero =>
    intro i T hi hd hT
    have e : i = l.length := by omega
    subst e
    rw [List.drop_length, show linesT [] = [] from rfl, List.append_nil]
    refine Ev.step (f := fun _ => some _) (fun k => ?_) (Ev.now _)
    simp only [backreachref14_Print.l0]
    rw [if_neg (by omega)]
  | succ d ih =>
    intro i T hi hd hT
    have hlt : i < l.length := by omega
    have hc := hl2 _ (List.getElem_mem hlt)
    have hin : ∀ (e j : Nat) (T2 : List UInt8), j ≤ l[i].length → l[i].length - j = e → T2.length ≤ 60 + 220002 * i + 22 * j → Ev (fun k => backreachref14_Print.l1 k l ⟨T2.toArray⟩ (i : Int) (j : Int)) (⟨(T2 ++ litsT (l[i].drop j) ++ [48, 10] ++ linesT (l.drop (i + 1))).toArray⟩, 0) := by
      intro e
      induction e with
      | zero =>
        intro j T2 hj he hT2
        have e : j = l[i].length := by omega
        subst e
        rw [List.drop_length, show litsT [] = [] from rfl, List.append_nil]
        have h2 := ih (i + 1) (T2 ++ [48, 10]) hlt (by omega) (by simp; omega)
        refine Ev.step (fun k => ?_) h2
        simp only [backreachref14_Print.l1]
        rw [if_pos (by omega), if_pos (by omega), rdL_at hlt, if_neg (by omega), size_of, if_pos (by omega), wrap_nat (by omega)]
        rw [show (⟨T2.toArray⟩ : ByteArray) ++ ⟨#[48, 10]⟩ = ⟨(T2 ++ [48, 10]).toArray⟩ from str_app T2 [48, 10]]
      | succ e ihe =>
        intro j T2 hj he hT2
        have hjlt : j < l[i].length := by omega
        have hx := List.all_eq_true.1 (cRight_of hr (List.getElem_mem hlt)) _ (List.getElem_mem hjlt)
        simp [litOk] at hx
        have hlen := Lib.itoa_length_le l[i][j] (by omega) (by omega)
        have h2 := ihe (j + 1) (T2 ++ Lib.itoa l[i][j] ++ [32]) hjlt (by omega) (by simp; omega)
        have hs := signed_ev (x := l[i][j]) (by omega) (by omega)
        have e1 : litsT (l[i].drop j) = Lib.itoa l[i][j] ++ [32] ++ litsT (l[i].drop (j + 1)) := by rw [List.drop_eq_getElem_cons hjlt, litsT_cons]
        rw [e1]
        have e2 : T2 ++ (Lib.itoa l[i][j] ++ [32] ++ litsT (l[i].drop (j + 1))) = T2 ++ Lib.itoa l[i][j] ++ [32] ++ litsT (l[i].drop (j + 1)) := by simp
        rw [e2]
        refine Ev.step (f := fun k => (backreachref14_signed.f k l[i][j]).bind fun t116 => (if (⟨T2.toArray⟩ : ByteArray).size + t116.size ≤ 9223372036854775807 then (if ((⟨T2.toArray⟩ : ByteArray) ++ t116).size + 1 ≤ 9223372036854775807 then (backreachref14_Print.l1 k l (((⟨T2.toArray⟩ : ByteArray) ++ t116) ++ (⟨#[32]⟩ : ByteArray)) (i : Int) (wrap64 ((j : Int) + 1))) else (none)) else (none))) (fun k => ?_) (Ev.bind hs ?_)
        · simp only [backreachref14_Print.l1]
          rw [if_pos (by omega), if_pos (by omega), rdL_at hlt, if_pos (by omega), if_pos (by omega), rd_at hjlt]
        · refine Ev.congr (fun k => ?_) h2
          rw [size_of, size_of, if_pos (by omega), str_app, size_of, if_pos (by rw [List.length_append]; omega), show (⟨(T2 ++ Lib.itoa l[i][j]).toArray⟩ : ByteArray) ++ ⟨#[32]⟩ = ⟨(T2 ++ Lib.itoa l[i][j] ++ [32]).toArray⟩ from str_app _ [32], wrap_nat (by omega)]
    have h1 := hin _ 0 T (Nat.zero_le _) rfl (by omega)
    have e3 : linesT (l.drop i) = litsT l[i] ++ [48, 10] ++ linesT (l.drop (i + 1)) := by rw [List.drop_eq_getElem_cons hlt, linesT_cons]
    rw [e3]
    rw [List.drop_zero] at h1
    rw [show T ++ (litsT l[i] ++ [48, 10] ++ linesT (l.drop (i + 1))) = T ++ litsT l[i] ++ [48, 10] ++ linesT (l.drop (i + 1)) by simp]
    refine Ev.step (fun k => ?_) h1
    simp only [backreachref14_Print.l0]
    rw [if_pos (by omega)]
    rfl
theorem rprint_ev {l : List (List Int)} (hr : lRight l = true) (hl1 : l.length ≤ 10000) (hl2 : ∀ c ∈ l, c.length ≤ 10000) : Ev (fun k => backreachref14_Print.f k l) (⟨(printL l).toArray⟩, 0) := by
  have hf : Fine l := ⟨by omega, fun c hc => by have := hl2 c hc; omega⟩
  have hmb : most l ≤ 1048576 := most_bound (l := l) hr (n := 0) (by omega)
  have s1 := Lib.itoa_length_le (most l : Int) (by omega) (by omega)
  have s2 := Lib.itoa_length_le (l.length : Int) (by omega) (by omega)
  have hhl : (headT l).length ≤ 60 := by
    simp only [headT, List.length_append, List.length_cons, List.length_nil]
    omega
  have h := pl_ev hr hl1 hl2 _ 0 (headT l) (Nat.zero_le _) rfl (by omega)
  rw [List.drop_zero, ← printL_eq] at h
  simp only [backreachref14_Print.f]
  refine Ev.bind (rright_ev hf) ?_
  refine Ev.congr (f := fun k => (backreachref14_Most.f k l).bind fun t110 => ((backreachref14_signed.f k t110).bind fun t111 => (if 6 + t111.size ≤ 9223372036854775807 then (if ((⟨#[112, 32, 99, 110, 102, 32]⟩ : ByteArray) ++ t111).size + 1 ≤ 9223372036854775807 then ((backreachref14_signed.f k (l.length : Int)).bind fun t112 => (if (((⟨#[112, 32, 99, 110, 102, 32]⟩ : ByteArray) ++ t111) ++ (⟨#[32]⟩ : ByteArray)).size + t112.size ≤ 9223372036854775807 then (if ((((⟨#[112, 32, 99, 110, 102, 32]⟩ : ByteArray) ++ t111) ++ (⟨#[32]⟩ : ByteArray)) ++ t112).size + 1 ≤ 9223372036854775807 then (backreachref14_Print.l0 k l (((((⟨#[112, 32, 99, 110, 102, 32]⟩ : ByteArray) ++ t111) ++ (⟨#[32]⟩ : ByteArray)) ++ t112) ++ (⟨#[10]⟩ : ByteArray)) 0) else (none)) else (none))) else (none)) else (none)))) (fun k => by rw [hr]; rfl) ?_
  refine Ev.bind (rmost_ev hf (plain_right hr)) (Ev.bind (signed_ev (x := (most l : Int)) (by omega) (by omega)) ?_)
  have a1 : (⟨#[112, 32, 99, 110, 102, 32]⟩ : ByteArray) ++ ⟨(Lib.itoa (most l : Int)).toArray⟩ = ⟨([112, 32, 99, 110, 102, 32] ++ Lib.itoa (most l : Int)).toArray⟩ := str_app _ _
  have a2 : (⟨([112, 32, 99, 110, 102, 32] ++ Lib.itoa (most l : Int)).toArray⟩ : ByteArray) ++ ⟨#[32]⟩ = ⟨([112, 32, 99, 110, 102, 32] ++ Lib.itoa (most l : Int) ++ [32]).toArray⟩ := str_app _ [32]
  have a3 : (⟨([112, 32, 99, 110, 102, 32] ++ Lib.itoa (most l : Int) ++ [32] ++ Lib.itoa (l.length : Int)).toArray⟩ : ByteArray) ++ ⟨#[10]⟩ = ⟨(headT l).toArray⟩ := str_app _ [10]
  refine Ev.congr (f := fun k => (backreachref14_signed.f k (l.length : Int)).bind fun t112 => (if (⟨([112, 32, 99, 110, 102, 32] ++ Lib.itoa (most l : Int) ++ [32]).toArray⟩ : ByteArray).size + t112.size ≤ 9223372036854775807 then (if ((⟨([112, 32, 99, 110, 102, 32] ++ Lib.itoa (most l : Int) ++ [32]).toArray⟩ : ByteArray) ++ t112).size + 1 ≤ 9223372036854775807 then (backreachref14_Print.l0 k l (((⟨([112, 32, 99, 110, 102, 32] ++ Lib.itoa (most l : Int) ++ [32]).toArray⟩ : ByteArray) ++ t112) ++ (⟨#[10]⟩ : ByteArray)) 0) else (none)) else (none))) (fun k => ?_) (Ev.bind (signed_ev (x := (l.length : Int)) (by omega) (by omega)) (Ev.congr (fun k => ?_) h))
  · rw [size_of, if_pos (by omega), a1, size_of, if_pos (by simp; omega), a2]
  · rw [size_of, size_of, if_pos (by simp; omega), str_app, size_of, if_pos (by simp; omega), a3]
    rfl
theorem rprint_wrong {l : List (List Int)} (hf : Fine l) (hr : lRight l = false) : Ev (fun k => backreachref14_Print.f k l) (⟨#[]⟩, 3) := by
  simp only [backreachref14_Print.f]
  refine Ev.bind (rright_ev hf) (Ev.congr (fun k => ?_) (Ev.now _))
  rw [hr]
  rfl

/-! ### Holds -/
theorem rholds_ev {l : List (List Int)} (hf : Fine l) (m : List Bool) : Ev (fun k => backreachref14_Holds.f k l m) (holds l m) := by
  simp only [backreachref14_Holds.f]
  refine Ev.bind (rright_ev hf) ?_
  unfold holds
  cases hr : lRight l with
  | false => exact Ev.congr (fun k => rfl) (Ev.now _)
  | true =>
    rw [Bool.true_and]
    refine Ev.congr (f := fun k => backreachref14_Holds.l0 k l m 0) (fun k => rfl) ?_
    have out : ∀ d i : Nat, i ≤ l.length → l.length - i = d → Ev (fun k => backreachref14_Holds.l0 k l m (i : Int)) ((l.drop i).all (fun c => c.any (trueB m))) := by
      intro d
      induction d with
      | zero =>
        intro i hi hd
        have e : i = l.length := by omega
        subst e
        rw [List.drop_length]
        refine Ev.step (f := fun _ => some true) (fun k => ?_) (Ev.now _)
        simp only [backreachref14_Holds.l0]
        rw [if_neg (by omega)]
      | succ d ih =>
        intro i hi hd
        have hlt : i < l.length := by omega
        have hl := hf.1
        have hc := hf.2 _ (List.getElem_mem hlt)
        have hin : ∀ (e j : Nat) (ok : Bool), j ≤ l[i].length → l[i].length - j = e → Ev (fun k => backreachref14_Holds.l1 k l m (i : Int) ok (j : Int)) ((ok || (l[i].drop j).any (trueB m)) && (l.drop (i + 1)).all (fun c => c.any (trueB m))) := by
          intro e
          induction e with
          | zero =>
            intro j ok hj he
            have e : j = l[i].length := by omega
            subst e
            rw [List.drop_length, List.any_nil, Bool.or_false]
            have h2 := ih (i + 1) hlt (by omega)
            cases ok with
            | true =>
              rw [Bool.true_and]
              refine Ev.step (fun k => ?_) h2
              simp only [backreachref14_Holds.l1]
              rw [if_pos (by omega), if_pos (by omega), rdL_at hlt, if_neg (by omega), if_pos trivial, wrap_nat (by omega)]
            | false =>
              rw [Bool.false_and]
              refine Ev.step (f := fun _ => some false) (fun k => ?_) (Ev.now _)
              simp only [backreachref14_Holds.l1]
              rw [if_pos (by omega), if_pos (by omega), rdL_at hlt, if_neg (by omega), if_neg (by simp)]
          | succ e ihe =>
            intro j ok hj he
            have hjlt : j < l[i].length := by omega
            have hx := List.all_eq_true.1 (cRight_of hr (List.getElem_mem hlt)) _ (List.getElem_mem hjlt)
            simp [litOk] at hx
            rw [List.drop_eq_getElem_cons hjlt, List.any_cons]
            cases ok with
            | true =>
              have h2 := ihe (j + 1) true hjlt (by omega)
              rw [Bool.true_or] at h2 ⊢
              refine Ev.step (fun k => ?_) h2
              simp only [backreachref14_Holds.l1]
              rw [if_pos (by omega), if_pos (by omega), rdL_at hlt, if_pos (by omega), if_pos trivial, wrap_nat (by omega)]
            | false =>
              have h2 := ihe (j + 1) (trueB m l[i][j]) hjlt (by omega)
              rw [Bool.false_or]
              refine Ev.step (fun k => ?_) h2
              simp only [backreachref14_Holds.l1]
              rw [if_pos (by omega), if_pos (by omega), rdL_at hlt, if_pos (by omega), if_neg (by simp), if_pos (by omega), rd_at hjlt, true14_f (by omega) (by omega), Option.bind_some, wrap_nat (by omega)]
        have h1 := hin _ 0 false (Nat.zero_le _) rfl
        rw [Bool.false_or, List.drop_zero] at h1
        rw [List.drop_eq_getElem_cons hlt, List.all_cons]
        refine Ev.step (fun k => ?_) h1
        simp only [backreachref14_Holds.l0]
        rw [if_pos (by omega)]
        rfl
    have := out _ 0 (Nat.zero_le _) rfl
    rw [List.drop_zero] at this
    exact this
end Go.Proofs.YtnknoaolbjofiaaDoor.Cl
