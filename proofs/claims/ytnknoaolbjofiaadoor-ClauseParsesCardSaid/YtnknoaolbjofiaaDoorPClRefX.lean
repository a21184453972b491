/- For the statement of the row ClauseParses: what its proof needs of the text ClRefX. -/
import Derived.Test.YtnknoaolbjofiaaDoorPClRefS
import Derived.Test.YtnknoaolbjofiaaDoorPClLine
import Derived.Test.YtnknoaolbjofiaaDoorPYy6
import Derived.Test.YtnknoaolbjofiaaDoorPYy7

set_option linter.unusedVariables false
set_option linter.unusedSimpArgs false
namespace Go.Proofs.YtnknoaolbjofiaaDoor.Cl
open Go.RowKit Go.Proofs.YtnknoaolbjofiaaDoorW.PrintWords Go.Proofs.YtnknoaolbjofiaaDoorW.PrintLast Go.Proofs.YtnknoaolbjofiaaDoorW.PrintMore
open Go.Proofs.YtnknoaolbjofiaaDoor.X
theorem rdOf_strs {W : List (List UInt8)} {i : Nat} (h : i < W.length) : rdOf ByteArray.empty (strsX W) (i : Int) = ⟨W[i].toArray⟩ := by
  simp [rdOf, strsX, List.getD_eq_getElem?_getD, h]
theorem toList_of (l : List UInt8) : (⟨l.toArray⟩ : ByteArray).toList = l := by
  rw [ByteArray.toList_eq]
theorem wrap_in {x : Int} (h0 : -9223372036854775808 ≤ x) (h1 : x ≤ 9223372036854775807) : wrap64 x = x := by unfold wrap64; omega
theorem rsame_ev {a b : List (List Int)} (ha : Fine a) (hb : Fine b) : Ev (fun k => backreachref14_Same.f k a b) (decide (a = b)) := by
  by_cases hl : a.length = b.length
  · have out : ∀ d i : Nat, i ≤ a.length → a.length - i = d → (∀ j (h1 : j < a.length) (h2 : j < b.length), j < i → a[j] = b[j]) → Ev (fun k => backreachref14_Same.l0 k a b (i : Int)) (decide (a = b)) := by
      intro d
      induction d with
      | zero =>
        intro i hi hd hp
        have hab : a = b := List.ext_getElem hl fun j h1 h2 => hp j h1 h2 (by omega)
        rw [decide_eq_true hab]
        refine Ev.step (f := fun _ => some true) (fun k => ?_) (Ev.now _)
        simp only [backreachref14_Same.l0]
        rw [if_neg (by omega)]
      | succ d ih =>
        intro i hi hd hp
        have hlt : i < a.length := by omega
        have hltb : i < b.length := by omega
        have hal := ha.1
        have hci := ha.2 _ (List.getElem_mem hlt)
        have bad : a[i] ≠ b[i] → decide (a = b) = false := fun h => decide_eq_false (fun e => h (by subst e; rfl))
        by_cases hll : a[i].length = b[i].length
        · have inn : ∀ e j : Nat, j ≤ a[i].length → a[i].length - j = e → (∀ q (h1 : q < a[i].length) (h2 : q < b[i].length), q < j → a[i][q] = b[i][q]) → Ev (fun k => backreachref14_Same.l1 k a b (i : Int) (j : Int)) (decide (a = b)) := by
            intro e
            induction e with
            | zero =>
              intro j hj he hq
              have hab : a[i] = b[i] := List.ext_getElem hll fun q h1 h2 => hq q h1 h2 (by omega)
              have h2 := ih (i + 1) hlt (by omega) (fun q h1 h2 h3 => by
                rcases Nat.lt_or_ge q i with h | h
                · exact hp q h1 h2 h
                · obtain rfl : q = i := by omega
                  exact hab)
              refine Ev.step (fun k => ?_) h2
              simp only [backreachref14_Same.l1]
              rw [if_pos (by omega), if_pos (by omega), rdL_at hlt, if_neg (by omega), wrap_nat (by omega)]
            | succ e ihe =>
              intro j hj he hq
              have hjlt : j < a[i].length := by omega
              have hjlb : j < b[i].length := by omega
              by_cases hx : a[i][j] = b[i][j]
              · have h2 := ihe (j + 1) hjlt (by omega) (fun q h1 h2 h3 => by
                  rcases Nat.lt_or_ge q j with h | h
                  · exact hq q h1 h2 h
                  · obtain rfl : q = j := by omega
                    exact hx)
                refine Ev.step (fun k => ?_) h2
                simp only [backreachref14_Same.l1]
                rw [if_pos (by omega), if_pos (by omega), rdL_at hlt, if_pos (by omega), if_pos (by omega), if_pos (by omega), rdL_at hltb, if_pos (by omega), rd_at hjlt, rd_at hjlb, if_pos hx, wrap_nat (by omega)]
              · rw [bad (fun h => hx (by simp only [h]))]
                refine Ev.step (f := fun _ => some false) (fun k => ?_) (Ev.now _)
                simp only [backreachref14_Same.l1]
                rw [if_pos (by omega), if_pos (by omega), rdL_at hlt, if_pos (by omega), if_pos (by omega), if_pos (by omega), rdL_at hltb, if_pos (by omega), rd_at hjlt, rd_at hjlb, if_neg hx]
          have h1 := inn _ 0 (Nat.zero_le _) rfl (fun q _ _ h => by omega)
          refine Ev.step (fun k => ?_) h1
          simp only [backreachref14_Same.l0]
          rw [if_pos (by omega), if_pos (by omega), if_pos (by omega), rdL_at hlt, rdL_at hltb, if_pos (by omega)]
          rfl
        · rw [bad (fun h => hll (by rw [h]))]
          refine Ev.step (f := fun _ => some false) (fun k => ?_) (Ev.now _)
          simp only [backreachref14_Same.l0]
          rw [if_pos (by omega), if_pos (by omega), if_pos (by omega), rdL_at hlt, rdL_at hltb, if_neg (by omega)]
    have h := out _ 0 (Nat.zero_le _) rfl (fun j _ _ h => by omega)
    refine Ev.congr (fun k => ?_) h
    simp only [backreachref14_Same.f]
    rw [if_pos (by omega)]
    rfl
  · rw [decide_eq_false (fun e => hl (by rw [e]))]
    refine Ev.congr (f := fun _ => some false) (fun k => ?_) (Ev.now _)
    simp only [backreachref14_Same.f]
    rw [if_neg (by omega)]
theorem rhead_j0 (W : List (List UInt8)) (h4 : W.length = 4) (hw : ∀ x ∈ W, x.length ≤ 1000000000) (ha : W[0]'(by omega) = [112]) (hb : W[1]'(by omega) = [99, 110, 102]) :
    ∃ v n ok, Ev (fun k => backreachref14_head.j0 k (strsX W) false) (v, n, ok) ∧ headB W v n ok := by
  obtain ⟨a, b, c, d, rfl⟩ : ∃ a b c d, W = [a, b, c, d] := by
    match W, h4 with
    | [a, b, c, d], _ => exact ⟨a, b, c, d, rfl⟩
  have ha : a = [112] := ha
  have hb : b = [99, 110, 102] := hb
  subst ha
  subst hb
  have n1 := rnum_ev (most := 1048576) (by omega) c (hw c (by simp))
  have n2 := rnum_ev (most := 2147483647) (by omega) d (hw d (by simp))
  have e : headW [[112], [99, 110, 102], c, d] = (match numIn 1048576 c, numIn 2147483647 d with
    | some v, some n => if 0 ≤ v ∧ 0 ≤ n then some (v.toNat, n.toNat) else none
    | _, _ => none) := by simp only [headW]; simp; rfl
  have r2 : rdOf ByteArray.empty (strsX [[112], [99, 110, 102], c, d]) 2 = ⟨c.toArray⟩ := rdOf_strs (W := [[112], [99, 110, 102], c, d]) (i := 2) (by simp)
  have r3 : rdOf ByteArray.empty (strsX [[112], [99, 110, 102], c, d]) 3 = ⟨d.toArray⟩ := rdOf_strs (W := [[112], [99, 110, 102], c, d]) (i := 3) (by simp)
  have hlen : ((strsX [[112], [99, 110, 102], c, d]).length : Int) = 4 := by simp [strsX]
  refine ⟨(numI 1048576 c).1, (numI 2147483647 d).1, (numI 1048576 c).2 && (numI 2147483647 d).2 && decide (0 ≤ (numI 1048576 c).1) && decide (0 ≤ (numI 2147483647 d).1), ?_, ?_⟩
  · refine Ev.step (f := fun k => (backreachref14_number.f k ⟨c.toArray⟩ 1048576).bind fun bt139 => ((backreachref14_number.f k ⟨d.toArray⟩ 2147483647).bind fun bt142 => (if bt139.2 = true then (if bt142.2 = true then (if bt139.1 ≥ 0 then (some (bt139.1, bt142.1, decide (bt142.1 ≥ 0))) else (some (bt139.1, bt142.1, false))) else (some (bt139.1, bt142.1, false))) else (some (bt139.1, bt142.1, false))))) (fun k => ?_) (Ev.bind n1 (Ev.bind n2 ?_))
    · simp only [backreachref14_head.j0]
      rw [if_neg (by simp), hlen, if_pos (by omega), r2]
      refine congrArg (Option.bind _) (funext fun bt => ?_)
      rw [if_pos (by omega), r3]
    · refine Ev.congr (f := fun _ => some _) (fun k => ?_) (Ev.now _)
      cases h1 : (numI 1048576 c).2 with
      | false => simp
      | true =>
        cases h2 : (numI 2147483647 d).2 with
        | false => simp
        | true =>
          by_cases h3 : (numI 1048576 c).1 ≥ 0
          · simp [h3]
          · have h4 : ¬ 0 ≤ (numI 1048576 c).1 := h3
            simp [h4]
  · unfold headB
    rw [e]
    unfold numI
    cases numIn 1048576 c with
    | none => rfl
    | some v =>
      cases numIn 2147483647 d with
      | none => simp
      | some n =>
        by_cases h : 0 ≤ v ∧ 0 ≤ n
        · simp only []
          rw [if_pos h]
          refine ⟨?_, by omega, by omega⟩
          simp [h.1, h.2]
        · simp only []
          rw [if_neg h]
          by_cases h1 : 0 ≤ v
          · have h2 : ¬ 0 ≤ n := fun h2 => h ⟨h1, h2⟩
            simp [h2]
          · simp [h1]
theorem headW_no0 {W : List (List UInt8)} (h4 : W.length = 4) (h : ¬ W[0]'(by omega) = [112]) : headW W = none := by
  obtain ⟨a, b, c, d, rfl⟩ : ∃ a b c d, W = [a, b, c, d] := by
    match W, h4 with
    | [a, b, c, d], _ => exact ⟨a, b, c, d, rfl⟩
  exact if_neg (fun h2 => h h2.1)
theorem headW_no1 {W : List (List UInt8)} (h4 : W.length = 4) (h : ¬ W[1]'(by omega) = [99, 110, 102]) : headW W = none := by
  obtain ⟨a, b, c, d, rfl⟩ : ∃ a b c d, W = [a, b, c, d] := by
    match W, h4 with
    | [a, b, c, d], _ => exact ⟨a, b, c, d, rfl⟩
  exact if_neg (fun h2 => h h2.2)
theorem rhead_ev (l : List UInt8) (hl : l.length ≤ 1000000000) : ∃ v n ok, Ev (fun k => backreachref14_head.f k ⟨l.toArray⟩) (v, n, ok) ∧ headB (splitBy 32 l) v n ok := by
  have hsp := rsplit_ev (l := l) 32 hl
  have hsub := splitBy_sub 32 l
  generalize splitBy 32 l = W at hsp hsub ⊢
  have bad : headW W = none → (∀ k, backreachref14_head.j0 (k + 1) (strsX W) true = some (0, 0, false)) := fun _ k => by
    simp only [backreachref14_head.j0]
    rw [if_pos trivial]
  have badE : headW W = none → ∃ v n ok, Ev (fun k => backreachref14_head.j0 k (strsX W) true) (v, n, ok) ∧ headB W v n ok := fun h => ⟨0, 0, false, Ev.step (f := fun _ => some _) (bad h) (Ev.now _), by unfold headB; rw [h]⟩
  have fin : ∀ {r : Int × Int × Bool}, Ev (fun k => (if ((strsX W).length : Int) = 4 then (if 0 < ((strsX W).length : Int) then (if (rdOf ByteArray.empty (strsX W) 0).toList = ([112] : List UInt8) then (if 1 < ((strsX W).length : Int) then (backreachref14_head.j0 k (strsX W) ((rdOf ByteArray.empty (strsX W) 1).toList != ([99, 110, 102] : List UInt8))) else (none)) else (backreachref14_head.j0 k (strsX W) true)) else (none)) else (backreachref14_head.j0 k (strsX W) true))) r → Ev (fun k => backreachref14_head.f k ⟨l.toArray⟩) r := fun h => Ev.bind hsp h
  by_cases h4 : W.length = 4
  · have r0 : rdOf ByteArray.empty (strsX W) 0 = ⟨(W[0]'(by omega)).toArray⟩ := rdOf_strs (W := W) (i := 0) (by omega)
    have r1 : rdOf ByteArray.empty (strsX W) 1 = ⟨(W[1]'(by omega)).toArray⟩ := rdOf_strs (W := W) (i := 1) (by omega)
    have hlen : ((strsX W).length : Int) = 4 := by rw [strsX_length]; omega
    by_cases ha : W[0]'(by omega) = [112]
    · by_cases hb : W[1]'(by omega) = [99, 110, 102]
      · obtain ⟨v, n, ok, h1, h2⟩ := rhead_j0 W h4 (fun x hx => by have := hsub x hx; omega) ha hb
        refine ⟨v, n, ok, fin (Ev.congr (fun k => ?_) h1), h2⟩
        rw [hlen, if_pos rfl, if_pos (by omega), r0, toList_of, if_pos ha, if_pos (by omega), r1, toList_of, hb]
        rfl
      · have hno : headW W = none := headW_no1 h4 hb
        obtain ⟨v, n, ok, h1, h2⟩ := badE hno
        refine ⟨v, n, ok, fin (Ev.congr (fun k => ?_) h1), h2⟩
        have hbn : (W[1]'(by omega) != [99, 110, 102]) = true := by simpa using hb
        rw [hlen, if_pos rfl, if_pos (by omega), r0, toList_of, if_pos ha, if_pos (by omega), r1, toList_of, hbn]
    · have hno : headW W = none := headW_no0 h4 ha
      obtain ⟨v, n, ok, h1, h2⟩ := badE hno
      refine ⟨v, n, ok, fin (Ev.congr (fun k => ?_) h1), h2⟩
      rw [hlen, if_pos rfl, if_pos (by omega), r0, toList_of, if_neg ha]
  · obtain ⟨v, n, ok, h1, h2⟩ := badE (headW_len h4)
    refine ⟨v, n, ok, fin (Ev.congr (fun k => ?_) h1), h2⟩
    rw [strsX_length, if_neg (by omega)]
theorem rline_loop {W : List (List UInt8)} {v : Nat} (hv : v ≤ 1048576) (hW : W.length ≤ 1000000001) (hw : ∀ x ∈ W, x.length ≤ 1000000000) (d : Nat) : ∀ (k0 : Nat) (out : List Int), W.length - k0 = d → k0 < W.length → LineAt v W k0 out →
    ∃ r ok, Ev (fun k => backreachref14_line.l0 k (v : Int) (strsX W) out (k0 : Int)) (r, ok) ∧ ok = (lineP v W).isSome ∧ ∀ c, lineP v W = some c → r = c := by
  induction d with
  | zero => intro k0 out hd hlt; omega
  | succ d ih =>
    intro k0 out hd hlt hat
    have hst := lineAt_step hlt hat
    have hnum := rnum_ev (most := v) (by omega) W[k0] (hw _ (List.getElem_mem hlt))
    have hu : IntKind.u64.wrap (v : Int) = (v : Int) := IntWalk.u64_in _ (by omega)
    have hwr : wrap64 (((strsX W).length : Int) - 1) = (W.length : Int) - 1 := by rw [strsX_length]; exact wrap_in (by omega) (by omega)
    have key : ∀ {r : List Int × Bool}, Ev (fun k => (if (numI v W[k0]).2 = true then (if (k0 : Int) = (wrap64 (((strsX W).length : Int) - 1)) then (some (out, ((numI v W[k0]).1 == 0))) else (if (numI v W[k0]).1 = 0 then (some (([] : List Int), false)) else (if out.length < 17592186044416 then (backreachref14_line.l0 k (v : Int) (strsX W) (out ++ [(numI v W[k0]).1]) (wrap64 ((k0 : Int) + 1))) else (none)))) else (some (([] : List Int), false)))) r → Ev (fun k => backreachref14_line.l0 k (v : Int) (strsX W) out (k0 : Int)) r := fun h => by
      refine Ev.step (f := fun k => (backreachref14_number.f k ⟨W[k0].toArray⟩ (v : Int)).bind fun bt148 => (if bt148.2 = true then (if (k0 : Int) = (wrap64 (((strsX W).length : Int) - 1)) then (some (out, (bt148.1 == 0))) else (if bt148.1 = 0 then (some (([] : List Int), false)) else (if out.length < 17592186044416 then (backreachref14_line.l0 k (v : Int) (strsX W) (out ++ [bt148.1]) (wrap64 ((k0 : Int) + 1))) else (none)))) else (some (([] : List Int), false)))) (fun k => ?_) (Ev.bind hnum h)
      simp only [backreachref14_line.l0]
      rw [strsX_length, if_pos (by omega), if_pos (by omega), rdOf_strs hlt, hu]
    cases hin : numIn v W[k0] with
    | none =>
      have hI : numI v W[k0] = (0, false) := by unfold numI; rw [hin]
      have hno := hst.1 hin
      refine ⟨[], false, key (Ev.congr (f := fun _ => some _) (fun k => ?_) (Ev.now _)), by rw [hno]; rfl, fun c hc => by rw [hno] at hc; cases hc⟩
      rw [hI, if_neg (by simp)]
    | some n =>
      have hI : numI v W[k0] = (n, true) := by unfold numI; rw [hin]
      by_cases hl : k0 + 1 = W.length
      · by_cases e0 : n = 0
        · have hat2 := hst.2.2.2 n hin e0 hl
          have hfin : lineP v W = some out := by
            obtain ⟨_, ⟨h, _⟩ | ⟨_, h⟩⟩ := hat2
            · omega
            · exact h
          refine ⟨out, true, key (Ev.congr (f := fun _ => some _) (fun k => ?_) (Ev.now _)), by rw [hfin]; rfl, fun c hc => by rw [hfin] at hc; cases hc; rfl⟩
          rw [hI, if_pos rfl, hwr, if_pos (by omega), e0]
          rfl
        · have hno := hst.2.1 n hin ⟨fun h => absurd h e0, fun h => absurd hl h⟩
          refine ⟨out, false, key (Ev.congr (f := fun _ => some _) (fun k => ?_) (Ev.now _)), by rw [hno]; rfl, fun c hc => by rw [hno] at hc; cases hc⟩
          rw [hI, if_pos rfl, hwr, if_pos (by omega), show (n == 0) = false by simpa using e0]
      · by_cases e0 : n = 0
        · have hno := hst.2.1 n hin ⟨fun _ => hl, fun _ => e0⟩
          refine ⟨[], false, key (Ev.congr (f := fun _ => some _) (fun k => ?_) (Ev.now _)), by rw [hno]; rfl, fun c hc => by rw [hno] at hc; cases hc⟩
          rw [hI, if_pos rfl, hwr, if_neg (by omega), if_pos e0]
        · have hat2 := hst.2.2.1 n hin e0 hl
          obtain ⟨r, ok, h1, h2, h3⟩ := ih (k0 + 1) (out ++ [n]) (by omega) (by omega) hat2
          refine ⟨r, ok, key (Ev.congr (fun k => ?_) h1), h2, h3⟩
          have hol := hat.1
          rw [hI, if_pos rfl, hwr, if_neg (by omega), if_neg e0, if_pos (by omega), wrap_nat (by omega)]
theorem rline_ev {v : Nat} (hv : v ≤ 1048576) (l : List UInt8) (hl : l.length ≤ 1000000000) : ∃ r ok, Ev (fun k => backreachref14_line.f k ⟨l.toArray⟩ (v : Int)) (r, ok) ∧ ok = (lineP v (splitBy 32 l)).isSome ∧ ∀ c, lineP v (splitBy 32 l) = some c → r = c := by
  have hsp := rsplit_ev (l := l) 32 hl
  have hsub := splitBy_sub 32 l
  have hwl := splitBy_length 32 l
  have hne := splitBy_ne 32 l
  obtain ⟨r, ok, h1, h2, h3⟩ := rline_loop hv (by omega) (fun x hx => by have := hsub x hx; omega) _ 0 [] rfl (List.length_pos_iff.2 hne) (lineAt_zero hne)
  exact ⟨r, ok, Ev.bind hsp h1, h2, h3⟩
end Go.Proofs.YtnknoaolbjofiaaDoor.Cl
