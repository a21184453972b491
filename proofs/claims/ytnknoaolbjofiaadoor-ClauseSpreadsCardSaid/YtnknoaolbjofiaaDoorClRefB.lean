/- The document's Spread, as printed, tells what 'spread' tells. -/
import Derived.Test.YtnknoaolbjofiaaDoorXx5
import Derived.Test.YtnknoaolbjofiaaDoorClRefA
import Derived.Test.YtnknoaolbjofiaaDoorClRefP
set_option linter.unusedVariables false
set_option linter.unusedSimpArgs false
namespace Go.Proofs.YtnknoaolbjofiaaDoor.Cl
open Go.RowKit Go.Proofs.YtnknoaolbjofiaaDoorW.PrintWords Go.Proofs.YtnknoaolbjofiaaDoorW.PrintMore
open Go.Proofs.YtnknoaolbjofiaaDoor.X

theorem lit_bnd {c : List Int} (h : cRight c = true) {x : Int} (hx : x ∈ c) : -1048576 ≤ x ∧ x ≤ 1048576 ∧ x ≠ 0 := by
  have := List.all_eq_true.1 h x hx
  simp [litOk] at this
  omega
theorem rd_at0 (s : List Int) (n : Nat) : rd s (n : Int) = at0 s n := by simp [rd, at0]
theorem sign_f (x : Int) : backreachref14_sign.f x = some (sg x) := by
  unfold backreachref14_sign.f sg
  split <;> rfl
theorem var_lit {c : List Int} (h : cRight c = true) {x : Int} (hx : x ∈ c) : backreachref14_Var.f x = some (x.natAbs : Int) := by
  have := List.all_eq_true.1 h x hx
  simp [litOk] at this
  exact var_f (by omega) (by omega)

theorem rleft_ev {c s : List Int} (hr : cRight c = true) (ht : Tri s) (hn : ∀ x ∈ c, x.natAbs < s.length) (hc : c.length < 4398046511104) : Ev (fun k => backreachref14_left.f k c s) (leftL s c []) := by
  have loop : ∀ (d i : Nat) (o : List Int), i ≤ c.length → c.length - i = d → o.length ≤ i → Ev (fun k => backreachref14_left.l0 k c s o (i : Int)) (leftL s (c.drop i) o) := by
    intro d
    induction d with
    | zero =>
      intro i o hi hd ho
      have e : i = c.length := by omega
      subst e
      rw [List.drop_length]
      refine Ev.step (f := fun _ => some o) (fun k => ?_) (Ev.now _)
      simp only [backreachref14_left.l0]
      rw [if_neg (by omega)]
    | succ d ih =>
      intro i o hi hd ho
      have hlt : i < c.length := by omega
      have hx := List.getElem_mem hlt
      have h0 := ne_zero_of hr hx
      have hv := var_lit hr hx
      have hs := hn _ hx
      rw [List.drop_eq_getElem_cons hlt]
      have htail : Ev (fun k => (backreachref14_In.f k o c[i]).bind fun t130 => (if t130 = true then (backreachref14_left.l0 k c s o (wrap64 ((i : Int) + 1))) else (if o.length < 17592186044416 then (backreachref14_left.l0 k c s (o ++ [c[i]]) (wrap64 ((i : Int) + 1))) else (none)))) (if o.contains c[i] then leftL s (c.drop (i + 1)) o else leftL s (c.drop (i + 1)) (o ++ [c[i]])) := by
        refine Ev.bind (rin_ev (by omega) _) ?_
        cases hco : o.contains c[i] with
        | true =>
          rw [if_pos rfl]
          refine Ev.congr (fun k => ?_) (ih (i + 1) o hlt (by omega) (by omega))
          rw [if_pos rfl, wrap_nat (by omega)]
        | false =>
          rw [if_neg (by simp)]
          refine Ev.congr (fun k => ?_) (ih (i + 1) (o ++ [c[i]]) hlt (by omega) (by simp; omega))
          rw [if_neg (by simp), if_pos (by omega), wrap_nat (by omega)]
      by_cases hz : at0 s c[i].natAbs = 0
      · have hb0 : hb s (-c[i]) = false := by rw [hb_false ht h0, hz]; simp
        rw [leftL, if_neg (by rw [hb0]; simp)]
        refine Ev.step (fun k => ?_) htail
        simp only [backreachref14_left.l0]
        rw [if_pos (by omega), if_pos (by omega), rd_at hlt, hv, Option.bind_some, if_pos (by omega), if_pos (by omega), rd_at0, if_pos hz]
      · have hb0 : hb s (-c[i]) = (decide (at0 s c[i].natAbs > 0) != decide (c[i] > 0)) := by rw [hb_false ht h0]; simp [hz]
        rw [leftL]
        by_cases hb1 : hb s (-c[i]) = true
        · rw [if_pos hb1]
          refine Ev.step (fun k => ?_) (ih (i + 1) o hlt (by omega) (by omega))
          simp only [backreachref14_left.l0]
          rw [if_pos (by omega), if_pos (by omega), rd_at hlt, hv, Option.bind_some, if_pos (by omega), if_pos (by omega), rd_at0, if_neg hz, Option.bind_some, if_pos (by omega), if_pos (by omega), rd_at0, if_pos (by rw [← hb0]; exact hb1), wrap_nat (by omega)]
        · rw [if_neg hb1]
          refine Ev.step (fun k => ?_) htail
          simp only [backreachref14_left.l0]
          rw [if_pos (by omega), if_pos (by omega), rd_at hlt, hv, Option.bind_some, if_pos (by omega), if_pos (by omega), rd_at0, if_neg hz, Option.bind_some, if_pos (by omega), if_pos (by omega), rd_at0, if_neg (by rw [← hb0]; exact hb1)]
  have := loop c.length 0 [] (Nat.zero_le _) rfl (Nat.zero_le _)
  simpa [backreachref14_left.f] using this

theorem rout_ev {s : List Int} {n : Nat} (ht : Tri s) (hs : s.length = n + 1) (hn : n ≤ 1048576) (d : Nat) : ∀ (v : Nat) (o : List Int), v + d = n + 1 → 1 ≤ v → o.length ≤ v → Ev (fun k => backreachref14_Spread.l3 k (n : Int) s o (v : Int)) (o ++ outL s d v, true) := by
  induction d with
  | zero =>
    intro v o hd hv ho
    refine Ev.step (f := fun _ => some (o ++ outL s 0 v, true)) (fun k => ?_) (Ev.now _)
    simp only [backreachref14_Spread.l3]
    rw [if_neg (by omega), outL, List.append_nil]
  | succ d ih =>
    intro v o hd hv ho
    rw [outL]
    by_cases hz : at0 s v = 0
    · rw [if_pos hz]
      refine Ev.step (fun k => ?_) (ih (v + 1) o (by omega) (by omega) (by omega))
      simp only [backreachref14_Spread.l3]
      rw [if_pos (by omega), if_pos (by omega), if_pos (by omega), rd_at0, if_pos hz, wrap_nat (by omega)]
    · rw [if_neg hz, List.append_cons]
      refine Ev.step (fun k => ?_) (ih (v + 1) _ (by omega) (by omega) (by simp; omega))
      simp only [backreachref14_Spread.l3]
      have hw : wrap64 (at0 s v * (v : Int)) = at0 s v * (v : Int) := by
        rcases ht v with h | h | h <;> rw [h] <;> unfold wrap64 <;> omega
      rw [if_pos (by omega), if_pos (by omega), if_pos (by omega), rd_at0, if_neg hz, if_pos (by omega), wrap_nat (by omega), hw]

theorem single_of {r : List Int} (h : r.length = 1) : r = [r.getD 0 0] := by
  match r, h with
  | [x], _ => rfl

theorem two_of {r : List Int} (hn : r.Nodup) (h0 : r.length ≠ 0) (h1 : r.length ≠ 1) : ∃ u ∈ r, ∃ v ∈ r, u ≠ v := by
  match r, hn, h0, h1 with
  | u :: v :: r, hn, _, _ =>
    have := List.nodup_cons.1 hn
    exact ⟨u, by simp, v, by simp, fun e => this.1 (by simp [e])⟩

section
variable {l : List (List Int)} {fr : List Int} {n : Nat} (hl : lRight l = true) (hf : cRight fr = true) (hfine : ∀ c ∈ l, c.length < 4398046511104) (hll : l.length < 4398046511104) (hn : n ≤ 1048576)
  (hln : ∀ c ∈ l, ∀ x ∈ c, x.natAbs ≤ n) (hfn : ∀ x ∈ fr, x.natAbs ≤ n)
include hl hf hfine hll hn hln hfn
theorem rl2_ev {z : Nat} (ihz : ∀ s, RWay l fr n s → (∀ x ∈ fr, hb s x = true) → zeros s < z → Ev (fun k => backreachref14_Spread.l1 k l (n : Int) s true) (spread l fr)) (d : Nat) :
    ∀ (i : Nat) (s : List Int) (again : Bool), i ≤ l.length → l.length - i = d → RWay l fr n s → (∀ x ∈ fr, hb s x = true) → zeros s ≤ z → (again = true → zeros s < z) → (again = false → ∀ j (hj : j < l.length), j < i → SettledS s l[j]) →
    Ev (fun k => backreachref14_Spread.l2 k l (n : Int) s again (i : Int)) (spread l fr) := by
  induction d with
  | zero =>
    intro i s again hi hd hw hfr hz ha hs
    have e : i = l.length := by omega
    subst e
    refine Ev.step (f := fun k => backreachref14_Spread.l1 k l (n : Int) s again) (fun k => ?_) ?_
    · simp only [backreachref14_Spread.l2]
      rw [if_neg (by omega)]
    · cases again with
      | true => exact ihz s hw hfr (ha rfl)
      | false =>
        rw [rend hl hf hw (fun x hx => ⟨hfn x hx, hfr x hx⟩) hln fun c hc => by
          obtain ⟨j, hj, rfl⟩ := List.mem_iff_getElem.1 hc
          exact hs rfl j hj hj]
        refine Ev.step (f := fun k => backreachref14_Spread.l3 k (n : Int) s [] 1) (fun k => ?_) ?_
        · simp only [backreachref14_Spread.l1]
          rw [if_neg (by simp)]
        · have := rout_ev hw.tri hw.len hn n 1 [] (by omega) (by omega) (by simp)
          simpa using this
  | succ d ih =>
    intro i s again hi hd hw hfr hz ha hs
    have hlt : i < l.length := by omega
    have hc := List.getElem_mem hlt
    have hcr := cRight_of hl hc
    have hleft := rleft_ev hcr hw.tri (fun x hx => by rw [hw.len]; have := hln _ hc x hx; omega) (hfine _ hc)
    have hmem : ∀ x, x ∈ leftL s l[i] [] ↔ x ∈ l[i] ∧ hb s (-x) = false := fun x => by rw [mem_leftL]; simp
    have hnod := nodup_leftL s l[i] [] (by simp)
    refine Ev.step (f := fun k => (backreachref14_left.f k l[i] s).bind fun t176 => (if (t176.length : Int) = 0 then (some (([] : List Int), false)) else (if (t176.length : Int) = 1 then (if 0 < (t176.length : Int) then ((backreachref14_Var.f (rd t176 0)).bind fun t180 => (if 0 ≤ t180 then (if t180 < (s.length : Int) then (backreachref14_Spread.j4 k l (n : Int) s again (i : Int) t176 ((rd s t180) == 0)) else (none)) else (none))) else (none)) else (backreachref14_Spread.j4 k l (n : Int) s again (i : Int) t176 false)))) (fun k => ?_) ?_
    · simp only [backreachref14_Spread.l2]
      rw [if_pos (by omega), if_pos (by omega), rdL_at hlt]
    refine Ev.bind hleft ?_
    generalize leftL s l[i] [] = r at *
    have hnext : ∀ s' again', RWay l fr n s' → (∀ x ∈ fr, hb s' x = true) → zeros s' ≤ z → (again' = true → zeros s' < z) → (again' = false → ∀ j (hj : j < l.length), j < i + 1 → SettledS s' l[j]) →
        Ev (fun k => backreachref14_Spread.l2 k l (n : Int) s' again' (wrap64 ((i : Int) + 1))) (spread l fr) := fun s' again' h1 h2 h3 h4 h5 => by
      have := ih (i + 1) s' again' hlt (by omega) h1 h2 h3 h4 h5
      rw [wrap_nat (by omega)]
      exact this
    have hstay : SettledS s l[i] → Ev (fun k => backreachref14_Spread.j4 k l (n : Int) s again (i : Int) r false) (spread l fr) := fun hset => by
      refine Ev.step (f := fun k => backreachref14_Spread.l2 k l (n : Int) s again (wrap64 ((i : Int) + 1))) (fun k => ?_) (hnext s again hw hfr hz ha fun e j hj hji => ?_)
      · simp only [backreachref14_Spread.j4]
        rw [if_neg (by simp)]
      · rcases Nat.lt_or_ge j i with h | h
        · exact hs e j hj h
        · obtain rfl : j = i := by omega
          exact hset
    by_cases h0 : r.length = 0
    · have hr0 : r = [] := List.eq_nil_of_length_eq_zero h0
      rw [spread_none hl hf (.inr ⟨l[i], hc, fun y hy => ?_⟩)]
      · refine Ev.congr (fun k => ?_) (Ev.now _)
        rw [if_pos (by omega)]
      · have hy0 := ne_zero_of hcr hy
        refine hw.der _ (by omega) ?_
        cases e : hb s (-y) with
        | true => rfl
        | false =>
          have := (hmem y).2 ⟨hy, e⟩
          rw [hr0] at this
          simp at this
    · by_cases h1 : r.length = 1
      · have hr1 := single_of h1
        have hrd : rd r 0 = r.getD 0 0 := rfl
        generalize r.getD 0 0 = x at hr1 hrd
        have hx := (hmem x).1 (by rw [hr1]; simp)
        have hx0 := ne_zero_of hcr hx.1
        have hxn := hln _ hc x hx.1
        have hvar := var_lit hcr hx.1
        refine Ev.congr (f := fun k => backreachref14_Spread.j4 k l (n : Int) s again (i : Int) r ((at0 s x.natAbs) == 0)) (fun k => ?_) ?_
        · rw [if_neg (by omega), if_pos (by omega), if_pos (by omega), hrd, hvar, Option.bind_some, if_pos (by omega), if_pos (by rw [hw.len]; omega), rd_at0]
        · by_cases hz0 : at0 s x.natAbs = 0
          · have hd : Der l fr x := Der.unit hc hx.1 fun y hy hne => by
              refine hw.der _ (by have := ne_zero_of hcr hy; omega) ?_
              cases e : hb s (-y) with
              | true => rfl
              | false =>
                have := (hmem y).2 ⟨hy, e⟩
                rw [hr1, List.mem_singleton] at this
                exact absurd this hne
            have hlen : x.natAbs < s.length := by rw [hw.len]; omega
            have hzs := zeros_set s x.natAbs (sg x) hlen hz0 (sg_ne x)
            refine Ev.step (f := fun k => backreachref14_Spread.l2 k l (n : Int) (s.set x.natAbs (sg x)) true (wrap64 ((i : Int) + 1))) (fun k => ?_) (hnext _ true (hw.set hd hx0 hxn (.inl hz0)) (fun y hy => (hb_set hlen (.inl hz0) y (ne_zero_of hf hy)).2 (.inr (hfr y hy))) (by omega) (fun _ => by omega) (fun e => by cases e))
            simp only [backreachref14_Spread.j4]
            rw [if_pos (by simp [hz0]), if_pos (by omega), hrd, hvar, Option.bind_some, sign_f, Option.bind_some, if_pos (by omega), if_pos (by omega), Int.toNat_natCast]
          · have hbeq : (at0 s x.natAbs == 0) = false := by simpa using hz0
            rw [hbeq]
            exact hstay (.inl ⟨x, hx.1, hb_or hw.tri hx0 hz0 hx.2⟩)
      · refine Ev.congr (f := fun k => backreachref14_Spread.j4 k l (n : Int) s again (i : Int) r false) (fun k => ?_) ?_
        · rw [if_neg (by omega), if_neg (by omega)]
        · obtain ⟨u, hu, v, hv, huv⟩ := two_of hnod h0 h1
          have hu := (hmem u).1 hu
          have hv := (hmem v).1 hv
          exact hstay (.inr ⟨u, hu.1, v, hv.1, huv, hu.2, hv.2⟩)
theorem rl1_ev (z : Nat) : ∀ s, RWay l fr n s → (∀ x ∈ fr, hb s x = true) → zeros s < z → Ev (fun k => backreachref14_Spread.l1 k l (n : Int) s true) (spread l fr) := by
  induction z with
  | zero => intro s _ _ h; omega
  | succ z ih =>
    intro s hw hfr hz
    refine Ev.step (f := fun k => backreachref14_Spread.l2 k l (n : Int) s false 0) (fun k => ?_) ?_
    · simp only [backreachref14_Spread.l1]
      rw [if_pos trivial]
    · exact rl2_ev hl hf hfine hll hn hln hfn (z := z) ih l.length 0 s false (Nat.zero_le _) rfl hw hfr (by omega) (fun e => by cases e) (fun _ j hj h => by omega)
theorem rl0_ev (hfl : fr.length < 4398046511104) (d : Nat) : ∀ (i : Nat) (s : List Int), i ≤ fr.length → fr.length - i = d → RWay l fr n s → (∀ j (hj : j < fr.length), j < i → hb s fr[j] = true) → Ev (fun k => backreachref14_Spread.l0 k l fr (n : Int) s (i : Int)) (spread l fr) := by
  induction d with
  | zero =>
    intro i s hi hd hw hs
    have e : i = fr.length := by omega
    subst e
    refine Ev.step (f := fun k => backreachref14_Spread.l1 k l (n : Int) s true) (fun k => ?_) (rl1_ev hl hf hfine hll hn hln hfn (zeros s + 1) s hw (fun x hx => ?_) (by omega))
    · simp only [backreachref14_Spread.l0]
      rw [if_neg (by omega)]
    · obtain ⟨j, hj, rfl⟩ := List.mem_iff_getElem.1 hx
      exact hs j hj hj
  | succ d ih =>
    intro i s hi hd hw hs
    have hlt : i < fr.length := by omega
    have hx := List.getElem_mem hlt
    have hx0 := ne_zero_of hf hx
    have hxn := hfn _ hx
    have hvar := var_lit hf hx
    have hlen : fr[i].natAbs < s.length := by rw [hw.len]; omega
    have hgo : ∀ h1 : at0 s fr[i].natAbs = 0 ∨ at0 s fr[i].natAbs = sg fr[i], Ev (fun k => backreachref14_Spread.l0 k l fr (n : Int) (s.set fr[i].natAbs (sg fr[i])) (wrap64 ((i : Int) + 1))) (spread l fr) := fun h1 => by
      have := ih (i + 1) _ hlt (by omega) (hw.set (Der.of_from hx) hx0 hxn h1) (fun j hj hji => by
        rw [hb_set hlen h1 _ (ne_zero_of hf (List.getElem_mem hj))]
        rcases Nat.lt_or_ge j i with h | h
        · exact .inr (hs j hj h)
        · obtain rfl : j = i := by omega
          exact .inl rfl)
      rw [wrap_nat (by omega)]
      exact this
    by_cases hz : at0 s fr[i].natAbs = 0
    · refine Ev.step (fun k => ?_) (hgo (.inl hz))
      simp only [backreachref14_Spread.l0]
      rw [if_pos (by omega), if_pos (by omega), rd_at hlt, hvar, Option.bind_some, if_pos (by omega), if_pos (by omega), rd_at0, if_pos hz, sign_f, Option.bind_some, Int.toNat_natCast]
    · by_cases he : at0 s fr[i].natAbs = sg fr[i]
      · refine Ev.step (fun k => ?_) (hgo (.inr he))
        simp only [backreachref14_Spread.l0]
        rw [if_pos (by omega), if_pos (by omega), rd_at hlt, hvar, Option.bind_some, if_pos (by omega), if_pos (by omega), rd_at0, if_neg hz, sign_f, Option.bind_some, if_pos he, Option.bind_some, Int.toNat_natCast]
      · have hneg : hb s (-fr[i]) = true := by
          cases e : hb s (-fr[i]) with
          | true => rfl
          | false => exact absurd (hb_iff.1 (hb_or hw.tri hx0 hz e)) he
        rw [spread_none hl hf (.inl ⟨fr[i], Der.of_from hx, hw.der _ (by omega) hneg⟩)]
        refine Ev.step (fun k => ?_) (Ev.now _)
        simp only [backreachref14_Spread.l0]
        rw [if_pos (by omega), if_pos (by omega), rd_at hlt, hvar, Option.bind_some, if_pos (by omega), if_pos (by omega), rd_at0, if_neg hz, sign_f, Option.bind_some, if_neg he]
end

theorem rspread_ev {l : List (List Int)} {fr : List Int} (hfine : ∀ c ∈ l, c.length < 4398046511104) (hll : l.length < 4398046511104) (hfl : fr.length < 4398046511104) : Ev (fun k => backreachref14_Spread.f k l fr) (spread l fr) := by
  have hF : Fine l := ⟨by omega, fun c hc => by have := hfine c hc; omega⟩
  have hF1 : Fine [fr] := ⟨by simp, fun c hc => by rw [List.mem_singleton] at hc; subst hc; omega⟩
  have hone : lRight [fr] = cRight fr := by simp [lRight]
  have hno : ∀ (h : (lRight l && cRight fr) = false), Ev (fun k => backreachref14_Spread.j0 k l fr true) (spread l fr) := fun h => by
    rw [spread_wrong h]
    refine Ev.step (fun k => ?_) (Ev.now _)
    simp only [backreachref14_Spread.j0]
    rw [if_pos trivial]
  refine Ev.bind (rright_ev hF) ?_
  cases hl : lRight l with
  | false => exact Ev.congr (fun k => if_neg (by simp)) (hno (by simp [hl]))
  | true =>
    refine Ev.congr (fun k => if_pos rfl) ?_
    refine Ev.bind (rright_ev hF1) ?_
    rw [hone]
    cases hf : cRight fr with
    | false => exact hno (by simp [hf])
    | true =>
      have hall : ∀ c ∈ l ++ [fr], ∀ x ∈ c, x.natAbs ≤ 1048576 := fun c hc x hx => by
        have hcr : cRight c = true := by
          rcases List.mem_append.1 hc with h | h
          · exact cRight_of hl h
          · rw [List.mem_singleton] at h; subst h; exact hf
        have := lit_bnd hcr hx
        omega
      have hn := most_le hall
      have hln : ∀ c ∈ l, ∀ x ∈ c, x.natAbs ≤ most (l ++ [fr]) := fun c hc x hx => most_ge (List.mem_append_left _ hc) hx
      have hfn : ∀ x ∈ fr, x.natAbs ≤ most (l ++ [fr]) := fun x hx => most_ge (List.mem_append_right _ (List.mem_singleton.2 rfl)) hx
      have hm := rmost_ev (l := l ++ [fr]) ⟨by simp; omega, fun c hc => by
        rcases List.mem_append.1 hc with h | h
        · exact hF.2 c h
        · exact hF1.2 c h⟩ (fun c hc x hx => by have := hall c hc x hx; omega)
      generalize most (l ++ [fr]) = n at hm hn hln hfn
      refine Ev.step (f := fun k => (backreachref14_Most.f k (l ++ [fr])).bind fun t159 => (if 0 ≤ (wrap64 (t159 + 1)) then (if (wrap64 (t159 + 1) : Int).toNat ≤ 35184372088832 then (backreachref14_Spread.l0 k l fr t159 (List.replicate (wrap64 (t159 + 1) : Int).toNat 0) 0) else (none)) else (none))) (fun k => ?_) ?_
      · simp only [backreachref14_Spread.j0]
        rw [if_neg (by simp), Option.bind_some, if_pos (by simp; omega), Option.bind_some, List.nil_append, if_pos (by omega)]
      · refine Ev.bind hm ?_
        refine Ev.congr (fun k => ?_) (rl0_ev hl hf hfine hll hn hln hfn hfl fr.length 0 (List.replicate (n + 1) 0) (Nat.zero_le _) rfl (RWay.start l fr n) (fun j hj h => by omega))
        rw [wrap_nat (by omega), if_pos (by omega), Int.toNat_natCast, if_pos (by omega)]
        rfl
end Go.Proofs.YtnknoaolbjofiaaDoor.Cl
