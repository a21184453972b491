/- A proof of some clauses is one of more: the plain law. -/
import Derived.Test.YtphloehjcfipfaaClCheckP
set_option linter.unusedVariables false
set_option linter.unusedSimpArgs false
namespace Go.Proofs.Ytphloehjcfipfaa.Cl

theorem Der.more {l l' : List (List Int)} (h : ∀ c ∈ l, c ∈ l') {fr : List Int} {x : Int} (hd : Der l fr x) : Der l' fr x := fun S hf hS => hd S hf fun c hc => hS c (h c hc)
theorem Fails.more {l l' : List (List Int)} (h : ∀ c ∈ l, c ∈ l') {fr : List Int} (hd : Fails l fr) : Fails l' fr := by
  rcases hd with ⟨x, h1, h2⟩ | ⟨c, hc, hy⟩
  · exact .inl ⟨x, h1.more h, h2.more h⟩
  · exact .inr ⟨c, h c hc, fun y hy' => (hy y hy').more h⟩
theorem opp_right {c : List Int} (h : cRight c = true) : cRight (opp c) = true := by
  unfold cRight opp
  rw [List.all_eq_true]
  intro x hx
  rw [List.mem_map] at hx
  obtain ⟨y, hy, rfl⟩ := hx
  have := lit_bounds h hy
  simp [litOk]
  omega
theorem follows_iff {l : List (List Int)} {c : List Int} (hl : lRight l = true) (hc : cRight c = true) : followsB l c = true ↔ Fails l (opp c) := by
  unfold followsB
  rcases spread_char hl (opp_right hc) with ⟨h, e⟩ | ⟨h, r, e, _⟩
  · rw [e]; simp [h]
  · rw [e]; simp [h]
theorem lRight_append {l p : List (List Int)} : lRight (l ++ p) = (lRight l && lRight p) := by simp [lRight]
/-- What 'Check' asks, told for all at once. -/
theorem checkGo_zero {l p : List (List Int)} : ∀ (d i : Nat), i + d = p.length → ((checkGo l p (p.drop i)).1 = 0 ↔ (∀ j (hj : j < p.length), i ≤ j → cRight p[j] = true ∧ followsB (l ++ p.take j) p[j] = true) ∧ p.any List.isEmpty = true)
  | 0, i, h => by
    have e : i = p.length := by omega
    subst e
    rw [List.drop_length, checkGo]
    cases hany : p.any List.isEmpty with
    | true => simp; intro j hj hi; omega
    | false => simp
  | d + 1, i, h => by
    have hlt : i < p.length := by omega
    have ih := checkGo_zero (l := l) (p := p) d (i + 1) (by omega)
    have hidx : p.length - ((p.drop (i + 1)).length + 1) = i := by rw [List.length_drop]; omega
    rw [List.drop_eq_getElem_cons hlt, checkGo, hidx]
    cases hc : cRight p[i] with
    | false =>
      rw [if_neg (by simp)]
      constructor
      · intro h; simp at h
      · rintro ⟨h1, _⟩
        have := (h1 i hlt (Nat.le_refl _)).1
        rw [hc] at this
        cases this
    | true =>
      rw [if_pos rfl]
      cases hf : followsB (l ++ p.take i) p[i] with
      | false =>
        rw [if_neg (by simp)]
        constructor
        · intro h; simp at h
        · rintro ⟨h1, _⟩
          have := (h1 i hlt (Nat.le_refl _)).2
          rw [hf] at this
          cases this
      | true =>
        rw [if_pos rfl, ih]
        constructor
        · rintro ⟨h1, h2⟩
          refine ⟨fun j hj hij => ?_, h2⟩
          rcases Nat.lt_or_ge i j with h3 | h3
          · exact h1 j hj h3
          · obtain rfl : i = j := by omega
            exact ⟨hc, hf⟩
        · rintro ⟨h1, h2⟩
          exact ⟨fun j hj hij => h1 j hj (by omega), h2⟩
theorem check_zero {l p : List (List Int)} : (check l p).1 = 0 ↔ lRight l = true ∧ (∀ j (hj : j < p.length), cRight p[j] = true ∧ followsB (l ++ p.take j) p[j] = true) ∧ p.any List.isEmpty = true := by
  unfold check
  cases h : lRight l with
  | false => simp
  | true =>
    rw [if_pos rfl]
    have := checkGo_zero (l := l) (p := p) p.length 0 (by omega)
    rw [List.drop_zero] at this
    rw [this]
    simp
/-- Where it is one, the place is 0. -/
theorem checkGo_at {l p : List (List Int)} : ∀ r, (checkGo l p r).1 = 0 → checkGo l p r = (0, 0)
  | [], h => by
    unfold checkGo at *
    split at h
    · rename_i h1; rw [if_pos h1]
    · simp at h
  | c :: r, h => by
    unfold checkGo at *
    split at h
    · rename_i h1
      rw [if_pos h1]
      split at h
      · rename_i h2
        rw [if_pos h2]
        exact checkGo_at r h
      · simp at h
    · simp at h
theorem check_at {l p : List (List Int)} (h : (check l p).1 = 0) : check l p = (0, 0) := by
  unfold check at *
  split at h
  · rename_i h1
    rw [if_pos h1]
    exact checkGo_at p h
  · simp at h
theorem check_more {l l' p : List (List Int)} (h : (check l p).1 = 0) (hr : lRight l' = true) (hs : ∀ c ∈ l, c ∈ l') : check l' p = (0, 0) := by
  refine check_at ?_
  obtain ⟨h1, h2, h3⟩ := check_zero.1 h
  refine check_zero.2 ⟨hr, fun j hj => ?_, h3⟩
  obtain ⟨h4, h5⟩ := h2 j hj
  refine ⟨h4, ?_⟩
  have hp : lRight (p.take j) = true := by
    unfold lRight
    rw [List.all_eq_true]
    intro c hc
    obtain ⟨k, hk, rfl⟩ := List.mem_iff_getElem.1 (List.mem_of_mem_take hc)
    exact (h2 k hk).1
  rw [follows_iff (by rw [lRight_append, h1, hp]; rfl) h4] at h5
  rw [follows_iff (by rw [lRight_append, hr, hp]; rfl) h4]
  refine h5.more fun c hc => ?_
  rcases List.mem_append.1 hc with h | h
  · exact List.mem_append_left _ (hs c h)
  · exact List.mem_append_right _ h
end Go.Proofs.Ytphloehjcfipfaa.Cl
