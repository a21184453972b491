/- The plain laws of layer 14 that tell of Spread alone: a clause that says nothing; what has spread, a literal more, clauses in another order. -/
import Derived.Test.YtnknoaolbjofiaaDoorB4
set_option linter.unusedVariables false
set_option linter.unusedSimpArgs false
namespace Go.Proofs.YtnknoaolbjofiaaDoor.Cl

theorem Der.mono {l l' : List (List Int)} (h : ∀ c ∈ l, c ∈ l') {fr fr' : List Int} (hf : ∀ z ∈ fr, z ∈ fr') {x : Int} (hd : Der l fr x) : Der l' fr' x := fun S hs hS => hd S (fun z hz => hs z (hf z hz)) fun c hc => hS c (h c hc)
theorem Fails.mono {l l' : List (List Int)} (h : ∀ c ∈ l, c ∈ l') {fr fr' : List Int} (hf : ∀ z ∈ fr, z ∈ fr') (hd : Fails l fr) : Fails l' fr' := by
  rcases hd with ⟨x, h1, h2⟩ | ⟨c, hc, hy⟩
  · exact .inl ⟨x, h1.mono h hf, h2.mono h hf⟩
  · exact .inr ⟨c, h c hc, fun y hy' => (hy y hy').mono h hf⟩
/-- What follows stands among what was given, or in a clause. -/
theorem Der.stands {l : List (List Int)} {fr : List Int} {x : Int} (h : Der l fr x) : x ∈ fr ∨ ∃ c ∈ l, x ∈ c :=
  h (fun z => z ∈ fr ∨ ∃ c ∈ l, z ∈ c) (fun _ hz => .inl hz) fun c hc x hx _ => .inr ⟨c, hc, hx⟩
theorem Der.right {l : List (List Int)} {fr : List Int} (hl : lRight l = true) (hf : cRight fr = true) {x : Int} (h : Der l fr x) : litOk x = true := by
  rcases h.stands with h | ⟨c, hc, hx⟩
  · exact List.all_eq_true.1 hf x h
  · exact List.all_eq_true.1 (cRight_of hl hc) x hx
theorem Der.idem {l : List (List Int)} {fr s : List Int} (hs : ∀ x, x ∈ s ↔ Der l fr x) {x : Int} : Der l s x ↔ Der l fr x :=
  ⟨fun h S hf hS => h S (fun z hz => (hs z).1 hz S hf hS) hS, fun h => h.mono (fun _ h => h) fun z hz => (hs z).2 (Der.of_from hz)⟩

/-- The order of clauses plays no part. -/
theorem spread_same {l l' : List (List Int)} (h : ∀ c, c ∈ l ↔ c ∈ l') (fr : List Int) : spread l' fr = spread l fr := by
  have hr : lRight l' = lRight l := by
    rw [Bool.eq_iff_iff]
    simp only [lRight, List.all_eq_true]
    exact ⟨fun hh c hc => hh c ((h c).1 hc), fun hh c hc => hh c ((h c).2 hc)⟩
  cases hg : (lRight l && cRight fr) with
  | false => rw [spread_wrong hg, spread_wrong (by rw [hr]; exact hg)]
  | true =>
    rw [Bool.and_eq_true] at hg
    have hl' : lRight l' = true := hr.trans hg.1
    rcases spread_char hg.1 hg.2 with ⟨hf, e⟩ | ⟨hn, r, e, hu, hd⟩
    · rw [e]
      exact spread_none hl' hg.2 (hf.mono (fun c hc => (h c).1 hc) fun _ hz => hz)
    · rw [e]
      refine spread_some hl' hg.2 (fun hf => hn (hf.mono (fun c hc => (h c).2 hc) fun _ hz => hz)) hu fun x => (hd x).trans ⟨fun hx => hx.mono (fun c hc => (h c).1 hc) fun _ hz => hz, fun hx => hx.mono (fun c hc => (h c).2 hc) fun _ hz => hz⟩
/-- What spreads from what has spread is the same. -/
theorem spread_again {l : List (List Int)} {fr : List Int} (h : (spread l fr).2 = true) : spread l (spread l fr).1 = spread l fr := by
  cases hg : (lRight l && cRight fr) with
  | false => rw [spread_wrong hg] at h; cases h
  | true =>
    rw [Bool.and_eq_true] at hg
    rcases spread_char hg.1 hg.2 with ⟨hf, e⟩ | ⟨hn, r, e, hu, hd⟩
    · rw [e] at h; cases h
    · rw [e]
      have hrr : cRight r = true := by
        unfold cRight
        rw [List.all_eq_true]
        exact fun x hx => ((hd x).1 hx).right hg.1 hg.2
      refine spread_some hg.1 hrr (fun hf => hn ?_) hu fun x => (hd x).trans (Der.idem hd).symm
      rcases hf with ⟨x, h1, h2⟩ | ⟨c, hc, hy⟩
      · exact .inl ⟨x, (Der.idem hd).1 h1, (Der.idem hd).1 h2⟩
      · exact .inr ⟨c, hc, fun y hy' => (Der.idem hd).1 (hy y hy')⟩
/-- With more at least as much. -/
theorem spread_more {l : List (List Int)} {fr fr' : List Int} (hs : ∀ z ∈ fr, z ∈ fr') (h : (spread l fr').2 = true) : (spread l fr).2 = true ∧ ∀ x ∈ (spread l fr).1, x ∈ (spread l fr').1 := by
  cases hg : (lRight l && cRight fr') with
  | false => rw [spread_wrong hg] at h; cases h
  | true =>
    rw [Bool.and_eq_true] at hg
    have hf : cRight fr = true := by
      unfold cRight
      rw [List.all_eq_true]
      exact fun x hx => List.all_eq_true.1 hg.2 x (hs x hx)
    rcases spread_char hg.1 hg.2 with ⟨_, e⟩ | ⟨hn', r', e', _, hd'⟩
    · rw [e] at h; cases h
    · rcases spread_char hg.1 hf with ⟨hf', e⟩ | ⟨_, r, e, _, hd⟩
      · exact absurd (hf'.mono (fun _ hc => hc) hs) hn'
      · rw [e, e']
        exact ⟨rfl, fun x hx => (hd' x).2 (((hd x).1 hx).mono (fun _ hc => hc) hs)⟩
/-- A clause with a literal and its opposite says nothing. -/
theorem spread_idle {l l' : List (List Int)} {c : List Int} {x : Int} (hc : cRight c = true) (hx : x ∈ c) (hn : -x ∈ c) (h : ∀ d, d ∈ l' ↔ d ∈ l ∨ d = c) (fr : List Int) : spread l' fr = spread l fr := by
  have hr : lRight l' = lRight l := by
    rw [Bool.eq_iff_iff]
    simp only [lRight, List.all_eq_true]
    refine ⟨fun hh d hd => hh d ((h d).2 (.inl hd)), fun hh d hd => ?_⟩
    rcases (h d).1 hd with hd | rfl
    · exact hh d hd
    · exact hc
  have hx0 := ne_zero_of hc hx
  cases hg : (lRight l && cRight fr) with
  | false => rw [spread_wrong hg, spread_wrong (by rw [hr]; exact hg)]
  | true =>
    rw [Bool.and_eq_true] at hg
    have hl' : lRight l' = true := hr.trans hg.1
    have up : ∀ d ∈ l, d ∈ l' := fun d hd => (h d).2 (.inl hd)
    rcases spread_char hg.1 hg.2 with ⟨hf, e⟩ | ⟨hnf, r, e, hu, hd⟩
    · rw [e]
      exact spread_none hl' hg.2 (hf.mono up fun _ hz => hz)
    · rw [e]
      have back : ∀ z, Der l' fr z → Der l fr z := fun z hz => by
        refine hz (Der l fr) (fun _ hw => Der.of_from hw) fun d hdl y hy hall => ?_
        rcases (h d).1 hdl with hd | rfl
        · exact Der.unit hd hy hall
        · by_cases e1 : y = x
          · subst e1
            have := hall (-y) hn (by omega)
            rwa [Int.neg_neg] at this
          · by_cases e2 : y = -x
            · subst e2
              exact hall x hx (by omega)
            · have h1 := hall x hx (fun e => e1 e.symm)
              have h2 := hall (-x) hn (fun e => e2 e.symm)
              exact absurd (.inl ⟨-x, h1, h2⟩) hnf
      refine spread_some hl' hg.2 (fun hf => hnf ?_) hu fun z => (hd z).trans ⟨fun hz => hz.mono up fun _ hz => hz, back z⟩
      rcases hf with ⟨z, h1, h2⟩ | ⟨d, hdl, hy⟩
      · exact .inl ⟨z, back z h1, back _ h2⟩
      · rcases (h d).1 hdl with hd | rfl
        · exact .inr ⟨d, hd, fun y hy' => back _ (hy y hy')⟩
        · refine .inl ⟨-x, back _ (hy x hx), ?_⟩
          exact back _ (hy (-x) hn)
/-- What spreads is no longer than what it came from. -/
theorem spread_len (l : List (List Int)) (fr : List Int) : (spread l fr).1.length ≤ fr.length + total l := by
  cases hg : (lRight l && cRight fr) with
  | false => rw [spread_wrong hg]; simp
  | true =>
    rw [Bool.and_eq_true] at hg
    rcases spread_char hg.1 hg.2 with ⟨hf, e⟩ | ⟨hn, r, e, hu, hd⟩
    · rw [e]; simp
    · rw [e]
      have ha : Apart r := hu.imp fun h => by omega
      have h1 := length_le_of_sub r (fr ++ flat l) ha fun x hx => by
        rcases ((hd x).1 hx).stands with h | h
        · simp [h]
        · simp [mem_flat.2 h]
      rwa [List.length_append, length_flat] at h1
end Go.Proofs.YtnknoaolbjofiaaDoor.Cl
