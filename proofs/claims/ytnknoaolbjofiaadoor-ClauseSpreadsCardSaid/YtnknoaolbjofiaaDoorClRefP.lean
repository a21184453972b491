/- The document's way of spreading: a sign at each variable. The plain part: what a table of signs tells, what is left of a clause, the list at the end. -/
import Derived.Test.YtnknoaolbjofiaaDoorClSpec
set_option linter.unusedVariables false
set_option linter.unusedSimpArgs false
namespace Go.Proofs.YtnknoaolbjofiaaDoor.Cl

def sg (x : Int) : Int := if x < 0 then -1 else 1
def at0 (s : List Int) (n : Nat) : Int := s.getD n 0
/-- Is a literal held? -/
def hb (s : List Int) (x : Int) : Bool := at0 s x.natAbs == sg x
def Tri (s : List Int) : Prop := ∀ n, at0 s n = 0 ∨ at0 s n = 1 ∨ at0 s n = -1
theorem hb_iff {s : List Int} {x : Int} : hb s x = true ↔ at0 s x.natAbs = sg x := by simp [hb]
theorem hb_not {s : List Int} {x : Int} (h : hb s x = true) (h0 : x ≠ 0) : hb s (-x) = false := by
  have h := hb_iff.1 h
  cases e : hb s (-x) with
  | false => rfl
  | true =>
    have e := hb_iff.1 e
    rw [Int.natAbs_neg] at e
    unfold sg at *
    split at h <;> split at e <;> omega
theorem hb_false {s : List Int} (ht : Tri s) {x : Int} (h0 : x ≠ 0) : hb s (-x) = (decide (at0 s x.natAbs ≠ 0) && (decide (at0 s x.natAbs > 0) != decide (x > 0))) := by
  have h := ht x.natAbs
  rw [Bool.eq_iff_iff]
  rw [hb_iff, Int.natAbs_neg]
  unfold sg
  rcases h with h | h | h <;> rw [h] <;> split <;> simp <;> omega
theorem hb_or {s : List Int} (ht : Tri s) {x : Int} (h0 : x ≠ 0) (h : at0 s x.natAbs ≠ 0) (h2 : hb s (-x) = false) : hb s x = true := by
  have h3 := ht x.natAbs
  rw [hb_iff]
  have h2 : ¬ at0 s x.natAbs = sg (-x) := fun e => by
    rw [show hb s (-x) = true from hb_iff.2 (by rw [Int.natAbs_neg]; exact e)] at h2
    cases h2
  unfold sg at *
  split at h2 <;> split <;> omega
theorem at0_set (s : List Int) (n : Nat) (v : Int) (h : n < s.length) (m : Nat) : at0 (s.set n v) m = if m = n then v else at0 s m := by
  unfold at0
  simp only [List.getD_eq_getElem?_getD, List.getElem?_set]
  by_cases e : m = n
  · subst e; simp [h]
  · rw [if_neg (fun e' => e e'.symm), if_neg e]
theorem tri_set {s : List Int} (ht : Tri s) {n : Nat} (h : n < s.length) (x : Int) : Tri (s.set n (sg x)) := fun m => by
  rw [at0_set s n _ h]
  split
  · unfold sg; split <;> omega
  · exact ht m
theorem hb_set {s : List Int} {x : Int} (h : x.natAbs < s.length) (h1 : at0 s x.natAbs = 0 ∨ at0 s x.natAbs = sg x) (z : Int) (hz : z ≠ 0) : hb (s.set x.natAbs (sg x)) z = true ↔ z = x ∨ hb s z = true := by
  rw [hb_iff, hb_iff, at0_set _ _ _ h]
  split
  · rename_i e
    rw [e]
    unfold sg at *
    split <;> split <;> rcases h1 with h1 | h1 <;> (try split at h1) <;> constructor <;> intro h2 <;> omega
  · rename_i e
    constructor
    · exact .inr
    · rintro (rfl | h)
      · exact absurd rfl e
      · exact h

/-! ### How many signs are left -/
def zeros : List Int → Nat
  | [] => 0
  | x :: r => (if x = 0 then 1 else 0) + zeros r
theorem zeros_set : ∀ (s : List Int) (n : Nat) (v : Int), n < s.length → at0 s n = 0 → v ≠ 0 → zeros (s.set n v) < zeros s
  | [], n, v, h, _, _ => absurd h (by simp)
  | x :: r, 0, v, _, h0, hv => by
    simp [at0] at h0
    subst h0
    simp [zeros, hv]
  | x :: r, n + 1, v, h, h0, hv => by
    have := zeros_set r n v (by simpa using h) (by simpa [at0] using h0) hv
    simp only [List.set_cons_succ, zeros]
    omega
theorem sg_ne (x : Int) : sg x ≠ 0 := by unfold sg; split <;> omega

/-! ### What is left of a clause -/
def leftL (s : List Int) : List Int → List Int → List Int
  | [], o => o
  | x :: c, o => if hb s (-x) then leftL s c o else if o.contains x then leftL s c o else leftL s c (o ++ [x])
theorem mem_leftL (s : List Int) (z : Int) : ∀ (c o : List Int), z ∈ leftL s c o ↔ z ∈ o ∨ (z ∈ c ∧ hb s (-z) = false)
  | [], o => by simp [leftL]
  | x :: c, o => by
    unfold leftL
    split
    · rename_i h
      rw [mem_leftL s z c o]
      constructor
      · rintro (h1 | ⟨h1, h2⟩)
        · exact .inl h1
        · exact .inr ⟨by simp [h1], h2⟩
      · rintro (h1 | ⟨h1, h2⟩)
        · exact .inl h1
        · rcases List.mem_cons.1 h1 with rfl | h1
          · rw [h] at h2; cases h2
          · exact .inr ⟨h1, h2⟩
    · rename_i h
      split
      · rename_i h3
        rw [mem_leftL s z c o]
        constructor
        · rintro (h1 | ⟨h1, h2⟩)
          · exact .inl h1
          · exact .inr ⟨by simp [h1], h2⟩
        · rintro (h1 | ⟨h1, h2⟩)
          · exact .inl h1
          · rcases List.mem_cons.1 h1 with rfl | h1
            · exact .inl (by simpa using h3)
            · exact .inr ⟨h1, h2⟩
      · rw [mem_leftL s z c]
        simp only [List.mem_append, List.mem_cons, List.not_mem_nil, or_false]
        constructor
        · rintro ((h1 | h1) | ⟨h1, h2⟩)
          · exact .inl h1
          · subst h1; exact .inr ⟨.inl rfl, by simpa using h⟩
          · exact .inr ⟨.inr h1, h2⟩
        · rintro (h1 | ⟨h1 | h1, h2⟩)
          · exact .inl (.inl h1)
          · exact .inl (.inr h1)
          · exact .inr ⟨h1, h2⟩
theorem nodup_leftL (s : List Int) : ∀ (c o : List Int), o.Nodup → (leftL s c o).Nodup
  | [], o, h => h
  | x :: c, o, h => by
    unfold leftL
    split
    · exact nodup_leftL s c o h
    · split
      · exact nodup_leftL s c o h
      · rename_i h3
        refine nodup_leftL s c _ ?_
        rw [List.nodup_append]
        refine ⟨h, by simp, fun a ha b hb e => ?_⟩
        rw [List.mem_singleton] at hb
        subst hb e
        exact h3 (by simpa using ha)

/-- A clause that asks for nothing more, by the signs. -/
def SettledS (s : List Int) (c : List Int) : Prop := (∃ x ∈ c, hb s x = true) ∨ ∃ u ∈ c, ∃ v ∈ c, u ≠ v ∧ hb s (-u) = false ∧ hb s (-v) = false

/-! ### The list at the end -/
def outL (s : List Int) : Nat → Nat → List Int
  | 0, _ => []
  | d + 1, v => if at0 s v = 0 then outL s d (v + 1) else (at0 s v * v) :: outL s d (v + 1)
theorem mem_outL {s : List Int} (ht : Tri s) (x : Int) : ∀ (d v : Nat), 1 ≤ v → (x ∈ outL s d v ↔ v ≤ x.natAbs ∧ x.natAbs < v + d ∧ hb s x = true)
  | 0, v, _ => by simp [outL]; omega
  | d + 1, v, hv => by
    have ih := mem_outL ht x d (v + 1) (by omega)
    unfold outL
    have hz : x.natAbs = v → (hb s x = true ↔ at0 s v ≠ 0 ∧ x = at0 s v * v) := fun e => by
      rw [hb_iff, e]
      unfold sg
      rcases ht v with h | h | h <;> rw [h] <;> split <;> constructor <;> intro h3 <;> first | omega | exact absurd h3 (by omega)
    split
    · rename_i h
      rw [ih]
      constructor
      · rintro ⟨h1, h2, h3⟩; exact ⟨by omega, by omega, h3⟩
      · rintro ⟨h1, h2, h3⟩
        refine ⟨?_, by omega, h3⟩
        by_cases e : x.natAbs = v
        · exact absurd h ((hz e).1 h3).1
        · omega
    · rename_i h
      rw [List.mem_cons, ih]
      constructor
      · rintro (h1 | ⟨h1, h2, h3⟩)
        · have e : x.natAbs = v := by
            subst h1
            rcases ht v with h | h | h <;> rw [h] <;> first | omega | contradiction
          exact ⟨by omega, by omega, (hz e).2 ⟨h, h1⟩⟩
        · exact ⟨by omega, by omega, h3⟩
      · rintro ⟨h1, h2, h3⟩
        by_cases e : x.natAbs = v
        · exact .inl ((hz e).1 h3).2
        · exact .inr ⟨by omega, by omega, h3⟩
theorem up_outL {s : List Int} (ht : Tri s) : ∀ (d v : Nat), 1 ≤ v → Up (outL s d v)
  | 0, v, _ => by simp [outL, Up]
  | d + 1, v, hv => by
    have ih := up_outL ht d (v + 1) (by omega)
    unfold outL
    split
    · exact ih
    · rename_i h
      refine List.pairwise_cons.2 ⟨fun y hy => ?_, ih⟩
      have := ((mem_outL ht y d (v + 1) (by omega)).1 hy).1
      rcases ht v with h | h | h <;> rw [h] <;> first | omega | contradiction

/-- All that is known on the way. -/
structure RWay (l : List (List Int)) (fr : List Int) (n : Nat) (s : List Int) : Prop where
  len : s.length = n + 1
  tri : Tri s
  der : ∀ x, x ≠ 0 → hb s x = true → Der l fr x
theorem RWay.set {l : List (List Int)} {fr s : List Int} {n : Nat} {x : Int} (h : RWay l fr n s) (hx : Der l fr x) (h0 : x ≠ 0) (hn : x.natAbs ≤ n) (h1 : at0 s x.natAbs = 0 ∨ at0 s x.natAbs = sg x) : RWay l fr n (s.set x.natAbs (sg x)) :=
  ⟨by rw [List.length_set]; exact h.len, tri_set h.tri (by rw [h.len]; omega) x, fun z hz hb => by
    rcases (hb_set (by rw [h.len]; omega) h1 z hz).1 hb with rfl | hb
    · exact hx
    · exact h.der z hz hb⟩
theorem RWay.start (l : List (List Int)) (fr : List Int) (n : Nat) : RWay l fr n (List.replicate (n + 1) 0) := by
  have h : ∀ m, at0 (List.replicate (n + 1) (0 : Int)) m = 0 := fun m => by
    unfold at0
    rw [List.getD_eq_getElem?_getD]
    by_cases e : m < n + 1
    · simp [List.getElem?_replicate, e]
    · simp [List.getElem?_replicate, e]
  exact ⟨by simp, fun m => .inl (h m), fun x hx hb => by
    rw [hb_iff, h] at hb
    exact absurd hb.symm (sg_ne x)⟩

theorem rend {l : List (List Int)} {fr s : List Int} {n : Nat} (hl : lRight l = true) (hf : cRight fr = true) (h : RWay l fr n s) (hfr : ∀ x ∈ fr, x.natAbs ≤ n ∧ hb s x = true) (hn : ∀ c ∈ l, ∀ x ∈ c, x.natAbs ≤ n) (hc : ∀ c ∈ l, SettledS s c) :
    spread l fr = (outL s n 1, true) := by
  have hm : ∀ x, x ≠ 0 → x.natAbs ≤ n → (x ∈ outL s n 1 ↔ hb s x = true) := fun x h0 hn => by
    rw [mem_outL h.tri x n 1 (by omega)]
    constructor
    · exact fun h => h.2.2
    · exact fun h => ⟨by omega, by omega, h⟩
  have hm2 : ∀ x, x ∈ outL s n 1 → x ≠ 0 ∧ hb s x = true := fun x hx => by
    have := (mem_outL h.tri x n 1 (by omega)).1 hx
    exact ⟨by omega, this.2.2⟩
  have hu := up_outL h.tri n 1 (by omega)
  have hd := done (l := l) (fr := fr) (S := outL s n 1) (fun x hx => (hm x (ne_zero_of hf hx) (hfr x hx).1).2 (hfr x hx).2) (fun x hx => h.der x (hm2 x hx).1 (hm2 x hx).2)
    (hu.imp fun h => by omega) (fun x hx => (hm2 x hx).1) (fun c hcl => by
      have h0 : ∀ x ∈ c, x ≠ 0 := fun x hx => ne_zero_of (cRight_of hl hcl) hx
      have hn' : ∀ x ∈ c, hb s (-x) = false → -x ∉ outL s n 1 := fun x hx hb h => by
        have := (hm2 _ h).2
        rw [hb] at this
        cases this
      rcases hc c hcl with ⟨x, hx, hb⟩ | ⟨u, hu, v, hv, huv, h1, h2⟩
      · exact .inl ⟨x, hx, (hm x (h0 x hx) (hn c hcl x hx)).2 hb⟩
      · exact .inr ⟨u, hu, v, hv, huv, hn' u hu h1, hn' v hv h2⟩)
  exact spread_some hl hf hd.1 hu hd.2
end Go.Proofs.YtnknoaolbjofiaaDoor.Cl
