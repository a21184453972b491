/- What spreads from literals in clauses: the plain law, without a program: what follows clause by clause, a function that computes it, and that they are one. -/
namespace Go.Proofs.YtnknoaolbjofiaaDoor.Cl

def litOk (x : Int) : Bool := x != 0 && (decide (-1048576 ≤ x) && decide (x ≤ 1048576))
def cRight (c : List Int) : Bool := c.all litOk
def lRight (l : List (List Int)) : Bool := l.all cRight

/-- A set of literals that is closed under clauses of one literal left. -/
def Closed (l : List (List Int)) (S : Int → Prop) : Prop := ∀ c ∈ l, ∀ x ∈ c, (∀ y ∈ c, y ≠ x → S (-y)) → S x
/-- What follows. -/
def Der (l : List (List Int)) (fr : List Int) (x : Int) : Prop := ∀ S : Int → Prop, (∀ z ∈ fr, S z) → Closed l S → S x
def Fails (l : List (List Int)) (fr : List Int) : Prop := (∃ x, Der l fr x ∧ Der l fr (-x)) ∨ ∃ c ∈ l, ∀ y ∈ c, Der l fr (-y)

theorem Der.of_from {l : List (List Int)} {fr : List Int} {x : Int} (h : x ∈ fr) : Der l fr x := fun _ hf _ => hf x h
theorem Der.unit {l : List (List Int)} {fr : List Int} {c : List Int} {x : Int} (hc : c ∈ l) (hx : x ∈ c) (h : ∀ y ∈ c, y ≠ x → Der l fr (-y)) : Der l fr x :=
  fun S hf hS => hS c hc x hx fun y hy hne => h y hy hne S hf hS

/-! ### A function that computes it -/
def hold1 (S : List Int) (x : Int) : Option (List Int) := if S.contains (-x) then none else if S.contains x then some S else some (x :: S)
def start : List Int → List Int → Option (List Int)
  | [], S => some S
  | x :: fr, S => (hold1 S x).bind (start fr)
def unitStep (S : List Int) (c : List Int) : Option (List Int) :=
  match c.filter (fun x => !S.contains (-x)) with
  | [] => none
  | x :: r => if r.all (· == x) && !S.contains x then some (x :: S) else some S
def pass : List (List Int) → List Int → Option (List Int)
  | [], S => some S
  | c :: l, S => (unitStep S c).bind (pass l)
def iter : Nat → List (List Int) → List Int → Option (List Int)
  | 0, _, S => some S
  | n + 1, l, S => (pass l S).bind fun S' => if S'.length = S.length then some S' else iter n l S'
def ins (x : Int) : List Int → List Int
  | [] => [x]
  | y :: r => if x.natAbs ≤ y.natAbs then x :: y :: r else y :: ins x r
def isort : List Int → List Int
  | [] => []
  | x :: r => ins x (isort r)
def total (l : List (List Int)) : Nat := (l.map List.length).foldr (· + ·) 0
def spread (l : List (List Int)) (fr : List Int) : List Int × Bool :=
  if lRight l && cRight fr then
    match start fr [] with
    | none => ([], false)
    | some S => match iter (total l + 1) l S with
      | none => ([], false)
      | some S => (isort S, true)
  else ([], false)

/-! ### Sorting by the variable -/
def Up (l : List Int) : Prop := l.Pairwise fun a b => a.natAbs < b.natAbs
theorem mem_ins (x z : Int) : ∀ l, z ∈ ins x l ↔ z = x ∨ z ∈ l
  | [] => by simp [ins]
  | y :: r => by
    unfold ins
    split
    · simp
    · simp only [List.mem_cons, mem_ins x z r]
      constructor
      · rintro (h | h | h)
        · exact .inr (.inl h)
        · exact .inl h
        · exact .inr (.inr h)
      · rintro (h | h | h)
        · exact .inr (.inl h)
        · exact .inl h
        · exact .inr (.inr h)
theorem mem_isort (z : Int) : ∀ l, z ∈ isort l ↔ z ∈ l
  | [] => by simp [isort]
  | x :: r => by simp only [isort, mem_ins, mem_isort z r, List.mem_cons]
theorem up_ins (x : Int) : ∀ l, Up l → (∀ y ∈ l, y.natAbs ≠ x.natAbs) → Up (ins x l)
  | [], _, _ => by simp [ins, Up]
  | y :: r, hu, hne => by
    have hy := hne y (by simp)
    have hu' := List.pairwise_cons.1 hu
    unfold ins
    split
    · rename_i h
      refine List.pairwise_cons.2 ⟨fun z hz => ?_, hu⟩
      rcases List.mem_cons.1 hz with rfl | hz
      · omega
      · have := hu'.1 z hz
        omega
    · rename_i h
      refine List.pairwise_cons.2 ⟨fun z hz => ?_, up_ins x r hu'.2 fun z hz => hne z (by simp [hz])⟩
      rcases (mem_ins x z r).1 hz with rfl | hz
      · omega
      · exact hu'.1 z hz
/-- No literal twice, and no two opposites. -/
def Apart (S : List Int) : Prop := S.Pairwise fun a b => a.natAbs ≠ b.natAbs
theorem up_isort : ∀ l, Apart l → Up (isort l)
  | [], _ => by simp [isort, Up]
  | x :: r, h => by
    have h' := List.pairwise_cons.1 h
    exact up_ins x _ (up_isort r h'.2) fun y hy => fun e => h'.1 y ((mem_isort y r).1 hy) e.symm
theorem up_unique : ∀ a b : List Int, Up a → Up b → (∀ x, x ∈ a ↔ x ∈ b) → a = b
  | [], b, _, _, h => by
    cases b with
    | nil => rfl
    | cons y r => exact absurd ((h y).2 (by simp)) (by simp)
  | x :: r, [], _, _, h => absurd ((h x).1 (by simp)) (by simp)
  | x :: r, y :: s, ha, hb, h => by
    have ha' := List.pairwise_cons.1 ha
    have hb' := List.pairwise_cons.1 hb
    have exy : x = y := by
      rcases List.mem_cons.1 ((h x).1 (by simp)) with e | e
      · exact e
      · rcases List.mem_cons.1 ((h y).2 (by simp)) with e' | e'
        · exact e'.symm
        · have h1 := hb'.1 x e
          have h2 := ha'.1 y e'
          omega
    subst exy
    rw [up_unique r s ha'.2 hb'.2 fun z => ?_]
    constructor
    · intro hz
      rcases List.mem_cons.1 ((h z).1 (List.mem_cons_of_mem _ hz)) with e | e
      · subst e; exact absurd (ha'.1 z hz) (by omega)
      · exact e
    · intro hz
      rcases List.mem_cons.1 ((h z).2 (List.mem_cons_of_mem _ hz)) with e | e
      · subst e; exact absurd (hb'.1 z hz) (by omega)
      · exact e

/-! ### What any way of working may lean on -/
theorem apart_cons {S : List Int} {x : Int} (h : Apart S) (h1 : x ∉ S) (h2 : -x ∉ S) : Apart (x :: S) :=
  List.pairwise_cons.2 ⟨fun y hy e => by
    have : y = x ∨ y = -x := by omega
    rcases this with rfl | rfl
    · exact h1 hy
    · exact h2 hy, h⟩
theorem apart_opp {S : List Int} (h : Apart S) {x : Int} (hx : x ∈ S) (h0 : x ≠ 0) : -x ∉ S := fun hn => by
  have aux : ∀ S : List Int, Apart S → x ∈ S → -x ∈ S → False := by
    intro S
    induction S with
    | nil => intro _ h; simp at h
    | cons a r ih =>
      intro hS h1 h2
      have hS' := List.pairwise_cons.1 hS
      rcases List.mem_cons.1 h1 with e1 | h1
      · rcases List.mem_cons.1 h2 with e2 | h3
        · omega
        · exact hS'.1 (-x) h3 (by omega)
      · rcases List.mem_cons.1 h2 with e2 | h3
        · exact hS'.1 x h1 (by omega)
        · exact ih hS'.2 h1 h3
  exact aux S h hx hn

/-- A clause that asks for nothing more. -/
def Settled (S : List Int) (c : List Int) : Prop := (∃ x ∈ c, x ∈ S) ∨ ∃ u ∈ c, ∃ v ∈ c, u ≠ v ∧ -u ∉ S ∧ -v ∉ S

theorem done {l : List (List Int)} {fr S : List Int} (hf : ∀ x ∈ fr, x ∈ S) (hS : ∀ x ∈ S, Der l fr x) (ha : Apart S) (h0 : ∀ x ∈ S, x ≠ 0) (hc : ∀ c ∈ l, Settled S c) :
    ¬ Fails l fr ∧ ∀ x, x ∈ S ↔ Der l fr x := by
  have hcl : Closed l (· ∈ S) := by
    intro c hcl x hx hy
    rcases hc c hcl with ⟨z, hz, hzS⟩ | ⟨u, hu, v, hv, huv, hnu, hnv⟩
    · by_cases e : z = x
      · subst e; exact hzS
      · exact absurd (hy z hz e) (apart_opp ha hzS (h0 z hzS))
    · by_cases e : u = x
      · subst e; exact absurd (hy v hv (fun e => huv e.symm)) hnv
      · exact absurd (hy u hu e) hnu
  have hd : ∀ x, x ∈ S ↔ Der l fr x := fun x => ⟨hS x, fun h => h (· ∈ S) hf hcl⟩
  refine ⟨?_, hd⟩
  rintro (⟨x, h1, h2⟩ | ⟨c, hcl', hy⟩)
  · have h1 := (hd x).2 h1
    exact apart_opp ha h1 (h0 x h1) ((hd _).2 h2)
  · rcases hc c hcl' with ⟨z, hz, hzS⟩ | ⟨u, hu, v, hv, huv, hnu, hnv⟩
    · exact apart_opp ha hzS (h0 z hzS) ((hd _).2 (hy z hz))
    · exact hnu ((hd _).2 (hy u hu))

theorem ne_zero_of {c : List Int} (h : cRight c = true) {x : Int} (hx : x ∈ c) : x ≠ 0 := by
  have := List.all_eq_true.1 h x hx
  simp [litOk] at this
  exact this.1
theorem cRight_of {l : List (List Int)} (h : lRight l = true) {c : List Int} (hc : c ∈ l) : cRight c = true := List.all_eq_true.1 h c hc

/-- All that is known of a set on the way. -/
structure Way (l : List (List Int)) (fr S : List Int) : Prop where
  der : ∀ x ∈ S, Der l fr x
  apart : Apart S
  zero : ∀ x ∈ S, x ≠ 0

theorem Way.nil (l : List (List Int)) (fr : List Int) : Way l fr [] := ⟨by simp, by simp [Apart], by simp⟩
theorem Way.cons {l : List (List Int)} {fr S : List Int} {x : Int} (h : Way l fr S) (hx : Der l fr x) (h0 : x ≠ 0) (h1 : x ∉ S) (h2 : -x ∉ S) : Way l fr (x :: S) :=
  ⟨fun z hz => by rcases List.mem_cons.1 hz with rfl | hz <;> first | exact hx | exact h.der z hz, apart_cons h.apart h1 h2, fun z hz => by rcases List.mem_cons.1 hz with rfl | hz <;> first | exact h0 | exact h.zero z hz⟩

theorem hold1_way {l : List (List Int)} {fr S S' : List Int} {x : Int} (h : Way l fr S) (hx : Der l fr x) (h0 : x ≠ 0) (hs : hold1 S x = some S') : Way l fr S' ∧ x ∈ S' ∧ ∀ z ∈ S, z ∈ S' := by
  unfold hold1 at hs
  split at hs
  · cases hs
  · rename_i h2
    split at hs
    · rename_i h1
      cases hs
      exact ⟨h, by simpa using h1, fun _ hz => hz⟩
    · rename_i h1
      cases hs
      exact ⟨h.cons hx h0 (by simpa using h1) (by simpa using h2), by simp, fun _ hz => by simp [hz]⟩
theorem start_way {l : List (List Int)} {fr : List Int} : ∀ (gs S : List Int), (∀ x ∈ gs, x ∈ fr ∧ x ≠ 0) → Way l fr S →
    match start gs S with
    | none => Fails l fr
    | some S' => Way l fr S' ∧ (∀ x ∈ gs, x ∈ S') ∧ ∀ z ∈ S, z ∈ S'
  | [], S, _, h => ⟨h, by simp, fun _ hz => hz⟩
  | x :: gs, S, hg, h => by
    have hx := hg x (by simp)
    unfold start
    cases e : hold1 S x with
    | none =>
      show Fails l fr
      unfold hold1 at e
      split at e
      · rename_i h2
        exact .inl ⟨x, Der.of_from hx.1, h.der _ (by simpa using h2)⟩
      · split at e <;> cases e
    | some S1 =>
      have hw := hold1_way h (Der.of_from hx.1) hx.2 e
      have ih := start_way gs S1 (fun z hz => hg z (by simp [hz])) hw.1
      show match start gs S1 with
        | none => Fails l fr
        | some S' => Way l fr S' ∧ (∀ z ∈ x :: gs, z ∈ S') ∧ ∀ z ∈ S, z ∈ S'
      cases e2 : start gs S1 with
      | none => rw [e2] at ih; exact ih
      | some S2 =>
        rw [e2] at ih
        refine ⟨ih.1, fun z hz => ?_, fun z hz => ih.2.2 z (hw.2.2 z hz)⟩
        rcases List.mem_cons.1 hz with rfl | hz
        · exact ih.2.2 _ hw.2.1
        · exact ih.2.1 z hz

theorem filter_nil {S c : List Int} (h : c.filter (fun x => !S.contains (-x)) = []) : ∀ y ∈ c, -y ∈ S := fun y hy => by
  have := List.filter_eq_nil_iff.1 h y hy
  simpa using this

theorem unitStep_way {l : List (List Int)} {fr S : List Int} {c : List Int} (hc : c ∈ l) (hr : cRight c = true) (h : Way l fr S) :
    match unitStep S c with
    | none => Fails l fr
    | some S' => Way l fr S' ∧ (S' = S ∨ ∃ x ∈ c, x ∉ S ∧ S' = x :: S) ∧ (S' = S → Settled S c) := by
  unfold unitStep
  cases e : c.filter (fun x => !S.contains (-x)) with
  | nil => exact .inr ⟨c, hc, fun y hy => h.der _ (filter_nil e y hy)⟩
  | cons x r =>
    have hmem : ∀ z, z ∈ x :: r ↔ z ∈ c ∧ -z ∉ S := fun z => by rw [← e]; simp
    have hx := (hmem x).1 (by simp)
    simp only
    by_cases hh : (r.all (· == x) && !S.contains x) = true
    · rw [if_pos hh]
      simp only [Bool.and_eq_true, Bool.not_eq_true', List.all_eq_true] at hh
      have hxS : x ∉ S := by simpa using hh.2
      have hd : Der l fr x := Der.unit hc hx.1 fun y hy hne => by
        by_cases hyS : -y ∈ S
        · exact h.der _ hyS
        · rcases List.mem_cons.1 ((hmem y).2 ⟨hy, hyS⟩) with e | hy'
          · exact absurd e hne
          · exact absurd (by simpa using hh.1 y hy') hne
      refine ⟨h.cons hd (ne_zero_of hr hx.1) hxS hx.2, .inr ⟨x, hx.1, hxS, rfl⟩, fun e => ?_⟩
      have := congrArg List.length e
      simp at this
    · rw [if_neg hh]
      refine ⟨h, .inl rfl, fun _ => ?_⟩
      by_cases hxS : x ∈ S
      · exact .inl ⟨x, hx.1, hxS⟩
      · have : ¬ ∀ y ∈ r, (y == x) = true := fun ha => hh (by simp only [Bool.and_eq_true, Bool.not_eq_true', List.all_eq_true]; exact ⟨ha, by simpa using hxS⟩)
        obtain ⟨y, hy⟩ := Classical.not_forall.1 this
        obtain ⟨hyr, hyx⟩ := Classical.not_imp.1 hy
        have hy' := (hmem y).1 (by simp [hyr])
        exact .inr ⟨x, hx.1, y, hy'.1, fun e => hyx (by simp [e]), hx.2, hy'.2⟩

theorem settled_up {S S' c : List Int} (h : Settled S c) (he : S' = S) : Settled S' c := he ▸ h

theorem pass_way {l : List (List Int)} {fr : List Int} (hr : lRight l = true) : ∀ (m : List (List Int)) (S : List Int), (∀ c ∈ m, c ∈ l) → Way l fr S →
    match pass m S with
    | none => Fails l fr
    | some S' => Way l fr S' ∧ (∀ z ∈ S, z ∈ S') ∧ S.length ≤ S'.length ∧ (∀ z ∈ S', z ∈ S ∨ ∃ c ∈ l, z ∈ c) ∧ (S'.length = S.length → S' = S ∧ ∀ c ∈ m, Settled S c)
  | [], S, _, h => ⟨h, fun _ hz => hz, Nat.le_refl _, fun _ hz => .inl hz, fun _ => ⟨rfl, by simp⟩⟩
  | c :: m, S, hm, h => by
    have hc := hm c (by simp)
    have hu := unitStep_way hc (cRight_of hr hc) h
    unfold pass
    cases e : unitStep S c with
    | none => rw [e] at hu; exact hu
    | some S1 =>
      rw [e] at hu
      obtain ⟨hw, hor, hst⟩ := hu
      have ih := pass_way hr m S1 (fun z hz => hm z (by simp [hz])) hw
      show match pass m S1 with
        | none => Fails l fr
        | some S' => _
      cases e2 : pass m S1 with
      | none => rw [e2] at ih; exact ih
      | some S2 =>
        rw [e2] at ih
        obtain ⟨i1, i2, i3, i4, i5⟩ := ih
        have h01 : (∀ z ∈ S, z ∈ S1) ∧ (S1 = S ∨ S1.length = S.length + 1) ∧ ∀ z ∈ S1, z ∈ S ∨ ∃ c ∈ l, z ∈ c := by
          rcases hor with rfl | ⟨x, hx, _, rfl⟩
          · exact ⟨fun _ hz => hz, .inl rfl, fun _ hz => .inl hz⟩
          · refine ⟨fun _ hz => by simp [hz], .inr (by simp), fun z hz => ?_⟩
            rcases List.mem_cons.1 hz with rfl | hz
            · exact .inr ⟨c, hc, hx⟩
            · exact .inl hz
        refine ⟨i1, fun z hz => i2 z (h01.1 z hz), ?_, fun z hz => ?_, fun hl => ?_⟩
        · rcases h01.2.1 with e | e
          · rw [← e]; exact i3
          · omega
        · rcases i4 z hz with hz | hz
          · exact h01.2.2 z hz
          · exact .inr hz
        · rcases h01.2.1 with e | e
          · subst e
            obtain ⟨rfl, h5⟩ := i5 hl
            refine ⟨rfl, fun d hd => ?_⟩
            rcases List.mem_cons.1 hd with rfl | hd
            · exact hst rfl
            · exact h5 d hd
          · omega

/-- How many of a list's members stand in a set that is apart. -/
theorem length_le_of_sub : ∀ (S L : List Int), Apart S → (∀ x ∈ S, x ∈ L) → S.length ≤ L.length
  | [], _, _, _ => Nat.zero_le _
  | x :: S, L, ha, hs => by
    have ha' := List.pairwise_cons.1 ha
    have hx : x ∈ L := hs x (by simp)
    have ih := length_le_of_sub S (L.erase x) ha'.2 fun y hy => by
      refine (List.mem_erase_of_ne fun e => ?_).2 (hs y (by simp [hy]))
      subst e
      exact ha'.1 y hy rfl
    rw [List.length_erase_of_mem hx] at ih
    have : 0 < L.length := List.length_pos_of_mem hx
    simp only [List.length_cons]
    omega
def flat (l : List (List Int)) : List Int := l.foldr (· ++ ·) []
theorem mem_flat {z : Int} : ∀ {l : List (List Int)}, z ∈ flat l ↔ ∃ c ∈ l, z ∈ c
  | [] => by simp [flat]
  | c :: l => by
    have := mem_flat (z := z) (l := l)
    simp only [flat] at this
    simp [flat, this]
theorem length_flat : ∀ l : List (List Int), (flat l).length = total l
  | [] => rfl
  | c :: l => by
    have := length_flat l
    simp only [flat, total] at this
    simp [flat, total, this]

theorem iter_way {l : List (List Int)} {fr S0 : List Int} (hr : lRight l = true) : ∀ (n : Nat) (S : List Int), Way l fr S → (∀ z ∈ S0, z ∈ S) → (∀ z ∈ S, z ∈ S0 ∨ ∃ c ∈ l, z ∈ c) → S0.length + total l < S.length + n →
    match iter n l S with
    | none => Fails l fr
    | some S' => Way l fr S' ∧ (∀ z ∈ S0, z ∈ S') ∧ (∀ c ∈ l, Settled S' c) ∧ ∀ z ∈ S', z ∈ S0 ∨ ∃ c ∈ l, z ∈ c
  | 0, S, h, _, hs, hlt => by
    have h1 := length_le_of_sub S (S0 ++ flat l) h.apart fun x hx => by
      rcases hs x hx with h | h
      · simp [h]
      · simp [mem_flat.2 h]
    rw [List.length_append, length_flat] at h1
    omega
  | n + 1, S, h, h0, hs, hlt => by
    have hp := pass_way hr l S (fun _ hc => hc) h
    unfold iter
    cases e : pass l S with
    | none => rw [e] at hp; exact hp
    | some S1 =>
      rw [e] at hp
      obtain ⟨p1, p2, p3, p4, p5⟩ := hp
      simp only [Option.bind_some]
      have hs1 : ∀ z ∈ S1, z ∈ S0 ∨ ∃ c ∈ l, z ∈ c := fun z hz => by
        rcases p4 z hz with h | h
        · exact hs z h
        · exact .inr h
      by_cases hl : S1.length = S.length
      · rw [if_pos hl]
        obtain ⟨rfl, h5⟩ := p5 hl
        exact ⟨p1, h0, h5, hs1⟩
      · rw [if_neg hl]
        exact iter_way hr n S1 p1 (fun z hz => p2 z (h0 z hz)) hs1 (by omega)

/-- THE LAW: what 'spread' tells is what follows. -/
theorem spread_char {l : List (List Int)} {fr : List Int} (hl : lRight l = true) (hf : cRight fr = true) :
    (Fails l fr ∧ spread l fr = ([], false)) ∨ (¬ Fails l fr ∧ ∃ r, spread l fr = (r, true) ∧ Up r ∧ ∀ x, x ∈ r ↔ Der l fr x) := by
  have hs := start_way (l := l) (fr := fr) fr [] (fun x hx => ⟨hx, ne_zero_of hf hx⟩) (Way.nil l fr)
  unfold spread
  rw [hl, hf]
  simp only [Bool.and_self, if_true]
  cases e : start fr [] with
  | none => rw [e] at hs; exact .inl ⟨hs, rfl⟩
  | some S =>
    rw [e] at hs
    have hi := iter_way (S0 := S) hr0 (total l + 1) S hs.1 (fun _ hz => hz) (fun _ hz => .inl hz) (by omega)
    simp only
    cases e2 : iter (total l + 1) l S with
    | none => rw [e2] at hi; exact .inl ⟨hi, rfl⟩
    | some S2 =>
      rw [e2] at hi
      have hd := done (fun x hx => hi.2.1 x (hs.2.1 x hx)) hi.1.der hi.1.apart hi.1.zero hi.2.2.1
      exact .inr ⟨hd.1, isort S2, rfl, up_isort S2 hi.1.apart, fun x => by rw [mem_isort]; exact hd.2 x⟩
where hr0 := hl

/-- Whoever works it out otherwise comes to the same. -/
theorem spread_some {l : List (List Int)} {fr r : List Int} (hl : lRight l = true) (hf : cRight fr = true) (hn : ¬ Fails l fr) (hu : Up r) (hr : ∀ x, x ∈ r ↔ Der l fr x) : spread l fr = (r, true) := by
  rcases spread_char hl hf with ⟨h, _⟩ | ⟨_, r', h1, h2, h3⟩
  · exact absurd h hn
  · rw [h1, up_unique r' r h2 hu fun x => (h3 x).trans (hr x).symm]
theorem spread_none {l : List (List Int)} {fr : List Int} (hl : lRight l = true) (hf : cRight fr = true) (hn : Fails l fr) : spread l fr = ([], false) := by
  rcases spread_char hl hf with ⟨_, h⟩ | ⟨h, _⟩
  · exact h
  · exact absurd hn h
theorem spread_wrong {l : List (List Int)} {fr : List Int} (h : (lRight l && cRight fr) = false) : spread l fr = ([], false) := by
  unfold spread
  rw [h]
  rfl

end Go.Proofs.YtnknoaolbjofiaaDoor.Cl
