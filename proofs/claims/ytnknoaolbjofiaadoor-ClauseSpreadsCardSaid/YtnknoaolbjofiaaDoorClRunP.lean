/- spreader.run and Spread: what stands on the way, without the machine. -/
import Derived.Test.YtnknoaolbjofiaaDoorClAskP
set_option linter.unusedVariables false
set_option linter.unusedSimpArgs false
namespace Go.Proofs.YtnknoaolbjofiaaDoor.Cl

def row (l : List (List Int)) (m : Nat) : List Int := l.getD m []
theorem row_mem {l : List (List Int)} {m : Nat} (h : m < l.length) : row l m ∈ l := by
  simp [row, List.getD_eq_getElem?_getD, List.getElem?_eq_getElem h]
theorem mem_row {l : List (List Int)} {c : List Int} (h : c ∈ l) : ∃ m, m < l.length ∧ row l m = c := by
  obtain ⟨m, hm, e⟩ := List.mem_iff_getElem.1 h
  exact ⟨m, hm, by simp [row, List.getD_eq_getElem?_getD, List.getElem?_eq_getElem hm, e]⟩

/-- In which clauses a literal stands. -/
def inFrom (x : Int) : Nat → List (List Int) → List Int
  | _, [] => []
  | k, c :: l => (c.filter (· == x)).map (fun _ => (k : Int)) ++ inFrom x (k + 1) l
def inOf (l : List (List Int)) (x : Int) : List Int := inFrom x 0 l

theorem mem_inFrom {x z : Int} : ∀ {l : List (List Int)} {k : Nat}, z ∈ inFrom x k l ↔ ∃ m, m < l.length ∧ z = ((k + m : Nat) : Int) ∧ x ∈ row l m
  | [], k => by simp [inFrom]
  | c :: l, k => by
    simp only [inFrom, List.mem_append, mem_inFrom (l := l) (k := k + 1)]
    constructor
    · rintro (h | ⟨m, hm, rfl, hx⟩)
      · simp only [List.mem_map, List.mem_filter] at h
        obtain ⟨y, ⟨hy, hyx⟩, rfl⟩ := h
        refine ⟨0, by simp, by simp, ?_⟩
        obtain rfl : y = x := by simpa using hyx
        simpa [row] using hy
      · exact ⟨m + 1, by simpa using hm, by simp; omega, by simpa [row] using hx⟩
    · rintro ⟨m, hm, rfl, hx⟩
      cases m with
      | zero =>
        refine .inl ?_
        simp only [List.mem_map, List.mem_filter]
        exact ⟨x, ⟨by simpa [row] using hx, by simp⟩, by simp⟩
      | succ m => exact .inr ⟨m, by simpa using hm, by simp; omega, by simpa [row] using hx⟩
theorem mem_inOf {l : List (List Int)} {x z : Int} : z ∈ inOf l x ↔ ∃ m, m < l.length ∧ z = (m : Int) ∧ x ∈ row l m := by
  unfold inOf
  rw [mem_inFrom]
  simp
theorem inFrom_snoc (x : Int) (c : List Int) : ∀ (l : List (List Int)) (k : Nat), inFrom x k (l ++ [c]) = inFrom x k l ++ (c.filter (· == x)).map (fun _ => ((k + l.length : Nat) : Int))
  | [], k => by simp [inFrom]
  | d :: l, k => by
    simp only [List.cons_append, inFrom, inFrom_snoc x c l (k + 1), List.append_assoc, List.length_cons]
    rw [show k + 1 + l.length = k + (l.length + 1) from by omega]
theorem length_inFrom (x : Int) : ∀ (l : List (List Int)) (k : Nat), (inFrom x k l).length ≤ total l
  | [], k => by simp [inFrom, total]
  | c :: l, k => by
    have h1 := length_inFrom x l (k + 1)
    have h2 := List.length_filter_le (· == x) c
    simp only [total, List.map_cons, List.foldr_cons] at *
    simp only [inFrom, List.length_append, List.length_map]
    omega
/-- What the map holds after k clauses and j literals of the next. -/
def inAt (l : List (List Int)) (k j : Nat) (x : Int) : List Int := inFrom x 0 (l.take k) ++ (((row l k).take j).filter (· == x)).map (fun _ => (k : Int))
theorem inAt_zero (l : List (List Int)) (x : Int) : inAt l 0 0 x = [] := by simp [inAt, inFrom]
theorem inAt_next {l : List (List Int)} {k : Nat} (h : k < l.length) (x : Int) : inAt l k (row l k).length x = inAt l (k + 1) 0 x := by
  have ht : l.take (k + 1) = l.take k ++ [row l k] := by
    rw [List.take_succ_eq_append_getElem h]
    simp [row, List.getD_eq_getElem?_getD, List.getElem?_eq_getElem h]
  have hl : (l.take k).length = k := by rw [List.length_take]; omega
  simp only [inAt, ht, inFrom_snoc, hl, List.take_length, List.take_zero, List.filter_nil, List.map_nil, List.append_nil, Nat.zero_add]
theorem inAt_step {l : List (List Int)} {k j : Nat} (h : j < (row l k).length) (x : Int) : inAt l k (j + 1) x = if x = (row l k).getD j 0 then inAt l k j x ++ [(k : Int)] else inAt l k j x := by
  have ht : (row l k).take (j + 1) = (row l k).take j ++ [(row l k).getD j 0] := by
    rw [List.take_succ_eq_append_getElem h]
    simp [List.getD_eq_getElem?_getD, List.getElem?_eq_getElem h]
  simp only [inAt, ht, List.filter_append, List.map_append, List.append_assoc]
  by_cases e : x = (row l k).getD j 0
  · subst e; simp
  · have h1 : ((row l k).getD j 0 == x) = false := beq_eq_false_iff_ne.2 fun h => e h.symm
    rw [if_neg e, List.filter_cons, if_neg (by rw [h1]; decide)]
    simp
theorem inAt_end (l : List (List Int)) (x : Int) : inAt l l.length 0 x = inOf l x := by simp [inAt, inOf]
theorem length_inAt (l : List (List Int)) (k j : Nat) (x : Int) : (inAt l k j x).length ≤ total (l.take k) + (row l k).length := by
  simp only [inAt, List.length_append, List.length_map]
  have h1 := length_inFrom x (l.take k) 0
  have h2 := List.length_filter_le (· == x) ((row l k).take j)
  have h3 : ((row l k).take j).length ≤ (row l k).length := by rw [List.length_take]; omega
  omega
theorem total_take (l : List (List Int)) : ∀ k, k < l.length → total (l.take k) + (row l k).length ≤ total l := by
  induction l with
  | nil => intro k h; simp at h
  | cons c l ih =>
    intro k h
    cases k with
    | zero => simp [total, row]
    | succ k =>
      have := ih k (by simpa using h)
      simp [total, row] at *
      omega

/-- What holds on the way: the literals fr up to j are in, the clauses up to k have been asked, those whose numbers are in K are to be asked anew. -/
structure RInv (l : List (List Int)) (fr S W K : List Int) (j k : Nat) : Prop where
  way : Way l fr S
  sub : ∀ x ∈ W, x ∈ S
  nd : W.Nodup
  lit : ∀ x ∈ S, -1048576 ≤ x ∧ x ≤ 1048576 ∧ x ≠ 0
  src : ∀ x ∈ S, x ∈ fr ∨ ∃ c ∈ l, x ∈ c
  got : ∀ i, i < j → fr.getD i 0 ∈ S
  set : ∀ m, m < k → Settled S (row l m) ∨ (∃ y ∈ row l m, -y ∈ W) ∨ (m : Int) ∈ K

section
variable {l : List (List Int)} {fr S W K : List Int} {j k : Nat}

theorem RInv.start (l : List (List Int)) (fr : List Int) : RInv l fr [] [] [] 0 0 := ⟨Way.nil l fr, by simp, by simp, by simp, by simp, fun i h => by omega, fun m h => by omega⟩
theorem settled_more {z : Int} {c : List Int} (h : Settled S c) : Settled (z :: S) c ∨ ∃ y ∈ c, -y ∈ z :: W := by
  rcases h with ⟨x, hx, hS⟩ | ⟨u, hu, v, hv, hne, h1, h2⟩
  · exact .inl (.inl ⟨x, hx, by simp [hS]⟩)
  · by_cases e : -u = z
    · exact .inr ⟨u, hu, by simp [e]⟩
    · by_cases e' : -v = z
      · exact .inr ⟨v, hv, by simp [e']⟩
      · exact .inl (.inr ⟨u, hu, v, hv, hne, by simp [e, h1], by simp [e', h2]⟩)
/-- A literal more. -/
theorem RInv.more {z : Int} (h : RInv l fr S W K j k) (hd : Der l fr z) (h0 : z ≠ 0) (h1 : z ∉ S) (h2 : -z ∉ S) (hb : -1048576 ≤ z ∧ z ≤ 1048576) (hs : z ∈ fr ∨ ∃ c ∈ l, z ∈ c) : RInv l fr (z :: S) (z :: W) K j k where
  way := h.way.cons hd h0 h1 h2
  sub x hx := by rcases List.mem_cons.1 hx with rfl | hx <;> simp [h.sub, *]
  nd := List.nodup_cons.2 ⟨fun hw => h1 (h.sub z hw), h.nd⟩
  lit x hx := by
    rcases List.mem_cons.1 hx with rfl | hx
    · exact ⟨hb.1, hb.2, h0⟩
    · exact h.lit x hx
  src x hx := by
    rcases List.mem_cons.1 hx with rfl | hx
    · exact hs
    · exact h.src x hx
  got i hi := List.mem_cons_of_mem _ (h.got i hi)
  set m hm := by
    rcases h.set m hm with h' | ⟨y, hy, hW⟩ | hK
    · rcases settled_more (W := W) (z := z) h' with h' | h'
      · exact .inl h'
      · exact .inr (.inl h')
    · exact .inr (.inl ⟨y, hy, by simp [hW]⟩)
    · exact .inr (.inr hK)
theorem RInv.size (h : RInv l fr S W K j k) : S.length ≤ fr.length + total l := by
  have := length_le_of_sub S (fr ++ flat l) h.way.apart fun x hx => by
    rcases h.src x hx with h' | h'
    · simp [h']
    · simp [mem_flat.2 h']
  rwa [List.length_append, length_flat] at this
theorem RInv.ndS (h : RInv l fr S W K j k) : S.Nodup := h.way.apart.imp fun hne e => hne (by rw [e])
theorem length_sub : ∀ (W S : List Int), W.Nodup → (∀ x ∈ W, x ∈ S) → W.length ≤ S.length
  | [], S, _, _ => Nat.zero_le _
  | x :: W, S, hn, hs => by
    have hn' := List.nodup_cons.1 hn
    have hx : x ∈ S := hs x (by simp)
    have ih := length_sub W (S.erase x) hn'.2 fun y hy => (List.mem_erase_of_ne fun e => hn'.1 (by rw [← e]; exact hy)).2 (hs y (by simp [hy]))
    rw [List.length_erase_of_mem hx] at ih
    have : 0 < S.length := List.length_pos_of_mem hx
    simp only [List.length_cons]
    omega
theorem RInv.sizeW (h : RInv l fr S W K j k) : W.length ≤ S.length := length_sub W S h.nd h.sub

/-- 'from' goes on. -/
theorem RInv.held_old (h : RInv l fr S W K j k) (hx : fr.getD j 0 ∈ S) : RInv l fr S W K (j + 1) k := by
  refine { h with got := fun i hi => ?_ }
  rcases Nat.lt_or_ge i j with h' | h'
  · exact h.got i h'
  · obtain rfl : i = j := by omega
    exact hx
/-- A clause has been asked. -/
theorem RInv.asked (h : RInv l fr S W K j k) (hx : Settled S (row l k)) : RInv l fr S W K j (k + 1) := by
  refine { h with set := fun m hm => ?_ }
  rcases Nat.lt_or_ge m k with h' | h'
  · exact h.set m h'
  · obtain rfl : m = k := by omega
    exact .inl hx
theorem RInv.again {m : Nat} (h : RInv l fr S W ((m : Int) :: K) j k) (hx : Settled S (row l m)) : RInv l fr S W K j k := by
  refine { h with set := fun i hi => ?_ }
  rcases h.set i hi with h' | h' | h'
  · exact .inl h'
  · exact .inr (.inl h')
  · rcases List.mem_cons.1 h' with e | h'
    · obtain rfl : i = m := by omega
      exact .inl hx
    · exact .inr (.inr h')
/-- What is waiting is taken. -/
theorem RInv.pop {x : Int} (h : RInv l fr S W [] j l.length) (hx : x ∈ W) : RInv l fr S (W.erase x) (inOf l (-x)) j l.length := by
  refine { h with sub := fun y hy => h.sub y (List.mem_of_mem_erase hy), nd := h.nd.erase x, set := fun m hm => ?_ }
  rcases h.set m hm with h' | ⟨y, hy, hW⟩ | h'
  · exact .inl h'
  · by_cases e : -y = x
    · exact .inr (.inr (mem_inOf.2 ⟨m, hm, rfl, by subst e; simpa using hy⟩))
    · exact .inr (.inl ⟨y, hy, (List.mem_erase_of_ne e).2 hW⟩)
  · simp at h'
/-- Nothing is waiting. -/
theorem RInv.end_ (h : RInv l fr S [] [] fr.length l.length) : ¬ Fails l fr ∧ ∀ x, x ∈ S ↔ Der l fr x := by
  refine done (fun x hx => ?_) h.way.der h.way.apart h.way.zero (fun c hc => ?_)
  · obtain ⟨i, hi, e⟩ := List.mem_iff_getElem.1 hx
    have := h.got i hi
    rw [List.getD_eq_getElem?_getD, List.getElem?_eq_getElem hi] at this
    simpa [e] using this
  · obtain ⟨m, hm, rfl⟩ := mem_row hc
    rcases h.set m hm with h' | ⟨_, _, h'⟩ | h'
    · exact h'
    · simp at h'
    · simp at h'
/-- What a clause asks for follows. -/
theorem RInv.unit {c : List Int} {z : Int} (h : RInv l fr S W K j k) (hc : c ∈ l) (hz : z ∈ c) (hy : ∀ y ∈ c, y ≠ z → -y ∈ S) : Der l fr z :=
  Der.unit hc hz fun y hyc hne => h.way.der _ (hy y hyc hne)
theorem RInv.fails {c : List Int} (h : RInv l fr S W K j k) (hc : c ∈ l) (hy : ∀ y ∈ c, -y ∈ S) : Fails l fr := .inr ⟨c, hc, fun y hyc => h.way.der _ (hy y hyc)⟩
theorem RInv.clash {x : Int} (h : RInv l fr S W K j k) (hx : x ∈ fr) (hn : -x ∈ S) : Fails l fr := .inl ⟨x, Der.of_from hx, h.way.der _ hn⟩
end
end Go.Proofs.YtnknoaolbjofiaaDoor.Cl
