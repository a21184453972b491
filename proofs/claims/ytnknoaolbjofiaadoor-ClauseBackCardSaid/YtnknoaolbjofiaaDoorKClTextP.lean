/- For the statement of the row ClauseBack: what its proof needs of the text ClTextP. -/
import Derived.Test.YtnknoaolbjofiaaDoorKB4
import Derived.Lib.SplitLaws
import Derived.Lib.CountLaws
import Derived.Lib.AtoiAllCases

set_option linter.unusedVariables false
set_option linter.unusedSimpArgs false
namespace Go.Proofs.YtnknoaolbjofiaaDoor.Cl
def splitBy (b : UInt8) : List UInt8 → List (List UInt8)
  | [] => [[]]
  | x :: s => if x = b then [] :: splitBy b s else match splitBy b s with
    | [] => [[x]]
    | w :: r => (x :: w) :: r
theorem splitBy_ne (b : UInt8) : ∀ s, splitBy b s ≠ []
  | [] => by simp [splitBy]
  | x :: s => by
    unfold splitBy
    split
    · simp
    · split <;> simp
theorem splitBy_none {b : UInt8} : ∀ {s : List UInt8}, b ∉ s → splitBy b s = [s]
  | [], _ => rfl
  | x :: s, h => by
    have h1 : x ≠ b := fun e => h (by simp [e])
    have h2 := splitBy_none (b := b) (s := s) (fun hm => h (by simp [hm]))
    unfold splitBy
    rw [if_neg h1, h2]
theorem splitBy_at {b : UInt8} : ∀ {p : List UInt8} (q : List UInt8), b ∉ p → splitBy b (p ++ b :: q) = p :: splitBy b q
  | [], q, _ => by simp [splitBy]
  | x :: p, q, h => by
    have h1 : x ≠ b := fun e => h (by simp [e])
    have h2 := splitBy_at (b := b) (p := p) q (fun hm => h (by simp [hm]))
    show (if x = b then [] :: splitBy b (p ++ b :: q) else match splitBy b (p ++ b :: q) with
      | [] => [[x]]
      | w :: r => (x :: w) :: r) = _
    rw [if_neg h1, h2]
theorem index_none {b : UInt8} : ∀ {s : List UInt8}, b ∉ s → Lib.index s [b] = -1
  | [], _ => rfl
  | x :: s, h => by
    have h1 : b ≠ x := fun e => h (by simp [e])
    have h2 := index_none (b := b) (s := s) (fun hm => h (by simp [hm]))
    unfold Lib.index
    rw [h2]
    simp [List.isPrefixOf, h1]
theorem index_at {b : UInt8} : ∀ {p : List UInt8} (q : List UInt8), b ∉ p → Lib.index (p ++ b :: q) [b] = p.length
  | [], q, _ => by simp [Lib.index, List.isPrefixOf]
  | x :: p, q, h => by
    have h1 : b ≠ x := fun e => h (by simp [e])
    have h2 := index_at (b := b) (p := p) q (fun hm => h (by simp [hm]))
    show Lib.index (x :: (p ++ b :: q)) [b] = _
    unfold Lib.index
    rw [h2]
    simp [List.isPrefixOf, h1]
theorem first_at {b : UInt8} : ∀ {s : List UInt8}, b ∈ s → ∃ p q, s = p ++ b :: q ∧ b ∉ p
  | [], h => by simp at h
  | x :: s, h => by
    by_cases e : x = b
    · exact ⟨[], s, by simp [e], by simp⟩
    · have hm : b ∈ s := by
        rcases List.mem_cons.1 h with h | h
        · exact absurd h.symm e
        · exact h
      obtain ⟨p, q, h1, h2⟩ := first_at hm
      exact ⟨x :: p, q, by simp [h1], fun hm2 => by
        rcases List.mem_cons.1 hm2 with h | h
        · exact e h.symm
        · exact h2 h⟩
theorem split_list (b : UInt8) (n : Nat) : ∀ (s : List UInt8), s.length ≤ n → Lib.splitK [b] 0 (Lib.count s [b]) s = splitBy b s := by
  induction n with
  | zero =>
    intro s hs
    obtain rfl : s = [] := List.length_eq_zero_iff.1 (by omega)
    have hi : Lib.index ([] : List UInt8) [b] = -1 := rfl
    rw [Lib.count_miss hi]
    rfl
  | succ n ih =>
    intro s hs
    by_cases hm : b ∈ s
    · obtain ⟨p, q, rfl, h2⟩ := first_at hm
      have hi : Lib.index (p ++ b :: q) [b] = (p.length : Nat) := index_at q h2
      have hd : (p ++ b :: q).drop (p.length + 1) = q := by simp
      rw [Lib.count_hit (by simp) hi, Nat.add_comm 1]
      show (if Lib.index (p ++ b :: q) [b] == -1 then [p ++ b :: q] else (p ++ b :: q).take ((Lib.index (p ++ b :: q) [b]).toNat + 0) :: Lib.splitK [b] 0 (Lib.count ((p ++ b :: q).drop (p.length + [b].length)) [b]) ((p ++ b :: q).drop ((Lib.index (p ++ b :: q) [b]).toNat + [b].length))) = _
      rw [hi, if_neg (by simp), Int.toNat_natCast, show [b].length = 1 from rfl, hd, ih q (by simp at hs; omega), splitBy_at q h2]
      simp
    · rw [Lib.count_miss (index_none hm), splitBy_none hm]
      rfl
theorem split_is (b : UInt8) (s : ByteArray) : (Lib.splitB ⟨#[b]⟩ 0 (Lib.countB s ⟨#[b]⟩) s).map (·.data.toList) = splitBy b s.data.toList := by
  rw [Lib.splitB_data]
  exact split_list b _ _ (Nat.le_refl _)
def isDig (c : UInt8) : Prop := 48 ≤ c.toNat ∧ c.toNat ≤ 57
theorem dig_of {n : Nat} (h : n < 10) : (UInt8.ofNat (48 + n)).toNat = 48 + n := by simp; omega
theorem dec_digs (n : Nat) : ∀ u, u ≤ n → ∀ c ∈ Lib.decDigits u, isDig c := by
  induction n with
  | zero =>
    intro u hu c hc
    obtain rfl : u = 0 := by omega
    rw [Lib.decDigits_one (by omega)] at hc
    obtain rfl := List.mem_singleton.1 hc
    exact ⟨by decide, by decide⟩
  | succ n ih =>
    intro u hu c hc
    by_cases h9 : u < 10
    · rw [Lib.decDigits_one h9] at hc
      obtain rfl := List.mem_singleton.1 hc
      have := dig_of h9
      exact ⟨by omega, by omega⟩
    · rw [Lib.decDigits, dif_neg h9] at hc
      rcases List.mem_append.1 hc with h | h
      · exact ih (u / 10) (by omega) c h
      · obtain rfl := List.mem_singleton.1 h
        have := dig_of (n := u % 10) (by omega)
        exact ⟨by omega, by omega⟩
theorem dec_ne (u : Nat) : Lib.decDigits u ≠ [] := by
  rw [Lib.decDigits]
  split <;> simp
theorem parse_snoc : ∀ (l : List UInt8) (acc a : Nat) (c : UInt8), Lib.parseUint10 acc l = .ok a → Lib.parseUint10 acc (l ++ [c]) = Lib.parseUint10 a [c]
  | [], acc, a, c, h => by
    simp only [Lib.parseUint10] at h
    injection h with h
    subst h
    rfl
  | d :: r, acc, a, c, h => by
    simp only [List.cons_append, Lib.parseUint10] at h ⊢
    split at h
    · rename_i h1
      rw [if_pos h1]
      split at h
      · cases h
      · rename_i h2
        rw [if_neg h2]
        split at h
        · cases h
        · rename_i h3
          rw [if_neg h3]
          have := parse_snoc r _ a c h
          simpa only [Lib.parseUint10] using this
    · cases h
theorem parse_one {a d : Nat} (hd : d < 10) (h : a * 10 + d < 18446744073709551616) : Lib.parseUint10 a [UInt8.ofNat (48 + d)] = .ok (a * 10 + d) := by
  have e := dig_of hd
  simp only [Lib.parseUint10]
  rw [e, if_pos (by omega), if_neg (by omega), if_neg (by omega)]
  congr 1
  omega
theorem parse_dec (n : Nat) : ∀ u, u ≤ n → u < 18446744073709551616 → Lib.parseUint10 0 (Lib.decDigits u) = .ok u := by
  induction n with
  | zero =>
    intro u hu _
    obtain rfl : u = 0 := by omega
    rw [Lib.decDigits_one (by omega)]
    exact parse_one (a := 0) (d := 0) (by omega) (by omega)
  | succ n ih =>
    intro u hu hlt
    by_cases h9 : u < 10
    · rw [Lib.decDigits_one h9]
      have := parse_one (a := 0) (d := u) h9 (by omega)
      rw [this]
      congr 1
      omega
    · rw [Lib.decDigits, dif_neg h9, parse_snoc _ _ _ _ (ih (u / 10) (by omega) (by omega)), parse_one (by omega) (by omega)]
      congr 1
      omega
theorem mag_dec {u : Nat} (h : u < 18446744073709551616) : Lib.parseMag (Lib.decDigits u) = .ok u := by
  unfold Lib.parseMag
  rw [if_neg (dec_ne u)]
  exact parse_dec u u (Nat.le_refl _) h
/-- strconv.Atoi of strconv.Itoa. -/
theorem atoi_itoa {v : Int} (h0 : -9223372036854775808 ≤ v) (h1 : v ≤ 9223372036854775807) : Lib.atoiAll (Lib.itoa v) = .ok v := by
  by_cases h : v < 0
  · obtain ⟨u, rfl⟩ : ∃ u : Nat, v = -(u : Int) := ⟨v.natAbs, by omega⟩
    rw [Lib.itoa_neg u (by omega), Lib.atoiAll_minus, mag_dec (by omega)]
    simp only [Lib.signed]
    rw [if_neg (by omega)]
  · obtain ⟨u, rfl⟩ : ∃ u : Nat, v = (u : Int) := ⟨v.natAbs, by omega⟩
    rw [Lib.itoa_nonneg]
    cases hd : Lib.decDigits u with
    | nil => exact absurd hd (dec_ne u)
    | cons c r =>
      have hc : isDig c := dec_digs u u (Nat.le_refl _) c (by rw [hd]; simp)
      rw [Lib.atoiAll_plain c r (by have := hc.1; omega) (by have := hc.1; omega), ← hd, mag_dec (by omega)]
      simp only [Lib.signless]
      rw [if_neg (by omega)]
/-- A word that is a number's own text. -/
def numP (w : List UInt8) : Option Int := match Lib.atoiAll w with
  | .ok v => if Lib.itoa v = w then some v else none
  | _ => none
theorem numP_itoa {v : Int} (h0 : -9223372036854775808 ≤ v) (h1 : v ≤ 9223372036854775807) : numP (Lib.itoa v) = some v := by
  unfold numP
  rw [atoi_itoa h0 h1]
  simp
def numIn (v : Nat) (w : List UInt8) : Option Int := match numP w with
  | some n => if n.natAbs ≤ v then some n else none
  | none => none
def lineP (v : Nat) : List (List UInt8) → Option (List Int)
  | [] => none
  | [x] => if numIn v x = some 0 then some [] else none
  | x :: y :: r => match numIn v x with
    | some n => if n = 0 then none else (lineP v (y :: r)).map (n :: ·)
    | none => none
def headW : List (List UInt8) → Option (Nat × Nat)
  | [a, b, c, d] => if a = [112] ∧ b = [99, 110, 102] then match numIn 1048576 c, numIn 2147483647 d with
    | some v, some n => if 0 ≤ v ∧ 0 ≤ n then some (v.toNat, n.toNat) else none
    | _, _ => none else none
  | _ => none
theorem headW_len {W : List (List UInt8)} (h : W.length ≠ 4) : headW W = none := by
  match W with
  | [] => rfl
  | [_] => rfl
  | [_, _] => rfl
  | [_, _, _] => rfl
  | [_, _, _, _] => exact absurd rfl h
  | _ :: _ :: _ :: _ :: _ :: _ => rfl
def headP (s : List UInt8) : Option (Nat × Nat) := headW (splitBy 32 s)
/-- The lines behind the first: k the place of the next one. -/
def pgo (v n : Nat) : List (List UInt8) → Nat → List (List Int) → List (List Int) × Int × Int
  | [], k, _ => ([], 2, (k : Int) + 1)
  | [x], k, out => if x = [] ∧ n < k then (out, 0, 0) else ([], 2, (k : Int) + 1)
  | x :: y :: r, k, out => if n < k then ([], 2, (k : Int) + 1) else match lineP v (splitBy 32 x) with
    | none => ([], 2, (k : Int) + 1)
    | some c => pgo v n (y :: r) (k + 1) (out ++ [c])
def parseL : List (List UInt8) → List (List Int) × Int × Int
  | [] => ([], 2, 1)
  | h :: rest => match headP h with
    | none => ([], 2, 1)
    | some (v, n) => if rest = [] then ([], 2, 1) else pgo v n rest 1 []
def parseP (s : List UInt8) : List (List Int) × Int × Int := parseL (splitBy 10 s)
theorem parseL_eq {L : List (List UInt8)} (h : 0 < L.length) : parseL L = match headP L[0] with
    | none => ([], 2, 1)
    | some (v, n) => if L.length = 1 then ([], 2, 1) else pgo v n (L.drop 1) 1 [] := by
  cases L with
  | nil => simp at h
  | cons a r =>
    show (match headP a with
      | none => _
      | some (v, n) => _) = _
    simp only [List.getElem_cons_zero, List.length_cons, List.drop_succ_cons, List.drop_zero]
    cases headP a with
    | none => rfl
    | some vn =>
      obtain ⟨v, n⟩ := vn
      simp only []
      cases r <;> simp
theorem numIn_le {v : Nat} {w : List UInt8} {n : Int} (h : numIn v w = some n) : n.natAbs ≤ v := by
  unfold numIn at h
  cases e : numP w with
  | none => rw [e] at h; cases h
  | some m =>
    rw [e] at h
    simp only [] at h
    split at h
    · cases h; assumption
    · cases h
theorem headW_le {W : List (List UInt8)} {a b : Nat} (h : headW W = some (a, b)) : a ≤ 1048576 ∧ b ≤ 2147483647 := by
  match W with
  | [] => cases h
  | [_] => cases h
  | [_, _] => cases h
  | [_, _, _] => cases h
  | _ :: _ :: _ :: _ :: _ :: _ => cases h
  | [x, y, c, d] =>
    simp only [headW] at h
    split at h
    · cases e1 : numIn 1048576 c with
      | none => rw [e1] at h; cases h
      | some v =>
        cases e2 : numIn 2147483647 d with
        | none => rw [e1, e2] at h; cases h
        | some n =>
          rw [e1, e2] at h
          simp only [] at h
          have h1 := numIn_le e1
          have h2 := numIn_le e2
          split at h
          · cases h
            constructor <;> omega
          · cases h
    · cases h
theorem pgo_last {v n k : Nat} {x : List UInt8} {out : List (List Int)} : pgo v n [x] k out = if x = [] ∧ n < k then (out, 0, 0) else ([], 2, (k : Int) + 1) := rfl
theorem pgo_step {v n k : Nat} {x : List UInt8} {r : List (List UInt8)} {out : List (List Int)} (h : r ≠ []) : pgo v n (x :: r) k out = if n < k then ([], 2, (k : Int) + 1) else match lineP v (splitBy 32 x) with
    | none => ([], 2, (k : Int) + 1)
    | some c => pgo v n r (k + 1) (out ++ [c]) := by
  cases r with
  | nil => exact absurd rfl h
  | cons y r => rfl
end Go.Proofs.YtnknoaolbjofiaaDoor.Cl
