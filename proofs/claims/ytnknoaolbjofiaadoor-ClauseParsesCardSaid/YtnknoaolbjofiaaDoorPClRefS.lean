/- For the statement of the row ClauseParses: what its proof needs of the text ClRefS. -/
import Derived.Test.YtnknoaolbjofiaaDoorPClTextP
import Derived.Test.YtnknoaolbjofiaaDoorPClRefT
import Derived.Test.YtnknoaolbjofiaaDoorPYy4
import Derived.Test.YtnknoaolbjofiaaDoorPYy5

set_option linter.unusedVariables false
set_option linter.unusedSimpArgs false
namespace Go.Proofs.YtnknoaolbjofiaaDoor.Cl
open Go.RowKit Go.Proofs.YtnknoaolbjofiaaDoorW.PrintWords Go.Proofs.YtnknoaolbjofiaaDoorW.PrintLast Go.Proofs.YtnknoaolbjofiaaDoorW.PrintMore
open Go.Proofs.YtnknoaolbjofiaaDoor.X
theorem bt_nat {l : List UInt8} {i : Nat} (h : i < l.length) : bt ⟨l.toArray⟩ (i : Int) = (l[i].toNat : Int) := by
  unfold bt
  have hs : (i : Int).toNat < (⟨l.toArray⟩ : ByteArray).size := by rw [size_of]; simpa using h
  rw [dif_pos hs]
  congr 1
theorem extract_of (l : List UInt8) (i j : Nat) : (⟨l.toArray⟩ : ByteArray).extract i j = ⟨((l.drop i).take (j - i)).toArray⟩ := by
  apply ByteArray.ext
  rw [ByteArray.data_extract]
  simp [List.extract]
def strsX (l : List (List UInt8)) : List ByteArray := l.map fun x => ⟨x.toArray⟩
theorem strsX_length (l : List (List UInt8)) : (strsX l).length = l.length := by simp [strsX]
theorem rsplit_loop {l : List UInt8} {b : UInt8} (hl : l.length ≤ 1000000000) (d : Nat) : ∀ (i last : Nat) (out : List ByteArray), l.length - i = d → last ≤ i → i ≤ l.length → out.length ≤ last → b ∉ (l.drop last).take (i - last) →
    Ev (fun k => backreachref04_Split.l0 k ⟨l.toArray⟩ (b.toNat : Int) out (last : Int) (i : Int)) (out ++ strsX (splitBy b (l.drop last))) := by
  induction d with
  | zero =>
    intro i last out hd h1 h2 h3 h4
    have e : i = l.length := by omega
    subst e
    have hp : (l.drop last).take (l.length - last) = l.drop last := by
      apply List.take_of_length_le
      rw [List.length_drop]
      exact Nat.le_refl _
    rw [hp] at h4
    rw [splitBy_none h4]
    refine Ev.step (f := fun k => backreachref04_Split.l0 k ⟨l.toArray⟩ (b.toNat : Int) (out ++ [⟨(l.drop last).toArray⟩]) ((l.length + 1 : Nat) : Int) ((l.length + 1 : Nat) : Int)) (fun k => ?_) ?_
    · simp only [backreachref04_Split.l0]
      rw [size_of, if_pos (by omega), if_pos rfl, if_pos (by omega), if_pos (by omega), if_pos (by omega), Int.toNat_natCast, Int.toNat_natCast, extract_of, hp, wrap_nat (by omega)]
    · refine Ev.step (f := fun _ => some _) (fun k => ?_) (Ev.now _)
      simp only [backreachref04_Split.l0]
      rw [size_of, if_neg (by omega)]
      rfl
  | succ d ih =>
    intro i last out hd h1 h2 h3 h4
    have hlt : i < l.length := by omega
    have hd1 : l.drop last = (l.drop last).take (i - last) ++ l[i] :: l.drop (i + 1) := by
      have e1 := (List.take_append_drop (i - last) (l.drop last)).symm
      rw [List.drop_drop, show last + (i - last) = i by omega, List.drop_eq_getElem_cons hlt] at e1
      exact e1
    by_cases hb : l[i] = b
    · have hsp : splitBy b (l.drop last) = (l.drop last).take (i - last) :: splitBy b (l.drop (i + 1)) := by
        conv => lhs; rw [hd1, hb]
        exact splitBy_at _ h4
      rw [hsp]
      have hn := ih (i + 1) (i + 1) (out ++ [⟨((l.drop last).take (i - last)).toArray⟩]) (by omega) (Nat.le_refl _) (by omega) (by simp; omega) (by simp)
      rw [List.append_assoc] at hn
      refine Ev.step (fun k => ?_) hn
      simp only [backreachref04_Split.l0]
      rw [size_of, if_pos (by omega), if_neg (by omega), if_pos (by omega), if_pos (by omega), bt_nat hlt, if_pos (by rw [hb]), if_pos (by omega), if_pos (by omega), if_pos (by omega), Int.toNat_natCast, Int.toNat_natCast, extract_of, wrap_nat (by omega)]
    · have hn := ih (i + 1) last out (by omega) (by omega) (by omega) h3 (by
        rw [show i + 1 - last = (i - last) + 1 by omega]
        have hlt2 : i - last < (l.drop last).length := by rw [List.length_drop]; omega
        rw [List.take_succ_eq_append_getElem hlt2, List.mem_append, List.mem_singleton]
        rintro (h | h)
        · exact h4 h
        · rw [List.getElem_drop] at h
          have : l[last + (i - last)] = l[i] := by congr 1; omega
          rw [this] at h
          exact hb h.symm)
      refine Ev.step (fun k => ?_) hn
      simp only [backreachref04_Split.l0]
      rw [size_of, if_pos (by omega), if_neg (by omega), if_pos (by omega), if_pos (by omega), bt_nat hlt, if_neg (fun h => hb (UInt8.toNat_inj.1 (by omega))), wrap_nat (by omega)]
theorem rsplit_ev {l : List UInt8} (b : UInt8) (hl : l.length ≤ 1000000000) : Ev (fun k => backreachref04_Split.f k ⟨l.toArray⟩ (b.toNat : Int)) (strsX (splitBy b l)) := by
  have h := rsplit_loop (l := l) (b := b) hl _ 0 0 [] rfl (Nat.le_refl _) (Nat.zero_le _) (Nat.le_refl _) (by simp)
  simpa [backreachref04_Split.f] using h
/-- A word of digits that is a number's own text. -/
def decP (w : List UInt8) : Option Nat := match Lib.parseMag w with
  | .ok u => if Lib.decDigits u = w then some u else none
  | _ => none
theorem decP_dec {u : Nat} (h : u < 18446744073709551616) : decP (Lib.decDigits u) = some u := by
  unfold decP
  rw [mag_dec h]
  simp
theorem decP_some {w : List UInt8} {u : Nat} (h : decP w = some u) : Lib.decDigits u = w ∧ u < 18446744073709551616 := by
  unfold decP at h
  split at h
  · rename_i v hv
    split at h
    · rename_i h2
      cases h
      exact ⟨h2, Lib.parseMag_lt hv⟩
    · cases h
  · cases h
theorem dec_head (n : Nat) : ∀ u, u ≤ n → 1 ≤ u → ∀ c r, Lib.decDigits u = c :: r → c ≠ 48 := by
  induction n with
  | zero => intro u hu h1; omega
  | succ n ih =>
    intro u hu h1 c r h
    by_cases h9 : u < 10
    · rw [Lib.decDigits_one h9] at h
      cases h
      intro e
      have h2 := dig_of h9
      rw [e] at h2
      have : (48 : UInt8).toNat = 48 := rfl
      omega
    · rw [Lib.decDigits, dif_neg h9] at h
      cases hd : Lib.decDigits (u / 10) with
      | nil => exact absurd hd (dec_ne _)
      | cons c2 r2 =>
        rw [hd] at h
        cases h
        exact ih (u / 10) (by omega) (by omega) c r2 hd
theorem parse_bad (c : UInt8) : ∀ (q : List UInt8) (acc : Nat) (r : Lib.NumEnd Nat), (∀ v, r ≠ .ok v) → Lib.parseUint10 acc q = r → Lib.parseUint10 acc (q ++ [c]) = r := by
  intro q
  induction q with
  | nil => intro acc r hr h; exact absurd h.symm (hr acc)
  | cons d q ihr =>
    intro acc r hr h
    simp only [List.cons_append, Lib.parseUint10] at h ⊢
    split at h
    · rename_i h1
      rw [if_pos h1]
      split at h
      · rename_i h2
        rw [if_pos h2]
        exact h
      · rename_i h2
        rw [if_neg h2]
        split at h
        · rename_i h3
          rw [if_pos h3]
          exact h
        · rename_i h3
          rw [if_neg h3]
          exact ihr _ r hr h
    · rename_i h1
      rw [if_neg h1]
      exact h
/-- Digits without a nought ahead are what they spell. -/
theorem dec_unique (n : Nat) : ∀ (w : List UInt8) (u : Nat), w.length ≤ n → w ≠ [] → Lib.parseUint10 0 w = .ok u → (∀ c r, w = c :: r → r ≠ [] → c ≠ 48) → Lib.decDigits u = w := by
  induction n with
  | zero => intro w u hw hne; exact absurd (List.length_eq_zero_iff.1 (by omega)) hne
  | succ n ih =>
    intro w u hw hne hp hh
    have hsnoc := (List.dropLast_concat_getLast hne).symm
    generalize w.getLast hne = c at hsnoc
    generalize w.dropLast = p at hsnoc
    subst hsnoc
    cases hpp : Lib.parseUint10 0 p with
    | ok a =>
      rw [parse_snoc _ _ _ _ hpp] at hp
      have hc : 48 ≤ c.toNat ∧ c.toNat ≤ 57 := by
        by_cases h : 48 ≤ c.toNat ∧ c.toNat ≤ 57
        · exact h
        · simp only [Lib.parseUint10] at hp
          rw [if_neg h] at hp
          cases hp
      have hu : u = a * 10 + (c.toNat - 48) := by
        simp only [Lib.parseUint10] at hp
        rw [if_pos hc] at hp
        split at hp
        · cases hp
        · split at hp
          · cases hp
          · injection hp with hp
            exact hp.symm
      have hcc : UInt8.ofNat (48 + (c.toNat - 48)) = c := by
        rw [show 48 + (c.toNat - 48) = c.toNat by omega]
        simp
      by_cases hp0 : p = []
      · subst hp0
        simp only [Lib.parseUint10] at hpp
        injection hpp with hpp
        subst hpp
        rw [hu, show 0 * 10 + (c.toNat - 48) = c.toNat - 48 by omega, Lib.decDigits_one (by omega), hcc]
        rfl
      · have hpd := ih p a (by simp at hw; omega) hp0 hpp (fun c2 r2 e hr => hh c2 (r2 ++ [c]) (by rw [e]; rfl) (by simp))
        have ha : 1 ≤ a := by
          cases p with
          | nil => exact absurd rfl hp0
          | cons c2 r2 =>
            have h48 := hh c2 (r2 ++ [c]) rfl (by simp)
            rcases Nat.eq_zero_or_pos a with rfl | h
            · rw [Lib.decDigits_one (by omega)] at hpd
              cases hpd
              exact absurd rfl h48
            · exact h
        rw [Lib.decDigits, dif_neg (by omega), show u / 10 = a by omega, show u % 10 = c.toNat - 48 by omega, hcc, hpd]
    | _ =>
      exfalso
      rw [parse_bad c p 0 _ (fun v h => by cases h) hpp] at hp
      cases hp
def numR (o : Option Nat) : Int × Bool := match o with
  | some u => ((u : Int), true)
  | none => (0, false)
theorem rnumber_loop {l : List UInt8} (hl : l.length ≤ 20) (hne : l ≠ []) (hz : ∀ c r, l = c :: r → r ≠ [] → c ≠ 48) (d : Nat) : ∀ (i n : Nat), l.length - i = d → i ≤ l.length → n < 18446744073709551616 → Lib.parseUint10 n (l.drop i) = Lib.parseUint10 0 l →
    Ev (fun k => backreachref04_Number.l0 k ⟨l.toArray⟩ (n : Int) (i : Int)) (numR (decP l)) := by
  have hmag : Lib.parseMag l = Lib.parseUint10 0 l := by unfold Lib.parseMag; rw [if_neg hne]
  induction d with
  | zero =>
    intro i n hd h1 h2 h3
    have e : i = l.length := by omega
    subst e
    rw [List.drop_length] at h3
    have hp : Lib.parseUint10 0 l = .ok n := h3.symm
    have hdec := dec_unique _ l n (Nat.le_refl _) hne hp hz
    have hdp : decP l = some n := by unfold decP; rw [hmag, hp]; simp only []; rw [if_pos hdec]
    rw [hdp]
    refine Ev.step (f := fun _ => some _) (fun k => ?_) (Ev.now _)
    simp only [backreachref04_Number.l0]
    rw [size_of, if_neg (by omega)]
    rfl
  | succ d ih =>
    intro i n hd h1 h2 h3
    have hlt : i < l.length := by omega
    rw [List.drop_eq_getElem_cons hlt] at h3
    have hbt := bt_nat hlt
    have fail : (∀ u, Lib.parseUint10 0 l ≠ .ok u) → numR (decP l) = (0, false) := fun h => by
      have : decP l = none := by
        unfold decP
        rw [hmag]
        cases e : Lib.parseUint10 0 l with
        | ok u => exact absurd e (h u)
        | range => rfl
        | _ => rfl
      rw [this]
      rfl
    simp only [Lib.parseUint10] at h3
    by_cases hdg : 48 ≤ l[i].toNat ∧ l[i].toNat ≤ 57
    · rw [if_pos hdg] at h3
      have hsub : ((l[i].toNat : Int) - 48) % 256 = ((l[i].toNat - 48 : Nat) : Int) := by omega
      by_cases ho : 1844674407370955162 ≤ n
      · rw [if_pos ho] at h3
        rw [fail (fun u e => by rw [← h3] at e; cases e)]
        refine Ev.step (f := fun k => backreachref04_Number.j2 k ⟨l.toArray⟩ (n : Int) (i : Int) false) (fun k => ?_) (Ev.step (f := fun _ => some _) (fun k => ?_) (Ev.now _))
        · simp only [backreachref04_Number.l0]
          rw [size_of, if_pos (by omega), if_pos (by omega), hbt, if_neg (by omega), decide_eq_false (by omega)]
        · simp only [backreachref04_Number.j2]
          rw [if_neg (by simp), if_pos (by omega), size_of, if_pos (by omega), if_pos (by omega)]
      · rw [if_neg ho] at h3
        by_cases ho2 : 18446744073709551616 ≤ n * 10 + (l[i].toNat - 48)
        · rw [if_pos ho2] at h3
          rw [fail (fun u e => by rw [← h3] at e; cases e)]
          refine Ev.step (f := fun k => backreachref04_Number.j2 k ⟨l.toArray⟩ (n : Int) (i : Int) false) (fun k => ?_) (Ev.step (f := fun _ => some _) (fun k => ?_) (Ev.now _))
          · simp only [backreachref04_Number.l0]
            rw [size_of, if_pos (by omega), if_pos (by omega), hbt, if_neg (by omega), decide_eq_false (by omega)]
          · simp only [backreachref04_Number.j2]
            rw [if_neg (by simp), if_pos (by omega), size_of, if_pos (by omega), if_neg (by omega), if_pos (by omega), hbt, if_pos (by omega)]
        · rw [if_neg ho2] at h3
          have hn := ih (i + 1) (n * 10 + (l[i].toNat - 48)) (by omega) hlt (by omega) h3
          have hw1 : IntKind.u64.wrap (10 * (n : Int)) = 10 * (n : Int) := IntWalk.u64_in _ (by omega)
          have hw2 : IntKind.u64.wrap (10 * (n : Int) + ((l[i].toNat - 48 : Nat) : Int)) = ((n * 10 + (l[i].toNat - 48) : Nat) : Int) := by rw [IntWalk.u64_in _ (by omega)]; omega
          refine Ev.step (f := fun k => backreachref04_Number.j2 k ⟨l.toArray⟩ (n : Int) (i : Int) false) (fun k => ?_) (Ev.step (fun k => ?_) hn)
          · simp only [backreachref04_Number.l0]
            rw [size_of, if_pos (by omega), if_pos (by omega), hbt, if_neg (by omega), decide_eq_false (by omega)]
          · simp only [backreachref04_Number.j2]
            rw [if_neg (by simp), if_pos (by omega), size_of, if_pos (by omega), if_neg (by omega), hbt, hsub, hw1, hw2, wrap_nat (by omega)]
            by_cases he : (n : Int) = 1844674407370955161
            · rw [if_pos he, if_neg (by omega)]
            · rw [if_neg he]
    · rw [if_neg hdg] at h3
      rw [fail (fun u e => by rw [← h3] at e; cases e)]
      have hr : l[i].toNat < 256 := UInt8.toNat_lt _
      refine Ev.step (f := fun k => backreachref04_Number.j2 k ⟨l.toArray⟩ (n : Int) (i : Int) true) (fun k => ?_) (Ev.step (f := fun _ => some _) (fun k => ?_) (Ev.now _))
      · simp only [backreachref04_Number.l0]
        rw [size_of, if_pos (by omega), if_pos (by omega), hbt]
        by_cases h48 : (l[i].toNat : Int) < 48
        · rw [if_pos h48]
        · rw [if_neg h48, decide_eq_true (by omega)]
      · simp only [backreachref04_Number.j2]
        rw [if_pos trivial]
theorem decP_len {l : List UInt8} (h : l.length > 20) : decP l = none := by
  cases e : decP l with
  | none => rfl
  | some u =>
    have h1 := decP_some e
    have h2 := nDigits_bound h1.2
    rw [h1.1] at h2
    omega
theorem decP_nought {r : List UInt8} (h : r ≠ []) : decP (48 :: r) = none := by
  cases e : decP (48 :: r) with
  | none => rfl
  | some u =>
    have h1 := decP_some e
    rcases Nat.eq_zero_or_pos u with rfl | hu
    · rw [Lib.decDigits_one (by omega)] at h1
      have := h1.1
      cases this
      exact absurd rfl h
    · exact absurd rfl (dec_head u u (Nat.le_refl _) hu 48 r h1.1)
theorem rnumber_ev (l : List UInt8) (hl : l.length ≤ 1000000000) : Ev (fun k => backreachref04_Number.f k ⟨l.toArray⟩) (numR (decP l)) := by
  have bad : decP l = none → Ev (fun k => backreachref04_Number.j0 k ⟨l.toArray⟩ true) (numR (decP l)) := fun h => by
    rw [h]
    refine Ev.step (f := fun _ => some _) (fun k => ?_) (Ev.now _)
    simp only [backreachref04_Number.j0]
    rw [if_pos trivial]
    rfl
  by_cases h0 : l = []
  · subst h0
    refine Ev.congr (fun k => ?_) (bad rfl)
    simp only [backreachref04_Number.f]
    rw [if_pos (by rfl)]
  · have hpos : 0 < l.length := List.length_pos_iff.2 h0
    by_cases h20 : l.length > 20
    · refine Ev.congr (fun k => ?_) (bad (decP_len h20))
      simp only [backreachref04_Number.f]
      rw [size_of, if_neg (by omega), if_pos (by omega)]
    · have good : (∀ c r, l = c :: r → r ≠ [] → c ≠ 48) → Ev (fun k => backreachref04_Number.j0 k ⟨l.toArray⟩ false) (numR (decP l)) := fun hz => by
        have h := rnumber_loop (by omega) h0 hz _ 0 0 rfl (Nat.zero_le _) (by omega) (by rw [List.drop_zero])
        refine Ev.step (fun k => ?_) h
        simp only [backreachref04_Number.j0]
        rw [if_neg (by simp)]
        rfl
      by_cases h1 : l.length > 1
      · by_cases hc : l[0] = 48
        · have hd : decP l = none := by
            cases l with
            | nil => exact absurd rfl h0
            | cons c r =>
              have : c = 48 := hc
              subst this
              exact decP_nought (fun e => by rw [e] at h1; simp at h1)
          refine Ev.congr (fun k => ?_) (bad hd)
          simp only [backreachref04_Number.f]
          have hb := bt_nat (l := l) (i := 0) hpos
          rw [size_of, if_neg (by omega), if_neg (by omega), if_pos (by omega), if_pos (by omega), show (0 : Int) = ((0 : Nat) : Int) from rfl, hb, hc]
          rfl
        · refine Ev.congr (fun k => ?_) (good (fun c r e _ => by subst e; exact hc))
          simp only [backreachref04_Number.f]
          have hb := bt_nat (l := l) (i := 0) hpos
          have hne : ((l[0].toNat : Int) == 48) = false := by
            have h2 : l[0].toNat ≠ 48 := fun e => hc (UInt8.toNat_inj.1 e)
            have h3 : ¬ (l[0].toNat : Int) = 48 := by omega
            simpa using h3
          rw [size_of, if_neg (by omega), if_neg (by omega), if_pos (by omega), if_pos (by omega), show (0 : Int) = ((0 : Nat) : Int) from rfl, hb, hne]
      · refine Ev.congr (fun k => ?_) (good (fun c r e hr => by
          subst e
          have : r.length ≠ 0 := fun h => hr (List.length_eq_zero_iff.1 h)
          rw [List.length_cons] at h1
          omega))
        simp only [backreachref04_Number.f]
        rw [size_of, if_neg (by omega), if_neg (by omega), if_neg (by omega)]
def numI (v : Nat) (w : List UInt8) : Int × Bool := match numIn v w with
  | some n => (n, true)
  | none => (0, false)
theorem numP_minus {r : List UInt8} {u : Nat} (h : numP (45 :: r) = some (-(u : Int))) (h1 : 1 ≤ u) : decP r = some u := by
  obtain ⟨e, h2, h3⟩ := numP_some h
  rw [Lib.itoa_neg u h1] at e
  cases e
  exact decP_dec (by omega)
theorem numP_neg_of {r : List UInt8} {u : Nat} (h : decP r = some u) (h1 : 1 ≤ u) (h2 : u ≤ 9223372036854775807) : numP (45 :: r) = some (-(u : Int)) := by
  have := numP_itoa (v := -(u : Int)) (by omega) (by omega)
  rw [Lib.itoa_neg u h1, (decP_some h).1] at this
  exact this
theorem numP_first {c : UInt8} {r : List UInt8} {v : Int} (h : numP (c :: r) = some v) : c = 45 ↔ v < 0 := by
  obtain ⟨e, h2, h3⟩ := numP_some h
  constructor
  · intro hc
    subst hc
    by_cases hv : v < 0
    · exact hv
    · obtain ⟨u, rfl⟩ : ∃ u : Nat, v = (u : Int) := ⟨v.natAbs, by omega⟩
      rw [Lib.itoa_nonneg] at e
      have := dec_digs u u (Nat.le_refl _) 45 (by rw [e]; simp)
      have h4 : (45 : UInt8).toNat = 45 := rfl
      have := this.1
      omega
  · intro hv
    obtain ⟨u, rfl⟩ : ∃ u : Nat, v = -(u : Int) := ⟨v.natAbs, by omega⟩
    rw [Lib.itoa_neg u (by omega)] at e
    cases e
    rfl
theorem numP_pos {w : List UInt8} {v : Int} (h : numP w = some v) (h0 : 0 ≤ v) : decP w = some v.toNat := by
  obtain ⟨e, h2, h3⟩ := numP_some h
  obtain ⟨u, rfl⟩ : ∃ u : Nat, v = (u : Int) := ⟨v.natAbs, by omega⟩
  rw [Lib.itoa_nonneg] at e
  subst e
  rw [Int.toNat_natCast]
  exact decP_dec (by omega)
theorem numP_pos_of {w : List UInt8} {u : Nat} (h : decP w = some u) (h2 : u ≤ 9223372036854775807) : numP w = some (u : Int) := by
  have := numP_itoa (v := (u : Int)) (by omega) (by omega)
  rw [Lib.itoa_nonneg, (decP_some h).1] at this
  exact this
theorem numP_nil : numP [] = none := by
  cases h : numP [] with
  | none => rfl
  | some v =>
    obtain ⟨e, _, _⟩ := numP_some h
    by_cases hv : v < 0
    · obtain ⟨u, rfl⟩ : ∃ u : Nat, v = -(u : Int) := ⟨v.natAbs, by omega⟩
      rw [Lib.itoa_neg u (by omega)] at e
      cases e
    · obtain ⟨u, rfl⟩ : ∃ u : Nat, v = (u : Int) := ⟨v.natAbs, by omega⟩
      rw [Lib.itoa_nonneg] at e
      exact absurd e (dec_ne u)
def numJ (most : Nat) (minus : Bool) : Option Nat → Int × Bool
  | some u => if most < u then (0, false) else if minus && decide (u = 0) then (0, false) else (if minus then -(u : Int) else u, true)
  | none => (0, false)
theorem rnum_j1 {most : Nat} (hm : most ≤ 9223372036854775807) (minus : Bool) (r : List UInt8) (hr : r.length ≤ 1000000000) :
    Ev (fun k => backreachref14_number.j1 k ⟨r.toArray⟩ (most : Int) minus) (numJ most minus (decP r)) := by
  have hn := rnumber_ev r hr
  have bad : ∀ x : Int, Ev (fun k => backreachref14_number.j2 k minus x true) (0, false) := fun x => by
    refine Ev.step (f := fun _ => some _) (fun k => ?_) (Ev.now _)
    simp only [backreachref14_number.j2]
    rw [if_pos trivial]
  refine Ev.step (f := fun k => (backreachref04_Number.f k ⟨r.toArray⟩).bind fun bt131 => (if bt131.2 = true then (if bt131.1 > (most : Int) then (backreachref14_number.j2 k minus bt131.1 true) else (if minus = true then (backreachref14_number.j2 k minus bt131.1 (bt131.1 == 0)) else (backreachref14_number.j2 k minus bt131.1 false))) else (backreachref14_number.j2 k minus bt131.1 true))) (fun k => rfl) (Ev.bind hn ?_)
  cases hd : decP r with
  | none => exact Ev.congr (fun k => if_neg (by simp [numR])) (bad 0)
  | some u =>
    have hu := (decP_some hd).2
    by_cases h1 : most < u
    · have e : numJ most minus (some u) = (0, false) := if_pos h1
      rw [e]
      refine Ev.congr (fun k => ?_) (bad (u : Int))
      show (if true = true then (if (u : Int) > (most : Int) then _ else _) else _) = _
      rw [if_pos rfl, if_pos (show (u : Int) > (most : Int) by omega)]
      rfl
    · cases minus with
      | true =>
        by_cases h2 : u = 0
        · have e : numJ most true (some u) = (0, false) := by subst h2; simp [numJ]
          rw [e]
          refine Ev.congr (fun k => ?_) (bad (u : Int))
          show (if true = true then (if (u : Int) > (most : Int) then _ else if true = true then backreachref14_number.j2 k true (u : Int) ((u : Int) == 0) else _) else _) = _
          rw [if_pos rfl, if_neg (show ¬ (u : Int) > (most : Int) by omega), if_pos rfl, show ((u : Int) == 0) = true by simp; omega]
        · have e : numJ most true (some u) = (-(u : Int), true) := by simp [numJ, h1, h2]
          rw [e]
          refine Ev.congr (f := fun k => backreachref14_number.j2 k true (u : Int) false) (fun k => ?_) (Ev.step (f := fun _ => some _) (fun k => ?_) (Ev.now _))
          · show (if true = true then (if (u : Int) > (most : Int) then _ else if true = true then backreachref14_number.j2 k true (u : Int) ((u : Int) == 0) else _) else _) = _
            rw [if_pos rfl, if_neg (show ¬ (u : Int) > (most : Int) by omega), if_pos rfl, show ((u : Int) == 0) = false by simp; omega]
          · simp only [backreachref14_number.j2]
            rw [if_neg (by simp), if_pos trivial]
            congr 2
            unfold wrap64
            omega
      | false =>
        have e : numJ most false (some u) = ((u : Int), true) := by simp [numJ, h1]
        rw [e]
        refine Ev.congr (f := fun k => backreachref14_number.j2 k false (u : Int) false) (fun k => ?_) (Ev.step (f := fun _ => some _) (fun k => ?_) (Ev.now _))
        · show (if true = true then (if (u : Int) > (most : Int) then _ else if false = true then _ else backreachref14_number.j2 k false (u : Int) false) else _) = _
          rw [if_pos rfl, if_neg (show ¬ (u : Int) > (most : Int) by omega), if_neg (by simp)]
        · simp only [backreachref14_number.j2]
          rw [if_neg (by simp), if_neg (by simp)]
          congr 2
          unfold wrap64
          omega
/-- Behind no minus. -/
theorem numJ_plain {most : Nat} (hm : most ≤ 9223372036854775807) {l : List UInt8} (hz : ∀ c r, l = c :: r → r ≠ [] → c ≠ 45) : numJ most false (decP l) = numI most l := by
  unfold numI numIn
  cases hd : decP l with
  | some u =>
    by_cases h1 : most < u
    · have e : numJ most false (some u) = (0, false) := if_pos h1
      rw [e]
      by_cases h2 : u ≤ 9223372036854775807
      · rw [numP_pos_of hd h2]
        simp only []
        rw [if_neg (by omega)]
      · cases hp : numP l with
        | none => rfl
        | some v =>
          exfalso
          obtain ⟨e3, h3, h4⟩ := numP_some hp
          by_cases hv : v < 0
          · obtain ⟨x, rfl⟩ : ∃ x : Nat, v = -(x : Int) := ⟨v.natAbs, by omega⟩
            rw [Lib.itoa_neg x (by omega)] at e3
            have := dec_digs u u (Nat.le_refl _) 45 (by rw [(decP_some hd).1, ← e3]; simp)
            have h5 : (45 : UInt8).toNat = 45 := rfl
            have := this.1
            omega
          · have h6 := numP_pos hp (by omega)
            rw [hd] at h6
            have := Option.some.inj h6
            omega
    · have e : numJ most false (some u) = ((u : Int), true) := by simp [numJ, h1]
      rw [e, numP_pos_of hd (by omega)]
      simp only []
      rw [if_pos (by omega)]
  | none =>
    cases hp : numP l with
    | none => rfl
    | some v =>
      exfalso
      by_cases hv : v < 0
      · cases l with
        | nil => rw [numP_nil] at hp; cases hp
        | cons c r =>
          have hc := (numP_first hp).2 hv
          by_cases hr : r = []
          · subst hr
            obtain ⟨e3, h3, h4⟩ := numP_some hp
            obtain ⟨x, rfl⟩ : ∃ x : Nat, v = -(x : Int) := ⟨v.natAbs, by omega⟩
            rw [Lib.itoa_neg x (by omega)] at e3
            exact absurd (List.cons.inj e3).2 (dec_ne x)
          · exact absurd hc (hz c r rfl hr)
      · have h6 := numP_pos hp (by omega)
        rw [hd] at h6
        cases h6
/-- Behind a minus. -/
theorem numJ_minus {most : Nat} (hm : most ≤ 9223372036854775807) {r : List UInt8} : numJ most true (decP r) = numI most (45 :: r) := by
  unfold numI numIn
  cases hp : numP (45 :: r) with
  | none =>
    simp only []
    cases hd : decP r with
    | none => rfl
    | some u =>
      by_cases h1 : most < u
      · exact if_pos h1
      · rcases Nat.eq_zero_or_pos u with rfl | h3
        · simp [numJ]
        · exfalso
          have := numP_neg_of hd h3 (by omega)
          rw [hp] at this
          cases this
  | some v =>
    have hv := (numP_first hp).1 rfl
    obtain ⟨u, rfl⟩ : ∃ u : Nat, v = -(u : Int) := ⟨v.natAbs, by omega⟩
    have hd := numP_minus hp (by omega)
    rw [hd]
    simp only []
    by_cases h2 : most < u
    · rw [if_neg (by omega)]
      exact if_pos h2
    · rw [if_pos (by omega)]
      have : ¬ u = 0 := by omega
      simp [numJ, h2, this]
theorem rnum_ev {most : Nat} (hm : most ≤ 9223372036854775807) (l : List UInt8) (hl : l.length ≤ 1000000000) : Ev (fun k => backreachref14_number.f k ⟨l.toArray⟩ (most : Int)) (numI most l) := by
  have plain : (∀ c r, l = c :: r → r ≠ [] → c ≠ 45) → Ev (fun k => backreachref14_number.j0 k ⟨l.toArray⟩ (most : Int) false) (numI most l) := fun hz => by
    have h := rnum_j1 hm false l hl
    rw [numJ_plain hm hz] at h
    refine Ev.step (fun k => ?_) h
    simp only [backreachref14_number.j0]
    rw [if_neg (by simp)]
  by_cases h1 : l.length > 1
  · have hpos : 0 < l.length := by omega
    have hb := bt_nat (l := l) (i := 0) hpos
    by_cases hc : l[0] = 45
    · obtain ⟨r, rfl⟩ : ∃ r, l = 45 :: r := by
        cases l with
        | nil => simp at hpos
        | cons c r => exact ⟨r, by have : c = 45 := hc; rw [this]⟩
      have h := rnum_j1 hm true r (by rw [List.length_cons] at hl; omega)
      rw [numJ_minus hm] at h
      refine Ev.congr (f := fun k => backreachref14_number.j0 k ⟨(45 :: r).toArray⟩ (most : Int) true) (fun k => ?_) (Ev.step (fun k => ?_) h)
      · simp only [backreachref14_number.f]
        rw [size_of, if_pos (by omega), if_pos (by omega), show (0 : Int) = ((0 : Nat) : Int) from rfl, hb]
        rfl
      · simp only [backreachref14_number.j0]
        rw [if_pos trivial, size_of, if_pos (by omega), extract_of]
        simp
    · refine Ev.congr (fun k => ?_) (plain (fun c r e _ => by subst e; exact hc))
      simp only [backreachref14_number.f]
      have hne : ((l[0].toNat : Int) == 45) = false := by
        have h2 : l[0].toNat ≠ 45 := fun e => hc (UInt8.toNat_inj.1 e)
        have h3 : ¬ (l[0].toNat : Int) = 45 := by omega
        simpa using h3
      rw [size_of, if_pos (by omega), if_pos (by omega), show (0 : Int) = ((0 : Nat) : Int) from rfl, hb, hne]
  · refine Ev.congr (fun k => ?_) (plain (fun c r e hr => by
      subst e
      have : r.length ≠ 0 := fun h => hr (List.length_eq_zero_iff.1 h)
      rw [List.length_cons] at h1
      omega))
    simp only [backreachref14_number.f]
    rw [size_of, if_neg (by omega)]
end Go.Proofs.YtnknoaolbjofiaaDoor.Cl
