/- For the statement of the row ClauseParses: what its proof needs of the text ClRefR. -/
import Derived.Test.YtnknoaolbjofiaaDoorPClRefX

set_option linter.unusedVariables false
set_option linter.unusedSimpArgs false
namespace Go.Proofs.YtnknoaolbjofiaaDoor.Cl
open Go.RowKit Go.Proofs.YtnknoaolbjofiaaDoorW.PrintWords Go.Proofs.YtnknoaolbjofiaaDoorW.PrintLast Go.Proofs.YtnknoaolbjofiaaDoorW.PrintMore
open Go.Proofs.YtnknoaolbjofiaaDoor.X
theorem rparse_loop {W : List (List UInt8)} {v n : Nat} (hv : v ≤ 1048576) (hn : n ≤ 2147483647) (hW : W.length ≤ 1000000001) (hw : ∀ x ∈ W, x.length ≤ 1000000000) (d : Nat) : ∀ (k0 : Nat) (out : List (List Int)), W.length - k0 = d → k0 < W.length → 1 ≤ k0 → k0 ≤ n + 1 → out.length + 1 = k0 →
    Ev (fun k => backreachref14_Parse.l0 k (strsX W) (v : Int) (n : Int) out (k0 : Int)) (pgo v n (W.drop k0) k0 out) := by
  induction d with
  | zero => intro k0 out hd hlt; omega
  | succ d ih =>
    intro k0 out hd hlt h1 hkn hol
    have HWR := Lib.hid (show wrap64 ((W.length : Int) - 1) = (W.length : Int) - 1 from wrap_in (by omega) (by omega))
    have HN1 := Lib.hid (show wrap64 ((n : Int) + 1) = (n : Int) + 1 from wrap_in (by omega) (by omega))
    have HN2 := Lib.hid (show wrap64 ((n : Int) + 2) = (n : Int) + 2 from wrap_in (by omega) (by omega))
    have HK1 := Lib.hid (show wrap64 ((k0 : Int) + 1) = (k0 : Int) + 1 from wrap_in (by omega) (by omega))
    by_cases hl : k0 + 1 = W.length
    · have hdr : W.drop k0 = [W[k0]] := by
        rw [List.drop_eq_getElem_cons hlt]
        have : W.drop (k0 + 1) = [] := by rw [hl]; simp
        rw [this]
      rw [hdr, pgo_last]
      by_cases hkn2 : k0 ≤ n
      · rw [if_neg (show ¬ (W[k0] = [] ∧ n < k0) from fun h => Nat.lt_irrefl _ (Nat.lt_of_lt_of_le h.2 hkn2))]
        refine Ev.step (f := fun _ => some _) (fun k => ?_) (Ev.now _)
        simp only [backreachref14_Parse.l0, strsX_length, HWR.out, HN1.out, HN2.out, HK1.out]
        rw [if_pos (by omega), if_pos (by omega), if_pos (by omega)]
      · have hk : k0 = n + 1 := by omega
        refine Ev.step (f := fun _ => some (if W[k0] = [] ∧ n < k0 then (out, 0, 0) else ([], 2, (k0 : Int) + 1))) (fun k => ?_) (Ev.now _)
        simp only [backreachref14_Parse.l0, strsX_length, HWR.out, HN1.out, HN2.out, HK1.out]
        rw [if_neg (by omega), if_pos (by omega), if_pos (by omega), if_pos (by omega), show (n : Int) + 1 = ((k0 : Nat) : Int) by omega, rdOf_strs hlt, toList_of]
        by_cases he : W[k0] = []
        · rw [if_pos he, if_pos (show W[k0] = [] ∧ n < k0 from ⟨he, by omega⟩)]
        · rw [if_neg he, if_neg (show ¬ (W[k0] = [] ∧ n < k0) from fun h => he h.1)]
          congr 3
          omega
    · have hne : W.drop (k0 + 1) ≠ [] := fun e => by
        have := congrArg List.length e
        rw [List.length_drop] at this
        simp at this
        omega
      rw [List.drop_eq_getElem_cons hlt, pgo_step hne]
      by_cases hkn2 : n < k0
      · rw [if_pos hkn2]
        have hk : k0 = n + 1 := by omega
        refine Ev.step (f := fun _ => some _) (fun k => ?_) (Ev.now _)
        simp only [backreachref14_Parse.l0, strsX_length, HWR.out, HN1.out, HN2.out, HK1.out]
        rw [if_neg (by omega), if_neg (by omega)]
        congr 3
        omega
      · rw [if_neg hkn2]
        obtain ⟨r, ok, he, hok, hval⟩ := rline_ev hv W[k0] (hw _ (List.getElem_mem hlt))
        have key : ∀ {R : List (List Int) × Int × Int}, Ev (fun k => (if ok = true then (if out.length < 5864062014805 then (backreachref14_Parse.l0 k (strsX W) (v : Int) (n : Int) (out ++ [r]) ((k0 : Int) + 1)) else (none)) else (some (([] : List (List Int)), 2, (k0 : Int) + 1)))) R → Ev (fun k => backreachref14_Parse.l0 k (strsX W) (v : Int) (n : Int) out (k0 : Int)) R := fun h => by
          refine Ev.step (f := fun k => (backreachref14_line.f k ⟨W[k0].toArray⟩ (v : Int)).bind fun bt162 => (if bt162.2 = true then (if out.length < 5864062014805 then (backreachref14_Parse.l0 k (strsX W) (v : Int) (n : Int) (out ++ [bt162.1]) ((k0 : Int) + 1)) else (none)) else (some (([] : List (List Int)), 2, (k0 : Int) + 1)))) (fun k => ?_) (Ev.bind he h)
          simp only [backreachref14_Parse.l0, strsX_length, HWR.out, HN1.out, HN2.out, HK1.out]
          rw [if_pos (by omega), if_neg (by omega), if_pos (by omega), if_pos (by omega), rdOf_strs hlt]
        cases hlp : lineP v (splitBy 32 W[k0]) with
        | none =>
          rw [hlp] at hok
          have hok2 : ok = false := hok
          clear hok
          subst hok2
          refine key (Ev.congr (f := fun _ => some _) (fun k => ?_) (Ev.now _))
          rw [if_neg (by simp)]
        | some c =>
          rw [hlp] at hok
          have hok2 : ok = true := hok
          clear hok
          subst hok2
          obtain rfl := hval c hlp
          have h2 := ih (k0 + 1) (out ++ [r]) (by omega) (by omega) (by omega) (by omega) (by simp; omega)
          refine key (Ev.congr (fun k => ?_) h2)
          rw [if_pos rfl, if_pos (by omega)]
          rfl
theorem rparse_ev (l : List UInt8) (hl : l.length ≤ 1000000000) : Ev (fun k => backreachref14_Parse.f k ⟨l.toArray⟩) (parseP l) := by
  have hsp := rsplit_ev (l := l) 10 hl
  have hsub := splitBy_sub 10 l
  have hwl := splitBy_length 10 l
  have hne := splitBy_ne 10 l
  show Ev _ (parseL (splitBy 10 l))
  generalize splitBy 10 l = W at hsp hsub hwl hne ⊢
  have hpos : 0 < W.length := List.length_pos_iff.2 hne
  rw [parseL_eq hpos]
  obtain ⟨v, n, ok, hh, hb⟩ := rhead_ev W[0] (by have := hsub _ (List.getElem_mem hpos); omega)
  have bad : ∀ v n : Int, Ev (fun k => backreachref14_Parse.j0 k (strsX W) v n true) (([] : List (List Int)), (2 : Int), (1 : Int)) := fun v n => by
    refine Ev.step (f := fun _ => some _) (fun k => ?_) (Ev.now _)
    simp only [backreachref14_Parse.j0]
    rw [if_pos trivial]
  have key : ∀ {R : List (List Int) × Int × Int}, Ev (fun k => (if ok = true then (backreachref14_Parse.j0 k (strsX W) v n (((strsX W).length : Int) == 1)) else (backreachref14_Parse.j0 k (strsX W) v n true))) R → Ev (fun k => backreachref14_Parse.f k ⟨l.toArray⟩) R := fun h => by
    refine Ev.bind hsp (Ev.congr (f := fun k => (backreachref14_head.f k ⟨W[0].toArray⟩).bind fun bt157 => (if bt157.2.2 = true then (backreachref14_Parse.j0 k (strsX W) bt157.1 bt157.2.1 (((strsX W).length : Int) == 1)) else (backreachref14_Parse.j0 k (strsX W) bt157.1 bt157.2.1 true))) (fun k => ?_) (Ev.bind hh h))
    rw [strsX_length, if_pos (by omega), show (0 : Int) = ((0 : Nat) : Int) from rfl, rdOf_strs hpos]
  unfold headB at hb
  show Ev _ (match headW (splitBy 32 W[0]) with
    | none => ([], 2, 1)
    | some (v, n) => if W.length = 1 then ([], 2, 1) else pgo v n (W.drop 1) 1 [])
  cases hp : headW (splitBy 32 W[0]) with
  | none =>
    rw [hp] at hb
    have hb2 : ok = false := hb
    clear hb
    subst hb2
    exact key (Ev.congr (fun k => if_neg (by simp)) (bad v n))
  | some ab =>
    obtain ⟨a, b⟩ := ab
    rw [hp] at hb
    obtain ⟨rfl, rfl, rfl⟩ : ok = true ∧ v = (a : Int) ∧ n = (b : Int) := hb
    have hab := headW_le hp
    by_cases h1 : W.length = 1
    · show Ev _ (if W.length = 1 then ([], 2, 1) else _)
      rw [if_pos h1]
      refine key (Ev.congr (fun k => ?_) (bad (a : Int) (b : Int)))
      rw [if_pos rfl, strsX_length, h1]
      rfl
    · show Ev _ (if W.length = 1 then ([], 2, 1) else _)
      rw [if_neg h1]
      have h2 := rparse_loop (W := W) hab.1 hab.2 (by omega) (fun x hx => by have := hsub x hx; omega) _ 1 [] rfl (by omega) (by omega) (by omega) rfl
      refine key (Ev.congr (f := fun k => backreachref14_Parse.j0 k (strsX W) (a : Int) (b : Int) false) (fun k => ?_) (Ev.step (fun k => ?_) h2))
      · rw [if_pos rfl, strsX_length, show ((W.length : Int) == 1) = false by
          have : ¬ (W.length : Int) = 1 := by omega
          simpa using this]
      · simp only [backreachref14_Parse.j0]
        rw [if_neg (by simp)]
        rfl
end Go.Proofs.YtnknoaolbjofiaaDoor.Cl
