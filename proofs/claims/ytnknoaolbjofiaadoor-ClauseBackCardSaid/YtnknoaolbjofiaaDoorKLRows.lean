/- For the statement of the row ClauseBack: what its proof needs of the text LRows. -/
import Derived.Deep.Matrix
import Derived.Deep.Grids
import Derived.ChangeSlices
import Derived.SizedLaws
import Derived.Test.YtnknoaolbjofiaaDoorKWWords

set_option linter.unusedVariables false
set_option linter.unusedSimpArgs false
namespace Go.Proofs.YtnknoaolbjofiaaDoor.LR
open Go.ChangeShapes Go.WideShapes Go.Proofs.YtnknoaolbjofiaaDoorW.PrintWords
theorem open_rows {H : Type} {enc : TypeId × Value → H} {P : Program} {W : World} {t e q : TypeId} {a : Option Addr} {len cap : Nat} {d : DataW H} {ps : List MemPlace} {ts : List TypeId} {ds : List (DataW H)} {j : Nat}
    (hsz : (DataW.weightsEach P ts ds).all (· ≤ reachBytes) = true) (htj : ts[j]? = some t) (hdj : ds[j]? = some d) (ht : P.underlying t = some (.slice e)) (he : P.underlying e = some (.slice q)) (hq : P.underlying q = some (.int .i64)) (ce : P.cellsOf e = 1) (cq : P.cellsOf q = 1) {B : Nat} (hB : P.bytesOf e = B)
    (h : DataW.Trod enc P W 0 (fun _ => true) true t (.slice a len cap) d ps) :
    ∃ ls : List (List Int), len = ls.length ∧ Kd.C (Kd.slice q (Kd.int .i64)) W a ls.length ls ∧ ls.length ≤ cap ∧ ls.length ≤ maxLen ∧ ls.length * B ≤ 140737488351232 ∧ ∀ c ∈ ls, ∀ x ∈ c, (Lit.int .i64 x).wf = true := by
  obtain ⟨fuel, hf⟩ := h
  rcases Deep.open_int_rows ht he hq ce cq hf with ⟨hcs, _⟩ | ⟨a0, n, c0, A, L, C, Z, hcs, _, hl, hm, hx, hr⟩
  · simp [Value.cells] at hcs
    obtain ⟨rfl, rfl, rfl⟩ := hcs
    exact ⟨[], rfl, ⟨rfl, by simp, fun h => absurd h (by simp)⟩, by simp, by simp, by simp, by simp⟩
  · simp [Value.cells] at hcs
    obtain ⟨rfl, rfl, rfl⟩ := hcs
    obtain ⟨hd, _⟩ := Prod.mk.inj hx
    have hz := sized_slice hsz htj (hdj.trans (congrArg some hd)) ht
    rw [hB, List.length_map, List.length_map, List.length_range, List.length_range] at hz
    have hlen : ((List.range len).map fun r => (Z r).take (L r)).length = len := by simp
    have hM : maxLen ≤ 9223372036854775807 := by decide
    refine ⟨(List.range len).map fun r => (Z r).take (L r), hlen.symm, ?_, by rw [hlen]; exact hl, by rw [hlen]; omega, ?_, ?_⟩
    · refine ⟨rfl, by rw [hlen]; omega, fun _ => ⟨a0, rfl, fun i p hi => ?_⟩⟩
      have hilt : i < len := by
        have := (List.getElem?_eq_some_iff.1 hi).1
        rw [hlen] at this
        exact this
      have hp : p = (Z i).take (L i) := by
        rw [List.getElem?_map, List.getElem?_range hilt] at hi
        exact (Option.some.inj hi).symm
      obtain ⟨r1, r2, r3, r4, r5, r6, r7⟩ := hr i (by omega)
      have hpl : p.length = L i := by rw [hp, List.length_take, r4]; omega
      refine ⟨[.slice (A i) (L i) (C i)], rfl, ⟨A i, C i, by rw [hpl], by omega, rfl, by omega, fun h0 => ?_⟩, fun i' u hu => ?_⟩
      · cases hA : A i with
        | none => have := r6 hA; omega
        | some ad =>
          refine ⟨ad, rfl, fun i2 x hx2 => ⟨[.int .i64 x], rfl, rfl, fun i3 u hu => ?_⟩⟩
          have h3 : i3 = 0 := by
            have := (List.getElem?_eq_some_iff.1 hu).1
            simpa using this
          subst h3
          have hu : Value.int .i64 x = u := by simpa using hu
          have h2lt : i2 < L i := by have := (List.getElem?_eq_some_iff.1 hx2).1; omega
          have hc := (r7 ad hA).2 i2 (by omega)
          have hxe : (Z i).getD i2 0 = x := by
            rw [hp, List.getElem?_take, if_pos h2lt] at hx2
            rw [List.getD_eq_getElem?_getD, hx2]
            rfl
          rw [hxe, hu] at hc
          simpa [Kd.int, Kd.scalar] using hc
      · have h3 : i' = 0 := by
          have := (List.getElem?_eq_some_iff.1 hu).1
          simpa using this
        subst h3
        have hu : Value.slice (A i) (L i) (C i) = u := by simpa using hu
        rw [hu] at r1
        simpa [Kd.slice] using r1
    · rw [hlen]
      have : len * B ≤ (len + (cap - len)) * B := Nat.mul_le_mul_right _ (by omega)
      exact Nat.le_trans this hz
    · intro c hc x hx
      rw [List.mem_map] at hc
      obtain ⟨r, hr2, rfl⟩ := hc
      rw [List.mem_range] at hr2
      exact (hr r (by omega)).2.2.2.2.1 x (List.mem_of_mem_take hx)
end Go.Proofs.YtnknoaolbjofiaaDoor.LR
