/- clause.Print: the walk. -/
import Derived.Test.YtnknoaolbjofiaaDoorClPrintP
set_option linter.unusedVariables false
set_option linter.unusedSimpArgs false
namespace Go.Proofs.YtnknoaolbjofiaaDoor.Cl
open Go.RowKit Go.Proofs.YtnknoaolbjofiaaDoorW.PrintWords Go.Proofs.YtnknoaolbjofiaaDoorW.PrintLast Go.Proofs.YtnknoaolbjofiaaDoorW.PrintMore

/-- The words so far, of a list of literals. -/
def litsT (c : List Int) : List UInt8 := (c.map fun x => Lib.itoa x ++ [32]).flatten
theorem litsT_snoc (c : List Int) (x : Int) : litsT (c ++ [x]) = litsT c ++ (Lib.itoa x ++ [32]) := by simp [litsT]
theorem litsT_length {c : List Int} (h : ∀ x ∈ c, -9223372036854775808 ≤ x ∧ x ≤ 9223372036854775807) : (litsT c).length ≤ 22 * c.length := by
  induction c with
  | nil => simp [litsT]
  | cons x c ih =>
    have h1 := Lib.itoa_length_le x (h x (by simp)).1 (h x (by simp)).2
    have h2 := ih (fun y hy => h y (by simp [hy]))
    have e : litsT (x :: c) = Lib.itoa x ++ [32] ++ litsT c := by simp [litsT]
    rw [e]
    simp only [List.length_append, List.length_cons, List.length_nil]
    omega
def linesT (l : List (List Int)) : List UInt8 := (l.map printC).flatten
theorem linesT_snoc (l : List (List Int)) (c : List Int) : linesT (l ++ [c]) = linesT l ++ (litsT c ++ [48, 10]) := by simp [linesT, printC, litsT]
theorem linesT_length {l : List (List Int)} (h : ∀ c ∈ l, c.length ≤ 10000 ∧ ∀ x ∈ c, -9223372036854775808 ≤ x ∧ x ≤ 9223372036854775807) : (linesT l).length ≤ 220002 * l.length := by
  induction l with
  | nil => simp [linesT]
  | cons c l ih =>
    have h1 := litsT_length (h c (by simp)).2
    have h2 := ih (fun d hd => h d (by simp [hd]))
    have h3 := (h c (by simp)).1
    have e : linesT (c :: l) = litsT c ++ [48, 10] ++ linesT l := by simp [linesT, printC, litsT]
    rw [e]
    simp only [List.length_append, List.length_cons, List.length_nil]
    omega
theorem str_app (a b : List UInt8) : (⟨a.toArray⟩ : ByteArray) ++ ⟨b.toArray⟩ = ⟨(a ++ b).toArray⟩ := by
  apply ByteArray.ext
  simp
def headT (l : List (List Int)) : List UInt8 := [112, 32, 99, 110, 102, 32] ++ Lib.itoa (most l) ++ [32] ++ Lib.itoa l.length ++ [10]
theorem printL_eq (l : List (List Int)) : printL l = headT l ++ linesT l := rfl

set_option maxRecDepth 100000 in
set_option maxHeartbeats 4000000 in
theorem print_calls (A : Option Addr) (cap : Nat) (l : List (List Int)) (w : World) (hC : KRh.C w A l.length l) (hcap : l.length ≤ cap) (hr : lRight l = true) (hl1 : l.length ≤ 10000) (hl2 : ∀ c ∈ l, c.length ≤ 10000) (hT : Tab w) :
    Calls Tryd.prog 19 #[.slice A l.length cap] w fun e w' => e = .returned (.tuple #[.string ⟨(printL l).toArray⟩, .int .i64 0]) ∧ Below w.heap.size w w' := by
  have hright := right_calls A cap l
  have hC0 := hC
  have HC := Aside0.mk hC
  have HR := Lib.hid hr
  have HT := Lib.hid hT
  have HL := Aside0.mk (And.intro hl1 hl2)
  have hrt := fun W (hW : Below w.heap.size w W) => right_calls A cap l W (Kd.C_below hC hW) hcap
  rw [hr] at hrt
  have hmo := fun W (hW : Below w.heap.size w W) => most_calls A cap l W (Kd.C_below hC hW) hcap hr
  have HRT := Lib.hid hrt
  have HMO := Lib.hid hmo
  have hmb : most l ≤ 1048576 := most_bound (l := l) hr (n := 0) (by omega)
  have HMB := Aside0.mk hmb
  clear hright hC0 hC hr hT hl1 hl2 hrt hmo hmb
  go_enter Tryd.func19, Tryd.ntmps19
  go_wp2_with fail
  refine (HRT.out _ (Below.refl _ _)).mono ?_
  rintro e w1 ⟨rfl, nd, rfl⟩
  go_wp2_with fail
  have HB0 : Aside0 (Below w.heap.size w ((w.drewN nd).alloc (.cells #[.pointer none, .slice none 0 0] 65))) := ⟨below_alloc (pw_below_drewN (Below.refl _ _) _) _⟩
  have HI0 : Aside0 (Lib.IsBuilder 65 5 w.heap.size w.heap.size (Lib.byteCells []) ((w.drewN nd).alloc (.cells #[.pointer none, .slice none 0 0] 65))) := ⟨by
    have h := Lib.fresh_isBuilder 65 5 (w.drewN nd)
    show Lib.IsBuilder _ _ _ _ [] _
    simpa using h⟩
  generalize (w.drewN nd).alloc (.cells #[.pointer none, .slice none 0 0] 65) = W0 at HB0 HI0 ⊢
  refine (HMO.out _ HB0.out).mono ?_
  rintro e w' ⟨rfl, rfl⟩
  go_wp2_with fail
  have hl1 := Lib.itoa_length_le (most l : Int) (by omega) (by have := HMB.out; omega)
  have hl2 := Lib.itoa_length_le (l.length : Int) (by omega) (by have := HL.out.1; omega)
  refine (itoa_calls (most l : Int) (by omega) (by have := HMB.out; omega) HT.out HB0.out).mono ?_
  rintro e W1 ⟨rfl, hb⟩
  have HI1 := Aside0.mk (isBuilder_below HI0.out hb)
  have HB1 := Aside0.mk (below_then HB0.out HB0.out.size hb)
  clear hb HI0 HB0 HMO
  go_wp2_with fail
  have hcat : (({ data := #[112, 32, 99, 110, 102, 32] } : ByteArray) ++ { data := (Lib.itoa (most l : Int)).toArray } ++ { data := #[32] } ++ { data := (Lib.itoa (l.length : Int)).toArray } ++ { data := #[10] }) = ⟨(headT l).toArray⟩ := by
    show ((⟨[112, 32, 99, 110, 102, 32].toArray⟩ : ByteArray) ++ ⟨(Lib.itoa (most l : Int)).toArray⟩ ++ ⟨[32].toArray⟩ ++ ⟨(Lib.itoa (l.length : Int)).toArray⟩ ++ ⟨[10].toArray⟩) = _
    rw [str_app, str_app, str_app, str_app]
    rfl
  have hhl : (headT l).length ≤ 60 := by
    simp only [headT, List.length_append, List.length_cons, List.length_nil]
    omega
  have HHL := Aside0.mk hhl
  have HCAT := Lib.hid hcat
  clear hcat hhl
  refine (itoa_calls (l.length : Int) (by omega) (by have := HL.out.1; omega) HT.out HB1.out).mono ?_
  rintro e W2 ⟨rfl, hb⟩
  have HI2 := Aside0.mk (isBuilder_below HI1.out hb)
  have HB2 := Aside0.mk (below_then HB1.out HB1.out.size hb)
  clear hb HI1 HB1
  go_wp2_with fail
  rw [HCAT.out]
  refine (write_calls w.heap.size w.heap.size [] (headT l) W2 HI2.out (by have := HHL.out; simp; omega) HB2.out.size).mono ?_
  rintro e W3 ⟨⟨n3, rfl⟩, hi, hb⟩
  rw [List.nil_append] at hi
  have HI3 := Aside0.mk hi
  have HB3 := Aside0.mk (HB2.out.trans hb)
  clear hi hb HI2 HB2 HCAT hl1 hl2
  go_wp2
  go_loopw [28] (fun v28 wr => ∃ i : Nat, v28 = .int .i64 i ∧ Aside0 (i ≤ l.length) ∧ Aside0 (Lib.IsBuilder 65 5 w.heap.size w.heap.size (Lib.byteCells (headT l ++ linesT (l.take i))) wr) ∧ Aside0 (Below w.heap.size w wr)) (fun i _ => l.length - (intOf i).toNat)
  case atStart => exact ⟨0, rfl, ⟨Nat.zero_le _⟩, ⟨by simpa [linesT] using HI3.out⟩, HB3⟩
  case round =>
    clear HI3 HB3
    obtain ⟨i, rfl, hi, hbd, hb⟩ := hrel
    have hi := hi.out
    have hll := HL.out.1
    by_cases hlt : i < l.length
    · obtain ⟨ad, c, e, _, hK, hc0⟩ := Kd.C_get HC.out ([] : List Int) (i : Int) (by omega) (by omega)
      simp only [Int.toNat_natCast, List.getD_eq_getElem?_getD, List.getElem?_eq_getElem hlt, Option.getD_some] at hK hc0
      obtain ⟨A0, c0, rfl, l0, g0⟩ := hK
      cases e
      have hcell : wr.cell? (ad.add i) = some (.slice A0 l[i].length c0) := by
        refine pw_cell_below hb.out ?_
        have hq := hc0 0 _ rfl
        rwa [Nat.add_zero, show (i * KRh.sz) = i from Nat.mul_one i] at hq
      have G0 := Aside0.mk g0
      have hcl : l[i].length ≤ 10000 := HL.out.2 _ (List.getElem_mem hlt)
      have HCR := Lib.hid (cRight_of HR.out (List.getElem_mem hlt))
      have htl : (headT l ++ linesT (l.take i)).length ≤ 60 + 220002 * 10000 := by
        have h1 := linesT_length (l := l.take i) (fun d hd => ⟨HL.out.2 _ (List.mem_of_mem_take hd), fun x hx => by
          have := List.all_eq_true.1 (cRight_of HR.out (List.mem_of_mem_take hd)) x hx
          simp [litOk] at this
          omega⟩)
        have h2 := HHL.out
        have h3 := HL.out.1
        have h4 : (l.take i).length ≤ l.length := by rw [List.length_take]; omega
        rw [List.length_append]
        omega
      have HTL := Aside0.mk htl
      have hnx : headT l ++ linesT (l.take (i + 1)) = (headT l ++ linesT (l.take i)) ++ (litsT l[i] ++ [48, 10]) := by rw [List.take_succ_eq_append_getElem hlt, linesT_snoc, List.append_assoc]
      have HNX := Lib.hid hnx
      clear hc0 g0 hnx htl
      generalize l[i] = c at hcell G0 hcl HCR HNX
      generalize headT l ++ linesT (l.take i) = T at hbd HTL HNX
      go_wp2
      go_loopw [34] (fun v34 wr => ∃ j : Nat, v34 = .int .i64 j ∧ Aside0 (j ≤ c.length) ∧ Aside0 (Lib.IsBuilder 65 5 w.heap.size w.heap.size (Lib.byteCells (T ++ litsT (c.take j))) wr) ∧ Aside0 (Below w.heap.size w wr)) (fun j _ => c.length - (intOf j).toNat)
      case atStart => exact ⟨0, rfl, ⟨Nat.zero_le _⟩, ⟨by simpa [litsT] using hbd.out⟩, hb⟩
      case round =>
        clear hcell hbd hb
        obtain ⟨j, rfl, hj, hbj, hb2⟩ := hrel
        have hj := hj.out
        by_cases hjlt : j < c.length
        · obtain ⟨ad2, e2, hcell2⟩ := Kd.at_int G0.out (j : Int) (by omega) (by omega)
          cases e2
          rw [rd_at hjlt, Int.toNat_natCast] at hcell2
          have hcell3 := pw_cell_below hb2.out hcell2
          have hx := List.all_eq_true.1 HCR.out c[j] (List.getElem_mem hjlt)
          simp [litOk] at hx
          have hlx := Lib.itoa_length_le c[j] (by omega) (by omega)
          have hit := itoa_calls c[j] (by omega) (by omega) HT.out hb2.out
          have htj : (T ++ litsT (c.take j)).length ≤ 3000000000 := by
            have h1 := litsT_length (c := c.take j) (fun x hx => by
              have := List.all_eq_true.1 HCR.out x (List.mem_of_mem_take hx)
              simp [litOk] at this
              omega)
            have h2 := HTL.out
            have h3 : (c.take j).length ≤ c.length := by rw [List.length_take]; omega
            rw [List.length_append]
            omega
          have HTJ := Aside0.mk htj
          have htx : T ++ litsT (c.take (j + 1)) = (T ++ litsT (c.take j)) ++ (Lib.itoa c[j] ++ [32]) := by rw [List.take_succ_eq_append_getElem hjlt, litsT_snoc, List.append_assoc]
          have HTX := Lib.hid htx
          have hcat : (({ data := (Lib.itoa c[j]).toArray } : ByteArray) ++ { data := #[32] }) = ⟨(Lib.itoa c[j] ++ [32]).toArray⟩ := str_app (Lib.itoa c[j]) [32]
          have HCAT := Lib.hid hcat
          have HIT := Lib.hid hit
          clear hcell2 hx hit htj htx hcat
          generalize c[j] = x at hcell3 hlx HTX HCAT HIT
          generalize T ++ litsT (c.take j) = T2 at hbj HTJ HTX
          go_wp2_with fail
          refine HIT.out.mono ?_
          rintro e W2 ⟨rfl, hb⟩
          have HI2 := Aside0.mk (isBuilder_below hbj.out hb)
          have HB2 := Aside0.mk (below_then hb2.out hb2.out.size hb)
          clear hb hbj hb2 hcell3
          go_wp2_with fail
          rw [HCAT.out]
          refine (write_calls w.heap.size w.heap.size T2 _ W2 HI2.out (by have := HTJ.out; simp; omega) HB2.out.size).mono ?_
          rintro e W3 ⟨⟨n3, rfl⟩, hi3, hb3⟩
          rw [← HTX.out] at hi3
          have HI3 := Aside0.mk hi3
          have HB3 := Aside0.mk (HB2.out.trans hb3)
          clear hi3 hb3 HI2 HB2 HCAT HIT
          go_wp2
          go_roundw
          case rel => exact ⟨j + 1, by go_num, ⟨hjlt⟩, HI3, HB3⟩
          case measure => simp [intOf]; omega
        · have ej : j = c.length := by omega
          subst ej
          have hbj2 := hbj.out
          rw [List.take_length] at hbj2
          have HBJ := Aside0.mk hbj2
          have htj : (T ++ litsT c).length ≤ 3000000000 := by
            have h1 := litsT_length (c := c) (fun x hx => by
              have := List.all_eq_true.1 HCR.out x hx
              simp [litOk] at this
              omega)
            have h2 := HTL.out
            rw [List.length_append]
            omega
          have HTJ := Aside0.mk htj
          have htx := HNX.out
          rw [← List.append_assoc] at htx
          have HTX := Lib.hid htx
          clear hbj hbj2 htj htx
          go_wp2_with fail
          refine (write_calls w.heap.size w.heap.size (T ++ litsT c) [48, 10] _ HBJ.out (by have := HTJ.out; simp only [List.length_cons, List.length_nil]; omega) hb2.out.size).mono ?_
          rintro e W3 ⟨⟨n3, rfl⟩, hi3, hb3⟩
          rw [← HTX.out] at hi3
          have HI3 := Aside0.mk hi3
          have HB3 := Aside0.mk (hb2.out.trans hb3)
          clear hi3 hb3 HBJ hb2
          go_wp2
          go_roundw
          case rel => exact ⟨i + 1, by go_num, ⟨hlt⟩, HI3, HB3⟩
          case measure => simp [intOf]; omega
    · have ei : i = l.length := by omega
      subst ei
      have hbd2 := hbd.out
      rw [List.take_length] at hbd2
      have HBD := Aside0.mk hbd2
      clear hbd hbd2
      go_wp2_with fail
      refine (Tryd.Builder_String w.heap.size w.heap.size (headT l ++ linesT l) _ HBD.out (by simp [headT])).mono ?_
      rintro e W3 ⟨rfl, hb3⟩
      have HB3 := Aside0.mk (hb.out.trans hb3)
      clear hb hb3
      go_wp2
      go_ret2
      exact ⟨rfl, HB3.out⟩
end Go.Proofs.YtnknoaolbjofiaaDoor.Cl
