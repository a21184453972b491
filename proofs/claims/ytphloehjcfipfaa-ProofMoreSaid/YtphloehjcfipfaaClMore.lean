/- The law ProofMore: a proof of some clauses is one of these, in whatever order, and more: the call, in plain words. -/
import Derived.Test.YtphloehjcfipfaaClFew
import Derived.Test.YtphloehjcfipfaaClMoreP
import Derived.Test.YtphloehjcfipfaaExtAwake18
set_option linter.unusedVariables false
set_option linter.unusedSimpArgs false
namespace Go.Proofs.Ytphloehjcfipfaa.Cl
open Go.RowKit Go.Proofs.YtphloehjcfipfaaW.PrintWords Go.Proofs.YtphloehjcfipfaaW.PrintLast Go.Proofs.YtphloehjcfipfaaW.PrintMore
open Go.Proofs.Ytphloehjcfipfaa.X

set_option maxRecDepth 100000 in
set_option maxHeartbeats 8000000 in
theorem more_law (a0 : Option Addr) (c0 : Nat) (l0 : List (List Int)) (a1 : Option Addr) (c1 : Nat) (l1 : List (List Int)) (a2 : Option Addr) (c2 : Nat) (l2 : List (List Int)) (a3 : Int) (w : World)
    (hr0 : Kd.C (Kd.slice 3 (Kd.int .i64)) w a0 l0.length l0) (hc0 : l0.length ≤ c0) (hm0 : l0.length ≤ maxLen) (hs0 : l0.length * 24 ≤ 140737488351232) (hw0 : ∀ c ∈ l0, ∀ x ∈ c, (Lit.int .i64 x).wf = true)
    (hr1 : Kd.C (Kd.slice 3 (Kd.int .i64)) w a1 l1.length l1) (hc1 : l1.length ≤ c1) (hm1 : l1.length ≤ maxLen) (hs1 : l1.length * 24 ≤ 140737488351232) (hw1 : ∀ c ∈ l1, ∀ x ∈ c, (Lit.int .i64 x).wf = true)
    (hr2 : Kd.C (Kd.slice 3 (Kd.int .i64)) w a2 l2.length l2) (hc2 : l2.length ≤ c2) (hm2 : l2.length ≤ maxLen) (hs2 : l2.length * 24 ≤ 140737488351232) (hw2 : ∀ c ∈ l2, ∀ x ∈ c, (Lit.int .i64 x).wf = true)
    (hw3 : (Lit.int .i64 a3).wf = true) :
    Calls Try.prog 4 #[.slice a0 l0.length c0, .slice a1 l1.length c1, .slice a2 l2.length c2, .int .i64 a3] w fun e w' => e = .returned (.bool true) ∧ Below w.heap.size w w' := by
  have hf0 := fun W (hW : Below w.heap.size w W) => few_calls18 a0 c0 l0 W (Kd.C_below hr0 hW) hc0 (by omega)
  have hf1 := fun W (hW : Below w.heap.size w W) => few_calls18 a1 c1 l1 W (Kd.C_below hr1 hW) hc1 (by omega)
  have hf2 := fun W (hW : Below w.heap.size w W) => few_calls18 a2 c2 l2 W (Kd.C_below hr2 hW) hc2 (by omega)
  have hrt := fun W (hW : Below w.heap.size w W) => right_calls a1 c1 l1 W (Kd.C_below hr1 hW) hc1
  have hck := fun W (hW : Below w.heap.size w W) (hfit : Fit2 l0 l2) => check_calls a0 c0 l0 a2 c2 l2 W (Kd.C_below hr0 hW) hc0 (Kd.C_below hr2 hW) hc2 hfit
  have hfF0 := Kd.C_F (Kd.heap_slice 3 (Kd.heap_int .i64)) hr0
  have HR0 := Aside0.mk hr0
  have HR1 := Aside0.mk hr1
  have HR2 := Aside0.mk hr2
  have HL := Aside0.mk (And.intro hs0 (And.intro hs1 hs2))
  have HCC := Aside0.mk (And.intro hc0 (And.intro hc1 hc2))
  have HF0 := Lib.hid hf0
  have HF1 := Lib.hid hf1
  have HF2 := Lib.hid hf2
  have HRT := Lib.hid hrt
  have HCK := Lib.hid hck
  clear hf0 hf1 hf2 hrt hck hfF0 hr0 hr1 hr2 hw0 hw1 hw2 hw3 hm0 hm1 hm2 hs0 hs1 hs2 hc0 hc1 hc2
  obtain ⟨i0, hi0, _, hsz0, _⟩ := info_parts info35
  have HI0 := Lib.hid hi0
  have HSZ0 := Lib.hid hsz0
  clear hi0 hsz0
  go_enter Try.func4, Try.ntmps4
  go_wp2_with fail
  refine (awake_calls _).mono ?_
  rintro e w1 ⟨rfl, hb1⟩
  have HB1 := Aside0.mk hb1
  clear hb1
  go_wp2_with fail
  refine (HF0.out _ HB1.out).mono ?_
  cases h0 : small l0 100 12 40 with
  | false =>
    rintro e w' ⟨rfl, nd, rfl⟩
    clear h0
    go_wp2
    go_ret
    exact ⟨rfl, by repeat (first | exact HB1.out | apply pw_below_drewN)⟩
  | true =>
    have hft0 := few_total h0
    have HT0 := Lib.hid hft0
    clear hft0 h0
    rintro e w' ⟨rfl, nd0, rfl⟩
    go_wp2_with fail
    refine (HF1.out _ (by repeat (first | exact HB1.out | apply pw_below_drewN))).mono ?_
    cases h1 : small l1 100 12 40 with
    | false =>
      rintro e w' ⟨rfl, nd, rfl⟩
      clear h1
      go_wp2
      go_ret
      exact ⟨rfl, by repeat (first | exact HB1.out | apply pw_below_drewN)⟩
    | true =>
      have hft1 := few_total h1
      have HT1 := Lib.hid hft1
      clear hft1 h1
      rintro e w' ⟨rfl, nd1, rfl⟩
      go_wp2_with fail
      refine (HF2.out _ (by repeat (first | exact HB1.out | apply pw_below_drewN))).mono ?_
      cases h2 : small l2 100 12 40 with
      | false =>
        rintro e w' ⟨rfl, nd, rfl⟩
        clear h2
        go_wp2
        go_ret
        exact ⟨rfl, by repeat (first | exact HB1.out | apply pw_below_drewN)⟩
      | true =>
        have hft2 := few_total h2
        have HT2 := Lib.hid hft2
        clear hft2 h2
        rintro e w' ⟨rfl, nd2, rfl⟩
        have HB2 : Aside0 (Below w.heap.size w (w1.drewN (nd0 + nd1 + nd2))) := ⟨pw_below_drewN HB1.out _⟩
        by_cases h3 : a3 < 0
        · have h3b : decide (a3 < 0) = true := decide_eq_true h3
          clear h3
          go_wp2
          go_ret
          exact ⟨rfl, HB2.out⟩
        · have h3b : decide (a3 < 0) = false := decide_eq_false h3
          by_cases h4 : a3 > (l0.length : Int)
          · have h4b : decide (a3 > (l0.length : Int)) = true := decide_eq_true h4
            clear h3 h4
            go_wp2
            go_ret
            exact ⟨rfl, HB2.out⟩
          · have h4b : decide (a3 > (l0.length : Int)) = false := decide_eq_false h4
            obtain ⟨t, rfl⟩ : ∃ t : Nat, a3 = (t : Int) := ⟨a3.toNat, by omega⟩
            have ht : t ≤ l0.length := by omega
            have HTT := Aside0.mk ht
            have h4c : decide (l0.length < t) = false := decide_eq_false (by omega)
            clear h3 h4 ht
            cases h5 : lRight l1 with
            | false =>
              have hq := HRT.out _ HB2.out
              rw [h5] at hq
              have HQ := Lib.hid hq
              clear hq h5
              go_wp2_with fail
              refine HQ.out.mono ?_
              rintro e w' ⟨rfl, nd, rfl⟩
              go_wp2
              go_ret
              exact ⟨rfl, pw_below_drewN HB1.out _⟩
            | true =>
              have hq := HRT.out _ HB2.out
              rw [h5] at hq
              have HQ := Lib.hid hq
              have H5 := Lib.hid h5
              clear hq h5
              go_wp2_with fail
              refine HQ.out.mono ?_
              rintro e w' ⟨rfl, nd3, rfl⟩
              have HB3 : Aside0 (Below w.heap.size w (w1.drewN (nd0 + nd1 + nd2 + nd3))) := ⟨pw_below_drewN HB1.out _⟩
              clear HQ HRT HF0 HF1 HF2
              go_wp2_with fail
              refine (HCK.out _ HB3.out (by obtain ⟨_, e1, e2⟩ := HT0.out; obtain ⟨_, e3, e4⟩ := HT2.out; exact ⟨by omega, by omega⟩)).mono ?_
              intro e w6 hp
              obtain ⟨he, hb6⟩ := hp
              have HB6 := Aside0.mk (below_then HB3.out HB3.out.size hb6)
              clear hb6
              by_cases h6 : (check l0 l2).1 = 0
              · have hce := check_at h6
                rw [hce] at he
                subst he
                have hmem : ∀ c ∈ l0, c ∈ [] ++ l0.drop t ++ l1 ++ l0.take t := fun c hc => by
                  rw [← List.take_append_drop t l0] at hc
                  rcases List.mem_append.1 hc with h | h
                  · exact List.mem_append_right _ h
                  · exact List.mem_append_left _ (List.mem_append_left _ (List.mem_append_right _ h))
                have hlr : lRight ([] ++ l0.drop t ++ l1 ++ l0.take t) = true := by
                  have hl0 := (check_zero.1 h6).1
                  unfold lRight at hl0 ⊢
                  rw [List.all_eq_true] at hl0 ⊢
                  intro c hc
                  simp only [List.nil_append, List.mem_append] at hc
                  rcases hc with (h | h) | h
                  · exact hl0 c (List.mem_of_mem_drop h)
                  · exact List.all_eq_true.1 H5.out c h
                  · exact hl0 c (List.mem_of_mem_take h)
                have hfin := check_more h6 hlr hmem
                have hlen : ([] ++ l0.drop t ++ l1 ++ l0.take t).length = l0.length + l1.length := by simp; have := HTT.out; omega
                have htot : total ([] ++ l0.drop t ++ l1 ++ l0.take t) = total l0 + total l1 := by
                  have e1 := total_append (l0.take t) (l0.drop t)
                  rw [List.take_append_drop] at e1
                  rw [total_append, total_append, List.nil_append]
                  omega
                have hch := fun W Av cv (hle : ([] ++ l0.drop t ++ l1 ++ l0.take t).length ≤ cv) (hCv : KR.C W Av ([] ++ l0.drop t ++ l1 ++ l0.take t).length ([] ++ l0.drop t ++ l1 ++ l0.take t)) (hW : Below w.heap.size w W) =>
                  (check_calls Av cv ([] ++ l0.drop t ++ l1 ++ l0.take t) a2 c2 l2 W hCv hle (Kd.C_below HR2.out hW) HCC.out.2.2 (by obtain ⟨_, e1, e2⟩ := HT0.out; obtain ⟨_, e3, e4⟩ := HT1.out; obtain ⟨_, e5, e6⟩ := HT2.out; exact ⟨by rw [htot]; omega, by rw [hlen]; omega⟩)).mono
                    (R' := fun e w' => e = .returned (.tuple #[.int .i64 0, .int .i64 0]) ∧ Below W.heap.size W w') fun e w' hp => by
                      unfold CheckPost at hp
                      rw [hfin] at hp
                      exact hp
                have HCH := Lib.hid hch
                have hcf := cut_from (P := Try.prog) 22 35 .i64 Try.underlying22 HI0.out 1 HSZ0.out a0 l0.length c0 (t : Int) (by omega) (by have := HTT.out; omega)
                have hct := cut_to (P := Try.prog) 22 35 .i64 Try.underlying22 HI0.out a0 l0.length c0 (t : Int) (by omega) (by have := HTT.out; omega) HCC.out.1
                have hCd := Kd.C_drop (m := t) (c := c0) HR0.out HTT.out HCC.out.1
                have hCt := Kd.C_take (m := t) HR0.out HTT.out
                rw [Int.toNat_natCast] at hcf hct
                rw [show KR.sz = 1 from rfl] at hCd
                generalize (if c0 = t then a0 else a0.map (·.add (t * 1))) = Af at hcf hCd
                have hdl : (l0.drop t).length = l0.length - t := List.length_drop
                have htl : (l0.take t).length = t := by rw [List.length_take]; have := HTT.out; omega
                have hF0 := Kd.C_F (Kd.heap_slice 3 (Kd.heap_int .i64)) hCd
                have hF1 := Kd.C_F (Kd.heap_slice 3 (Kd.heap_int .i64)) HR1.out
                have hF2 := Kd.C_F (Kd.heap_slice 3 (Kd.heap_int .i64)) hCt
                rw [hdl] at hF0
                rw [htl] at hF2
                have HF0 := Aside0.mk hF0
                have HF1 := Aside0.mk hF1
                have HF2 := Aside0.mk hF2
                have hlim : l0.length + l1.length ≤ 200 := by obtain ⟨_, e1, e2⟩ := HT0.out; obtain ⟨_, e3, e4⟩ := HT1.out; omega
                have HTL := HTT.out
                clear hch hfin hlr hmem hce h6 hCd hCt hF0 hF1 hF2 hdl htl hlen htot
                go_wp2_with fail
                refine start_ (n := 18) (S := fun w' => True) (ds := []) #[false, false, false, false, false, false, false, false, false, false, false, false, false, false, false, false, false, false] (by kernel_rfl) rfl rfl trivial (fun hHeld => ?_)
                refine pure_ (i := 1) (N := some 53) (v := ?_) (a' := ?_) #[false, true, false, false, false, false, false, false, false, false, false, false, false, false, false, false, false, false] rfl rfl (by kernel_rfl) (fun _ _ _ h => h) (Or.inl ⟨by rfl, ?_⟩) ?_ ?_
                rotate_left
                · intro w'
                  go_simp
                  with_reducible rfl
                rotate_left
                · simp only [Act.put, List.setIfInBounds_toArray, List.set_cons_zero, List.set_cons_succ, i64_w, i32_w]
                  rfl
                refine pure_ (i := 2) (N := some 54) (v := ?_) (a' := ?_) #[false, true, true, false, false, false, false, false, false, false, false, false, false, false, false, false, false, false] rfl rfl (by kernel_rfl) (fun _ _ _ h => h) (Or.inl ⟨by rfl, ?_⟩) ?_ ?_
                rotate_left
                · intro w'
                  go_simp
                  with_reducible rfl
                rotate_left
                · simp only [Act.put, List.setIfInBounds_toArray, List.set_cons_zero, List.set_cons_succ, i64_w, i32_w]
                  rfl
                refine pure_ (i := 3) (N := some 55) (v := ?_) (a' := ?_) #[false, true, true, true, false, false, false, false, false, false, false, false, false, false, false, false, false, false] rfl rfl (by kernel_rfl) (fun _ _ _ h => h) (Or.inl ⟨by rfl, ?_⟩) ?_ ?_
                rotate_left
                · intro w'
                  go_simp
                  with_reducible rfl
                rotate_left
                · simp only [Act.put, List.setIfInBounds_toArray, List.set_cons_zero, List.set_cons_succ, i64_w, i32_w]
                  rfl
                refine pure_ (i := 5) (N := some 57) (v := ?_) (a' := ?_) #[false, true, true, true, false, true, false, false, false, false, false, false, false, false, false, false, false, false] rfl rfl (by kernel_rfl) (fun _ _ _ h => h) (Or.inl ⟨by rfl, ?_⟩) ?_ ?_
                rotate_left
                · intro w'
                  go_simp
                  with_reducible rfl
                rotate_left
                · simp only [Act.put, List.setIfInBounds_toArray, List.set_cons_zero, List.set_cons_succ, i64_w, i32_w]
                  rfl
                refine pure_ (i := 7) (N := some 59) (v := ?_) (a' := ?_) #[false, true, true, true, false, true, false, true, false, false, false, false, false, false, false, false, false, false] rfl rfl (by kernel_rfl) (fun _ _ _ h => h) (Or.inl ⟨by rfl, ?_⟩) ?_ ?_
                rotate_left
                · intro w'
                  go_simp
                  with_reducible rfl
                rotate_left
                · simp only [Act.put, List.setIfInBounds_toArray, List.set_cons_zero, List.set_cons_succ, i64_w, i32_w]
                  rfl
                refine pure_ (i := 8) (N := some 60) (v := ?_) (a' := ?_) #[false, true, true, true, false, true, false, true, true, false, false, false, false, false, false, false, false, false] rfl rfl (by kernel_rfl) (fun _ _ _ h => h) (Or.inl ⟨by rfl, ?_⟩) ?_ ?_
                rotate_left
                · intro w'
                  go_simp
                  with_reducible rfl
                rotate_left
                · simp only [Act.put, List.setIfInBounds_toArray, List.set_cons_zero, List.set_cons_succ, i64_w, i32_w]
                  rfl
                refine pure_ (i := 9) (N := some 61) (v := ?_) (a' := ?_) #[false, true, true, true, false, true, false, true, true, true, false, false, false, false, false, false, false, false] rfl rfl (by kernel_rfl) (fun _ _ _ h => h) (Or.inl ⟨by rfl, ?_⟩) ?_ ?_
                rotate_left
                · intro w'
                  go_simp
                  with_reducible rfl
                rotate_left
                · simp only [Act.put, List.setIfInBounds_toArray, List.set_cons_zero, List.set_cons_succ, i64_w, i32_w]
                  rfl
                refine pure_ (i := 11) (N := some 63) (v := ?_) (a' := ?_) #[false, true, true, true, false, true, false, true, true, true, false, true, false, false, false, false, false, false] rfl rfl (by kernel_rfl) (fun _ _ _ h => h) (Or.inl ⟨by rfl, ?_⟩) ?_ ?_
                rotate_left
                · intro w'
                  go_simp
                  with_reducible rfl
                rotate_left
                · simp only [Act.put, List.setIfInBounds_toArray, List.set_cons_zero, List.set_cons_succ, i64_w, i32_w]
                  rfl
                refine one_ (i := 0) (N := some 52) #[true, true, true, true, false, true, false, true, true, true, false, true, false, false, false, false, false, false] rfl rfl (by kernel_rfl) (by decide) (fun K hK => ?_)
                refine Kd.N_lit_step KR (w0 := w) w.heap.size 35 (by rfl) (N' := 52) rfl (xs := ([] : List (List Int))) (inner := []) (ok := fun _ => True) (okp := fun _ => True) ?hr0 (Reps.none _ _) (fun _ h => h) trivial ?hb0 ?hs0 (by simp) ?_
                case hr0 => first | (go_simp; done) | (go_simp; rfl)
                case hb0 => exact below_drew HB6.out
                case hs0 => exact (below_drew HB6.out).size
                intro v7 w7 hN7 hB7 hg7 hat7
                have HN7 := Aside0.mk hN7
                have HB7 := Aside0.mk hB7
                clear hN7 hB7 hg7 hat7
                refine hK.out _ _ trivial (fun hHeld => ?_)
                clear hK K
                refine norm_ (a' := ?_) ?_ ?_
                rotate_left
                · show Act.put _ (some 52) _ = _
                  simp only [Act.put, List.setIfInBounds_toArray, List.set_cons_zero, List.set_cons_succ, i64_w, i32_w]
                  rfl
                refine one_ (i := 4) (N := some 56) #[true, true, true, true, true, true, false, true, true, true, false, true, false, false, false, false, false, false] rfl rfl (by kernel_rfl) (by decide) (fun K hK => ?_)
                refine Kd.N_append_rows_step KR (w0 := w) w.heap.size (by rfl) (.tmp 52) (.tmp 55) 22 35 (.slice none 0 0) 24 rfl Try.underlying22 info35 rfl (by decide) (by omega) v7 [] (l0.drop t) Af _ _ (fun _ => True) (fun k => k < w.heap.size) rfl rfl HN7.out (Kd.F_below HF0.out HB7.out) (fun k hk => ⟨trivial, fun e => by have := Kd.N_base HN7.out k e.symm; omega⟩) (fun _ _ => trivial) HB7.out HB7.out.size (by simp; omega) ?_
                intro v8 w8 hN8 hB8 hg8 hat8
                have HN8 := Aside0.mk hN8
                have HB8 := Aside0.mk hB8
                clear hN8 hB8 hg8 hat8
                refine hK.out _ _ trivial (fun hHeld => ?_)
                clear hK K
                refine norm_ (a' := ?_) ?_ ?_
                rotate_left
                · show Act.put _ (some 56) _ = _
                  simp only [Act.put, List.setIfInBounds_toArray, List.set_cons_zero, List.set_cons_succ, i64_w, i32_w]
                  rfl
                refine one_ (i := 6) (N := some 58) #[true, true, true, true, true, true, true, true, true, true, false, true, false, false, false, false, false, false] rfl rfl (by kernel_rfl) (by decide) (fun K hK => ?_)
                refine Kd.N_append_rows_step KR (w0 := w) w.heap.size (by rfl) (.tmp 56) (.tmp 57) 22 35 (.slice none 0 0) 24 rfl Try.underlying22 info35 rfl (by decide) (by omega) v8 _ l1 a1 _ _ (fun _ => True) (fun k => k < w.heap.size) rfl rfl HN8.out (Kd.F_below HF1.out HB8.out) (fun k hk => ⟨trivial, fun e => by have := Kd.N_base HN8.out k e.symm; omega⟩) (fun _ _ => trivial) HB8.out HB8.out.size (by simp; omega) ?_
                intro v9 w9 hN9 hB9 hg9 hat9
                have HN9 := Aside0.mk hN9
                have HB9 := Aside0.mk hB9
                clear hN9 hB9 hg9 hat9
                refine hK.out _ _ trivial (fun hHeld => ?_)
                clear hK K
                refine norm_ (a' := ?_) ?_ ?_
                rotate_left
                · show Act.put _ (some 58) _ = _
                  simp only [Act.put, List.setIfInBounds_toArray, List.set_cons_zero, List.set_cons_succ, i64_w, i32_w]
                  rfl
                refine one_ (i := 10) (N := some 62) #[true, true, true, true, true, true, true, true, true, true, true, true, false, false, false, false, false, false] rfl rfl (by kernel_rfl) (by decide) (fun K hK => ?_)
                refine Kd.N_append_rows_step KR (w0 := w) w.heap.size (by rfl) (.tmp 58) (.tmp 61) 22 35 (.slice none 0 0) 24 rfl Try.underlying22 info35 rfl (by decide) (by omega) v9 _ (l0.take t) a0 _ _ (fun _ => True) (fun k => k < w.heap.size) rfl rfl HN9.out (Kd.F_below HF2.out HB9.out) (fun k hk => ⟨trivial, fun e => by have := Kd.N_base HN9.out k e.symm; omega⟩) (fun _ _ => trivial) HB9.out HB9.out.size (by simp; omega) ?_
                intro v10 w10 hN10 hB10 hg10 hat10
                obtain ⟨Av, cv, hv10, hle10, hCv10⟩ := Kd.N_reads hN10
                subst hv10
                have HC10 := Aside0.mk hCv10
                have HL10 := Aside0.mk hle10
                have HB10 := Aside0.mk hB10
                clear hN10 hB10 hg10 hat10 hCv10 hle10
                refine hK.out _ _ trivial (fun hHeld => ?_)
                clear hK K
                refine norm_ (a' := ?_) ?_ ?_
                rotate_left
                · show Act.put _ (some 62) _ = _
                  simp only [Act.put, List.setIfInBounds_toArray, List.set_cons_zero, List.set_cons_succ, i64_w, i32_w]
                  rfl
                refine one_ (i := 12) (N := some 64) #[true, true, true, true, true, true, true, true, true, true, true, true, true, false, false, false, false, false] rfl rfl (by kernel_rfl) (by decide) (fun K hK => ?_)
                refine goes_ Try.func14 (by kernel_rfl) rfl #[.slice Av ([] ++ l0.drop t ++ l1 ++ l0.take t).length cv, .slice a2 l2.length c2] (by rfl) rfl rfl (by simp only [List.map_toArray, List.map_cons, List.map_nil]; rfl) ?_
                with_reducible refine (HCH.out w10 Av cv HL10.out HC10.out HB10.out).mono ?_
                rintro e w11 ⟨rfl, hb11⟩
                refine ⟨_, rfl, ?_⟩
                have HB11 := Aside0.mk (below_then HB10.out HB10.out.size hb11)
                clear hb11
                refine hK.out _ _ trivial (fun hHeld => ?_)
                clear hK K
                refine norm_ (a' := ?_) ?_ ?_
                rotate_left
                · show Act.put _ (some 64) _ = _
                  simp only [Act.put, List.setIfInBounds_toArray, List.set_cons_zero, List.set_cons_succ, i64_w, i32_w]
                  rfl
                refine pure_ (i := 13) (N := some 51) (v := ?_) (a' := ?_) #[true, true, true, true, true, true, true, true, true, true, true, true, true, true, false, false, false, false] rfl rfl (by kernel_rfl) (fun _ _ _ h => h) (Or.inl ⟨by rfl, ?_⟩) ?_ ?_
                rotate_left
                · intro w'
                  go_simp
                  with_reducible rfl
                rotate_left
                · simp only [Act.put, List.setIfInBounds_toArray, List.set_cons_zero, List.set_cons_succ, i64_w, i32_w]
                  rfl
                refine pure_ (i := 14) (N := some 65) (v := ?_) (a' := ?_) #[true, true, true, true, true, true, true, true, true, true, true, true, true, true, true, false, false, false] rfl rfl (by kernel_rfl) (fun _ _ _ h => h) (Or.inl ⟨by rfl, ?_⟩) ?_ ?_
                rotate_left
                · intro w'
                  go_simp
                  with_reducible rfl
                rotate_left
                · simp only [Act.put, List.setIfInBounds_toArray, List.set_cons_zero, List.set_cons_succ, i64_w, i32_w]
                  rfl
                refine pure_ (i := 15) (N := some 66) (v := ?_) (a' := ?_) #[true, true, true, true, true, true, true, true, true, true, true, true, true, true, true, true, false, false] rfl rfl (by kernel_rfl) (fun _ _ _ h => h) (Or.inl ⟨by rfl, ?_⟩) ?_ ?_
                rotate_left
                · intro w'
                  go_simp
                  with_reducible rfl
                rotate_left
                · simp only [Act.put, List.setIfInBounds_toArray, List.set_cons_zero, List.set_cons_succ, i64_w, i32_w]
                  rfl
                refine pure_ (i := 16) (N := some 11) (v := ?_) (a' := ?_) #[true, true, true, true, true, true, true, true, true, true, true, true, true, true, true, true, true, false] rfl rfl (by kernel_rfl) (fun _ _ _ h => h) (Or.inl ⟨by rfl, ?_⟩) ?_ ?_
                rotate_left
                · intro w'
                  go_simp
                  with_reducible rfl
                rotate_left
                · simp only [Act.put, List.setIfInBounds_toArray, List.set_cons_zero, List.set_cons_succ, i64_w, i32_w]
                  rfl
                refine pure_ (i := 17) (N := some 12) (v := ?_) (a' := ?_) #[true, true, true, true, true, true, true, true, true, true, true, true, true, true, true, true, true, true] rfl rfl (by kernel_rfl) (fun _ _ _ h => h) (Or.inl ⟨by rfl, ?_⟩) ?_ ?_
                rotate_left
                · intro w'
                  go_simp
                  with_reducible rfl
                rotate_left
                · simp only [Act.put, List.setIfInBounds_toArray, List.set_cons_zero, List.set_cons_succ, i64_w, i32_w]
                  rfl
                refine done_ (by kernel_rfl) ?_
                go_wp2
                go_ret
                exact ⟨rfl, HB11.out⟩
              · unfold CheckPost at *
                generalize check l0 l2 = z at h6 he
                subst he
                have h6b : (z.1 == 0) = false := by simpa using h6
                have h6c : (z.1 != 0) = true := by simpa using h6
                clear h6 HCK
                go_wp2
                go_ret
                exact ⟨rfl, HB6.out⟩
end Go.Proofs.Ytphloehjcfipfaa.Cl
