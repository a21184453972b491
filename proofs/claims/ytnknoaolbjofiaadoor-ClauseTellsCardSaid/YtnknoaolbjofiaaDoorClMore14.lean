/- The law ClauseMore, once 'awake' is known to answer true: the call, in plain words. -/
import Derived.Test.YtnknoaolbjofiaaDoorB4
import Derived.Test.YtnknoaolbjofiaaDoorClLaw14P
import Derived.Test.YtnknoaolbjofiaaDoorWMore
set_option linter.unusedVariables false
set_option linter.unusedSimpArgs false
namespace Go.Proofs.YtnknoaolbjofiaaDoor.Cl
open Go.RowKit Go.Proofs.YtnknoaolbjofiaaDoorW.PrintWords Go.Proofs.YtnknoaolbjofiaaDoorW.PrintLast Go.Proofs.YtnknoaolbjofiaaDoorW.PrintMore
open Go.Proofs.YtnknoaolbjofiaaDoor.X

theorem info22d : (Tryd.prog.info? 23).map (fun i => (i.zero, i.size, i.bytes)) = some (some (.slice none 0 0), 1, 24) := by kernel_rfl
theorem total_append14 (l p : List (List Int)) : total (l ++ p) = total l + total p := by
  induction l with
  | nil => simp [total]
  | cons c l ih => simp only [total, List.cons_append, List.map_cons, List.foldr_cons] at ih ⊢; omega
theorem rin_calls (A : Option Addr) (c0 : Nat) (l : List Int) (x : Int) (w : World) (hr0 : Kd.C (Kd.int .i64) w A l.length l) (hc0 : l.length ≤ c0) (hl : l.length < 9223372036854775807) :
    Calls Tryd.prog 17 #[.slice A l.length c0, .int .i64 x] w fun e w' => e = .returned (.bool (l.contains x)) ∧ ∃ n, w' = w.drewN n := by
  obtain ⟨k, hk⟩ := (rin_ev hl x).rounds
  exact (backreachref14_In.calls k A c0 l x _ w hr0 hc0 hk).mono fun e w' ⟨he, hd⟩ => ⟨he, hd.out⟩
theorem var14_f {x : Int} (h1 : -1048576 ≤ x) (h2 : x ≤ 1048576) : backreachref14_Var.f x = some (x.natAbs : Int) := by
  unfold backreachref14_Var.f
  by_cases h : x < 0
  · rw [if_pos h]
    have : wrap64 (-x) = -x := by unfold wrap64; omega
    rw [this]
    congr 1
    omega
  · rw [if_neg h]
    congr 1
    omega

set_option maxRecDepth 100000 in
set_option maxHeartbeats 8000000 in
theorem more14_law (a0 : Option Addr) (c0 : Nat) (l0 : List (List Int)) (a1 : Option Addr) (c1 : Nat) (l1 : List Int) (a2 a3 : Int) (w : World)
    (hr0 : KRd.C w a0 l0.length l0) (hc0 : l0.length ≤ c0) (hm0 : l0.length ≤ maxLen) (hs0 : l0.length * 24 ≤ 140737488351232) (hw0 : ∀ c ∈ l0, ∀ x ∈ c, (Lit.int .i64 x).wf = true)
    (hr1 : KId.C w a1 l1.length l1) (hc1 : l1.length ≤ c1) (hm1 : l1.length ≤ maxLen) (hs1 : l1.length * 8 ≤ 140737488351232) (hw1 : ∀ x ∈ l1, (Lit.int .i64 x).wf = true)
    (hw2 : (Lit.int .i64 a2).wf = true) (hw3 : (Lit.int .i64 a3).wf = true)
    (haw : Calls Tryd.prog 10 #[] w fun e w' => e = .returned (.bool true) ∧ Below w.heap.size w w') :
    Calls Tryd.prog 4 #[.slice a0 l0.length c0, .slice a1 l1.length c1, .int .i64 a2, .int .i64 a3] w fun e w' => e = .returned (.bool true) ∧ Below w.heap.size w w' := by
  have hf0 := fun W (hW : Below w.heap.size w W) => few14_calls a0 c0 l0 W (Kd.C_below hr0 hW) hc0 (by omega)
  have HR0 := Aside0.mk hr0
  have HR1 := Aside0.mk hr1
  have HC0 := Aside0.mk hc0
  have HC1 := Aside0.mk hc1
  have HS1 := Aside0.mk hs1
  have HF0 := Lib.hid hf0
  have HAW := Lib.hid haw
  have HFF := Aside0.mk (Kd.C_F (Kd.heap_int .i64) hr1)
  clear hf0 haw hr0 hr1 hc0 hc1 hm0 hm1 hs0 hs1 hw0 hw1 hw2 hw3
  obtain ⟨i0, hi0, _, hsz0, _⟩ := info_parts info22d
  have HI0 := Lib.hid hi0
  have HSZ0 := Lib.hid hsz0
  clear hi0 hsz0
  go_enter Tryd.func4, Tryd.ntmps4
  go_wp2_with fail
  refine HAW.out.mono ?_
  rintro e w1 ⟨rfl, hb1⟩
  have HB1 := Aside0.mk hb1
  clear hb1 HAW
  go_wp2_with fail
  refine (HF0.out _ HB1.out).mono ?_
  cases h0 : small l0 200 20 200 with
  | false =>
    rintro e w' ⟨rfl, nd, rfl⟩
    clear h0
    go_wp2
    go_ret
    exact ⟨rfl, pw_below_drewN HB1.out _⟩
  | true =>
    have hft0 := few14_total h0
    have HT0 := Lib.hid hft0
    clear hft0 h0
    rintro e w' ⟨rfl, nd0, rfl⟩
    have HB2 : Aside0 (Below w.heap.size w ((w1.drewN nd0).alloc (.cells #[.slice a1 l1.length c1] 23))) := ⟨below_alloc (pw_below_drewN HB1.out _) _⟩
    have hlit := few14_calls (some ⟨(w1.drewN nd0).heap.size, 0, none⟩) 1 [l1] ((w1.drewN nd0).alloc (.cells #[.slice a1 l1.length c1] 23)) (lit_row (c := l1) (Kd.C_below HR1.out HB2.out) HC1.out (lit_cell _ _ _)) (Nat.le_refl 1) (by simp)
    have HLIT := Lib.hid hlit
    clear hlit
    go_wp2_with fail
    refine HLIT.out.mono ?_
    cases h1 : small [l1] 200 20 200 with
    | false =>
      rintro e w' ⟨rfl, nd, rfl⟩
      clear h1
      go_wp2
      go_ret
      exact ⟨rfl, pw_below_drewN HB2.out _⟩
    | true =>
      have hft1 := (few14_total h1).1 l1 (by simp)
      have HT1 := Lib.hid hft1
      clear hft1 h1
      rintro e w' ⟨rfl, nd1, rfl⟩
      have HB3 : Aside0 (Below w.heap.size w (((w1.drewN nd0).alloc (.cells #[.slice a1 l1.length c1] 23)).drewN nd1)) := ⟨pw_below_drewN HB2.out _⟩
      generalize ((w1.drewN nd0).alloc (.cells #[.slice a1 l1.length c1] 23)).drewN nd1 = w3 at HB3 ⊢
      clear HLIT HB2
      by_cases h3 : a3 < 0
      · have h3b : decide (a3 < 0) = true := decide_eq_true h3
        clear h3
        go_wp2
        go_ret
        exact ⟨rfl, HB3.out⟩
      have h3b : decide (a3 < 0) = false := decide_eq_false h3
      by_cases h4 : a3 > (l0.length : Int)
      · have h4b : decide (a3 > (l0.length : Int)) = true := decide_eq_true h4
        clear h3 h4
        go_wp2
        go_ret
        exact ⟨rfl, HB3.out⟩
      have h4b : decide (a3 > (l0.length : Int)) = false := decide_eq_false h4
      obtain ⟨t, rfl⟩ : ∃ t : Nat, a3 = (t : Int) := ⟨a3.toNat, by omega⟩
      have ht : t ≤ l0.length := by omega
      have HTT := Aside0.mk ht
      have h4c : decide (l0.length < t) = false := decide_eq_false (by omega)
      clear h3 h4 ht
      have hlit2 := fun W => backreachref14_Literal.calls a2 _ W (lit_f a2)
      cases h5 : litOk a2 with
      | false =>
        rw [h5] at hlit2
        have HLIT := Lib.hid hlit2
        clear hlit2 h5
        go_wp2_with fail
        refine (HLIT.out _).mono ?_
        rintro e w' ⟨rfl, hd⟩
        obtain ⟨nd, rfl⟩ := hd.out
        go_wp2
        go_ret
        exact ⟨rfl, pw_below_drewN HB3.out _⟩
      | true =>
        rw [h5] at hlit2
        have HLIT := Lib.hid hlit2
        have hbd : -1048576 ≤ a2 ∧ a2 ≤ 1048576 := by simp [litOk] at h5; omega
        have hvar := fun W => backreachref14_Var.calls a2 _ W (var14_f hbd.1 hbd.2)
        have HVAR := Lib.hid hvar
        clear hlit2 h5 hvar hbd
        go_wp2_with fail
        refine (HLIT.out _).mono ?_
        rintro e w' ⟨rfl, hd⟩
        obtain ⟨nd5, rfl⟩ := hd.out
        clear hd HLIT
        go_wp2_with fail
        refine (HVAR.out _).mono ?_
        rintro e w' ⟨rfl, hd⟩
        obtain ⟨nd6, rfl⟩ := hd.out
        clear hd HVAR
        have HB4 : Aside0 (Below w.heap.size w ((w3.drewN nd5).drewN nd6)) := ⟨pw_below_drewN (pw_below_drewN HB3.out _) _⟩
        by_cases h6 : a2.natAbs > 200
        · have h6b : decide ((a2.natAbs : Int) > 200) = true := decide_eq_true (by omega)
          have h6c : decide (200 < a2.natAbs) = true := decide_eq_true (by omega)
          clear h6
          go_wp2
          go_ret
          exact ⟨rfl, pw_below_drewN HB3.out _⟩
        have h6b : decide ((a2.natAbs : Int) > 200) = false := decide_eq_false (by omega)
        have h6c : decide (200 < a2.natAbs) = false := decide_eq_false (by omega)
        clear h6
        have hlt : l1.length ≤ 20 := by have := HT1.out; omega
        have hlt0 : total l0 ≤ 4000 := HT0.out.2.2
        have hlt1 : l0.length ≤ 200 := HT0.out.2.1
        have HLT := Aside0.mk (And.intro hlt (And.intro hlt0 hlt1))
        clear hlt hlt0 hlt1
        generalize (w3.drewN nd5).drewN nd6 = w4 at HB4 ⊢
        -- what spreads from 'from'
        have hsa := spreads_calls a0 c0 l0 a1 c1 l1 w4 (Kd.C_below HR0.out HB4.out) HC0.out (Kd.C_below HR1.out HB4.out) HC1.out (by have := HLT.out; omega) (by have := HLT.out; omega)
        have HSA := Lib.hid hsa
        clear hsa
        go_wp2_with fail
        refine HSA.out.mono ?_
        rintro e w5 ⟨v5, rfl, hR5, hB5⟩
        have HR5 := Aside0.mk hR5
        have HB45 := Aside0.mk hB5
        have HB5 := Aside0.mk (below_then HB4.out HB4.out.size hB5)
        clear hR5 hB5 HSA
        obtain ⟨A5, d5, rfl, hl5, hC5⟩ := Kd.R_reads HR5.out
        have HL5 := Aside0.mk hl5
        have HC5 := Aside0.mk hC5
        clear hl5 hC5
        have hagain : (spread l0 l1).2 = true → spread l0 (spread l0 l1).1 = spread l0 l1 := spread_again
        have hsl := spread_len l0 l1
        have hturn : spread ([] ++ l0.drop t ++ l0.take t) l1 = spread l0 l1 := spread_same (fun c => by
          rw [List.nil_append, List.mem_append]
          constructor
          · intro hc
            rw [← List.take_append_drop t l0] at hc
            rcases List.mem_append.1 hc with h | h
            · exact .inr h
            · exact .inl h
          · rintro (h | h)
            · exact List.mem_of_mem_drop h
            · exact List.mem_of_mem_take h) l1
        have hmore : (spread l0 ([] ++ l1 ++ [a2])).2 = true → (spread l0 l1).2 = true ∧ ∀ x ∈ (spread l0 l1).1, x ∈ (spread l0 ([] ++ l1 ++ [a2])).1 := spread_more (fun z hz => by simp [hz])
        have hul := spread_len l0 ([] ++ l1 ++ [a2])
        have HAG := Lib.hid hagain
        have HTU := Lib.hid hturn
        have HMO := Lib.hid hmore
        have HSL := Aside0.mk (And.intro hsl hul)
        clear hagain hturn hmore hsl hul
        obtain ⟨s1, ok, hS⟩ : ∃ s1 ok, spread l0 l1 = (s1, ok) := ⟨_, _, rfl⟩
        rw [hS] at HL5 HC5 HR5 HAG HTU HMO HSL ⊢
        have HS := Lib.hid hS
        clear hS
        simp only [] at HL5 HC5 HR5 HAG HTU HMO HSL ⊢
        have hs1 : s1.length ≤ 4020 := by have := HSL.out.1; have := HLT.out; omega
        have HS1 := Aside0.mk hs1
        have hsb := spreads_calls a0 c0 l0 A5 d5 s1 w5 (Kd.C_below HR0.out HB5.out) HC0.out HC5.out HL5.out (by have := HLT.out; omega) (by have := HLT.out; omega)
        have HSB := Lib.hid hsb
        clear hsb hs1
        go_wp2_with fail
        refine HSB.out.mono ?_
        rintro e w6 ⟨v6, rfl, hR6, hB6⟩
        have HR6 := Aside0.mk hR6
        have HB56 := Aside0.mk hB6
        have HB6 := Aside0.mk (below_then HB5.out HB5.out.size hB6)
        clear hR6 hB6 HSB
        obtain ⟨A6, d6, rfl, hl6, hC6⟩ := Kd.R_reads HR6.out
        have HL6 := Aside0.mk hl6
        have HC6 := Aside0.mk hC6
        clear hl6 hC6
        obtain ⟨s2, ok2, hS2⟩ : ∃ s2 ok2, spread l0 s1 = (s2, ok2) := ⟨_, _, rfl⟩
        rw [hS2] at HL6 HC6 HR6 HAG ⊢
        simp only [] at HL6 HC6 HR6 HAG ⊢
        clear hS2
        -- the clauses in another order
        have hcf := cut_from (P := Tryd.prog) 22 23 .i64 Tryd.underlying22 HI0.out 1 HSZ0.out a0 l0.length c0 (t : Int) (by omega) (by have := HTT.out; omega)
        have hct := cut_to (P := Tryd.prog) 22 23 .i64 Tryd.underlying22 HI0.out a0 l0.length c0 (t : Int) (by omega) (by have := HTT.out; omega) HC0.out
        have hCd := Kd.C_drop (m := t) (c := c0) HR0.out HTT.out HC0.out
        have hCt := Kd.C_take (m := t) HR0.out HTT.out
        rw [Int.toNat_natCast] at hcf hct
        rw [show KRd.sz = 1 from rfl] at hCd
        generalize (if c0 = t then a0 else a0.map (·.add (t * 1))) = Af at hcf hCd
        have hdl : (l0.drop t).length = l0.length - t := List.length_drop
        have htl : (l0.take t).length = t := by rw [List.length_take]; have := HTT.out; omega
        have hF0 := Kd.C_F (Kd.heap_slice 3 (Kd.heap_int .i64)) hCd
        have hF2 := Kd.C_F (Kd.heap_slice 3 (Kd.heap_int .i64)) hCt
        rw [hdl] at hF0
        rw [htl] at hF2
        have hlen : ([] ++ l0.drop t ++ l0.take t).length = l0.length := by simp; have := HTT.out; omega
        have htot : total ([] ++ l0.drop t ++ l0.take t) = total l0 := by
          have e1 := total_append14 (l0.take t) (l0.drop t)
          rw [List.take_append_drop] at e1
          rw [total_append14, List.nil_append]
          omega
        have HF0 := Aside0.mk hF0
        have HF2 := Aside0.mk hF2
        have HLIM := Aside0.mk (And.intro HLT.out.2.2 HTT.out)
        have HTOT := Aside0.mk (And.intro htot hlen)
        have HTL := HTT.out
        clear hCd hCt hF0 hF2 hdl htl htot hlen
        go_wp2_with fail
        refine start_ (n := 10) (S := fun w' => True) (ds := []) #[false, false, false, false, false, false, false, false, false, false] (by kernel_rfl) rfl rfl trivial (fun hHeld => ?_)
        refine pure_ (i := 1) (N := some 63) (v := ?_) (a' := ?_) #[false, true, false, false, false, false, false, false, false, false] rfl rfl (by kernel_rfl) (fun _ _ _ h => h) (Or.inl ⟨by rfl, ?_⟩) ?_ ?_
        rotate_left
        · intro w'
          go_simp
          with_reducible rfl
        rotate_left
        · simp only [Act.put, List.setIfInBounds_toArray, List.set_cons_zero, List.set_cons_succ, i64_w, i32_w]
          rfl
        refine pure_ (i := 2) (N := some 64) (v := ?_) (a' := ?_) #[false, true, true, false, false, false, false, false, false, false] rfl rfl (by kernel_rfl) (fun _ _ _ h => h) (Or.inl ⟨by rfl, ?_⟩) ?_ ?_
        rotate_left
        · intro w'
          go_simp
          with_reducible rfl
        rotate_left
        · simp only [Act.put, List.setIfInBounds_toArray, List.set_cons_zero, List.set_cons_succ, i64_w, i32_w]
          rfl
        refine pure_ (i := 3) (N := some 65) (v := ?_) (a' := ?_) #[false, true, true, true, false, false, false, false, false, false] rfl rfl (by kernel_rfl) (fun _ _ _ h => h) (Or.inl ⟨by rfl, ?_⟩) ?_ ?_
        rotate_left
        · intro w'
          go_simp
          with_reducible rfl
        rotate_left
        · simp only [Act.put, List.setIfInBounds_toArray, List.set_cons_zero, List.set_cons_succ, i64_w, i32_w]
          rfl
        refine pure_ (i := 5) (N := some 67) (v := ?_) (a' := ?_) #[false, true, true, true, false, true, false, false, false, false] rfl rfl (by kernel_rfl) (fun _ _ _ h => h) (Or.inl ⟨by rfl, ?_⟩) ?_ ?_
        rotate_left
        · intro w'
          go_simp
          with_reducible rfl
        rotate_left
        · simp only [Act.put, List.setIfInBounds_toArray, List.set_cons_zero, List.set_cons_succ, i64_w, i32_w]
          rfl
        refine pure_ (i := 6) (N := some 68) (v := ?_) (a' := ?_) #[false, true, true, true, false, true, true, false, false, false] rfl rfl (by kernel_rfl) (fun _ _ _ h => h) (Or.inl ⟨by rfl, ?_⟩) ?_ ?_
        rotate_left
        · intro w'
          go_simp
          with_reducible rfl
        rotate_left
        · simp only [Act.put, List.setIfInBounds_toArray, List.set_cons_zero, List.set_cons_succ, i64_w, i32_w]
          rfl
        refine pure_ (i := 7) (N := some 69) (v := ?_) (a' := ?_) #[false, true, true, true, false, true, true, true, false, false] rfl rfl (by kernel_rfl) (fun _ _ _ h => h) (Or.inl ⟨by rfl, ?_⟩) ?_ ?_
        rotate_left
        · intro w'
          go_simp
          with_reducible rfl
        rotate_left
        · simp only [Act.put, List.setIfInBounds_toArray, List.set_cons_zero, List.set_cons_succ, i64_w, i32_w]
          rfl
        refine one_ (i := 0) (N := some 62) #[true, true, true, true, false, true, true, true, false, false] rfl rfl (by kernel_rfl) (by decide) (fun K hK => ?_)
        refine Kd.N_lit_step KRd (w0 := w6) w6.heap.size 23 (by rfl) (N' := 62) rfl (xs := ([] : List (List Int))) (inner := []) (ok := fun _ => True) (okp := fun _ => True) ?hr0 (Reps.none _ _) (fun _ h => h) trivial ?hb0 ?hs0 (by simp) ?_
        case hr0 => first | (go_simp; done) | (go_simp; rfl)
        case hb0 => exact below_drew (Below.refl _ _)
        case hs0 => exact (below_drew (Below.refl w6.heap.size w6)).size
        intro v7 w7 hN7 hB7 hg7 hat7
        have HN7 := Aside0.mk hN7
        have HB7 := Aside0.mk hB7
        clear hN7 hB7 hg7 hat7
        refine hK.out _ _ trivial (fun hHeld => ?_)
        clear hK K
        refine norm_ (a' := ?_) ?_ ?_
        rotate_left
        · show Act.put _ (some 62) _ = _
          simp only [Act.put, List.setIfInBounds_toArray, List.set_cons_zero, List.set_cons_succ, i64_w, i32_w]
          rfl
        refine one_ (i := 4) (N := some 66) #[true, true, true, true, true, true, true, true, false, false] rfl rfl (by kernel_rfl) (by decide) (fun K hK => ?_)
        refine Kd.N_append_rows_step KRd (w0 := w6) w6.heap.size (by rfl) (.tmp 62) (.tmp 65) 22 23 (.slice none 0 0) 24 rfl Tryd.underlying22 info22d rfl (by decide) (by omega) v7 [] (l0.drop t) Af _ _ (fun _ => True) (fun k => k < w.heap.size) rfl rfl HN7.out (Kd.F_below HF0.out (below_then HB6.out HB6.out.size HB7.out)) (fun k hk => ⟨trivial, fun e => by have h1 := Kd.N_base HN7.out k e.symm; have h2 := HB6.out.size; omega⟩) (fun _ _ => trivial) HB7.out HB7.out.size (by have := HLIM.out; simp; omega) ?_
        intro v8 w8 hN8 hB8 hg8 hat8
        have HN8 := Aside0.mk hN8
        have HB8 := Aside0.mk hB8
        clear hN8 hB8 hg8 hat8
        refine hK.out _ _ trivial (fun hHeld => ?_)
        clear hK K
        refine norm_ (a' := ?_) ?_ ?_
        rotate_left
        · show Act.put _ (some 66) _ = _
          simp only [Act.put, List.setIfInBounds_toArray, List.set_cons_zero, List.set_cons_succ, i64_w, i32_w]
          rfl
        refine one_ (i := 8) (N := some 70) #[true, true, true, true, true, true, true, true, true, false] rfl rfl (by kernel_rfl) (by decide) (fun K hK => ?_)
        refine Kd.N_append_rows_step KRd (w0 := w6) w6.heap.size (by rfl) (.tmp 66) (.tmp 69) 22 23 (.slice none 0 0) 24 rfl Tryd.underlying22 info22d rfl (by decide) (by omega) v8 _ (l0.take t) a0 _ _ (fun _ => True) (fun k => k < w.heap.size) rfl rfl HN8.out (Kd.F_below HF2.out (below_then HB6.out HB6.out.size HB8.out)) (fun k hk => ⟨trivial, fun e => by have h1 := Kd.N_base HN8.out k e.symm; have h2 := HB6.out.size; omega⟩) (fun _ _ => trivial) HB8.out HB8.out.size (by have := HLIM.out; simp; omega) ?_
        intro v10 w10 hN10 hB10 hg10 hat10
        obtain ⟨Av, cv, hv10, hle10, hCv10⟩ := Kd.N_reads hN10
        subst hv10
        have HC10 := Aside0.mk hCv10
        have HL10 := Aside0.mk hle10
        have HB610 := Aside0.mk hB10
        have HB10 := Aside0.mk (below_then HB6.out HB6.out.size hB10)
        clear hN10 hB10 hg10 hat10 hCv10 hle10
        refine hK.out _ _ trivial (fun hHeld => ?_)
        clear hK K
        refine norm_ (a' := ?_) ?_ ?_
        rotate_left
        · show Act.put _ (some 70) _ = _
          simp only [Act.put, List.setIfInBounds_toArray, List.set_cons_zero, List.set_cons_succ, i64_w, i32_w]
          rfl
        refine pure_ (i := 9) (N := some 13) (v := ?_) (a' := ?_) #[true, true, true, true, true, true, true, true, true, true] rfl rfl (by kernel_rfl) (fun _ _ _ h => h) (Or.inl ⟨by rfl, ?_⟩) ?_ ?_
        rotate_left
        · intro w'
          go_simp
          with_reducible rfl
        rotate_left
        · simp only [Act.put, List.setIfInBounds_toArray, List.set_cons_zero, List.set_cons_succ, i64_w, i32_w]
          rfl
        refine done_ (by kernel_rfl) ?_
        go_wp2_with fail
        have hsc := spreads_calls Av cv ([] ++ l0.drop t ++ l0.take t) a1 c1 l1 w10 HC10.out HL10.out (Kd.C_below HR1.out HB10.out) HC1.out (by rw [HTOT.out.1]; have := HLT.out; omega) (by rw [HTOT.out.2]; have := HLT.out; omega)
        rw [HTU.out, HTOT.out.2] at hsc
        have HSC := Lib.hid hsc
        clear hsc
        refine HSC.out.mono ?_
        rintro e w11 ⟨v11, rfl, hR11, hB11⟩
        have HB511 := Aside0.mk (below_then HB56.out HB56.out.size (below_then HB610.out HB610.out.size hB11))
        have HB611 := Aside0.mk (below_then HB610.out HB610.out.size hB11)
        have HB11 := Aside0.mk (below_then HB10.out HB10.out.size hB11)
        obtain ⟨A11, d11, rfl, hl11, hC11⟩ := Kd.R_reads hR11
        have hi1 := ints_calls A6 d6 s2 A5 d5 s1 w11 (Kd.C_below HC6.out HB611.out) HL6.out (Kd.C_below HC5.out HB511.out) HL5.out HC6.out.2.1
        have hi2 := fun W (hW : Below w11.heap.size w11 W) => ints_calls A5 d5 s1 A11 d11 s1 W (Kd.C_below (Kd.C_below HC5.out HB511.out) hW) HL5.out (Kd.C_below hC11 hW) hl11 HC5.out.2.1
        rw [decide_eq_true (rfl : s1 = s1)] at hi2
        have HI1 := Lib.hid hi1
        have HI2 := Lib.hid hi2
        have HC5b := Aside0.mk (Kd.C_below HC5.out HB511.out)
        clear hR11 hB11 HSC hl11 hC11 hi1 hi2 HC10 HL10 HB610 HF0 HF2
        cases ok with
        | false =>
          go_wp2_with fail
          refine (HI2.out _ (Below.refl _ _)).mono ?_
          rintro e w' ⟨rfl, nd12, rfl⟩
          have HC5c := Aside0.mk (Kd.C_below HC5b.out (pw_below_drewN (Below.refl _ _) nd12))
          have HB12 : Aside0 (Below w.heap.size w (w11.drewN nd12)) := ⟨pw_below_drewN HB11.out _⟩
          generalize w11.drewN nd12 = w12 at HC5c HB12 ⊢
          clear HC5b HI2 HB511 HB611 HB56 HB45 HC5 HC6 HR5 HR6 HI1
          go_wp2_with (first
            | ((with_reducible refine gate_dst (N := 101) rfl ?_); refine Kd.N_lit KId w12.heap.size 3 ?hg (w0 := w12) (N' := 101) ?hd (xs := ([] : List Int)) (inner := []) (ok := fun k => w12.heap.size ≤ k) (okp := fun k => w12.heap.size ≤ k) ?hr (Reps.none _ _) (fun _ h => h) (Nat.le_refl _) (Below.refl _ _) (Nat.le_refl _) (by simp) ?_; (case hd => rfl); (case hg => rfl); (case hr => first | (go_simp; done) | (go_simp; rfl)); intro v13 w13 hN13 hB13 hg13 hat13; have HN13 := Aside0.mk hN13; have HB13 := Aside0.mk hB13; clear hN13 hB13 hg13 hat13)
            | (at_builtin; refine Kd.N_append_rows KId (w0 := w12) w12.heap.size rfl _ _ 23 3 (.int .i64 0) 8 rfl Tryd.underlying23 info3d rfl (by decide) (by omega) v13 [] l1 a1 l1.length c1 (fun k => True) (fun k => k < w.heap.size) rfl rfl (Kd.N_mono HN13.out (fun _ _ => trivial)) (Kd.F_below HFF.out (below_then HB12.out HB12.out.size HB13.out)) (fun k hk => ⟨trivial, fun e => by have h1 := Kd.N_base HN13.out k e.symm; have h2 := HB12.out.size; omega⟩) (fun _ _ => trivial) HB13.out HB13.out.size (by have := HLT.out.1; simp; omega) ?_; intro v14 w14 hN14 hB14 hg14 hat14; have HN14 := Aside0.mk hN14; have HB14 := Aside0.mk hB14; clear hN14 hB14 hg14 hat14)
            | (at_builtin; refine Kd.N_append KId (w0 := w12) w12.heap.size rfl _ _ 23 3 (.int .i64 0) 8 rfl Tryd.underlying23 info3d rfl (by decide) (by omega) v14 ([] ++ l1) a2 [.int .i64 a2] (fun k => True) (fun _ => False) rfl rfl (fun _ _ => rfl) (fun _ hk => hk.elim) (fun _ _ => trivial) HN14.out HB14.out HB14.out.size (by have := HLT.out.1; simp; omega) ?_; intro v15 w15 hN15 hB15 hg15 hat15; obtain ⟨Av15, cv15, hv15, hl15, hC15⟩ := Kd.N_reads hN15; subst hv15; have HC15 := Aside0.mk hC15; have HL15 := Aside0.mk hl15; have HB15 := Aside0.mk hB15; clear hN15 hB15 hg15 hat15 hC15 hl15)
            | fail)
          have hsd := spreads_calls a0 c0 l0 Av15 cv15 ([] ++ l1 ++ [a2]) w15 (Kd.C_below HR0.out (below_then HB12.out HB12.out.size HB15.out)) HC0.out HC15.out HL15.out (by have := HLT.out; simp; omega) (by have := HLT.out; omega)
          have hul : (spread l0 ([] ++ l1 ++ [a2])).1.length ≤ 5000 := by have h1 := HSL.out.2; have h2 := HLT.out; have h3 : ([] ++ l1 ++ [a2]).length = l1.length + 1 := (by simp); omega
          have HUL := Aside0.mk hul
          clear hul
          have hlen15 : ([] ++ l1 ++ [a2]).length = l1.length + 1 := by simp
          rw [hlen15] at hsd
          have HSD := Lib.hid hsd
          clear hsd hlen15
          refine HSD.out.mono ?_
          rintro e w16 ⟨v16, rfl, hR16, hB16⟩
          obtain ⟨A16, d16, rfl, hl16, hC16⟩ := Kd.R_reads hR16
          have HC5d := Aside0.mk (Kd.C_below HC5c.out (below_then HB15.out HB15.out.size hB16))
          have HB16 := Aside0.mk (below_then HB12.out HB12.out.size (below_then HB15.out HB15.out.size hB16))
          have HC16 := Aside0.mk hC16
          have HL16 := Aside0.mk hl16
          clear hR16 hB16 hl16 hC16 HSD HC5c
          obtain ⟨u1, still, hU⟩ : ∃ u1 still, spread l0 ([] ++ l1 ++ [a2]) = (u1, still) := ⟨_, _, rfl⟩
          have hmo := HMO.out
          have hul := HUL.out
          rw [hU] at hmo hul HC16 HL16 ⊢
          simp only [] at hmo hul HC16 HL16 ⊢
          have HMO2 := Lib.hid hmo
          have HUL2 := Aside0.mk hul
          clear hmo hul hU HMO HUL
          cases still with
          | false =>
            go_wp2
            go_loopw [18] (fun v18 wr => v18 = .int .i64 0 ∧ Aside0 (Below w.heap.size w wr)) (fun _ _ => 0)
            case atStart => exact ⟨rfl, HB16⟩
            case round =>
              obtain ⟨rfl, hb⟩ := hrel
              go_wp2
              go_ret
              exact ⟨rfl, hb.out⟩
          | true =>
            have hbad := (HMO2.out rfl).1
            cases hbad
        | true =>
          obtain ⟨rfl, rfl⟩ := Prod.mk.inj (HAG.out rfl)
          have hi3 := HI1.out
          rw [decide_eq_true rfl] at hi3
          have HI3 := Lib.hid hi3
          clear hi3
          go_wp2_with fail
          refine HI3.out.mono ?_
          rintro e w' ⟨rfl, nd10, rfl⟩
          go_wp2_with fail
          refine (HI2.out _ (pw_below_drewN (Below.refl _ _) _)).mono ?_
          rintro e w' ⟨rfl, nd11, rfl⟩
          obtain ⟨nd12, hnd12⟩ : ∃ nd12, nd12 = nd10 + nd11 := ⟨_, rfl⟩
          rw [World.drewN_drewN, ← hnd12]
          clear hnd12
          have HC5c := Aside0.mk (Kd.C_below HC5b.out (pw_below_drewN (Below.refl _ _) nd12))
          have HB12 : Aside0 (Below w.heap.size w (w11.drewN nd12)) := ⟨pw_below_drewN HB11.out _⟩
          generalize w11.drewN nd12 = w12 at HC5c HB12 ⊢
          clear HC5b HI2 HB511 HB611 HB56 HB45 HC5 HC6 HR5 HR6 HI1
          go_wp2_with (first
            | ((with_reducible refine gate_dst (N := 101) rfl ?_); refine Kd.N_lit KId w12.heap.size 3 ?hg (w0 := w12) (N' := 101) ?hd (xs := ([] : List Int)) (inner := []) (ok := fun k => w12.heap.size ≤ k) (okp := fun k => w12.heap.size ≤ k) ?hr (Reps.none _ _) (fun _ h => h) (Nat.le_refl _) (Below.refl _ _) (Nat.le_refl _) (by simp) ?_; (case hd => rfl); (case hg => rfl); (case hr => first | (go_simp; done) | (go_simp; rfl)); intro v13 w13 hN13 hB13 hg13 hat13; have HN13 := Aside0.mk hN13; have HB13 := Aside0.mk hB13; clear hN13 hB13 hg13 hat13)
            | (at_builtin; refine Kd.N_append_rows KId (w0 := w12) w12.heap.size rfl _ _ 23 3 (.int .i64 0) 8 rfl Tryd.underlying23 info3d rfl (by decide) (by omega) v13 [] l1 a1 l1.length c1 (fun k => True) (fun k => k < w.heap.size) rfl rfl (Kd.N_mono HN13.out (fun _ _ => trivial)) (Kd.F_below HFF.out (below_then HB12.out HB12.out.size HB13.out)) (fun k hk => ⟨trivial, fun e => by have h1 := Kd.N_base HN13.out k e.symm; have h2 := HB12.out.size; omega⟩) (fun _ _ => trivial) HB13.out HB13.out.size (by have := HLT.out.1; simp; omega) ?_; intro v14 w14 hN14 hB14 hg14 hat14; have HN14 := Aside0.mk hN14; have HB14 := Aside0.mk hB14; clear hN14 hB14 hg14 hat14)
            | (at_builtin; refine Kd.N_append KId (w0 := w12) w12.heap.size rfl _ _ 23 3 (.int .i64 0) 8 rfl Tryd.underlying23 info3d rfl (by decide) (by omega) v14 ([] ++ l1) a2 [.int .i64 a2] (fun k => True) (fun _ => False) rfl rfl (fun _ _ => rfl) (fun _ hk => hk.elim) (fun _ _ => trivial) HN14.out HB14.out HB14.out.size (by have := HLT.out.1; simp; omega) ?_; intro v15 w15 hN15 hB15 hg15 hat15; obtain ⟨Av15, cv15, hv15, hl15, hC15⟩ := Kd.N_reads hN15; subst hv15; have HC15 := Aside0.mk hC15; have HL15 := Aside0.mk hl15; have HB15 := Aside0.mk hB15; clear hN15 hB15 hg15 hat15 hC15 hl15)
            | fail)
          have hsd := spreads_calls a0 c0 l0 Av15 cv15 ([] ++ l1 ++ [a2]) w15 (Kd.C_below HR0.out (below_then HB12.out HB12.out.size HB15.out)) HC0.out HC15.out HL15.out (by have := HLT.out; simp; omega) (by have := HLT.out; omega)
          have hul : (spread l0 ([] ++ l1 ++ [a2])).1.length ≤ 5000 := by have h1 := HSL.out.2; have h2 := HLT.out; have h3 : ([] ++ l1 ++ [a2]).length = l1.length + 1 := (by simp); omega
          have HUL := Aside0.mk hul
          clear hul
          have hlen15 : ([] ++ l1 ++ [a2]).length = l1.length + 1 := by simp
          rw [hlen15] at hsd
          have HSD := Lib.hid hsd
          clear hsd hlen15
          refine HSD.out.mono ?_
          rintro e w16 ⟨v16, rfl, hR16, hB16⟩
          obtain ⟨A16, d16, rfl, hl16, hC16⟩ := Kd.R_reads hR16
          have HC5d := Aside0.mk (Kd.C_below HC5c.out (below_then HB15.out HB15.out.size hB16))
          have HB16 := Aside0.mk (below_then HB12.out HB12.out.size (below_then HB15.out HB15.out.size hB16))
          have HC16 := Aside0.mk hC16
          have HL16 := Aside0.mk hl16
          clear hR16 hB16 hl16 hC16 HSD HC5c
          obtain ⟨u1, still, hU⟩ : ∃ u1 still, spread l0 ([] ++ l1 ++ [a2]) = (u1, still) := ⟨_, _, rfl⟩
          have hmo := HMO.out
          have hul := HUL.out
          rw [hU] at hmo hul HC16 HL16 ⊢
          simp only [] at hmo hul HC16 HL16 ⊢
          have HMO2 := Lib.hid hmo
          have HUL2 := Aside0.mk hul
          clear hmo hul hU HMO HUL
          cases still with
          | false =>
            go_wp2
            go_loopw [18] (fun v18 wr => v18 = .int .i64 0 ∧ Aside0 (Below w.heap.size w wr)) (fun _ _ => 0)
            case atStart => exact ⟨rfl, HB16⟩
            case round =>
              obtain ⟨rfl, hb⟩ := hrel
              go_wp2
              go_ret
              exact ⟨rfl, hb.out⟩
          | true =>
            have hall := (HMO2.out rfl).2
            have HALL := Lib.hid hall
            clear hall HMO2
            go_wp2
            go_loopw [18] (fun v18 wr => ∃ i : Nat, v18 = .int .i64 i ∧ Aside0 (i ≤ s2.length) ∧ Aside0 (Below w16.heap.size w16 wr)) (fun i _ => s2.length - (intOf i).toNat)
            case atStart => exact ⟨0, rfl, ⟨Nat.zero_le _⟩, ⟨Below.refl _ _⟩⟩
            case round =>
              obtain ⟨i, rfl, hi, hb⟩ := hrel
              have hi := hi.out
              have hs1 := HS1.out
              by_cases hlt : i < s2.length
              · obtain ⟨ad2, e2, hcell2⟩ := Kd.at_int (Kd.C_below HC5d.out hb.out) (i : Int) (by omega) (by omega)
                cases e2
                rw [rd_at hlt, Int.toNat_natCast] at hcell2
                have hin := rin_calls A16 d16 u1 s2[i] wr (Kd.C_below HC16.out hb.out) HL16.out (by have := HUL2.out; omega)
                rw [show u1.contains s2[i] = true from by simpa using HALL.out _ (List.getElem_mem hlt)] at hin
                have HIN := Lib.hid hin
                clear hin
                generalize s2[i] = x at hcell2 HIN
                go_wp2_with fail
                refine HIN.out.mono ?_
                rintro e w' ⟨rfl, nd, rfl⟩
                go_wp2
                go_roundw
                case rel => exact ⟨i + 1, by go_num, ⟨hlt⟩, ⟨pw_below_drewN hb.out _⟩⟩
                case measure => simp [intOf]; omega
              · have ei : i = s2.length := by omega
                subst ei
                go_wp2
                go_ret
                exact ⟨rfl, below_then HB16.out HB16.out.size hb.out⟩
end Go.Proofs.YtnknoaolbjofiaaDoor.Cl
