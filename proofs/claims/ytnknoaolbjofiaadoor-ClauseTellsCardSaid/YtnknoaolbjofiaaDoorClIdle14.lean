/- The law ClauseIdle: a clause that has a literal and its opposite, put in anywhere, changes nothing: the call, in plain words. -/
import Derived.Test.YtnknoaolbjofiaaDoorClMore14
import Derived.Test.YtnknoaolbjofiaaDoorB4
set_option linter.unusedVariables false
set_option linter.unusedSimpArgs false
namespace Go.Proofs.YtnknoaolbjofiaaDoor.Cl
open Go.RowKit Go.Proofs.YtnknoaolbjofiaaDoorW.PrintWords Go.Proofs.YtnknoaolbjofiaaDoorW.PrintLast Go.Proofs.YtnknoaolbjofiaaDoorW.PrintMore
open Go.Proofs.YtnknoaolbjofiaaDoor.X

theorem own_ne_lit {v : Value} {n m : Nat} (h : ∃ b, v.ownBlock = some b ∧ n ≤ b) (h2 : m < n) : v.ownBlock ≠ some m := by
  obtain ⟨b, hb, hle⟩ := h
  rw [hb]
  intro e
  have := Option.some.inj e
  omega
theorem own_ne_app {v v' : Value} {n m : Nat} (h : v'.ownBlock = v.ownBlock ∨ ∃ b, v'.ownBlock = some b ∧ n ≤ b) (h1 : v.ownBlock ≠ some m) (h2 : m < n) : v'.ownBlock ≠ some m := by
  rcases h with h | h
  · rw [h]; exact h1
  · exact own_ne_lit h h2
theorem lit_cell0 (w : World) (v u : Value) (t : TypeId) : (w.alloc (.cells #[v, u] t)).cell? ⟨w.heap.size, 0, none⟩ = some v := by
  have h : (w.alloc (.cells #[v, u] t)).heap[w.heap.size]? = some (.cells #[v, u] t (0, 0)) := by
    show (w.heap.push _)[w.heap.size]? = _
    simp
  unfold World.cell?
  rw [h]
  rfl
theorem lit_cell1 (w : World) (v u : Value) (t : TypeId) : (w.alloc (.cells #[v, u] t)).cell? ⟨w.heap.size, 1, none⟩ = some u := by
  have h : (w.alloc (.cells #[v, u] t)).heap[w.heap.size]? = some (.cells #[v, u] t (0, 0)) := by
    show (w.heap.push _)[w.heap.size]? = _
    simp
  unfold World.cell?
  rw [h]
  rfl
/-- Does one of the first literals stand there with its opposite? -/
def idleN (c : List Int) (i : Nat) : Bool := (c.take i).any (fun x => c.contains (-x))
theorem idleN_zero (c : List Int) : idleN c 0 = false := rfl
theorem idleN_succ {c : List Int} {i : Nat} (h : i < c.length) : idleN c (i + 1) = (idleN c i || c.contains (-c[i])) := by
  unfold idleN
  rw [List.take_succ_eq_append_getElem h, List.any_append]
  simp
theorem idleN_all {c : List Int} (h : idleN c c.length = true) : ∃ x ∈ c, -x ∈ c := by
  unfold idleN at h
  rw [List.take_length, List.any_eq_true] at h
  obtain ⟨x, hx, hc⟩ := h
  exact ⟨x, hx, by simpa using hc⟩

set_option maxRecDepth 100000 in
set_option maxHeartbeats 8000000 in
theorem idle14_law (a0 : Option Addr) (c0 : Nat) (l0 : List (List Int)) (a1 : Option Addr) (c1 : Nat) (l1 : List Int) (a2 : Option Addr) (c2 : Nat) (l2 : List Int) (a3 : Int) (w : World)
    (hr0 : KRd.C w a0 l0.length l0) (hc0 : l0.length ≤ c0) (hm0 : l0.length ≤ maxLen) (hs0 : l0.length * 24 ≤ 140737488351232) (hw0 : ∀ c ∈ l0, ∀ x ∈ c, (Lit.int .i64 x).wf = true)
    (hr1 : KId.C w a1 l1.length l1) (hc1 : l1.length ≤ c1) (hm1 : l1.length ≤ maxLen) (hs1 : l1.length * 8 ≤ 140737488351232) (hw1 : ∀ x ∈ l1, (Lit.int .i64 x).wf = true)
    (hr2 : KId.C w a2 l2.length l2) (hc2 : l2.length ≤ c2) (hm2 : l2.length ≤ maxLen) (hs2 : l2.length * 8 ≤ 140737488351232) (hw2 : ∀ x ∈ l2, (Lit.int .i64 x).wf = true)
    (hw3 : (Lit.int .i64 a3).wf = true) (hT : Tab w) :
    Calls Tryd.prog 5 #[.slice a0 l0.length c0, .slice a1 l1.length c1, .slice a2 l2.length c2, .int .i64 a3] w fun e w' => e = .returned (.bool true) ∧ Below w.heap.size w w' := by
  have haw := awake14_calls w hT
  have hf0 := fun W (hW : Below w.heap.size w W) => few14_calls a0 c0 l0 W (Kd.C_below hr0 hW) hc0 (by omega)
  have hf12 := fun W b (hW : Below w.heap.size w W) (h0 : W.cell? ⟨b, 0, none⟩ = some (.slice a1 l1.length c1)) (h1 : W.cell? ⟨b, 1, none⟩ = some (.slice a2 l2.length c2)) => few14_calls (some ⟨b, 0, none⟩) 2 [l1, l2] W (kr_two h0 hc1 (Kd.C_below hr1 hW) h1 hc2 (Kd.C_below hr2 hW)) (Nat.le_refl 2) (by simp)
  have hrt := fun W b (hW : Below w.heap.size w W) (h0 : W.cell? ⟨b, 0, none⟩ = some (.slice a2 l2.length c2)) => right_calls (some ⟨b, 0, none⟩) 1 [l2] W (lit_row (Kd.C_below hr2 hW) hc2 h0) (Nat.le_refl 1)
  have HR0 := Aside0.mk hr0
  have HR1 := Aside0.mk hr1
  have HR2 := Aside0.mk hr2
  have HC0 := Aside0.mk hc0
  have HC1 := Aside0.mk hc1
  have HC2 := Aside0.mk hc2
  have HF0 := Lib.hid hf0
  have HF12 := Lib.hid hf12
  have HRT := Lib.hid hrt
  have HAW := Lib.hid haw
  have HFF2 := Aside0.mk (Kd.C_F (Kd.heap_int .i64) hr2)
  clear hf0 hf12 hrt haw hr0 hr1 hr2 hc0 hc1 hc2 hm0 hm1 hm2 hs0 hs1 hs2 hw0 hw1 hw2 hw3 hT
  obtain ⟨i0, hi0, _, hsz0, _⟩ := info_parts info22d
  have HI0 := Lib.hid hi0
  have HSZ0 := Lib.hid hsz0
  clear hi0 hsz0
  go_enter Tryd.func5, Tryd.ntmps5
  go_wp2_with fail
  refine HAW.out.mono ?_
  rintro e w1 ⟨rfl, hb1⟩
  have HB1 := Aside0.mk hb1
  clear hb1 HAW
  go_wp2_with fail
  refine (HF0.out _ HB1.out).mono ?_
  cases h0 : small l0 200 20 200 with
  | false =>
    rintro e w' ⟨rfl, nd, rfl⟩
    clear h0
    go_wp2
    go_ret
    exact ⟨rfl, pw_below_drewN HB1.out _⟩
  | true =>
    have hft0 := few14_total h0
    have HT0 := Lib.hid hft0
    clear hft0 h0
    rintro e w' ⟨rfl, nd0, rfl⟩
    have HB2 : Aside0 (Below w.heap.size w ((w1.drewN nd0).alloc (.cells #[.slice a1 l1.length c1, .slice a2 l2.length c2] 23))) := ⟨below_alloc (pw_below_drewN HB1.out _) _⟩
    have hlit := HF12.out _ (w1.drewN nd0).heap.size HB2.out (lit_cell0 _ _ _ _) (lit_cell1 _ _ _ _)
    have HLIT := Lib.hid hlit
    clear hlit HF12
    go_wp2_with fail
    refine HLIT.out.mono ?_
    cases h1 : small [l1, l2] 200 20 200 with
    | false =>
      rintro e w' ⟨rfl, nd, rfl⟩
      clear h1
      go_wp2
      go_ret
      exact ⟨rfl, pw_below_drewN HB2.out _⟩
    | true =>
      have hft1 := (few14_total h1).1
      have hlt1 : l1.length ≤ 20 ∧ l2.length ≤ 20 := ⟨hft1 l1 (by simp), hft1 l2 (by simp)⟩
      have hlt : l1.length ≤ 20 ∧ l2.length ≤ 20 ∧ total l0 ≤ 4000 ∧ l0.length ≤ 200 := ⟨hlt1.1, hlt1.2, HT0.out.2.2, HT0.out.2.1⟩
      have HLT := Aside0.mk hlt
      clear hft1 h1 hlt1 hlt
      rintro e w' ⟨rfl, nd1, rfl⟩
      have HB3 : Aside0 (Below w.heap.size w (((w1.drewN nd0).alloc (.cells #[.slice a1 l1.length c1, .slice a2 l2.length c2] 23)).drewN nd1)) := ⟨pw_below_drewN HB2.out _⟩
      generalize ((w1.drewN nd0).alloc (.cells #[.slice a1 l1.length c1, .slice a2 l2.length c2] 23)).drewN nd1 = w3 at HB3 ⊢
      clear HLIT HB2
      by_cases h3 : a3 < 0
      · have h3b : decide (a3 < 0) = true := decide_eq_true h3
        clear h3
        go_wp2
        go_ret
        exact ⟨rfl, HB3.out⟩
      have h3b : decide (a3 < 0) = false := decide_eq_false h3
      by_cases h4 : a3 > (l0.length : Int)
      · have h4b : decide (a3 > (l0.length : Int)) = true := decide_eq_true h4
        clear h3 h4
        go_wp2
        go_ret
        exact ⟨rfl, HB3.out⟩
      have h4b : decide (a3 > (l0.length : Int)) = false := decide_eq_false h4
      obtain ⟨t, rfl⟩ : ∃ t : Nat, a3 = (t : Int) := ⟨a3.toNat, by omega⟩
      have ht : t ≤ l0.length := by omega
      have HTT := Aside0.mk ht
      have h4c : decide (l0.length < t) = false := decide_eq_false (by omega)
      clear h3 h4 ht
      have HB4 : Aside0 (Below w.heap.size w (w3.alloc (.cells #[.slice a2 l2.length c2] 23))) := ⟨below_alloc HB3.out _⟩
      have hq := HRT.out _ w3.heap.size HB4.out (lit_cell _ _ _)
      cases h5 : lRight [l2] with
      | false =>
        rw [h5] at hq
        have HQ := Lib.hid hq
        clear hq h5
        go_wp2_with fail
        refine HQ.out.mono ?_
        rintro e w' ⟨rfl, nd, rfl⟩
        go_wp2
        go_ret
        exact ⟨rfl, pw_below_drewN HB4.out _⟩
      | true =>
        rw [h5] at hq
        have HQ := Lib.hid hq
        have hc5 : cRight l2 = true := cRight_of h5 (by simp)
        have HC5 := Lib.hid hc5
        clear hq h5 hc5
        go_wp2_with fail
        refine HQ.out.mono ?_
        rintro e w' ⟨rfl, nd4, rfl⟩
        have HB5 : Aside0 (Below w.heap.size w ((w3.alloc (.cells #[.slice a2 l2.length c2] 23)).drewN nd4)) := ⟨pw_below_drewN HB4.out _⟩
        generalize (w3.alloc (.cells #[.slice a2 l2.length c2] 23)).drewN nd4 = w5 at HB5 ⊢
        clear HB4 HQ HRT
        go_wp2
        go_loopw [9, 10] (fun v9 v10 wr => ∃ i : Nat, v10 = .int .i64 i ∧ v9 = .bool (idleN l2 i) ∧ Aside0 (i ≤ l2.length) ∧ Aside0 (Below w.heap.size w wr)) (fun _ i _ => l2.length - (intOf i).toNat)
        case atStart => exact ⟨0, rfl, rfl, ⟨Nat.zero_le _⟩, HB5⟩
        case round =>
          clear HB5
          obtain ⟨i, rfl, rfl, hi, hb⟩ := hrel
          have hi := hi.out
          have hl2 := HLT.out.2.1
          by_cases hlt : i < l2.length
          · obtain ⟨ad2, e2, hcell2⟩ := Kd.at_int (Kd.C_below HR2.out hb.out) (i : Int) (by omega) (by omega)
            have hin := rin_calls a2 c2 l2 (-l2[i]) wr (Kd.C_below HR2.out hb.out) HC2.out (by omega)
            cases e2
            rw [rd_at hlt, Int.toNat_natCast] at hcell2
            have hx := lit_bnd HC5.out (List.getElem_mem hlt)
            have hnx := idleN_succ hlt
            have hneg : IntKind.i64.wrap (-l2[i]) = -l2[i] := IntWalk.i64_in _ (by omega)
            have HIN := Lib.hid hin
            have HNX := Lib.hid hnx
            clear hin hnx hx
            generalize l2[i] = x at hcell2 HIN HNX hneg
            cases hid : idleN l2 i with
            | true =>
              have hn := HNX.out
              rw [hid, Bool.true_or] at hn
              have HN := Lib.hid hn
              clear hn hid
              go_wp2
              go_roundw
              case rel => exact ⟨i + 1, by go_num, by rw [HN.out], ⟨hlt⟩, hb⟩
              case measure => simp [intOf]; omega
            | false =>
              have hn := HNX.out
              rw [hid, Bool.false_or] at hn
              have HN := Lib.hid hn
              clear hn hid
              go_wp2_with fail
              refine HIN.out.mono ?_
              rintro e w' ⟨rfl, nd, rfl⟩
              go_wp2
              go_roundw
              case rel => exact ⟨i + 1, by go_num, by rw [HN.out]; simp, ⟨hlt⟩, ⟨pw_below_drewN hb.out _⟩⟩
              case measure => simp [intOf]; omega
          · have ei : i = l2.length := by omega
            subst ei
            cases hid : idleN l2 l2.length with
            | false =>
              clear hid
              go_wp2
              go_ret
              exact ⟨rfl, hb.out⟩
            | true =>
              obtain ⟨x, hx, hnx⟩ := idleN_all hid
              have hsame : spread ([] ++ l0.take t ++ [l2] ++ l0.drop t) l1 = spread l0 l1 := spread_idle HC5.out hx hnx (fun d => by
                rw [List.nil_append, List.mem_append, List.mem_append, List.mem_singleton]
                constructor
                · rintro ((h | h) | h)
                  · exact .inl (List.mem_of_mem_take h)
                  · exact .inr h
                  · exact .inl (List.mem_of_mem_drop h)
                · rintro (h | h)
                  · rw [← List.take_append_drop t l0] at h
                    rcases List.mem_append.1 h with h | h
                    · exact .inl (.inl h)
                    · exact .inr h
                  · exact .inl (.inr h)) l1
              have HSAME := Lib.hid hsame
              clear hsame hid hx hnx
              have hsa := spreads_calls a0 c0 l0 a1 c1 l1 wr (Kd.C_below HR0.out hb.out) HC0.out (Kd.C_below HR1.out hb.out) HC1.out (by have := HLT.out; omega) (by have := HLT.out; omega)
              have HSA := Lib.hid hsa
              clear hsa
              go_wp2_with fail
              refine HSA.out.mono ?_
              rintro e w6 ⟨v6, rfl, hR6, hB6⟩
              have HB6 := Aside0.mk (below_then hb.out hb.out.size hB6)
              obtain ⟨A6, d6, rfl, hl6, hC6⟩ := Kd.R_reads hR6
              have HL6 := Aside0.mk hl6
              have HC6 := Aside0.mk hC6
              clear hR6 hB6 HSA hb hl6 hC6
              have hcf := cut_from (P := Tryd.prog) 22 23 .i64 Tryd.underlying22 HI0.out 1 HSZ0.out a0 l0.length c0 (t : Int) (by omega) (by have := HTT.out; omega)
              have hct := cut_to (P := Tryd.prog) 22 23 .i64 Tryd.underlying22 HI0.out a0 l0.length c0 (t : Int) (by omega) (by have := HTT.out; omega) HC0.out
              have hCd := Kd.C_drop (m := t) (c := c0) HR0.out HTT.out HC0.out
              have hCt := Kd.C_take (m := t) HR0.out HTT.out
              rw [Int.toNat_natCast] at hcf hct
              rw [show KRd.sz = 1 from rfl] at hCd
              generalize (if c0 = t then a0 else a0.map (·.add (t * 1))) = Af at hcf hCd
              have hdl : (l0.drop t).length = l0.length - t := List.length_drop
              have htl : (l0.take t).length = t := by rw [List.length_take]; have := HTT.out; omega
              have hF0 := Kd.C_F (Kd.heap_slice 3 (Kd.heap_int .i64)) hCd
              have hF2 := Kd.C_F (Kd.heap_slice 3 (Kd.heap_int .i64)) hCt
              rw [hdl] at hF0
              rw [htl] at hF2
              have hlen : ([] ++ l0.take t ++ [l2] ++ l0.drop t).length = l0.length + 1 := by simp; have := HTT.out; omega
              have htot : total ([] ++ l0.take t ++ [l2] ++ l0.drop t) = total l0 + l2.length := by
                have e1 := total_append14 (l0.take t) (l0.drop t)
                rw [List.take_append_drop] at e1
                rw [total_append14, total_append14, List.nil_append]
                have e2 : total [l2] = l2.length := by simp [total]
                omega
              have HF0 := Aside0.mk hF0
              have HF2 := Aside0.mk hF2
              have HLIM := Aside0.mk (And.intro HLT.out.2.2.2 HTT.out)
              have HTL := HTT.out
              have hch := fun W Av cv (hle : ([] ++ l0.take t ++ [l2] ++ l0.drop t).length ≤ cv) (hCv : KRd.C W Av ([] ++ l0.take t ++ [l2] ++ l0.drop t).length ([] ++ l0.take t ++ [l2] ++ l0.drop t)) (hW : Below w.heap.size w W) =>
                spreads_calls Av cv ([] ++ l0.take t ++ [l2] ++ l0.drop t) a1 c1 l1 W hCv hle (Kd.C_below HR1.out hW) HC1.out (by rw [htot]; have := HLT.out; omega) (by rw [hlen]; have := HLT.out; omega)
              simp only [HSAME.out] at hch
              have HCH := Lib.hid hch
              clear hCd hCt hF0 hF2 hdl htl htot hlen hch
              go_wp2_with fail
              refine start_ (n := 19) (S := fun w' => True) (ds := []) #[false, false, false, false, false, false, false, false, false, false, false, false, false, false, false, false, false, false, false] (by kernel_rfl) rfl rfl trivial (fun hHeld => ?_)
              refine pure_ (i := 1) (N := some 69) (v := ?_) (a' := ?_) #[false, true, false, false, false, false, false, false, false, false, false, false, false, false, false, false, false, false, false] rfl rfl (by kernel_rfl) (fun _ _ _ h => h) (Or.inl ⟨by rfl, ?_⟩) ?_ ?_
              rotate_left
              · intro w'
                go_simp
                with_reducible rfl
              rotate_left
              · simp only [Act.put, List.setIfInBounds_toArray, List.set_cons_zero, List.set_cons_succ, i64_w, i32_w]
                rfl
              refine pure_ (i := 2) (N := some 70) (v := ?_) (a' := ?_) #[false, true, true, false, false, false, false, false, false, false, false, false, false, false, false, false, false, false, false] rfl rfl (by kernel_rfl) (fun _ _ _ h => h) (Or.inl ⟨by rfl, ?_⟩) ?_ ?_
              rotate_left
              · intro w'
                go_simp
                with_reducible rfl
              rotate_left
              · simp only [Act.put, List.setIfInBounds_toArray, List.set_cons_zero, List.set_cons_succ, i64_w, i32_w]
                rfl
              refine pure_ (i := 3) (N := some 71) (v := ?_) (a' := ?_) #[false, true, true, true, false, false, false, false, false, false, false, false, false, false, false, false, false, false, false] rfl rfl (by kernel_rfl) (fun _ _ _ h => h) (Or.inl ⟨by rfl, ?_⟩) ?_ ?_
              rotate_left
              · intro w'
                go_simp
                with_reducible rfl
              rotate_left
              · simp only [Act.put, List.setIfInBounds_toArray, List.set_cons_zero, List.set_cons_succ, i64_w, i32_w]
                rfl
              refine pure_ (i := 5) (N := some 73) (v := ?_) (a' := ?_) #[false, true, true, true, false, true, false, false, false, false, false, false, false, false, false, false, false, false, false] rfl rfl (by kernel_rfl) (fun _ _ _ h => h) (Or.inl ⟨by rfl, ?_⟩) ?_ ?_
              rotate_left
              · intro w'
                go_simp
                with_reducible rfl
              rotate_left
              · simp only [Act.put, List.setIfInBounds_toArray, List.set_cons_zero, List.set_cons_succ, i64_w, i32_w]
                rfl
              refine pure_ (i := 8) (N := some 76) (v := ?_) (a' := ?_) #[false, true, true, true, false, true, false, false, true, false, false, false, false, false, false, false, false, false, false] rfl rfl (by kernel_rfl) (fun _ _ _ h => h) (Or.inl ⟨by rfl, ?_⟩) ?_ ?_
              rotate_left
              · intro w'
                go_simp
                with_reducible rfl
              rotate_left
              · simp only [Act.put, List.setIfInBounds_toArray, List.set_cons_zero, List.set_cons_succ, i64_w, i32_w]
                rfl
              refine pure_ (i := 9) (N := some 77) (v := ?_) (a' := ?_) #[false, true, true, true, false, true, false, false, true, true, false, false, false, false, false, false, false, false, false] rfl rfl (by kernel_rfl) (fun _ _ _ h => h) (Or.inl ⟨by rfl, ?_⟩) ?_ ?_
              rotate_left
              · intro w'
                go_simp
                with_reducible rfl
              rotate_left
              · simp only [Act.put, List.setIfInBounds_toArray, List.set_cons_zero, List.set_cons_succ, i64_w, i32_w]
                rfl
              refine pure_ (i := 10) (N := some 78) (v := ?_) (a' := ?_) #[false, true, true, true, false, true, false, false, true, true, true, false, false, false, false, false, false, false, false] rfl rfl (by kernel_rfl) (fun _ _ _ h => h) (Or.inl ⟨by rfl, ?_⟩) ?_ ?_
              rotate_left
              · intro w'
                go_simp
                with_reducible rfl
              rotate_left
              · simp only [Act.put, List.setIfInBounds_toArray, List.set_cons_zero, List.set_cons_succ, i64_w, i32_w]
                rfl
              refine pure_ (i := 12) (N := some 80) (v := ?_) (a' := ?_) #[false, true, true, true, false, true, false, false, true, true, true, false, true, false, false, false, false, false, false] rfl rfl (by kernel_rfl) (fun _ _ _ h => h) (Or.inl ⟨by rfl, ?_⟩) ?_ ?_
              rotate_left
              · intro w'
                go_simp
                with_reducible rfl
              rotate_left
              · simp only [Act.put, List.setIfInBounds_toArray, List.set_cons_zero, List.set_cons_succ, i64_w, i32_w]
                rfl
              refine join_ (σ := Value × Value × Nat) 8 #[true, true, true, true, true, true, true, false, true, true, true, false, true, false, false, false, false, false, false] (fun s => [(68, s.1), (72, s.2.1), (74, .slice (some ⟨s.2.2, 0, none⟩) 1 1)]) (fun s w' => Aside0 (Kd.N KRd 23 w' w6.heap.size (fun _ => True) s.2.1 ([] ++ l0.take t)) ∧ Aside0 (Below w6.heap.size w6 w') ∧ Aside0 (w'.heap[s.2.2]? = some (.cells #[.slice a2 l2.length c2] 23 (0, 0))) ∧ Aside0 (s.2.1.ownBlock ≠ some s.2.2)) ?_ ?_
              rotate_left
              · intro hCont
                refine two_ (i := 0) (j := 6) (Ni := some 68) (Nj := some 74) #[true, true, true, true, false, true, false, false, true, true, true, false, true, false, false, false, false, false, false] #[false, true, true, true, false, true, true, false, true, true, true, false, true, false, false, false, false, false, false] rfl rfl rfl rfl (by kernel_rfl) (by decide) (by decide) (fun K hK => ?_) (fun K hK => ?_)
                · skip
                  refine Kd.N_lit_step KRd (w0 := w6) w6.heap.size 23 (by rfl) (N' := 68) rfl (xs := ([] : List (List Int))) (inner := []) (ok := fun _ => True) (okp := fun _ => True) ?hr0 (Reps.none _ _) (fun _ h => h) trivial ?hb0 ?hs0 (by simp) ?_
                  case hr0 => first | (go_simp; done) | (go_simp; rfl)
                  case hb0 => exact below_drew (Below.refl _ _)
                  case hs0 => exact (below_drew (Below.refl w6.heap.size w6)).size
                  intro v7 w7 hN7 hB7 hg7 hat7
                  have HN7 := Aside0.mk hN7
                  have HB7 := Aside0.mk hB7
                  clear hN7 hB7 hg7 hat7
                  refine hK.out _ _ trivial (fun hHeld => ?_)
                  clear hK K
                  refine norm_ (a' := ?_) ?_ ?_
                  rotate_left
                  · show Act.put _ (some 68) _ = _
                    simp only [Act.put, List.setIfInBounds_toArray, List.set_cons_zero, List.set_cons_succ, i64_w, i32_w]
                    rfl
                  refine two_ (i := 4) (j := 6) (Ni := some 72) (Nj := some 74) #[true, true, true, true, true, true, false, false, true, true, true, false, true, false, false, false, false, false, false] #[true, true, true, true, false, true, true, false, true, true, true, false, true, false, false, false, false, false, false] rfl rfl rfl rfl (by kernel_rfl) (by decide) (by decide) (fun K hK => ?_) (fun K hK => ?_)
                  · skip
                    refine Kd.N_append_rows_step KRd (w0 := w6) w6.heap.size (by rfl) (.tmp 68) (.tmp 71) 22 23 (.slice none 0 0) 24 rfl Tryd.underlying22 info22d rfl (by decide) (by omega) v7 [] (l0.take t) a0 _ _ (fun _ => True) (fun k => k < w.heap.size) rfl rfl HN7.out (Kd.F_below HF2.out (below_then HB6.out HB6.out.size HB7.out)) (fun k hk => ⟨trivial, fun e => by have h1 := Kd.N_base HN7.out k e.symm; have h2 := HB6.out.size; omega⟩) (fun _ _ => trivial) HB7.out (HB7.out).size (by have := HLIM.out; simp; omega) ?_
                    intro v8 w8 hN8 hB8 hg8 hat8
                    have HN8 := Aside0.mk hN8
                    have HB8 := Aside0.mk hB8
                    clear hN8 hB8 hg8 hat8
                    refine hK.out _ _ trivial (fun hHeld => ?_)
                    clear hK K
                    refine norm_ (a' := ?_) ?_ ?_
                    rotate_left
                    · show Act.put _ (some 72) _ = _
                      simp only [Act.put, List.setIfInBounds_toArray, List.set_cons_zero, List.set_cons_succ, i64_w, i32_w]
                      rfl
                    refine one_ (i := 6) (N := some 74) #[true, true, true, true, true, true, true, false, true, true, true, false, true, false, false, false, false, false, false] rfl rfl (by kernel_rfl) (by decide) (fun K hK => ?_)
                    refine value_ (w1 := ?_) (v := ?_) (by rfl) rfl ?_ ?_
                    rotate_left 2
                    · go_simp
                      constructor
                      · rfl
                      · rfl
                    refine hK.out _ _ trivial (fun hHeld => ?_)
                    clear hK K
                    refine norm_ (a' := ?_) ?_ ?_
                    rotate_left
                    · show Act.put _ (some 74) _ = _
                      simp only [Act.put, List.setIfInBounds_toArray, List.set_cons_zero, List.set_cons_succ, i64_w, i32_w]
                      rfl
                    exact norm_ (by simp only [putAll, Act.put, List.setIfInBounds_toArray, List.set_cons_zero, List.set_cons_succ]) (hCont (v7, v8, w8.heap.size) _ ⟨⟨Kd.N_alloc HN8.out _⟩, ⟨below_alloc HB8.out _⟩, ⟨heap_alloc_new w8 _⟩, ⟨fun e => Nat.lt_irrefl _ (Kd.N_lt HN8.out _ e)⟩⟩)
                  · skip
                    refine value_ (w1 := ?_) (v := ?_) (by rfl) rfl ?_ ?_
                    rotate_left 2
                    · go_simp
                      constructor
                      · rfl
                      · rfl
                    refine hK.out _ _ trivial (fun hHeld => ?_)
                    clear hK K
                    refine norm_ (a' := ?_) ?_ ?_
                    rotate_left
                    · show Act.put _ (some 74) _ = _
                      simp only [Act.put, List.setIfInBounds_toArray, List.set_cons_zero, List.set_cons_succ, i64_w, i32_w]
                      rfl
                    refine one_ (i := 4) (N := some 72) #[true, true, true, true, true, true, true, false, true, true, true, false, true, false, false, false, false, false, false] rfl rfl (by kernel_rfl) (by decide) (fun K hK => ?_)
                    refine Kd.N_append_rows_step KRd (w0 := w6) w6.heap.size (by rfl) (.tmp 68) (.tmp 71) 22 23 (.slice none 0 0) 24 rfl Tryd.underlying22 info22d rfl (by decide) (by omega) v7 [] (l0.take t) a0 _ _ (fun _ => True) (fun k => k < w.heap.size) rfl rfl (Kd.N_alloc HN7.out _) (Kd.F_below HF2.out (below_then HB6.out HB6.out.size (below_alloc HB7.out _))) (fun k hk => ⟨trivial, fun e => by have h1 := Kd.N_base HN7.out k e.symm; have h2 := HB6.out.size; omega⟩) (fun _ _ => trivial) (below_alloc HB7.out _) ((below_alloc HB7.out _)).size (by have := HLIM.out; simp; omega) ?_
                    intro v8 w8 hN8 hB8 hg8 hat8
                    have HN8 := Aside0.mk hN8
                    have HB8 := Aside0.mk hB8
                    have hX8 : w8.heap[w7.heap.size]? = some (.cells #[.slice a2 l2.length c2] 23 (0, 0)) := (hg8.block w7.heap.size (by rw [size_alloc]; exact Nat.lt_succ_self _) (fun e => by have := Kd.N_lt HN7.out _ e.symm; omega)).trans (heap_alloc_new w7 _)
                    have hE8 : v8.ownBlock ≠ some w7.heap.size := own_ne_app hat8 (fun e => by have := Kd.N_lt HN7.out _ e; omega) (by rw [size_alloc]; exact Nat.lt_succ_self _)
                    clear hN8 hB8 hg8 hat8
                    refine hK.out _ _ trivial (fun hHeld => ?_)
                    clear hK K
                    refine norm_ (a' := ?_) ?_ ?_
                    rotate_left
                    · show Act.put _ (some 72) _ = _
                      simp only [Act.put, List.setIfInBounds_toArray, List.set_cons_zero, List.set_cons_succ, i64_w, i32_w]
                      rfl
                    exact norm_ (by simp only [putAll, Act.put, List.setIfInBounds_toArray, List.set_cons_zero, List.set_cons_succ]) (hCont (v7, v8, w7.heap.size) _ ⟨HN8, HB8, ⟨hX8⟩, ⟨hE8⟩⟩)
                · skip
                  refine value_ (w1 := ?_) (v := ?_) (by rfl) rfl ?_ ?_
                  rotate_left 2
                  · go_simp
                    constructor
                    · rfl
                    · rfl
                  refine hK.out _ _ trivial (fun hHeld => ?_)
                  clear hK K
                  refine norm_ (a' := ?_) ?_ ?_
                  rotate_left
                  · show Act.put _ (some 74) _ = _
                    simp only [Act.put, List.setIfInBounds_toArray, List.set_cons_zero, List.set_cons_succ, i64_w, i32_w]
                    rfl
                  refine one_ (i := 0) (N := some 68) #[true, true, true, true, false, true, true, false, true, true, true, false, true, false, false, false, false, false, false] rfl rfl (by kernel_rfl) (by decide) (fun K hK => ?_)
                  refine Kd.N_lit_step KRd (w0 := w6) w6.heap.size 23 (by rfl) (N' := 68) rfl (xs := ([] : List (List Int))) (inner := []) (ok := fun _ => True) (okp := fun _ => True) ?hr0 (Reps.none _ _) (fun _ h => h) trivial ?hb0 ?hs0 (by simp) ?_
                  case hr0 => first | (go_simp; done) | (go_simp; rfl)
                  case hb0 => exact below_drew (below_alloc (Below.refl _ _) _)
                  case hs0 => exact (below_drew (below_alloc (Below.refl w6.heap.size w6) (.cells #[.slice a2 l2.length c2] 23))).size
                  intro v7 w7 hN7 hB7 hg7 hat7
                  have HN7 := Aside0.mk hN7
                  have HB7 := Aside0.mk hB7
                  have hX7 : w7.heap[w6.heap.size]? = some (.cells #[.slice a2 l2.length c2] 23 (0, 0)) := (hg7.block w6.heap.size (by show w6.heap.size < (w6.alloc (.cells #[.slice a2 l2.length c2] 23)).heap.size; rw [size_alloc]; exact Nat.lt_succ_self _) (by simp)).trans (heap_alloc_new w6 _)
                  have hE7 : v7.ownBlock ≠ some w6.heap.size := own_ne_lit hat7 (by show w6.heap.size < (w6.alloc (.cells #[.slice a2 l2.length c2] 23)).heap.size; rw [size_alloc]; exact Nat.lt_succ_self _)
                  clear hN7 hB7 hg7 hat7
                  refine hK.out _ _ trivial (fun hHeld => ?_)
                  clear hK K
                  refine norm_ (a' := ?_) ?_ ?_
                  rotate_left
                  · show Act.put _ (some 68) _ = _
                    simp only [Act.put, List.setIfInBounds_toArray, List.set_cons_zero, List.set_cons_succ, i64_w, i32_w]
                    rfl
                  refine one_ (i := 4) (N := some 72) #[true, true, true, true, true, true, true, false, true, true, true, false, true, false, false, false, false, false, false] rfl rfl (by kernel_rfl) (by decide) (fun K hK => ?_)
                  refine Kd.N_append_rows_step KRd (w0 := w6) w6.heap.size (by rfl) (.tmp 68) (.tmp 71) 22 23 (.slice none 0 0) 24 rfl Tryd.underlying22 info22d rfl (by decide) (by omega) v7 [] (l0.take t) a0 _ _ (fun _ => True) (fun k => k < w.heap.size) rfl rfl HN7.out (Kd.F_below HF2.out (below_then HB6.out HB6.out.size HB7.out)) (fun k hk => ⟨trivial, fun e => by have h1 := Kd.N_base HN7.out k e.symm; have h2 := HB6.out.size; omega⟩) (fun _ _ => trivial) HB7.out (HB7.out).size (by have := HLIM.out; simp; omega) ?_
                  intro v8 w8 hN8 hB8 hg8 hat8
                  have HN8 := Aside0.mk hN8
                  have HB8 := Aside0.mk hB8
                  have hlt7 : w6.heap.size < w7.heap.size := (Array.getElem?_eq_some_iff.1 hX7).elim fun h _ => h
                  have hX8 : w8.heap[w6.heap.size]? = some (.cells #[.slice a2 l2.length c2] 23 (0, 0)) := (hg8.block w6.heap.size hlt7 (fun e => hE7 e.symm)).trans hX7
                  have hE8 : v8.ownBlock ≠ some w6.heap.size := own_ne_app hat8 hE7 hlt7
                  clear hN8 hB8 hg8 hat8
                  refine hK.out _ _ trivial (fun hHeld => ?_)
                  clear hK K
                  refine norm_ (a' := ?_) ?_ ?_
                  rotate_left
                  · show Act.put _ (some 72) _ = _
                    simp only [Act.put, List.setIfInBounds_toArray, List.set_cons_zero, List.set_cons_succ, i64_w, i32_w]
                    rfl
                  exact norm_ (by simp only [putAll, Act.put, List.setIfInBounds_toArray, List.set_cons_zero, List.set_cons_succ]) (hCont (v7, v8, w6.heap.size) _ ⟨HN8, HB8, ⟨hX8⟩, ⟨hE8⟩⟩)
              rintro ⟨v7, v8, b6⟩ w9 ⟨HN8, HB9, HX9, HE9⟩
              simp only [] at HN8 HB9 HX9 HE9
              have hHeld := trivial
              refine norm_ (a' := ?_) ?_ ?_
              rotate_left
              · simp only [putAll, Act.put, List.setIfInBounds_toArray, List.set_cons_zero, List.set_cons_succ]
                rfl
              refine one_ (i := 7) (N := some 75) #[true, true, true, true, true, true, true, true, true, true, true, false, true, false, false, false, false, false, false] rfl rfl (by kernel_rfl) (by decide) (fun K hK => ?_)
              have hF9 := Kd.F_below HFF2.out (below_then HB6.out HB6.out.size HB9.out)
              have hlt9 : b6 < w9.heap.size := (Array.getElem?_eq_some_iff.1 HX9.out).elim fun h _ => h
              have hF7 : Kd.F KRd w9 (fun k => k < w.heap.size ∨ k = b6) (some ⟨b6, 0, none⟩) ([l2] : List (List Int)).length [l2] := fun W' hW => lit_row (hF9 W' (fun k hk hlt => hW k (.inl hk) hlt)) HC2.out (cell_of_one ((hW b6 (.inr rfl) hlt9).trans HX9.out))
              refine Kd.N_append_rows_step KRd (w0 := w6) w6.heap.size (by rfl) (.tmp 72) (.tmp 74) 22 23 (.slice none 0 0) 24 rfl Tryd.underlying22 info22d rfl (by decide) (by omega) v8 _ [l2] (some ⟨b6, 0, none⟩) _ _ (fun _ => True) (fun k => k < w.heap.size ∨ k = b6) rfl rfl HN8.out hF7 (fun k hk => ⟨trivial, fun e => hk.elim (fun h => by have h1 := Kd.N_base HN8.out k e.symm; have h2 := HB6.out.size; omega) (fun h => HE9.out (by rw [← h]; exact e.symm))⟩) (fun _ _ => trivial) HB9.out (HB9.out).size (by have := HLIM.out; simp; omega) ?_
              intro v10 w10 hN10 hB10 hg10 hat10
              have HN10 := Aside0.mk hN10
              have HB10 := Aside0.mk hB10
              clear hN10 hB10 hg10 hat10 hF9 hF7 hlt9
              refine hK.out _ _ trivial (fun hHeld => ?_)
              clear hK K
              refine norm_ (a' := ?_) ?_ ?_
              rotate_left
              · show Act.put _ (some 75) _ = _
                simp only [Act.put, List.setIfInBounds_toArray, List.set_cons_zero, List.set_cons_succ, i64_w, i32_w]
                rfl
              refine one_ (i := 11) (N := some 79) #[true, true, true, true, true, true, true, true, true, true, true, true, true, false, false, false, false, false, false] rfl rfl (by kernel_rfl) (by decide) (fun K hK => ?_)
              refine Kd.N_append_rows_step KRd (w0 := w6) w6.heap.size (by rfl) (.tmp 75) (.tmp 78) 22 23 (.slice none 0 0) 24 rfl Tryd.underlying22 info22d rfl (by decide) (by omega) v10 _ (l0.drop t) Af _ _ (fun _ => True) (fun k => k < w.heap.size) rfl rfl HN10.out (Kd.F_below HF0.out (below_then HB6.out HB6.out.size HB10.out)) (fun k hk => ⟨trivial, fun e => by have h1 := Kd.N_base HN10.out k e.symm; have h2 := HB6.out.size; omega⟩) (fun _ _ => trivial) HB10.out (HB10.out).size (by have := HLIM.out; simp; omega) ?_
              intro v11 w11 hN11 hB11 hg11 hat11
              obtain ⟨Av, cv, hv11, hle11, hCv11⟩ := Kd.N_reads hN11
              subst hv11
              have HC11 := Aside0.mk hCv11
              have HL11 := Aside0.mk hle11
              have HB11 := Aside0.mk hB11
              clear hN11 hB11 hg11 hat11 hCv11 hle11
              refine hK.out _ _ trivial (fun hHeld => ?_)
              clear hK K
              refine norm_ (a' := ?_) ?_ ?_
              rotate_left
              · show Act.put _ (some 79) _ = _
                simp only [Act.put, List.setIfInBounds_toArray, List.set_cons_zero, List.set_cons_succ, i64_w, i32_w]
                rfl
              refine one_ (i := 13) (N := some 81) #[true, true, true, true, true, true, true, true, true, true, true, true, true, true, false, false, false, false, false] rfl rfl (by kernel_rfl) (by decide) (fun K hK => ?_)
              refine goes_ Tryd.func12 (by kernel_rfl) rfl #[.slice Av ([] ++ l0.take t ++ [l2] ++ l0.drop t).length cv, .slice a1 l1.length c1] (by rfl) rfl rfl (by simp only [List.map_toArray, List.map_cons, List.map_nil]; rfl) ?_
              with_reducible refine (HCH.out w11 Av cv HL11.out HC11.out (below_then HB6.out HB6.out.size HB11.out)).mono ?_
              rintro e w12 ⟨v12, rfl, hR12, hB12⟩
              refine ⟨_, rfl, ?_⟩
              have HR12 := Aside0.mk hR12
              have HB612 := Aside0.mk (below_then HB11.out HB11.out.size hB12)
              clear hR12 hB12
              refine hK.out _ _ trivial (fun hHeld => ?_)
              clear hK K
              refine norm_ (a' := ?_) ?_ ?_
              rotate_left
              · show Act.put _ (some 81) _ = _
                simp only [Act.put, List.setIfInBounds_toArray, List.set_cons_zero, List.set_cons_succ, i64_w, i32_w]
                rfl
              refine pure_ (i := 14) (N := some 67) (v := ?_) (a' := ?_) #[true, true, true, true, true, true, true, true, true, true, true, true, true, true, true, false, false, false, false] rfl rfl (by kernel_rfl) (fun _ _ _ h => h) (Or.inl ⟨by rfl, ?_⟩) ?_ ?_
              rotate_left
              · intro w'
                go_simp
                with_reducible rfl
              rotate_left
              · simp only [Act.put, List.setIfInBounds_toArray, List.set_cons_zero, List.set_cons_succ, i64_w, i32_w]
                rfl
              refine pure_ (i := 15) (N := some 82) (v := ?_) (a' := ?_) #[true, true, true, true, true, true, true, true, true, true, true, true, true, true, true, true, false, false, false] rfl rfl (by kernel_rfl) (fun _ _ _ h => h) (Or.inl ⟨by rfl, ?_⟩) ?_ ?_
              rotate_left
              · intro w'
                go_simp
                with_reducible rfl
              rotate_left
              · simp only [Act.put, List.setIfInBounds_toArray, List.set_cons_zero, List.set_cons_succ, i64_w, i32_w]
                rfl
              refine pure_ (i := 16) (N := some 83) (v := ?_) (a' := ?_) #[true, true, true, true, true, true, true, true, true, true, true, true, true, true, true, true, true, false, false] rfl rfl (by kernel_rfl) (fun _ _ _ h => h) (Or.inl ⟨by rfl, ?_⟩) ?_ ?_
              rotate_left
              · intro w'
                go_simp
                with_reducible rfl
              rotate_left
              · simp only [Act.put, List.setIfInBounds_toArray, List.set_cons_zero, List.set_cons_succ, i64_w, i32_w]
                rfl
              refine pure_ (i := 17) (N := some 13) (v := ?_) (a' := ?_) #[true, true, true, true, true, true, true, true, true, true, true, true, true, true, true, true, true, true, false] rfl rfl (by kernel_rfl) (fun _ _ _ h => h) (Or.inl ⟨by rfl, ?_⟩) ?_ ?_
              rotate_left
              · intro w'
                go_simp
                with_reducible rfl
              rotate_left
              · simp only [Act.put, List.setIfInBounds_toArray, List.set_cons_zero, List.set_cons_succ, i64_w, i32_w]
                rfl
              refine pure_ (i := 18) (N := some 14) (v := ?_) (a' := ?_) #[true, true, true, true, true, true, true, true, true, true, true, true, true, true, true, true, true, true, true] rfl rfl (by kernel_rfl) (fun _ _ _ h => h) (Or.inl ⟨by rfl, ?_⟩) ?_ ?_
              rotate_left
              · intro w'
                go_simp
                with_reducible rfl
              rotate_left
              · simp only [Act.put, List.setIfInBounds_toArray, List.set_cons_zero, List.set_cons_succ, i64_w, i32_w]
                rfl
              refine done_ (by kernel_rfl) ?_
              obtain ⟨A12, d12, rfl, hl12, hC12⟩ := Kd.R_reads HR12.out
              have hi1 := ints_calls A6 d6 (spread l0 l1).1 A12 d12 (spread l0 l1).1 w12 (Kd.C_below HC6.out HB612.out) HL6.out hC12 hl12 HC6.out.2.1
              rw [decide_eq_true rfl] at hi1
              have HI1 := Lib.hid hi1
              have HB12 := Aside0.mk (below_then HB6.out HB6.out.size HB612.out)
              clear hi1 hl12 hC12 HR12
              generalize (spread l0 l1).2 = ok at *
              generalize (spread l0 l1).1.length = len6 at *
              clear HSAME HL6 HC6 HCH
              have hkk : (ok == ok) = true := by cases ok <;> rfl
              go_wp2_with fail
              refine HI1.out.mono ?_
              rintro e w13 ⟨rfl, nd13, rfl⟩
              go_wp2
              go_ret
              exact ⟨rfl, pw_below_drewN HB12.out _⟩
end Go.Proofs.YtnknoaolbjofiaaDoor.Cl
