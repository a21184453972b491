/- The law ClauseSpreads, once 'awake' is known to answer true: the call, in plain words. -/
import Derived.Test.YtnknoaolbjofiaaDoorClFew14
import Derived.LoopN
set_option linter.unusedVariables false
set_option linter.unusedSimpArgs false
namespace Go.Proofs.YtnknoaolbjofiaaDoor.Cl
open Go.RowKit Go.Proofs.YtnknoaolbjofiaaDoorW.PrintWords Go.Proofs.YtnknoaolbjofiaaDoorW.PrintLast Go.Proofs.YtnknoaolbjofiaaDoorW.PrintMore
open Go.Proofs.YtnknoaolbjofiaaDoor.X

theorem info3d : (Tryd.prog.info? 3).map (fun i => (i.zero, i.size, i.bytes)) = some (some (.int .i64 0), 1, 8) := by kernel_rfl
abbrev KId : Kd Int := Kd.int .i64
abbrev KRd : Kd (List Int) := Kd.slice 3 (Kd.int .i64)
theorem lit_cell (w : World) (v : Value) (t : TypeId) : (w.alloc (.cells #[v] t)).cell? ⟨w.heap.size, 0, none⟩ = some v := by
  have h : (w.alloc (.cells #[v] t)).heap[w.heap.size]? = some (.cells #[v] t (0, 0)) := by
    show (w.heap.push _)[w.heap.size]? = _
    simp
  unfold World.cell?
  rw [h]
  rfl

set_option maxRecDepth 100000 in
set_option maxHeartbeats 8000000 in
theorem spreads_law (a0 : Option Addr) (c0 : Nat) (l0 : List (List Int)) (a1 : Option Addr) (c1 : Nat) (l1 : List Int) (w : World)
    (hr0 : KRd.C w a0 l0.length l0) (hc0 : l0.length ≤ c0) (hm0 : l0.length ≤ maxLen) (hs0 : l0.length * 24 ≤ 140737488351232) (hw0 : ∀ c ∈ l0, ∀ x ∈ c, (Lit.int .i64 x).wf = true)
    (hr1 : KId.C w a1 l1.length l1) (hc1 : l1.length ≤ c1) (hm1 : l1.length ≤ maxLen) (hs1 : l1.length * 8 ≤ 140737488351232) (hw1 : ∀ x ∈ l1, (Lit.int .i64 x).wf = true)
    (haw : Calls Tryd.prog 10 #[] w fun e w' => e = .returned (.bool true) ∧ Below w.heap.size w w') :
    Calls Tryd.prog 3 #[.slice a0 l0.length c0, .slice a1 l1.length c1] w fun e w' => e = .returned (.bool true) ∧ Below w.heap.size w w' := by
  have hf0 := fun W (hW : Below w.heap.size w W) => few14_calls a0 c0 l0 W (Kd.C_below hr0 hW) hc0 (by omega)
  have HR0 := Aside0.mk hr0
  have HR1 := Aside0.mk hr1
  have HC0 := Aside0.mk hc0
  have HC1 := Aside0.mk hc1
  have HS1 := Aside0.mk hs1
  have HF0 := Lib.hid hf0
  have HAW := Lib.hid haw
  have HFF := Aside0.mk (Kd.C_F (Kd.heap_int .i64) hr1)
  clear hf0 haw hr0 hr1 hc0 hc1 hm0 hm1 hs0 hs1 hw0 hw1
  go_enter Tryd.func3, Tryd.ntmps3
  go_wp2_with fail
  refine HAW.out.mono ?_
  rintro e w1 ⟨rfl, hb1⟩
  have HB1 := Aside0.mk hb1
  clear hb1 HAW
  go_wp2_with fail
  refine (HF0.out _ HB1.out).mono ?_
  cases h0 : small l0 200 20 200 with
  | false =>
    rintro e w' ⟨rfl, nd, rfl⟩
    clear h0
    go_wp2
    go_ret
    exact ⟨rfl, pw_below_drewN HB1.out _⟩
  | true =>
    have hft0 := few14_total h0
    have HT0 := Lib.hid hft0
    clear hft0 h0
    rintro e w' ⟨rfl, nd0, rfl⟩
    have HB2 : Aside0 (Below w.heap.size w ((w1.drewN nd0).alloc (.cells #[.slice a1 l1.length c1] 23))) := ⟨below_alloc (pw_below_drewN HB1.out _) _⟩
    have hlit := few14_calls (some ⟨(w1.drewN nd0).heap.size, 0, none⟩) 1 [l1] ((w1.drewN nd0).alloc (.cells #[.slice a1 l1.length c1] 23)) (lit_row (c := l1) (Kd.C_below HR1.out HB2.out) HC1.out (lit_cell _ _ _)) (Nat.le_refl 1) (by simp)
    have HLIT := Lib.hid hlit
    clear hlit
    go_wp2_with fail
    refine HLIT.out.mono ?_
    cases h1 : small [l1] 200 20 200 with
    | false =>
      rintro e w' ⟨rfl, nd, rfl⟩
      clear h1
      go_wp2
      go_ret
      exact ⟨rfl, pw_below_drewN HB2.out _⟩
    | true =>
      have hft1 := (few14_total h1).1 l1 (by simp)
      have HT1 := Lib.hid hft1
      clear hft1 h1
      rintro e w' ⟨rfl, nd1, rfl⟩
      have HB3 : Aside0 (Below w.heap.size w (((w1.drewN nd0).alloc (.cells #[.slice a1 l1.length c1] 23)).drewN nd1)) := ⟨pw_below_drewN HB2.out _⟩
      generalize ((w1.drewN nd0).alloc (.cells #[.slice a1 l1.length c1] 23)).drewN nd1 = w3 at HB3 ⊢
      go_wp2_with (first
        | ((with_reducible refine gate_dst (N := 22) rfl ?_); refine Kd.N_lit KId w.heap.size 3 ?hg (w0 := w) (N' := 22) ?hd (xs := ([] : List Int)) (inner := []) (ok := fun k => w.heap.size ≤ k) (okp := fun k => w.heap.size ≤ k) ?hr (Reps.none _ _) (fun _ h => h) HB3.out.size HB3.out HB3.out.size (by simp) ?_; (case hd => rfl); (case hg => rfl); (case hr => first | (go_simp; done) | (go_simp; rfl)); intro v4 w4 hN4 hB4 hg4 hat4; have HN4 := Aside0.mk hN4; have HB4 := Aside0.mk hB4; clear hN4 hB4 hg4 hat4)
        | (at_builtin; refine Kd.N_append_rows KId (w0 := w) w.heap.size rfl _ _ 23 3 (.int .i64 0) 8 rfl Tryd.underlying23 info3d rfl (by decide) (by omega) v4 [] l1 a1 l1.length c1 (fun k => True) (fun k => k < w.heap.size) rfl rfl (Kd.N_mono HN4.out (fun _ _ => trivial)) (Kd.F_below HFF.out HB4.out) (fun k hk => ⟨trivial, fun e => by have := Kd.N_base HN4.out k e.symm; omega⟩) (fun _ _ => trivial) HB4.out HB4.out.size (by have := HT1.out; simp; omega) ?_; intro v5 w5 hN5 hB5 hg5 hat5; obtain ⟨Av, cv, hv5, hl5, hC5⟩ := Kd.N_reads hN5; rw [List.nil_append] at hv5 hl5 hC5; subst hv5; have HC5 := Aside0.mk hC5; have HL5 := Aside0.mk hl5; have HB5 := Aside0.mk hB5; clear hN5 hB5 hg5 hat5 hC5 hl5)
        | fail)
      have hsa := spreads_calls a0 c0 l0 Av cv l1 w5 (Kd.C_below HR0.out HB5.out) HC0.out HC5.out HL5.out (by have := HT1.out; have := HT0.out.2.2; omega) (by have := HT0.out.2.1; omega)
      have HSA := Lib.hid hsa
      clear hsa
      refine HSA.out.mono ?_
      rintro e w6 ⟨v6, rfl, hR6, hB6⟩
      have HR6 := Aside0.mk hR6
      have HB6 := Aside0.mk (below_then HB5.out HB5.out.size hB6)
      clear hR6 hB6 HSA
      have hsb := rspreads_calls a0 c0 l0 a1 c1 l1 w6 (Kd.C_below HR0.out HB6.out) HC0.out (Kd.C_below HR1.out HB6.out) HC1.out (by have := HT1.out; have := HT0.out.2.2; omega) (by have := HT0.out.2.1; omega) (fun c hc => by have := HT0.out.1 c hc; omega)
      have HSB := Lib.hid hsb
      clear hsb
      go_wp2_with fail
      refine HSB.out.mono ?_
      rintro e w7 ⟨v7, rfl, hR7, hB7⟩
      have HR6b := Aside0.mk (Kd.R_below HR6.out hB7)
      have HR7 := Aside0.mk hR7
      have HB7 := Aside0.mk (below_then HB6.out HB6.out.size hB7)
      clear hR7 hB7 HSB
      obtain ⟨A6, d6, rfl, hl6, hC6⟩ := Kd.R_reads HR6b.out
      obtain ⟨A7, d7, rfl, hl7, hC7⟩ := Kd.R_reads HR7.out
      have hlen : (spread l0 l1).1.length ≤ 9223372036854775807 := hC6.2.1
      have hin := ints_calls A6 d6 (spread l0 l1).1 A7 d7 (spread l0 l1).1 w7 hC6 hl6 hC7 hl7 hlen
      rw [decide_eq_true rfl] at hin
      have HIN := Lib.hid hin
      clear hin hlen hC6 hC7 hl6 hl7
      generalize (spread l0 l1).2 = ok at *
      generalize (spread l0 l1).1.length = len6 at *
      go_wp2_with fail
      refine HIN.out.mono ?_
      rintro e w8 ⟨rfl, nd8, rfl⟩
      go_wp2
      go_ret
      exact ⟨by simp, pw_below_drewN HB7.out _⟩
end Go.Proofs.YtnknoaolbjofiaaDoor.Cl
