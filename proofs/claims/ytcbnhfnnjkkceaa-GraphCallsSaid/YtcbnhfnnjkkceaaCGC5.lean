/- For the statement of the row : what its proof needs of the text GC5. -/
import Derived.Deep.Slices
import Derived.ChangeArms
import Derived.WideShapes
import Derived.DataReads
import Derived.Test.YtcbnhfnnjkkceaaRows
import Derived.WalkKit
import Derived.ProofKit
import Derived.OpenShut
import Derived.ShutString
import Derived.ChangeOld
import Derived.Below
import Derived.SizedLaws
import Derived.Test.YtcbnhfnnjkkceaaCGC1
import Derived.Test.YtcbnhfnnjkkceaaCGC2
import Derived.Test.YtcbnhfnnjkkceaaCGC3
import Derived.Test.YtcbnhfnnjkkceaaCGC4

section
set_option linter.unusedVariables false
set_option linter.unusedSimpArgs false
namespace Go.Proofs.Ytcbnhfnnjkkceaa.X
open Go.RowKit Go.Proofs.YtcbnhfnnjkkceaaW.PrintWords Go.Proofs.YtcbnhfnnjkkceaaW.PrintLast Go.Proofs.YtcbnhfnnjkkceaaW.PrintMore Go.Proofs.Ytcbnhfnnjkkceaa.Gr
theorem GrM.below {w w1 : World} {g B : Nat} {p : Im} (h : GrM w g B p) (hb : Below w.heap.size w w1) : GrM w1 g B p := by
  obtain ⟨h0, dv, fv, cv, bs, n, V, h1, h2, h3, h4⟩ := h
  exact ⟨h0, dv, fv, cv, bs, n, V, h1.keep fun k hk => hb.block k (h1.ne h2 hk).1, (hb.block g (blk_lt h2)).trans h2, h3.keep fun i hi => hb.block i (h3.in_lt hi).2.1, h4⟩
theorem GrM.lt {w : World} {g B : Nat} {p : Im} (h : GrM w g B p) : g < w.heap.size := by
  obtain ⟨h0, dv, fv, cv, bs, n, V, h1, h2, h3, h4⟩ := h
  exact blk_lt h2
/-- What a row leaves. -/
def RowPost (w : World) (g B : Nat) (p : Im) (l : List Int) (e : Ending) (w' : World) : Prop := ∃ v, e = .returned v ∧ Kd.R (Kd.int .i64) 3 w' w.heap.size (fun _ => True) v l ∧ GrM w' g B p ∧ Fr w w' (fun i => i = g)
set_option maxRecDepth 100000 in
set_option maxHeartbeats 4000000 in
theorem rowNext {w : World} {g B b : Nat} {p : Im} (hp : Rt p) (hg : Gr w g B p) (hb : w.heap[b]? = some (.cells #[.pointer (some ⟨g, 0, none⟩)] 29 (0, 0))) {x : Int} (hx : Gr.wfI x) :
    Calls Try.prog 23 #[.pointer (some ⟨g, 0, none⟩), .func (.func 24) #[] #[.pointer (some ⟨b, 0, none⟩)], .int .i64 x] w (RowPost w g B p (nextL p x)) := by
  have HDO := Aside0.mk (do_calls hp hg)
  have HLT := Aside0.mk hg.lt
  have hbg : b ≠ g := fun e => by
    obtain ⟨c, hc⟩ := hg.typed
    rw [e, hc] at hb
    injection hb with hb
    injection hb with _ hb
    exact absurd hb (by decide)
  have HB := Aside0.mk hb
  have hmf : ∀ (fn : Fn) (first cap : Array Value) (w : World), (Instr.makeFunc fn first cap).run Try.prog w = .ok (.func fn first cap) w := fun _ _ _ _ => rfl
  clear hg hb
  go_enter Try.func23, Try.ntmps23
  go_wp2_with fail
  refine HDO.out.mono ?_
  rintro e w1 ⟨rfl, hM, hF⟩
  have HM := Aside0.mk hM
  have HF := Aside0.mk hF
  obtain ⟨_, dv, fv, cv, bs, n, V, hgp, hh, ht, hn⟩ := hM
  have c0 := cell_of_one ((hF.block b (blk_lt HB.out) hbg).trans HB.out)
  have c1 : w1.cell? ⟨g, 9 + 0, none⟩ = some (.map (some (bs 0))) := (blk_cell hh (9 + 0)).trans rfl
  have hlk := (ht.maps 0 (by omega)).look mt hx
  have hrow := ints_R (ht.rows 0 x (by omega) hx)
  have hlen := ht.len 0 x (by omega) hx
  obtain ⟨A, c, ev⟩ := Kd.R_slice hrow
  rw [ev] at hlk hrow
  have HCL := Aside0.mk (clone_int A c (rowsG p 0 x) w1 (Kd.R_reads' hrow).2.2 (Kd.R_reads' hrow).2.1 (by omega))
  have HSZ := Aside0.mk hF.size
  clear hF hgp hh ht hrow hlen ev
  go_wp2_with (first | (go_at_call 35; refine HCL.out.mono ?_; rintro e w2 ⟨v, rfl, hR, hB2⟩) | go_in)
  go_ret
  exact ⟨_, rfl, Kd.R_lower hR HSZ.out, HM.out.below hB2, HF.out.trans (Fr.mono (Fr.of_below hB2) fun i h1 h2 => by omega)⟩
set_option maxRecDepth 100000 in
set_option maxHeartbeats 4000000 in
theorem graphNext {w : World} {g B : Nat} {p : Im} (hp : Rt p) (hg : Gr w g B p) {x : Int} (hx : Gr.wfI x) :
    Calls Try.prog 12 #[.pointer (some ⟨g, 0, none⟩), .int .i64 x] w (RowPost w g B p (nextL p x)) := by
  have hbl := below_alloc (Below.refl w.heap.size w) (.cells #[.pointer (some ⟨g, 0, none⟩)] 29)
  have HR := Aside0.mk (rowNext hp (hg.below hbl) (blk_new w (.cells #[.pointer (some ⟨g, 0, none⟩)] 29)) hx)
  have HF := Aside0.mk (Fr.mono (Fr.of_below hbl) (S' := fun i => i = g) fun i h1 h2 => by omega)
  have HSZ := Aside0.mk hbl.size
  have hmf : ∀ (fn : Fn) (first cap : Array Value) (w : World), (Instr.makeFunc fn first cap).run Try.prog w = .ok (.func fn first cap) w := fun _ _ _ _ => rfl
  clear hg hbl
  go_enter Try.func12, Try.ntmps12
  go_wp2_with fail
  refine HR.out.mono ?_
  rintro e w2 ⟨v, rfl, hR, hM, hF⟩
  have HRR := Aside0.mk hR
  have HM := Aside0.mk hM
  have HF2 := Aside0.mk hF
  clear hR hM hF
  go_wp2
  go_ret
  exact ⟨_, rfl, Kd.R_lower HRR.out HSZ.out, HM.out, HF.out.trans HF2.out⟩
set_option maxRecDepth 100000 in
set_option maxHeartbeats 4000000 in
theorem rowPrev {w : World} {g B b : Nat} {p : Im} (hp : Rt p) (hg : Gr w g B p) (hb : w.heap[b]? = some (.cells #[.pointer (some ⟨g, 0, none⟩)] 29 (0, 0))) {x : Int} (hx : Gr.wfI x) :
    Calls Try.prog 23 #[.pointer (some ⟨g, 0, none⟩), .func (.func 25) #[] #[.pointer (some ⟨b, 0, none⟩)], .int .i64 x] w (RowPost w g B p (prevL p x)) := by
  have HDO := Aside0.mk (do_calls hp hg)
  have HLT := Aside0.mk hg.lt
  have hbg : b ≠ g := fun e => by
    obtain ⟨c, hc⟩ := hg.typed
    rw [e, hc] at hb
    injection hb with hb
    injection hb with _ hb
    exact absurd hb (by decide)
  have HB := Aside0.mk hb
  have hmf : ∀ (fn : Fn) (first cap : Array Value) (w : World), (Instr.makeFunc fn first cap).run Try.prog w = .ok (.func fn first cap) w := fun _ _ _ _ => rfl
  clear hg hb
  go_enter Try.func23, Try.ntmps23
  go_wp2_with fail
  refine HDO.out.mono ?_
  rintro e w1 ⟨rfl, hM, hF⟩
  have HM := Aside0.mk hM
  have HF := Aside0.mk hF
  obtain ⟨_, dv, fv, cv, bs, n, V, hgp, hh, ht, hn⟩ := hM
  have c0 := cell_of_one ((hF.block b (blk_lt HB.out) hbg).trans HB.out)
  have c1 : w1.cell? ⟨g, 9 + 1, none⟩ = some (.map (some (bs 1))) := (blk_cell hh (9 + 1)).trans rfl
  have hlk := (ht.maps 1 (by omega)).look mt hx
  have hrow := ints_R (ht.rows 1 x (by omega) hx)
  have hlen := ht.len 1 x (by omega) hx
  obtain ⟨A, c, ev⟩ := Kd.R_slice hrow
  rw [ev] at hlk hrow
  have HCL := Aside0.mk (clone_int A c (rowsG p 1 x) w1 (Kd.R_reads' hrow).2.2 (Kd.R_reads' hrow).2.1 (by omega))
  have HSZ := Aside0.mk hF.size
  clear hF hgp hh ht hrow hlen ev
  go_wp2_with (first | (go_at_call 35; refine HCL.out.mono ?_; rintro e w2 ⟨v, rfl, hR, hB2⟩) | go_in)
  go_ret
  exact ⟨_, rfl, Kd.R_lower hR HSZ.out, HM.out.below hB2, HF.out.trans (Fr.mono (Fr.of_below hB2) fun i h1 h2 => by omega)⟩
set_option maxRecDepth 100000 in
set_option maxHeartbeats 4000000 in
theorem graphPrev {w : World} {g B : Nat} {p : Im} (hp : Rt p) (hg : Gr w g B p) {x : Int} (hx : Gr.wfI x) :
    Calls Try.prog 13 #[.pointer (some ⟨g, 0, none⟩), .int .i64 x] w (RowPost w g B p (prevL p x)) := by
  have hbl := below_alloc (Below.refl w.heap.size w) (.cells #[.pointer (some ⟨g, 0, none⟩)] 29)
  have HR := Aside0.mk (rowPrev hp (hg.below hbl) (blk_new w (.cells #[.pointer (some ⟨g, 0, none⟩)] 29)) hx)
  have HF := Aside0.mk (Fr.mono (Fr.of_below hbl) (S' := fun i => i = g) fun i h1 h2 => by omega)
  have HSZ := Aside0.mk hbl.size
  have hmf : ∀ (fn : Fn) (first cap : Array Value) (w : World), (Instr.makeFunc fn first cap).run Try.prog w = .ok (.func fn first cap) w := fun _ _ _ _ => rfl
  clear hg hbl
  go_enter Try.func13, Try.ntmps13
  go_wp2_with fail
  refine HR.out.mono ?_
  rintro e w2 ⟨v, rfl, hR, hM, hF⟩
  have HRR := Aside0.mk hR
  have HM := Aside0.mk hM
  have HF2 := Aside0.mk hF
  clear hR hM hF
  go_wp2
  go_ret
  exact ⟨_, rfl, Kd.R_lower HRR.out HSZ.out, HM.out, HF.out.trans HF2.out⟩
set_option maxRecDepth 100000 in
set_option maxHeartbeats 4000000 in
theorem rowSites {w : World} {g B b : Nat} {p : Im} (hp : Rt p) (hg : Gr w g B p) (hb : w.heap[b]? = some (.cells #[.pointer (some ⟨g, 0, none⟩)] 29 (0, 0))) {x : Int} (hx : Gr.wfI x) :
    Calls Try.prog 23 #[.pointer (some ⟨g, 0, none⟩), .func (.func 26) #[] #[.pointer (some ⟨b, 0, none⟩)], .int .i64 x] w (RowPost w g B p (sitesL p x)) := by
  have HDO := Aside0.mk (do_calls hp hg)
  have HLT := Aside0.mk hg.lt
  have hbg : b ≠ g := fun e => by
    obtain ⟨c, hc⟩ := hg.typed
    rw [e, hc] at hb
    injection hb with hb
    injection hb with _ hb
    exact absurd hb (by decide)
  have HB := Aside0.mk hb
  have hmf : ∀ (fn : Fn) (first cap : Array Value) (w : World), (Instr.makeFunc fn first cap).run Try.prog w = .ok (.func fn first cap) w := fun _ _ _ _ => rfl
  clear hg hb
  go_enter Try.func23, Try.ntmps23
  go_wp2_with fail
  refine HDO.out.mono ?_
  rintro e w1 ⟨rfl, hM, hF⟩
  have HM := Aside0.mk hM
  have HF := Aside0.mk hF
  obtain ⟨_, dv, fv, cv, bs, n, V, hgp, hh, ht, hn⟩ := hM
  have c0 := cell_of_one ((hF.block b (blk_lt HB.out) hbg).trans HB.out)
  have c1 : w1.cell? ⟨g, 9 + 2, none⟩ = some (.map (some (bs 2))) := (blk_cell hh (9 + 2)).trans rfl
  have hlk := (ht.maps 2 (by omega)).look mt hx
  have hrow := ints_R (ht.rows 2 x (by omega) hx)
  have hlen := ht.len 2 x (by omega) hx
  obtain ⟨A, c, ev⟩ := Kd.R_slice hrow
  rw [ev] at hlk hrow
  have HCL := Aside0.mk (clone_int A c (rowsG p 2 x) w1 (Kd.R_reads' hrow).2.2 (Kd.R_reads' hrow).2.1 (by omega))
  have HSZ := Aside0.mk hF.size
  clear hF hgp hh ht hrow hlen ev
  go_wp2_with (first | (go_at_call 35; refine HCL.out.mono ?_; rintro e w2 ⟨v, rfl, hR, hB2⟩) | go_in)
  go_ret
  exact ⟨_, rfl, Kd.R_lower hR HSZ.out, HM.out.below hB2, HF.out.trans (Fr.mono (Fr.of_below hB2) fun i h1 h2 => by omega)⟩
set_option maxRecDepth 100000 in
set_option maxHeartbeats 4000000 in
theorem graphSites {w : World} {g B : Nat} {p : Im} (hp : Rt p) (hg : Gr w g B p) {x : Int} (hx : Gr.wfI x) :
    Calls Try.prog 14 #[.pointer (some ⟨g, 0, none⟩), .int .i64 x] w (RowPost w g B p (sitesL p x)) := by
  have hbl := below_alloc (Below.refl w.heap.size w) (.cells #[.pointer (some ⟨g, 0, none⟩)] 29)
  have HR := Aside0.mk (rowSites hp (hg.below hbl) (blk_new w (.cells #[.pointer (some ⟨g, 0, none⟩)] 29)) hx)
  have HF := Aside0.mk (Fr.mono (Fr.of_below hbl) (S' := fun i => i = g) fun i h1 h2 => by omega)
  have HSZ := Aside0.mk hbl.size
  have hmf : ∀ (fn : Fn) (first cap : Array Value) (w : World), (Instr.makeFunc fn first cap).run Try.prog w = .ok (.func fn first cap) w := fun _ _ _ _ => rfl
  clear hg hbl
  go_enter Try.func14, Try.ntmps14
  go_wp2_with fail
  refine HR.out.mono ?_
  rintro e w2 ⟨v, rfl, hR, hM, hF⟩
  have HRR := Aside0.mk hR
  have HM := Aside0.mk hM
  have HF2 := Aside0.mk hF
  clear hR hM hF
  go_wp2
  go_ret
  exact ⟨_, rfl, Kd.R_lower HRR.out HSZ.out, HM.out, HF.out.trans HF2.out⟩
set_option maxRecDepth 100000 in
set_option maxHeartbeats 4000000 in
theorem rowBacks {w : World} {g B b : Nat} {p : Im} (hp : Rt p) (hg : Gr w g B p) (hb : w.heap[b]? = some (.cells #[.pointer (some ⟨g, 0, none⟩)] 29 (0, 0))) {x : Int} (hx : Gr.wfI x) :
    Calls Try.prog 23 #[.pointer (some ⟨g, 0, none⟩), .func (.func 27) #[] #[.pointer (some ⟨b, 0, none⟩)], .int .i64 x] w (RowPost w g B p (backsL p x)) := by
  have HDO := Aside0.mk (do_calls hp hg)
  have HLT := Aside0.mk hg.lt
  have hbg : b ≠ g := fun e => by
    obtain ⟨c, hc⟩ := hg.typed
    rw [e, hc] at hb
    injection hb with hb
    injection hb with _ hb
    exact absurd hb (by decide)
  have HB := Aside0.mk hb
  have hmf : ∀ (fn : Fn) (first cap : Array Value) (w : World), (Instr.makeFunc fn first cap).run Try.prog w = .ok (.func fn first cap) w := fun _ _ _ _ => rfl
  clear hg hb
  go_enter Try.func23, Try.ntmps23
  go_wp2_with fail
  refine HDO.out.mono ?_
  rintro e w1 ⟨rfl, hM, hF⟩
  have HM := Aside0.mk hM
  have HF := Aside0.mk hF
  obtain ⟨_, dv, fv, cv, bs, n, V, hgp, hh, ht, hn⟩ := hM
  have c0 := cell_of_one ((hF.block b (blk_lt HB.out) hbg).trans HB.out)
  have c1 : w1.cell? ⟨g, 9 + 3, none⟩ = some (.map (some (bs 3))) := (blk_cell hh (9 + 3)).trans rfl
  have hlk := (ht.maps 3 (by omega)).look mt hx
  have hrow := ints_R (ht.rows 3 x (by omega) hx)
  have hlen := ht.len 3 x (by omega) hx
  obtain ⟨A, c, ev⟩ := Kd.R_slice hrow
  rw [ev] at hlk hrow
  have HCL := Aside0.mk (clone_int A c (rowsG p 3 x) w1 (Kd.R_reads' hrow).2.2 (Kd.R_reads' hrow).2.1 (by omega))
  have HSZ := Aside0.mk hF.size
  clear hF hgp hh ht hrow hlen ev
  go_wp2_with (first | (go_at_call 35; refine HCL.out.mono ?_; rintro e w2 ⟨v, rfl, hR, hB2⟩) | go_in)
  go_ret
  exact ⟨_, rfl, Kd.R_lower hR HSZ.out, HM.out.below hB2, HF.out.trans (Fr.mono (Fr.of_below hB2) fun i h1 h2 => by omega)⟩
set_option maxRecDepth 100000 in
set_option maxHeartbeats 4000000 in
theorem graphBacks {w : World} {g B : Nat} {p : Im} (hp : Rt p) (hg : Gr w g B p) {x : Int} (hx : Gr.wfI x) :
    Calls Try.prog 15 #[.pointer (some ⟨g, 0, none⟩), .int .i64 x] w (RowPost w g B p (backsL p x)) := by
  have hbl := below_alloc (Below.refl w.heap.size w) (.cells #[.pointer (some ⟨g, 0, none⟩)] 29)
  have HR := Aside0.mk (rowBacks hp (hg.below hbl) (blk_new w (.cells #[.pointer (some ⟨g, 0, none⟩)] 29)) hx)
  have HF := Aside0.mk (Fr.mono (Fr.of_below hbl) (S' := fun i => i = g) fun i h1 h2 => by omega)
  have HSZ := Aside0.mk hbl.size
  have hmf : ∀ (fn : Fn) (first cap : Array Value) (w : World), (Instr.makeFunc fn first cap).run Try.prog w = .ok (.func fn first cap) w := fun _ _ _ _ => rfl
  clear hg hbl
  go_enter Try.func15, Try.ntmps15
  go_wp2_with fail
  refine HR.out.mono ?_
  rintro e w2 ⟨v, rfl, hR, hM, hF⟩
  have HRR := Aside0.mk hR
  have HM := Aside0.mk hM
  have HF2 := Aside0.mk hF
  clear hR hM hF
  go_wp2
  go_ret
  exact ⟨_, rfl, Kd.R_lower HRR.out HSZ.out, HM.out, HF.out.trans HF2.out⟩
end Go.Proofs.Ytcbnhfnnjkkceaa.X
end
section
set_option linter.unusedSectionVars false
set_option linter.unusedVariables false
set_option linter.unusedSimpArgs false
namespace Go.Proofs.Ytcbnhfnnjkkceaa.X
open Go.RowKit Go.Proofs.YtcbnhfnnjkkceaaW.PrintWords Go.Proofs.Ytcbnhfnnjkkceaa.Gr
theorem kept_some (k : Nat) (a b c d e x : Int) : ∃ r, code_kept.f (k + 2) a b c d e x = some r := by
  unfold code_kept.f
  split <;> (rw [code_kept.j0]; split <;> (rw [code_kept.j1]; split <;> split <;> exact ⟨_, rfl⟩))
theorem reg_some (a : Int) : ∃ b, code_register.f a = some b := by
  unfold code_register.f
  split <;> exact ⟨_, rfl⟩
theorem wrong_j3 (k : Nat) (x57 : Bool) (a b c d e a' b' c' d' e' : Int) : ∃ r, code_wrong.j3 (k + 1) x57 a b c d e a' b' c' d' e' = some r := by
  rw [code_wrong.j3]
  split
  · exact ⟨_, rfl⟩
  · split <;> exact ⟨_, rfl⟩
theorem wrong_j2 (k : Nat) (x3 : Int) (x5 x45 : Bool) (a b c d e a' b' c' d' e' : Int) : ∃ r, code_wrong.j2 (k + 2) x3 x5 x45 a b c d e a' b' c' d' e' = some r := by
  rw [code_wrong.j2]
  obtain ⟨t, ht⟩ := reg_some d
  rw [ht]
  simp only [Option.bind_some]
  repeat' split
  all_goals first | exact ⟨_, rfl⟩ | exact wrong_j3 k _ _ _ _ _ _ _ _ _ _ _
theorem wrong_j1 (k : Nat) (x3 : Int) (x5 x33 : Bool) (a b c d e a' b' c' d' e' : Int) : ∃ r, code_wrong.j1 (k + 3) x3 x5 x33 a b c d e a' b' c' d' e' = some r := by
  rw [code_wrong.j1]
  obtain ⟨t, ht⟩ := reg_some c
  rw [ht]
  simp only [Option.bind_some]
  repeat' split
  all_goals first | exact ⟨_, rfl⟩ | exact wrong_j2 k _ _ _ _ _ _ _ _ _ _ _ _ _
theorem wrong_j0 (k : Nat) (x3 : Int) (x5 : Bool) (a b c d e a' b' c' d' e' : Int) : ∃ r, code_wrong.j0 (k + 4) x3 x5 a b c d e a' b' c' d' e' = some r := by
  rw [code_wrong.j0]
  obtain ⟨t, ht⟩ := reg_some b
  rw [ht]
  simp only [Option.bind_some]
  repeat' split
  all_goals exact wrong_j1 k _ _ _ _ _ _ _ _ _ _ _ _ _
theorem forms_some : ∃ l, code_forms.f = some l ∧ l.length = 26 := ⟨_, rfl, rfl⟩
theorem wrong_some (k : Nat) (a b c d e : Int) (h0 : 0 ≤ a) (h1 : a ≤ 25) : ∃ r, code_wrong.f (k + 4) a b c d e = some r := by
  obtain ⟨l, hl, hn⟩ := forms_some
  unfold code_wrong.f
  rw [hl, Option.bind_some, if_pos h0, if_pos (by rw [hn]; omega)]
  obtain ⟨t, ht⟩ := kept_some (k + 2) a b c d e ((rd_T90 l a).f1)
  rw [ht, Option.bind_some]
  repeat' split
  all_goals exact wrong_j0 k _ _ _ _ _ _ _ _ _ _ _ _
theorem put_l0 : ∀ (n k : Nat) (x4 : List Int) (a b c d e : Int), n ≤ 8 → n < k → x4.length + n ≤ 100 → ∃ r, code_Put.l0 k x4 (8 * (n : Int) - 8) a b c d e = some (r, 0) ∧ r.length = x4.length + n
  | 0, k, x4, a, b, c, d, e, _, hk, hx => by
    obtain ⟨k, rfl⟩ : ∃ j, k = j + 1 := ⟨k - 1, by omega⟩
    rw [code_Put.l0, if_neg (by omega)]
    exact ⟨_, rfl, rfl⟩
  | n + 1, k, x4, a, b, c, d, e, hn, hk, hx => by
    obtain ⟨k, rfl⟩ : ∃ j, k = j + 1 := ⟨k - 1, by omega⟩
    rw [code_Put.l0, if_pos (by omega), if_pos (by omega), if_pos (by omega), show wrap64 (8 * ((n + 1 : Nat) : Int) - 8 - 8) = 8 * (n : Int) - 8 by unfold wrap64; omega]
    obtain ⟨r, hr, hl⟩ := put_l0 n k (x4 ++ [(shr .u64 e (8 * ((n + 1 : Nat) : Int) - 8)) % 256]) a b c d e (by omega) (by omega) (by simp; omega)
    exact ⟨r, hr, by rw [hl]; simp; omega⟩
/-- code.Put answers, and so much. -/
theorem put_some (a b c d e : Int) : ∃ r er, code_Put.f 20 a b c d e = some (r, er) ∧ r.length ≤ 12 ∧ (er = 0 → 0 ≤ a ∧ a ≤ 25) := by
  unfold code_Put.f code_known.f
  by_cases h0 : a ≥ 0
  · rw [if_pos h0, Option.bind_some]
    by_cases h1 : a ≤ 25
    · rw [if_pos (decide_eq_true h1)]
      obtain ⟨t, ht⟩ := wrong_some 16 a b c d e h0 h1
      rw [ht, Option.bind_some]
      split
      · obtain ⟨r, hr, hl⟩ := put_l0 8 20 [a % 256, b % 256, c % 256, d % 256] a b c d e (by omega) (by omega) (by simp)
        exact ⟨r, 0, hr, by rw [hl]; simp, fun _ => ⟨h0, h1⟩⟩
      · exact ⟨_, _, rfl, by simp, fun h => by simp at h⟩
    · rw [if_neg (by simpa using h1)]
      exact ⟨_, _, rfl, by simp, fun h => by simp at h⟩
  · rw [if_neg h0, Option.bind_some]
    exact ⟨_, _, rfl, by simp, fun h => by simp at h⟩
def putV (i : In) : List Int × Int := (code_Put.f 20 i.f0 i.f1 i.f2 i.f3 i.f4).getD ([], 0)
theorem put_f (i : In) {k : Nat} (hk : 20 ≤ k) : code_Put.f k i.f0 i.f1 i.f2 i.f3 i.f4 = some (putV i) := by
  obtain ⟨r, er, h, _⟩ := put_some i.f0 i.f1 i.f2 i.f3 i.f4
  have : putV i = (r, er) := by unfold putV; rw [h]; rfl
  rw [this]
  exact at_rounds (fun k => code_Put.mono i.f0 i.f1 i.f2 i.f3 i.f4 k) hk h
theorem putV_len (i : In) : (putV i).1.length ≤ 12 := by
  obtain ⟨r, er, h, hl, _⟩ := put_some i.f0 i.f1 i.f2 i.f3 i.f4
  have : putV i = (r, er) := by unfold putV; rw [h]; rfl
  rw [this]
  exact hl
/-- The first error of a row of instructions; else one where an image doesn't flow. -/
def firstE (p : Im) : List In → Int
  | [] => if firstP (strayAt p.f4 p.f5) (placesL p.f5.length) ≥ 0 then 7 else 0
  | i :: r => if (putV i).2 = 0 then firstE p r else (putV i).2
theorem enc_l1 (p : Im) (hf : Fits p.f4 p.f5.length) : ∀ (d k x : Nat) (x4 : List Int), x + d = p.f5.length → d + 21 ≤ k → x4.length ≤ 1000 + 12 * x →
    ∃ r, image_Encode.l1 k x4 p.f5 (p.f5.length : Int) x p.f0 p.f1 p.f2 p.f3 p.f4 p.f5 = some (r, firstE p (p.f5.drop x))
  | 0, k, x, x4, hx, hk, hl => by
    obtain ⟨k, rfl⟩ : ∃ j, k = j + 1 := ⟨k - 1, by omega⟩
    rw [image_Encode.l1, if_neg (by omega)]
    unfold image_stray.f
    rw [if_pos hf, Option.bind_some, List.drop_eq_nil_of_le (by omega)]
    unfold firstE
    split <;> exact ⟨_, rfl⟩
  | d + 1, k, x, x4, hx, hk, hl => by
    obtain ⟨k, rfl⟩ : ∃ j, k = j + 1 := ⟨k - 1, by omega⟩
    have hlt : x < p.f5.length := by omega
    have h256 := hf.2.2.1
    rw [image_Encode.l1, if_pos (by omega), if_pos (by omega), if_pos (by omega), put_f _ (by omega), Option.bind_some, List.drop_eq_getElem_cons hlt]
    have e : rd_T45 p.f5 x = p.f5[x] := by
      unfold rd_T45
      simp [List.getD_eq_getElem?_getD, List.getElem?_eq_getElem hlt]
    rw [e]
    have hpl := putV_len p.f5[x]
    unfold firstE
    split
    · rw [if_pos (by omega), show wrap64 ((x : Int) + 1) = ((x + 1 : Nat) : Int) by unfold wrap64; omega]
      exact enc_l1 p hf d k (x + 1) _ (by omega) (by omega) (by rw [List.length_append]; omega)
    · exact ⟨_, rfl⟩
theorem enc_l0 (p : Im) (hf : Fits p.f4 p.f5.length) : ∀ (d k x : Nat) (x4 : List Int), x + d = p.f4.length → d + 300 ≤ k → x4.length ≤ 200 + 2 * x →
    ∃ r, image_Encode.l0 k x4 p.f4 (p.f4.length : Int) x p.f0 p.f1 p.f2 p.f3 p.f4 p.f5 = some (r, firstE p p.f5)
  | 0, k, x, x4, hx, hk, hl => by
    obtain ⟨k, rfl⟩ : ∃ j, k = j + 1 := ⟨k - 1, by omega⟩
    have h16 := hf.2.1
    have h256 := hf.2.2.1
    rw [image_Encode.l0, if_neg (by omega), Option.bind_some, if_pos (by simp; omega)]
    exact enc_l1 p hf p.f5.length k 0 _ (by omega) (by omega) (by simp; omega)
  | d + 1, k, x, x4, hx, hk, hl => by
    obtain ⟨k, rfl⟩ : ∃ j, k = j + 1 := ⟨k - 1, by omega⟩
    have h16 := hf.2.1
    rw [image_Encode.l0, if_pos (by omega), if_pos (by omega), if_pos (by omega), Option.bind_some, if_pos (by simp; omega), show wrap64 ((x : Int) + 1) = ((x + 1 : Nat) : Int) by unfold wrap64; omega]
    exact enc_l0 p hf d k (x + 1) _ (by omega) (by omega) (by simp; omega)
/-- Are all sizes so, up to the code? -/
def SizesP (p : Im) : Prop := (0 ≤ p.f0 ∧ p.f0 ≤ 64) ∧ (0 ≤ p.f1 ∧ p.f1 ≤ 16) ∧ (0 ≤ p.f2 ∧ p.f2 ≤ 16) ∧ (p.f3.length : Int) ≤ p.f0 ∧ (1 ≤ p.f4.length ∧ p.f4.length ≤ 16) ∧ rd p.f4 0 = 0 ∧
  (∀ j : Nat, j < p.f4.length - 1 → rd p.f4 j < rd p.f4 (j + 1)) ∧ wrap64 (rd p.f4 ((p.f4.length : Int) - 1) + 1) ≤ p.f5.length ∧ p.f5.length ≤ 256
theorem within_f (a lo hi : Int) : image_within.f a lo hi = some (decide (lo ≤ a ∧ a ≤ hi)) := by
  unfold image_within.f
  by_cases h : a ≥ lo
  · rw [if_pos h]
    simp [h]
  · rw [if_neg h]
    simp [h]
theorem rd_drop1 (l : List Int) (x : Nat) (h : x < l.length - 1) : rd (l.drop 1) x = rd l ((x : Int) + 1) := by
  unfold rd
  rw [show ((x : Int) + 1).toNat = x + 1 by omega, Int.toNat_natCast, List.getD_eq_getElem?_getD, List.getD_eq_getElem?_getD, List.getElem?_drop, Nat.add_comm 1 x]
theorem sizes_l0 (p : Im) (h16 : p.f4.length ≤ 16) (h1 : 1 ≤ p.f4.length) : ∀ (d k x : Nat), x + d = p.f4.length - 1 → d < k →
    ∃ b, image_sizes.l0 k (p.f4.drop 1) ((p.f4.drop 1).length : Int) x p.f0 p.f1 p.f2 p.f3 p.f4 p.f5 = some b ∧
      (b = true ↔ (∀ j : Nat, x ≤ j → j < p.f4.length - 1 → rd p.f4 j < rd p.f4 (j + 1)) ∧ wrap64 (rd p.f4 ((p.f4.length : Int) - 1) + 1) ≤ p.f5.length ∧ p.f5.length ≤ 256)
  | 0, k, x, hx, hk => by
    obtain ⟨k, rfl⟩ : ∃ j, k = j + 1 := ⟨k - 1, by omega⟩
    rw [image_sizes.l0, if_neg (by rw [List.length_drop]; omega), show wrap64 ((p.f4.length : Int) - 1) = (p.f4.length : Int) - 1 by unfold wrap64; omega, if_pos (by omega), if_pos (by omega), within_f, Option.bind_some]
    refine ⟨_, rfl, ?_⟩
    rw [decide_eq_true_eq]
    exact ⟨fun h => ⟨fun j h2 h3 => by omega, h.1, by omega⟩, fun h => ⟨h.2.1, by omega⟩⟩
  | d + 1, k, x, hx, hk => by
    obtain ⟨k, rfl⟩ : ∃ j, k = j + 1 := ⟨k - 1, by omega⟩
    rw [image_sizes.l0, if_pos (by rw [List.length_drop]; omega), if_pos (by omega), if_pos (by rw [List.length_drop]; omega), if_pos (by omega), rd_drop1 p.f4 x (by omega)]
    by_cases h : rd p.f4 ((x : Int) + 1) ≤ rd p.f4 x
    · rw [if_pos h]
      refine ⟨_, rfl, fun h2 => by simp at h2, fun h2 => ?_⟩
      have := h2.1 x (Nat.le_refl _) (by omega)
      omega
    · rw [if_neg h, show wrap64 ((x : Int) + 1) = ((x + 1 : Nat) : Int) by unfold wrap64; omega]
      obtain ⟨b, hb, hi⟩ := sizes_l0 p h16 h1 d k (x + 1) (by omega) (by omega)
      refine ⟨b, hb, hi.trans ⟨fun h2 => ⟨fun j h3 h4 => ?_, h2.2⟩, fun h2 => ⟨fun j h3 h4 => h2.1 j (by omega) h4, h2.2⟩⟩⟩
      by_cases e : j = x
      · subst e
        omega
      · exact h2.1 j (by omega) h4
theorem sizes_f (p : Im) {k : Nat} (hk : 20 ≤ k) : ∃ b, image_sizes.f k p.f0 p.f1 p.f2 p.f3 p.f4 p.f5 = some b ∧ (b = true ↔ SizesP p) := by
  obtain ⟨k, rfl⟩ : ∃ j, k = j + 1 := ⟨k - 1, by omega⟩
  have hj : image_sizes.j0 (k + 1) true p.f0 p.f1 p.f2 p.f3 p.f4 p.f5 = some false := by rw [image_sizes.j0, if_pos rfl]
  have hno : ¬ SizesP p → ∃ b, some false = some b ∧ (b = true ↔ SizesP p) := fun h => ⟨false, rfl, fun e => by simp at e, fun e => absurd e h⟩
  unfold image_sizes.f
  rw [within_f, Option.bind_some]
  by_cases c0 : 0 ≤ p.f0 ∧ p.f0 ≤ 64
  · rw [if_pos (decide_eq_true c0), within_f, Option.bind_some]
    by_cases c1 : 0 ≤ p.f1 ∧ p.f1 ≤ 16
    · rw [if_pos (decide_eq_true c1), within_f, Option.bind_some]
      by_cases c2 : 0 ≤ p.f2 ∧ p.f2 ≤ 16
      · rw [if_pos (decide_eq_true c2)]
        by_cases c3 : (p.f3.length : Int) > p.f0
        · rw [if_pos c3, hj]
          exact hno fun h => by have := h.2.2.2.1; omega
        · rw [if_neg c3, within_f, Option.bind_some]
          by_cases c4 : 1 ≤ (p.f4.length : Int) ∧ (p.f4.length : Int) ≤ 16
          · rw [if_pos (decide_eq_true c4), if_pos (by omega), image_sizes.j0]
            by_cases c5 : rd p.f4 0 = 0
            · rw [if_neg (by simp [c5]), if_pos (by omega)]
              obtain ⟨b, hb, hi⟩ := sizes_l0 p (by omega) (by omega) (p.f4.length - 1) k 0 (by omega) (by omega)
              refine ⟨b, hb, hi.trans ⟨fun h => ⟨c0, c1, c2, by omega, ⟨by omega, by omega⟩, c5, fun j hj => h.1 j (by omega) hj, h.2.1, h.2.2⟩, fun h => ⟨fun j _ hj => h.2.2.2.2.2.2.1 j hj, h.2.2.2.2.2.2.2.1, h.2.2.2.2.2.2.2.2⟩⟩⟩
            · rw [if_pos (by simpa using c5)]
              exact hno fun h => c5 h.2.2.2.2.2.1
          · rw [if_neg (by simpa using c4), hj]
            exact hno fun h => c4 ⟨by have := h.2.2.2.2.1.1; omega, by have := h.2.2.2.2.1.2; omega⟩
      · rw [if_neg (by simpa using c2), hj]
        exact hno fun h => c2 h.2.2.1
    · rw [if_neg (by simpa using c1), hj]
      exact hno fun h => c1 h.2.1
  · rw [if_neg (by simpa using c0), hj]
    exact hno fun h => c0 h.1
theorem SizesP.mono {p : Im} (h : SizesP p) : ∀ (d i : Nat), i + d < p.f4.length → rd p.f4 i ≤ rd p.f4 ((i + d : Nat) : Int)
  | 0, i, _ => by simp
  | d + 1, i, hi => by
    have h1 := SizesP.mono h d i (by omega)
    have h2 := h.2.2.2.2.2.2.1 (i + d) (by omega)
    rw [show ((i + (d + 1) : Nat) : Int) = ((i + d : Nat) : Int) + 1 by omega]
    omega
/-- An image's beginnings of functions are whole numbers of 64 bits. -/
def wfF (p : Im) : Prop := ∀ z ∈ p.f4, -9223372036854775808 ≤ z ∧ z ≤ 9223372036854775807
theorem SizesP.fits {p : Im} (h : SizesP p) (hw : wfF p) : Fits p.f4 p.f5.length := by
  refine ⟨h.2.2.2.2.1.1, h.2.2.2.2.1.2, h.2.2.2.2.2.2.2.2, h.2.2.2.2.2.1, fun j hj => ⟨?_, ?_⟩⟩
  · have := SizesP.mono h j 0 (by omega)
    rw [Nat.zero_add] at this
    have h0 := h.2.2.2.2.2.1
    simp only [Int.natCast_zero] at this
    omega
  · have : rd p.f4 j ∈ p.f4 := by
      unfold rd
      rw [Int.toNat_natCast, List.getD_eq_getElem?_getD, List.getElem?_eq_getElem hj]
      exact List.getElem_mem hj
    exact (hw _ this).2
open Classical in
/-- What image.Encode answers. -/
noncomputable def encV (p : Im) : Int := if SizesP p then firstE p p.f5 else 3
theorem enc_f (p : Im) (hw : wfF p) : ∃ r, image_Encode.f 700 p.f0 p.f1 p.f2 p.f3 p.f4 p.f5 = some (r, encV p) := by
  obtain ⟨b, hb, hi⟩ := sizes_f p (k := 700) (by omega)
  unfold image_Encode.f encV
  rw [hb, Option.bind_some]
  by_cases h : SizesP p
  · rw [if_pos (hi.2 h), if_pos h, Option.bind_some, Option.bind_some]
    have h3 : p.f3.length ≤ 64 := by have := h.1; have := h.2.2.2.1; omega
    rw [if_pos (by simp), Option.bind_some, if_pos (by simp; omega), Option.bind_some, Option.bind_some, if_pos (by simp; omega)]
    have := h.2.2.2.2.1
    exact enc_l0 p (h.fits hw) p.f4.length 700 0 _ (by omega) (by omega) (by simp; omega)
  · rw [if_neg (fun e => h (hi.1 e)), if_neg h]
    exact ⟨_, rfl⟩
theorem firstP_none {α : Type} (q : α → Bool) : ∀ l : List α, firstP q l < 0 → ∀ x ∈ l, q x = false
  | [], _, x, hx => by simp at hx
  | c :: r, h, x, hx => by
    unfold firstP at h
    by_cases hc : q c = true
    · rw [if_pos hc] at h
      omega
    · rw [if_neg hc] at h
      by_cases hr : firstP q r < 0
      · rcases List.mem_cons.1 hx with e | e
        · rw [e]
          simpa using hc
        · exact firstP_none q r hr x e
      · rw [if_neg hr] at h
        omega
theorem firstP_some {α : Type} (q : α → Bool) : ∀ l : List α, (∀ x ∈ l, q x = false) → firstP q l < 0
  | [], _ => by simp [firstP]
  | c :: r, h => by
    unfold firstP
    rw [if_neg (by simp [h c (by simp)]), if_pos (firstP_some q r fun x hx => h x (List.mem_cons_of_mem _ hx))]
    omega
theorem firstE_zero {p : Im} : ∀ {l : List In}, firstE p l = 0 ↔ (∀ i ∈ l, (putV i).2 = 0) ∧ ∀ x ∈ placesL p.f5.length, strayAt p.f4 p.f5 x = false
  | [] => by
    unfold firstE
    constructor
    · intro h
      split at h
      · omega
      · rename_i h1
        exact ⟨by simp, firstP_none _ _ (by omega)⟩
    · intro h
      rw [if_neg]
      have := firstP_some _ _ h.2
      omega
  | i :: r => by
    unfold firstE
    constructor
    · intro h
      split at h
      · rename_i h1
        have := (firstE_zero (l := r)).1 h
        exact ⟨fun j hj => (List.mem_cons.1 hj).elim (fun e => e ▸ h1) (this.1 j), this.2⟩
      · rename_i h1
        exact absurd h h1
    · intro h
      rw [if_pos (h.1 i (by simp))]
      exact (firstE_zero (l := r)).2 ⟨fun j hj => h.1 j (List.mem_cons_of_mem _ hj), h.2⟩
theorem encV_zero {p : Im} : encV p = 0 ↔ SizesP p ∧ (∀ i ∈ p.f5, (putV i).2 = 0) ∧ ∀ x ∈ placesL p.f5.length, strayAt p.f4 p.f5 x = false := by
  unfold encV
  by_cases h : SizesP p
  · rw [if_pos h, firstE_zero]
    exact ⟨fun h2 => ⟨h, h2⟩, fun h2 => h2.2⟩
  · rw [if_neg h]
    exact ⟨fun h2 => by omega, fun h2 => absurd h2.1 h⟩
/-- .. and an instruction's number is one of 64 bits. -/
def wfP (p : Im) : Prop := wfF p ∧ ∀ i ∈ p.f5, 0 ≤ i.f4
theorem rdI_mem {l : List In} {x : Int} (h0 : 0 ≤ x) (h1 : x < l.length) : rd_T45 l x ∈ l := by
  unfold rd_T45
  rw [List.getD_eq_getElem?_getD, List.getElem?_eq_getElem (by omega)]
  exact List.getElem_mem _
theorem encV_rt {p : Im} (hw : wfP p) (h : encV p = 0) : Rt p := by
  obtain ⟨hs, hp, hst⟩ := encV_zero.1 h
  have hf := hs.fits hw.1
  refine ⟨hf, fun x h0 h1 ho => ?_, fun x h0 h1 ho => ?_⟩
  · have := hst x (mem_placesL.2 ⟨h0, h1⟩)
    unfold strayAt strayI at this
    rw [Bool.or_eq_false_iff] at this
    have h2 := this.2
    rw [if_pos ho] at h2
    simp only [Bool.or_eq_false_iff, decide_eq_false_iff_not] at h2
    have hfp := funP_in hf h0 h1
    have hlo := rd_fits hf hfp.1 hfp.2
    have hhi := hiP_fits hf hfp.1
    unfold loP at h2
    show 0 ≤ (rd_T45 p.f5 x).f4 ∧ (rd_T45 p.f5 x).f4 ≤ 9223372036854775807
    omega
  · have := hst x (mem_placesL.2 ⟨h0, h1⟩)
    unfold strayAt strayI at this
    rw [Bool.or_eq_false_iff] at this
    have h2 := this.2
    have ho' : (rd_T45 p.f5 x).f0 = 23 := ho
    rw [if_neg (by rw [ho']; decide), if_pos ho'] at h2
    simp only [decide_eq_false_iff_not] at h2
    have := hw.2 _ (rdI_mem h0 h1)
    show 0 ≤ (rd_T45 p.f5 x).f4 ∧ (rd_T45 p.f5 x).f4 < _
    omega
end Go.Proofs.Ytcbnhfnnjkkceaa.X
end
section
set_option linter.unusedVariables false
set_option linter.unusedSimpArgs false
namespace Go.Proofs.Ytcbnhfnnjkkceaa.X
open Go.RowKit Go.Proofs.YtcbnhfnnjkkceaaW.PrintWords Go.Proofs.YtcbnhfnnjkkceaaW.PrintLast Go.Proofs.YtcbnhfnnjkkceaaW.PrintMore Go.Proofs.Ytcbnhfnnjkkceaa.Gr
theorem ints_l0 (a b : List Int) (hl : a.length = b.length) (hs : a.length < 4611686018427387904) : ∀ (d k j : Nat), j + d = a.length → d < k → backreachref03_Ints.l0 k a b j = some (a.drop j == b.drop j)
  | 0, k, j, hj, hk => by
    obtain ⟨k, rfl⟩ : ∃ n, k = n + 1 := ⟨k - 1, by omega⟩
    rw [backreachref03_Ints.l0, if_neg (by omega), List.drop_eq_nil_of_le (by omega), List.drop_eq_nil_of_le (by omega)]
    rfl
  | d + 1, k, j, hj, hk => by
    obtain ⟨k, rfl⟩ : ∃ n, k = n + 1 := ⟨k - 1, by omega⟩
    have hlt : j < a.length := by omega
    have hlb : j < b.length := by omega
    have e : rd a (j : Int) = a[j] := by unfold rd; simp [List.getD_eq_getElem?_getD, List.getElem?_eq_getElem hlt]
    have e' : rd b (j : Int) = b[j] := by unfold rd; simp [List.getD_eq_getElem?_getD, List.getElem?_eq_getElem hlb]
    rw [backreachref03_Ints.l0, if_pos (by omega), if_pos (by omega), if_pos (by omega), List.drop_eq_getElem_cons hlt, List.drop_eq_getElem_cons hlb, e, e', show (a[j] :: a.drop (j + 1) == b[j] :: b.drop (j + 1)) = (a[j] == b[j] && a.drop (j + 1) == b.drop (j + 1)) from rfl]
    by_cases h : a[j] = b[j]
    · rw [if_pos h, beq_iff_eq.2 h, Bool.true_and, show wrap64 ((j : Int) + 1) = ((j + 1 : Nat) : Int) by unfold wrap64; omega, ints_l0 a b hl hs d k (j + 1) (by omega) (by omega)]
    · rw [if_neg h, beq_eq_false_iff_ne.2 h, Bool.false_and]
theorem ints_f (a b : List Int) (hs : a.length < 4611686018427387904) : backreachref03_Ints.f (a.length + 1) a b = some (a == b) := by
  unfold backreachref03_Ints.f
  by_cases hl : a.length = b.length
  · rw [if_pos (by omega)]
    have := ints_l0 a b hl hs a.length (a.length + 1) 0 (by omega) (by omega)
    simpa using this
  · rw [if_neg (by omega)]
    congr 1
    symm
    rw [beq_eq_false_iff_ne]
    exact fun e => hl (by rw [e])
/-- graph.New. -/
theorem new_no' (p : Im) (A3 : Option Addr) (c3 : Nat) (A4 : Option Addr) (c4 : Nat) (A5 : Option Addr) (c5 : Nat) (w : World)
    (hr3 : Kd.C (Kd.int .u8) w A3 p.f3.length p.f3) (hc3 : p.f3.length ≤ c3) (hr4 : Kd.C (Kd.int .i64) w A4 p.f4.length p.f4) (hc4 : p.f4.length ≤ c4) (hr5 : Kd.C k45 w A5 p.f5.length p.f5) (hc5 : p.f5.length ≤ c5)
    (hw : wfP p) (h0 : encV p ≠ 0) :
    Calls Try.prog 10 #[.agg #[.int .i64 p.f0, .int .i64 p.f1, .int .i64 p.f2, .slice A3 p.f3.length c3, .slice A4 p.f4.length c4, .slice A5 p.f5.length c5]] w fun e w' => e = .returned (.tuple #[.pointer none, .int .i64 (encV p)]) ∧ Below w.heap.size w w' := by
  obtain ⟨r, hr⟩ := enc_f p hw.1
  exact new_no p A3 c3 A4 c4 A5 c5 w 700 r (encV p) hr3 hc3 hr4 hc4 hr5 hc5 hr h0
theorem new_yes' (p : Im) (A3 : Option Addr) (c3 : Nat) (A4 : Option Addr) (c4 : Nat) (A5 : Option Addr) (c5 : Nat) (w : World)
    (hr3 : Kd.C (Kd.int .u8) w A3 p.f3.length p.f3) (hc3 : p.f3.length ≤ c3) (hr4 : Kd.C (Kd.int .i64) w A4 p.f4.length p.f4) (hc4 : p.f4.length ≤ c4) (hr5 : Kd.C k45 w A5 p.f5.length p.f5) (hc5 : p.f5.length ≤ c5)
    (hw : wfP p) (h0 : encV p = 0) :
    Calls Try.prog 10 #[.agg #[.int .i64 p.f0, .int .i64 p.f1, .int .i64 p.f2, .slice A3 p.f3.length c3, .slice A4 p.f4.length c4, .slice A5 p.f5.length c5]] w fun e w' => ∃ g, e = .returned (.tuple #[.pointer (some ⟨g, 0, none⟩), .int .i64 0]) ∧ Gr w' g w.heap.size p ∧ Below w.heap.size w w' := by
  obtain ⟨r, hr⟩ := enc_f p hw.1
  rw [h0] at hr
  have hs := (encV_zero.1 h0).1
  exact new_yes p A3 c3 A4 c4 A5 c5 w 700 r hr3 hc3 hr4 hc4 hr5 hc5 (by have := hs.1; have := hs.2.2.2.1; omega) (by have := hs.2.2.2.2.1; omega) (by have := hs.2.2.2.2.2.2.2.2; omega) hr
/-- The document's example. -/
def p20 : Im := ⟨0, 1, 0, [], [0, 2], [⟨23, 0, 0, 0, 1⟩, ⟨0, 0, 0, 0, 0⟩, ⟨24, 0, 0, 0, 0⟩]⟩
theorem p20_wf : wfP p20 := ⟨by unfold wfF p20; decide, by unfold p20; decide⟩
theorem p20_enc : encV p20 = 0 := encV_zero.2 ⟨by unfold SizesP p20; decide +kernel, by unfold p20; decide +kernel, by unfold p20; decide +kernel⟩
theorem p20_next : nextL p20 0 = [2] ∧ nextL p20 2 = [1] ∧ nextL p20 1 = [] ∧ prevL p20 2 = [0] := by decide +kernel
/-- A row just laid. -/
theorem cell_add (w : World) (b n : Nat) : w.cell? ((⟨b, 0, none⟩ : Addr).add n) = w.cell? ⟨b, n, none⟩ := by
  unfold Addr.add
  split
  · rename_i h
    rw [h]
  · simp
theorem C_lit {α : Type} (d : Kd α) {w : World} {b : Nat} {cs : Array Value} {t : TypeId} (hb : w.heap[b]? = some (.cells cs t (0, 0))) (xs : List α) (hl : xs.length ≤ 1000)
    (h : ∀ j p, xs[j]? = some p → ∃ c, c.length = d.sz ∧ d.K w p c ∧ ∀ i u, c[i]? = some u → cs[j * d.sz + i]? = some u) : d.C w (some ⟨b, 0, none⟩) xs.length xs :=
  ⟨rfl, by omega, fun _ => ⟨_, rfl, fun j p hj => by
    obtain ⟨c, h1, h2, h3⟩ := h j p hj
    exact ⟨c, h1, h2, fun i u hu => by rw [cell_add]; exact (blk_cell hb _).trans (h3 i u hu)⟩⟩⟩
theorem ints_lit {w : World} {b : Nat} {t : TypeId} (xs : List Int) (hl : xs.length ≤ 1000) (hb : w.heap[b]? = some (.cells (xs.map (Value.int .i64)).toArray t (0, 0))) : Kd.C (Kd.int .i64) w (some ⟨b, 0, none⟩) xs.length xs :=
  C_lit _ hb xs hl fun j p hj => ⟨[.int .i64 p], rfl, rfl, fun i u hu => by
    rcases i with _ | i
    · show (xs.map (Value.int .i64)).toArray[j * 1 + 0]? = _
      rw [Nat.mul_one, Nat.add_zero, List.getElem?_toArray, List.getElem?_map, hj]
      exact hu
    · simp at hu⟩
theorem code20_lit {w : World} {b : Nat} (hb : w.heap[b]? = some (.cells #[.int .i64 23, .int .i64 0, .int .i64 0, .int .i64 0, .int .u64 1, .int .i64 0, .int .i64 0, .int .i64 0, .int .i64 0, .int .u64 0, .int .i64 24, .int .i64 0, .int .i64 0, .int .i64 0, .int .u64 0] 45 (0, 0))) :
    Kd.C k45 w (some ⟨b, 0, none⟩) p20.f5.length p20.f5 :=
  C_lit _ hb p20.f5 (by decide) fun j p hj => by
    rcases j with _ | _ | _ | j
    · obtain rfl : (⟨23, 0, 0, 0, 1⟩ : In) = p := by simpa [p20] using hj
      exact ⟨_, rfl, k45_mk w _, fun i u hu => by rcases i with _ | _ | _ | _ | _ | i <;> first | exact hu | simp at hu⟩
    · obtain rfl : (⟨0, 0, 0, 0, 0⟩ : In) = p := by simpa [p20] using hj
      exact ⟨_, rfl, k45_mk w _, fun i u hu => by rcases i with _ | _ | _ | _ | _ | i <;> first | exact hu | simp at hu⟩
    · obtain rfl : (⟨24, 0, 0, 0, 0⟩ : In) = p := by simpa [p20] using hj
      exact ⟨_, rfl, k45_mk w _, fun i u hu => by rcases i with _ | _ | _ | _ | _ | i <;> first | exact hu | simp at hu⟩
    · simp [p20] at hj
theorem p20_rt : Rt p20 := encV_rt p20_wf p20_enc
theorem ints_calls {a b : List Int} {A B : Option Addr} {cA cB : Nat} {w : World} (r : Bool) (hA : Kd.C (Kd.int .i64) w A a.length a) (hcA : a.length ≤ cA) (hB : Kd.C (Kd.int .i64) w B b.length b) (hcB : b.length ≤ cB) (hs : a.length ≤ 1000000) (hr : (a == b) = r) :
    Calls Try.prog 16 #[.slice A a.length cA, .slice B b.length cB] w fun e w' => e = .returned (.bool r) ∧ Drawn0 w w' :=
  backreachref03_Ints.calls (a.length + 1) A cA a B cB b r w hA hcA hB hcB (by rw [ints_f a b (by omega), hr])
theorem fr_below {w0 w w' : World} {g B : Nat} (h : Fr w w' (fun i => i = g)) (hb : Below B w0 w) (hB : B ≤ w.heap.size) (hg : B ≤ g) : Below B w0 w' := h.below hb hB fun i hi => by omega
set_option maxRecDepth 100000 in
set_option maxHeartbeats 8000000 in
theorem awake20_calls (w : World) : Calls Try.prog 8 #[] w fun e w' => e = .returned (.bool true) ∧ Below w.heap.size w w' := by
  have hb1 := below_alloc (Below.refl w.heap.size w) (Obj.cells #[.int .i64 0, .int .i64 2] 3)
  have hb2 := below_alloc hb1 (Obj.cells #[.int .i64 23, .int .i64 0, .int .i64 0, .int .i64 0, .int .u64 1, .int .i64 0, .int .i64 0, .int .i64 0, .int .i64 0, .int .u64 0, .int .i64 24, .int .i64 0, .int .i64 0, .int .i64 0, .int .u64 0] 45)
  have hf := blk_alloc (blk_new w (Obj.cells #[.int .i64 0, .int .i64 2] 3)) (Obj.cells #[.int .i64 23, .int .i64 0, .int .i64 0, .int .i64 0, .int .u64 1, .int .i64 0, .int .i64 0, .int .i64 0, .int .i64 0, .int .u64 0, .int .i64 24, .int .i64 0, .int .i64 0, .int .i64 0, .int .u64 0] 45)
  have hc := blk_new (w.alloc (Obj.cells #[.int .i64 0, .int .i64 2] 3)) (Obj.cells #[.int .i64 23, .int .i64 0, .int .i64 0, .int .i64 0, .int .u64 1, .int .i64 0, .int .i64 0, .int .i64 0, .int .i64 0, .int .u64 0, .int .i64 24, .int .i64 0, .int .i64 0, .int .i64 0, .int .u64 0] 45)
  rw [show (w.alloc (Obj.cells #[.int .i64 0, .int .i64 2] 3)).heap.size = w.heap.size + 1 by show (w.heap.push _).size = _; simp] at hc
  have HNEW := Aside0.mk (new_yes' p20 none 0 (some ⟨w.heap.size, 0, none⟩) 2 (some ⟨w.heap.size + 1, 0, none⟩) 3 _ (Kd.C_nil (Kd.int .u8) _) (by decide) (ints_lit [0, 2] (by decide) hf) (by decide) (code20_lit hc) (by decide) p20_wf p20_enc)
  have HB := Aside0.mk hb2
  clear hb1 hb2 hf hc
  go_enter Try.func8, Try.ntmps8
  go_wp2_with fail
  refine HNEW.out.mono ?_
  rintro e w0 ⟨g, rfl, hG, hB⟩
  have HG := Aside0.mk hG
  have HLG : Aside0 (w.heap.size ≤ g) := ⟨Nat.le_trans HB.out.size hG.1⟩
  have HBw := Aside0.mk (below_then HB.out HB.out.size hB)
  obtain ⟨BB, hBB⟩ : ∃ n, (w.alloc (Obj.cells #[.int .i64 0, .int .i64 2] 3)).alloc (Obj.cells #[.int .i64 23, .int .i64 0, .int .i64 0, .int .i64 0, .int .u64 1, .int .i64 0, .int .i64 0, .int .i64 0, .int .i64 0, .int .u64 0, .int .i64 24, .int .i64 0, .int .i64 0, .int .i64 0, .int .u64 0] 45) = n := ⟨_, rfl⟩
  rw [hBB] at HG
  clear hG hB hBB HNEW HB
  have HROW := Aside0.mk (graphNext p20_rt HG.out (x := 0) (Gr.wfI_of (by omega)))
  go_wp2_with fail
  refine HROW.out.mono ?_
  rintro e w1' ⟨v, rfl, hR, hM, hF⟩
  have HGn := Aside0.mk hM.gr
  have HBn := Aside0.mk (fr_below hF HBw.out HBw.out.size HLG.out)
  clear HG HBw HROW
  have HG := HGn
  have HBw := HBn
  clear HGn HBn
  rw [p20_next.1] at hR
  obtain ⟨A, c, rfl⟩ := Kd.R_slice hR
  have HI := Aside0.mk (ints_calls true (Kd.C_below (Kd.R_reads' hR).2.2 (below_alloc (Below.refl _ _) (Obj.cells #[.int .i64 2] 3))) (Kd.R_reads' hR).2.1 (ints_lit [2] (by decide) (blk_new w1' (Obj.cells #[.int .i64 2] 3))) (Nat.le_refl 1) (by decide) (by decide))
  clear hR hM hF
  go_wp2_with fail
  refine HI.out.mono ?_
  rintro e w' ⟨rfl, nd, rfl⟩
  have HGn := Aside0.mk (HG.out.below (below_drewN (below_alloc (Below.refl _ _) (Obj.cells #[.int .i64 2] 3)) nd))
  have HBn := Aside0.mk (below_drewN (below_alloc HBw.out (Obj.cells #[.int .i64 2] 3)) nd)
  clear HG HBw HI
  have HG := HGn
  have HBw := HBn
  generalize (w1'.alloc (Obj.cells #[.int .i64 2] 3)).drewN nd = w1 at HG HBw ⊢
  clear HGn HBn
  have HROW := Aside0.mk (graphNext p20_rt HG.out (x := 2) (Gr.wfI_of (by omega)))
  go_wp2_with fail
  refine HROW.out.mono ?_
  rintro e w2' ⟨v, rfl, hR, hM, hF⟩
  have HGn := Aside0.mk hM.gr
  have HBn := Aside0.mk (fr_below hF HBw.out HBw.out.size HLG.out)
  clear HG HBw HROW
  have HG := HGn
  have HBw := HBn
  clear HGn HBn
  rw [p20_next.2.1] at hR
  obtain ⟨A, c, rfl⟩ := Kd.R_slice hR
  have HI := Aside0.mk (ints_calls true (Kd.C_below (Kd.R_reads' hR).2.2 (below_alloc (Below.refl _ _) (Obj.cells #[.int .i64 1] 3))) (Kd.R_reads' hR).2.1 (ints_lit [1] (by decide) (blk_new w2' (Obj.cells #[.int .i64 1] 3))) (Nat.le_refl 1) (by decide) (by decide))
  clear hR hM hF
  go_wp2_with fail
  refine HI.out.mono ?_
  rintro e w' ⟨rfl, nd, rfl⟩
  have HGn := Aside0.mk (HG.out.below (below_drewN (below_alloc (Below.refl _ _) (Obj.cells #[.int .i64 1] 3)) nd))
  have HBn := Aside0.mk (below_drewN (below_alloc HBw.out (Obj.cells #[.int .i64 1] 3)) nd)
  clear HG HBw HI
  have HG := HGn
  have HBw := HBn
  generalize (w2'.alloc (Obj.cells #[.int .i64 1] 3)).drewN nd = w2 at HG HBw ⊢
  clear HGn HBn
  have HROW := Aside0.mk (graphNext p20_rt HG.out (x := 1) (Gr.wfI_of (by omega)))
  go_wp2_with fail
  refine HROW.out.mono ?_
  rintro e w3' ⟨v, rfl, hR, hM, hF⟩
  have HGn := Aside0.mk hM.gr
  have HBn := Aside0.mk (fr_below hF HBw.out HBw.out.size HLG.out)
  clear HG HBw HROW
  have HG := HGn
  have HBw := HBn
  clear HGn HBn
  rw [p20_next.2.2.1] at hR
  obtain ⟨A, c, rfl⟩ := Kd.R_slice hR
  clear hR hM hF
  have HROW := Aside0.mk (graphPrev p20_rt HG.out (x := 2) (Gr.wfI_of (by omega)))
  go_wp2_with fail
  refine HROW.out.mono ?_
  rintro e w4' ⟨v, rfl, hR, hM, hF⟩
  have HGn := Aside0.mk hM.gr
  have HBn := Aside0.mk (fr_below hF HBw.out HBw.out.size HLG.out)
  clear HG HBw HROW
  have HG := HGn
  have HBw := HBn
  clear HGn HBn
  rw [p20_next.2.2.2] at hR
  obtain ⟨A, c, rfl⟩ := Kd.R_slice hR
  have HI := Aside0.mk (ints_calls true (Kd.C_below (Kd.R_reads' hR).2.2 (below_alloc (Below.refl _ _) (Obj.cells #[.int .i64 0] 3))) (Kd.R_reads' hR).2.1 (ints_lit [0] (by decide) (blk_new w4' (Obj.cells #[.int .i64 0] 3))) (Nat.le_refl 1) (by decide) (by decide))
  clear hR hM hF
  go_wp2_with fail
  refine HI.out.mono ?_
  rintro e w' ⟨rfl, nd, rfl⟩
  have HGn := Aside0.mk (HG.out.below (below_drewN (below_alloc (Below.refl _ _) (Obj.cells #[.int .i64 0] 3)) nd))
  have HBn := Aside0.mk (below_drewN (below_alloc HBw.out (Obj.cells #[.int .i64 0] 3)) nd)
  clear HG HBw HI
  have HG := HGn
  have HBw := HBn
  generalize (w4'.alloc (Obj.cells #[.int .i64 0] 3)).drewN nd = w4 at HG HBw ⊢
  clear HGn HBn
  go_wp2
  go_ret
  exact ⟨rfl, HBw.out⟩
end Go.Proofs.Ytcbnhfnnjkkceaa.X
end
section
set_option linter.unusedVariables false
set_option linter.unusedSimpArgs false
namespace Go.Proofs.Ytcbnhfnnjkkceaa.X
open Go.RowKit Go.Proofs.YtcbnhfnnjkkceaaW.PrintWords Go.Proofs.YtcbnhfnnjkkceaaW.PrintLast Go.Proofs.YtcbnhfnnjkkceaaW.PrintMore Go.Proofs.Ytcbnhfnnjkkceaa.Gr
theorem sites_len (p : Im) (hn : p.f5.length ≤ 256) (x : Int) : (sitesL p x).length ≤ 256 := Nat.le_trans (List.length_filter_le _ _) (by rw [placesL_length]; exact hn)
theorem backs_len (p : Im) (hn : p.f5.length ≤ 256) (x : Int) : (backsL p x).length ≤ 256 := Nat.le_trans (List.length_filter_le _ _) (by rw [placesL_length]; exact hn)
theorem few_f (p : Im) : ∃ r, backreachlaw03_Few.f p.f0 p.f1 p.f2 p.f3 p.f4 p.f5 = some r := by
  unfold backreachlaw03_Few.f
  repeat' split
  all_goals exact ⟨_, rfl⟩
end Go.Proofs.Ytcbnhfnnjkkceaa.X
end
section
set_option linter.unusedVariables false
set_option linter.constructorNameAsVariable false
set_option linter.unusedSimpArgs false
namespace Go.Proofs.Ytcbnhfnnjkkceaa.X
open Go.RowKit Go.Proofs.YtcbnhfnnjkkceaaW.PrintWords Go.Proofs.Ytcbnhfnnjkkceaa.Gr
theorem add_add (a : Addr) (i j : Nat) : (a.add i).add j = a.add (i + j) := by
  unfold Addr.add
  by_cases hi : i = 0
  · subst hi
    simp
  · rw [if_neg hi]
    by_cases hj : j = 0
    · subst hj
      simp [hi]
    · rw [if_neg hj, if_neg (by omega)]
      simp [Nat.add_assoc]
/-- A slice whose elements are read. -/
theorem open_K {α H : Type} (dk : Kd α) {enc : TypeId × Value → H} {P : Program} {W : World} {t e : TypeId} {fuel : Nat} {cs : List Value} {y : DataW H × List MemPlace} (Q : α → Prop) (ht : P.underlying t = some (.slice e)) (hc : P.cellsOf e = dk.sz)
    (hel : ∀ n cs' y, DataW.trod enc P W 0 (fun _ => true) true n e cs' = some y → ∃ x, dk.K W x cs' ∧ Q x)
    (h : DataW.trod enc P W 0 (fun _ => true) true fuel t cs = some y) :
    ∃ (A : Option Addr) (cap : Nat) (xs : List α), cs = [.slice A xs.length cap] ∧ dk.C W A xs.length xs ∧ xs.length ≤ cap ∧ ∀ x ∈ xs, Q x := by
  rcases Deep.open_slice ht h with ⟨h1, _⟩ | ⟨a, len, cap, m, n, D, Pl, h1, _, hl, hm, hmm, _, hx⟩
  · exact ⟨none, 0, [], h1, Kd.C_nil dk W, Nat.le_refl _, by simp⟩
  · have hM : maxLen ≤ 9223372036854775807 := by decide
    have hmm : m = cap := hmm
    have hex : ∀ i, i < len → ∃ x, (∃ cs', W.cells? 0 (a.add (i * dk.sz)) dk.sz = some cs' ∧ dk.K W x cs') ∧ Q x := fun i hi => by
      obtain ⟨cs', hcs, htr⟩ := hx i (by omega)
      rw [hc] at hcs
      obtain ⟨x, hk, hq⟩ := hel n cs' _ htr
      exact ⟨x, ⟨cs', hcs, hk⟩, hq⟩
    have hlist : ∀ k, k ≤ len → ∃ xs : List α, xs.length = k ∧ ∀ i x, xs[i]? = some x → (∃ cs', W.cells? 0 (a.add (i * dk.sz)) dk.sz = some cs' ∧ dk.K W x cs') ∧ Q x := by
      intro k
      induction k with
      | zero => exact fun _ => ⟨[], rfl, fun i x hi => by simp at hi⟩
      | succ k ih =>
        intro hk
        obtain ⟨xs, hxl, hxs⟩ := ih (by omega)
        obtain ⟨x, hx'⟩ := hex k (by omega)
        refine ⟨xs ++ [x], by simp [hxl], fun i z hi => ?_⟩
        by_cases e : i < k
        · rw [List.getElem?_append_left (by omega)] at hi
          exact hxs i z hi
        · rw [List.getElem?_append_right (by omega)] at hi
          have hik : i - xs.length = 0 := by
            have := (List.getElem?_eq_some_iff.1 hi).1
            simp at this
            omega
          rw [hik] at hi
          obtain rfl : x = z := by simpa using hi
          obtain rfl : i = k := by omega
          exact hx'
    obtain ⟨xs, hxl, hxs⟩ := hlist len (Nat.le_refl _)
    refine ⟨some a, cap, xs, by rw [hxl]; exact h1, ⟨rfl, by omega, fun _ => ⟨a, rfl, fun j p hj => ?_⟩⟩, by omega, fun x hx1 => ?_⟩
    · obtain ⟨⟨cs', hcs, hk⟩, _⟩ := hxs j p hj
      obtain ⟨_, hcl, hce⟩ := World.cells?_some hcs
      refine ⟨cs', hcl, hk, fun i u hu => ?_⟩
      have hi : i < dk.sz := by have := (List.getElem?_eq_some_iff.1 hu).1; omega
      rw [← add_add]
      exact (hce i hi).trans hu
    · obtain ⟨i, hi⟩ := List.getElem?_of_mem hx1
      exact (hxs i x hi).2
theorem lit_i64 {n : Int} (h : (Lit.int .i64 n).wf = true) : -9223372036854775808 ≤ n ∧ n ≤ 9223372036854775807 := by
  simpa [Lit.wf, IntKind.min, IntKind.max, IntKind.bits, IntKind.signed] using h
theorem lit_u64 {n : Int} (h : (Lit.int .u64 n).wf = true) : 0 ≤ n := by
  have : 0 ≤ n ∧ n ≤ 18446744073709551615 := by simpa [Lit.wf, IntKind.min, IntKind.max, IntKind.bits, IntKind.signed] using h
  exact this.1
theorem array6 {α : Type} {cs : Array α} (h : cs.size = 6) : ∃ c0 c1 c2 c3 c4 c5, cs = #[c0, c1, c2, c3, c4, c5] := by
  obtain ⟨l⟩ := cs
  match l, h with
  | [c0, c1, c2, c3, c4, c5], _ => exact ⟨c0, c1, c2, c3, c4, c5, rfl⟩
theorem list5 {α : Type} {cs : List α} (h : cs.length = 5) : ∃ c0 c1 c2 c3 c4, cs = [c0, c1, c2, c3, c4] := by
  match cs, h with
  | [c0, c1, c2, c3, c4], _ => exact ⟨c0, c1, c2, c3, c4, rfl⟩
theorem ci_int : Try.prog.cellsOf 3 = 1 := by kernel_rfl
theorem ci_u8 : Try.prog.cellsOf 5 = 1 := by kernel_rfl
theorem ci_u64 : Try.prog.cellsOf 43 = 1 := by kernel_rfl
theorem ci_bs : Try.prog.cellsOf 22 = 1 := by kernel_rfl
theorem ci_is : Try.prog.cellsOf 23 = 1 := by kernel_rfl
theorem ci_cs : Try.prog.cellsOf 24 = 1 := by kernel_rfl
theorem ci_ins : Try.prog.cellsOf 45 = 5 := by kernel_rfl
theorem ci_im : Try.prog.cellsOf 26 = 6 := by kernel_rfl
section
variable {H : Type} {enc : TypeId × Value → H} {W : World}
set_option maxRecDepth 100000 in
theorem el_ins (n : Nat) (cs : List Value) (y : DataW H × List MemPlace) (h : DataW.trod enc Try.prog W 0 (fun _ => true) true n 45 cs = some y) : ∃ x, k45.K W x cs ∧ 0 ≤ x.f4 := by
  obtain ⟨xs, m, _, _, hl, hn, hf⟩ := DataW.trod_struct Try.underlying45 h
  rw [ci_ins] at hl
  obtain ⟨c0, c1, c2, c3, c4, rfl⟩ := list5 hl
  match xs, hn with
  | [y0, y1, y2, y3, y4], _ =>
    have h0 := hf 0 _ rfl
    have h1 := hf 1 _ rfl
    have h2 := hf 2 _ rfl
    have h3 := hf 3 _ rfl
    have h4 := hf 4 _ rfl
    simp only [ci_int, ci_u64, List.drop_zero, List.drop_succ_cons, List.take_succ_cons, List.take_zero, List.getElem?_cons_zero, List.getElem?_cons_succ] at h0 h1 h2 h3 h4
    obtain ⟨a0, e0, _, _⟩ := DataW.trod_int Try.underlying3 h0
    obtain ⟨a1, e1, _, _⟩ := DataW.trod_int Try.underlying3 h1
    obtain ⟨a2, e2, _, _⟩ := DataW.trod_int Try.underlying3 h2
    obtain ⟨a3, e3, _, _⟩ := DataW.trod_int Try.underlying3 h3
    obtain ⟨a4, e4, _, w4⟩ := DataW.trod_int Try.underlying43 h4
    cases e0; cases e1; cases e2; cases e3; cases e4
    exact ⟨⟨a0, a1, a2, a3, a4⟩, k45_mk W _, lit_u64 w4⟩
set_option maxRecDepth 100000 in
theorem el_int (n : Nat) (cs : List Value) (y : DataW H × List MemPlace) (h : DataW.trod enc Try.prog W 0 (fun _ => true) true n 3 cs = some y) : ∃ x, (Kd.int .i64).K W x cs ∧ (-9223372036854775808 ≤ x ∧ x ≤ 9223372036854775807) := by
  obtain ⟨a, e, _, w⟩ := DataW.trod_int Try.underlying3 h
  exact ⟨a, e, lit_i64 w⟩
set_option maxRecDepth 100000 in
theorem el_u8 (n : Nat) (cs : List Value) (y : DataW H × List MemPlace) (h : DataW.trod enc Try.prog W 0 (fun _ => true) true n 5 cs = some y) : ∃ x, (Kd.int .u8).K W x cs ∧ True := by
  obtain ⟨a, e, _, w⟩ := DataW.trod_int Try.underlying5 h
  exact ⟨a, e, trivial⟩
set_option maxRecDepth 100000 in
/-- An image. -/
theorem open_image {r : Reach} {base : Nat} {v : Value} {d : DataW H} {ps : List MemPlace} (hv : Value.okWide Try.prog W r base 26 v) (h : DataW.Trod enc Try.prog W 0 (fun _ => true) true 26 v d ps) :
    ∃ (p : Im) (A3 : Option Addr) (c3 : Nat) (A4 : Option Addr) (c4 : Nat) (A5 : Option Addr) (c5 : Nat), v = .agg #[.int .i64 p.f0, .int .i64 p.f1, .int .i64 p.f2, .slice A3 p.f3.length c3, .slice A4 p.f4.length c4, .slice A5 p.f5.length c5] ∧
      Kd.C (Kd.int .u8) W A3 p.f3.length p.f3 ∧ p.f3.length ≤ c3 ∧ Kd.C (Kd.int .i64) W A4 p.f4.length p.f4 ∧ p.f4.length ≤ c4 ∧ Kd.C k45 W A5 p.f5.length p.f5 ∧ p.f5.length ≤ c5 ∧ wfP p := by
  obtain ⟨cs, rfl, hsz⟩ := Go.WideShapes.okWide_struct Try.underlying26 hv
  rw [ci_im] at hsz
  obtain ⟨x0, x1, x2, x3, x4, x5, rfl⟩ := array6 hsz
  obtain ⟨fuel, hfu⟩ := h
  obtain ⟨xs, m, _, _, hl, hn, hf⟩ := DataW.trod_struct Try.underlying26 hfu
  match xs, hn with
  | [y0, y1, y2, y3, y4, y5], _ =>
    have h0 := hf 0 _ rfl
    have h1 := hf 1 _ rfl
    have h2 := hf 2 _ rfl
    have h3 := hf 3 _ rfl
    have h4 := hf 4 _ rfl
    have h5 := hf 5 _ rfl
    simp only [Value.cells, ci_int, ci_bs, ci_is, ci_cs, List.drop_zero, List.drop_succ_cons, List.take_succ_cons, List.take_zero, List.getElem?_cons_zero, List.getElem?_cons_succ] at h0 h1 h2 h3 h4 h5
    obtain ⟨a0, e0, _, _⟩ := DataW.trod_int Try.underlying3 h0
    obtain ⟨a1, e1, _, _⟩ := DataW.trod_int Try.underlying3 h1
    obtain ⟨a2, e2, _, _⟩ := DataW.trod_int Try.underlying3 h2
    obtain ⟨A3, c3, l3, e3, hC3, hc3, _⟩ := open_K (Kd.int .u8) _ Try.underlying22 ci_u8 el_u8 h3
    obtain ⟨A4, c4, l4, e4, hC4, hc4, hw4⟩ := open_K (Kd.int .i64) _ Try.underlying23 ci_int el_int h4
    obtain ⟨A5, c5, l5, e5, hC5, hc5, hw5⟩ := open_K k45 _ Try.underlying24 ci_ins el_ins h5
    cases e0; cases e1; cases e2; cases e3; cases e4; cases e5
    exact ⟨⟨a0, a1, a2, l3, l4, l5⟩, A3, c3, A4, c4, A5, c5, rfl, hC3, hc3, hC4, hc4, hC5, hc5, hw4, hw5⟩
end
end Go.Proofs.Ytcbnhfnnjkkceaa.X
end
section
set_option linter.unusedVariables false
set_option linter.unusedSimpArgs false
namespace Go.Proofs.Ytcbnhfnnjkkceaa.X
open Go.RowKit Go.Proofs.YtcbnhfnnjkkceaaW.PrintWords Go.Proofs.YtcbnhfnnjkkceaaW.PrintLast Go.Proofs.YtcbnhfnnjkkceaaW.PrintMore Go.Proofs.Ytcbnhfnnjkkceaa.Gr
/-- A row of whole numbers is kept while a graph's block turns. -/
theorem r_gr {w w' : World} {g B base : Nat} {p : Im} {v : Value} {l : List Int} (h : Kd.R (Kd.int .i64) 3 w base (fun _ => True) v l) (hg : Gr w g B p) (hf : Fr w w' (fun i => i = g)) : Kd.R (Kd.int .i64) 3 w' base (fun _ => True) v l :=
  R_other rfl h fun k hk => by
    obtain ⟨c, hc⟩ := Kd.R_typed h k hk
    obtain ⟨c', hc'⟩ := hg.typed
    exact hf.block k (blk_lt hc) fun e => by
      rw [e, hc'] at hc
      injection hc with hc
      injection hc with _ hc
      exact absurd hc (by decide)
end Go.Proofs.Ytcbnhfnnjkkceaa.X
end
section
set_option linter.unusedVariables false
set_option linter.unusedSimpArgs false
namespace Go.Proofs.Ytcbnhfnnjkkceaa.X
open Go.RowKit Go.Proofs.YtcbnhfnnjkkceaaW.PrintWords Go.Proofs.YtcbnhfnnjkkceaaW.PrintLast Go.Proofs.YtcbnhfnnjkkceaaW.PrintMore Go.Proofs.Ytcbnhfnnjkkceaa.Gr
/-- What is so all along: a graph, and two rows of whole numbers. -/
structure Cs (n1 : Nat) (W1 : World) (g BB : Nat) (p : Im) (v1 v2 : Value) (l1 l2 : List Int) (W : World) : Prop where
  sz : n1 ≤ W.heap.size
  gr : Gr W g BB p
  bel : Below n1 W1 W
  r1 : Kd.R (Kd.int .i64) 3 W 0 (fun _ => True) v1 l1
  r2 : Kd.R (Kd.int .i64) 3 W 0 (fun _ => True) v2 l2
theorem r_below {w w' : World} {base : Nat} {v : Value} {l : List Int} (h : Kd.R (Kd.int .i64) 3 w base (fun _ => True) v l) (hb : Below w.heap.size w w') : Kd.R (Kd.int .i64) 3 w' base (fun _ => True) v l :=
  R_other rfl h fun k hk => by
    obtain ⟨c, hc⟩ := Kd.R_typed h k hk
    exact hb.block k (blk_lt hc)
section
variable {n1 g BB : Nat} {W1 W W' : World} {p : Im} {v1 v2 : Value} {l1 l2 : List Int}
theorem Cs.below (h : Cs n1 W1 g BB p v1 v2 l1 l2 W) (hb : Below W.heap.size W W') : Cs n1 W1 g BB p v1 v2 l1 l2 W' := ⟨Nat.le_trans h.sz hb.size, h.gr.below hb, below_then h.bel h.sz hb, r_below h.r1 hb, r_below h.r2 hb⟩
theorem Cs.fr (h : Cs n1 W1 g BB p v1 v2 l1 l2 W) (hm : GrM W' g BB p) (hf : Fr W W' (fun i => i = g)) (hg : n1 ≤ g) : Cs n1 W1 g BB p v1 v2 l1 l2 W' :=
  ⟨Nat.le_trans h.sz hf.size, hm.gr, fr_below hf h.bel h.sz hg, r_gr h.r1 h.gr hf, r_gr h.r2 h.gr hf⟩
end
theorem row_at {w : World} {a : Addr} {n c : Nat} {l : List Int} (h : Kd.R (Kd.int .i64) 3 w 0 (fun _ => True) (.slice (some a) n c) l) (i : Nat) (hi : i < l.length) : w.cell? (a.add i) = some (.int .i64 (rd l i)) := by
  obtain rfl := (Kd.R_reads' h).1
  obtain ⟨ad, e, hx⟩ := Kd.at_int (Kd.R_reads' h).2.2 (i : Int) (by omega) (by omega)
  cases e
  rw [Int.toNat_natCast] at hx
  exact hx
theorem rd_mem {l : List Int} {i : Nat} (hi : i < l.length) : rd l (i : Int) ∈ l := by
  unfold rd
  rw [Int.toNat_natCast, List.getD_eq_getElem?_getD, List.getElem?_eq_getElem hi]
  exact List.getElem_mem hi
theorem rd_asc {l : List Int} (h : l.Pairwise (· < ·)) {i : Nat} (hi : i + 1 < l.length) : rd l (i : Int) < rd l ((i + 1 : Nat) : Int) := by
  unfold rd
  rw [Int.toNat_natCast, Int.toNat_natCast, List.getD_eq_getElem?_getD, List.getD_eq_getElem?_getD, List.getElem?_eq_getElem (by omega), List.getElem?_eq_getElem hi]
  exact List.pairwise_iff_getElem.1 h i (i + 1) (by omega) hi (by omega)
theorem sites_asc (p : Im) (f : Int) : (sitesL p f).Pairwise (· < ·) := (places_asc _).filter _
theorem uniq_of_asc {l : List Int} (h : l.Pairwise (· < ·)) : uniq l = l := asc_ext (uniq_asc l) h fun z => mem_uniq z l
theorem next_site {p : Im} {f z : Int} (h : z ∈ sitesL p f) : nextL p z = [rd p.f4 f] := by
  obtain ⟨h0, h1, h2, h3⟩ := mem_sites.1 h
  unfold nextL outL
  rw [if_pos ⟨h0, h1⟩]
  have h2' : (rd_T45 p.f5 z).f0 = 23 := h2
  have h3' : (rd_T45 p.f5 z).f4 = f := h3
  simp only [h2', show ¬ ((23 : Int) = 21) by decide, show ¬ ((23 : Int) = 22) by decide, if_false, if_true, h3']
  rfl
theorem next_back {p : Im} {f z : Int} (h : z ∈ backsL p f) : nextL p z = (sitesL p f).map (· + 1) := by
  unfold backsL at h
  simp only [List.mem_filter, mem_placesL, Bool.and_eq_true, beq_iff_eq] at h
  unfold nextL outL
  rw [if_pos h.1]
  simp only [h.2.1, show ¬ ((24 : Int) = 21) by decide, show ¬ ((24 : Int) = 22) by decide, show ¬ ((24 : Int) = 23) by decide, if_false, if_true, h.2.2]
  refine uniq_of_asc ?_
  rw [List.pairwise_map]
  exact (sites_asc p f).imp fun h => by omega
theorem backs_in {p : Im} {f z : Int} (h : z ∈ backsL p f) : 0 ≤ z ∧ z < p.f5.length := by
  unfold backsL at h
  exact mem_placesL.1 (List.mem_filter.1 h).1
set_option maxRecDepth 100000 in
set_option maxHeartbeats 8000000 in
theorem graphCalls_law (p : Im) (A3 : Option Addr) (c3 : Nat) (A4 : Option Addr) (c4 : Nat) (A5 : Option Addr) (c5 : Nat) (fn : Int) (w : World)
    (hr3 : Kd.C (Kd.int .u8) w A3 p.f3.length p.f3) (hc3 : p.f3.length ≤ c3) (hr4 : Kd.C (Kd.int .i64) w A4 p.f4.length p.f4) (hc4 : p.f4.length ≤ c4) (hr5 : Kd.C k45 w A5 p.f5.length p.f5) (hc5 : p.f5.length ≤ c5)
    (hw : wfP p) (hfn : Gr.wfI fn) :
    Calls Try.prog 4 #[.agg #[.int .i64 p.f0, .int .i64 p.f1, .int .i64 p.f2, .slice A3 p.f3.length c3, .slice A4 p.f4.length c4, .slice A5 p.f5.length c5], .int .i64 fn] w fun e w' => e = .returned (.bool true) ∧ Below w.heap.size w w' := by
  have hb1 := below_alloc (Below.refl w.heap.size w) (Obj.cells #[.int .i64 p.f0, .int .i64 p.f1, .int .i64 p.f2, .slice A3 p.f3.length c3, .slice A4 p.f4.length c4, .slice A5 p.f5.length c5] 26)
  have BX1 := Aside0.mk (blk_new w (Obj.cells #[.int .i64 p.f0, .int .i64 p.f1, .int .i64 p.f2, .slice A3 p.f3.length c3, .slice A4 p.f4.length c4, .slice A5 p.f5.length c5] 26))
  have HS1 : Aside0 ((w.alloc (Obj.cells #[.int .i64 p.f0, .int .i64 p.f1, .int .i64 p.f2, .slice A3 p.f3.length c3, .slice A4 p.f4.length c4, .slice A5 p.f5.length c5] 26)).heap.size = w.heap.size + 1) := ⟨by show (w.heap.push _).size = _; simp⟩
  have HC3 := Aside0.mk (Kd.C_below hr3 hb1)
  have HC4 := Aside0.mk (Kd.C_below hr4 hb1)
  have HC5 := Aside0.mk (Kd.C_below hr5 hb1)
  have HB1 := Aside0.mk hb1
  have HAW := Aside0.mk (awake20_calls (w.alloc (Obj.cells #[.int .i64 p.f0, .int .i64 p.f1, .int .i64 p.f2, .slice A3 p.f3.length c3, .slice A4 p.f4.length c4, .slice A5 p.f5.length c5] 26)))
  clear hr3 hr4 hr5 hb1
  go_enter Try.func4, Try.ntmps4
  go_wp2_with fail
  generalize w.alloc (Obj.cells #[.int .i64 p.f0, .int .i64 p.f1, .int .i64 p.f2, .slice A3 p.f3.length c3, .slice A4 p.f4.length c4, .slice A5 p.f5.length c5] 26) = W1 at BX1 HS1 HC3 HC4 HC5 HB1 HAW ⊢
  have HC4W := HC4
  refine HAW.out.mono ?_
  rintro e w2 ⟨rfl, hB⟩
  rw [HS1.out] at hB
  have HBw := Aside0.mk hB
  have hbk := (hB.block w.heap.size (by omega)).trans BX1.out
  have HC3 := Aside0.mk (Kd.C_below HC3.out (by rw [HS1.out]; exact hB))
  have HC4 := Aside0.mk (Kd.C_below HC4.out (by rw [HS1.out]; exact hB))
  have HC5 := Aside0.mk (Kd.C_below HC5.out (by rw [HS1.out]; exact hB))
  have k0 := blk_cell hbk 0
  have k1 := blk_cell hbk 1
  have k2 := blk_cell hbk 2
  have k3 := blk_cell hbk 3
  have k4 := blk_cell hbk 4
  have k5 := blk_cell hbk 5
  obtain ⟨few, hfew⟩ := few_f p
  have HFEW := Aside0.mk (backreachlaw03_Few.calls p.f0 p.f1 p.f2 A3 c3 p.f3 A4 c4 p.f4 A5 c5 p.f5 few w2 HC3.out hc3 HC4.out hc4 HC5.out hc5 hfew)
  clear hB hbk HAW hfew
  go_wp2_with fail
  refine HFEW.out.mono ?_
  rintro e w3 ⟨rfl, hB⟩
  have HC3 := Aside0.mk (Kd.C_below HC3.out hB)
  have HC4 := Aside0.mk (Kd.C_below HC4.out hB)
  have HC5 := Aside0.mk (Kd.C_below HC5.out hB)
  have HBn := Aside0.mk (below_then HBw.out (by rw [← HS1.out]; exact Nat.le_trans (Nat.le_refl _) HBw.out.size) hB)
  clear HBw hB HFEW k0 k1 k2 k3 k4 k5
  have HBw := HBn
  clear HBn
  cases few with
  | false =>
    go_wp2
    go_ret
    exact ⟨rfl, below_then HB1.out HB1.out.size (by rw [HS1.out]; exact HBw.out)⟩
  | true =>
    have hbk := (HBw.out.block w.heap.size (by omega)).trans BX1.out
    have k0 := blk_cell hbk 0
    have k1 := blk_cell hbk 1
    have k2 := blk_cell hbk 2
    have k3 := blk_cell hbk 3
    have k4 := blk_cell hbk 4
    have k5 := blk_cell hbk 5
    clear hbk
    by_cases h0 : encV p = 0
    rotate_left
    · have HNEW := Aside0.mk (new_no' p A3 c3 A4 c4 A5 c5 w3 HC3.out hc3 HC4.out hc4 HC5.out hc5 hw h0)
      have hz : (encV p != 0) = true := by simpa using h0
      clear h0
      go_wp2_with fail
      refine HNEW.out.mono ?_
      rintro e w4 ⟨rfl, hB⟩
      have HBn := Aside0.mk (below_then HBw.out (by rw [← HS1.out]; exact HBw.out.size) hB)
      clear hB HNEW
      go_wp2
      go_ret
      exact ⟨rfl, below_then HB1.out HB1.out.size (by rw [HS1.out]; exact HBn.out)⟩
    have HNEW := Aside0.mk (new_yes' p A3 c3 A4 c4 A5 c5 w3 HC3.out hc3 HC4.out hc4 HC5.out hc5 hw h0)
    have hrt := encV_rt hw h0
    have HZ := Lib.hid h0
    clear h0
    go_wp2_with fail
    refine HNEW.out.mono ?_
    rintro e w4 ⟨g, rfl, hG, hB⟩
    have HLG : Aside0 (w.heap.size + 1 ≤ g) := ⟨by have := HBw.out.size; rw [HS1.out] at this; have := hG.1; omega⟩
    have HBn := Aside0.mk (below_then HBw.out (by rw [← HS1.out]; exact HBw.out.size) hB)
    have HG := Aside0.mk hG
    obtain ⟨BB, hBB⟩ : ∃ n, w3.heap.size = n := ⟨_, rfl⟩
    rw [hBB] at HG
    clear HBw hB hG hBB HNEW k0 k1 k2 k3 k4 k5
    have HBw := HBn
    clear HBn
    have BX4 := (HBw.out.block w.heap.size (by omega)).trans BX1.out
    have k4 : w4.cell? ⟨w.heap.size, 4, none⟩ = some (.slice A4 p.f4.length c4) := (blk_cell BX4 4).trans rfl
    clear BX4
    have HN := Aside0.mk hrt.fits.2.2.1
    by_cases hf0 : 0 ≤ fn
    rotate_left
    · have hd0 : decide (fn < 0) = true := decide_eq_true (by omega)
      go_wp2
      go_ret
      exact ⟨rfl, below_then HB1.out HB1.out.size (by rw [HS1.out]; exact HBw.out)⟩
    have hd0 : decide (fn < 0) = false := decide_eq_false (by omega)
    by_cases hf1 : fn < p.f4.length
    rotate_left
    · have hd1 : decide (fn ≥ (p.f4.length : Int)) = true := decide_eq_true (by omega)
      go_wp2
      go_ret
      exact ⟨rfl, below_then HB1.out HB1.out.size (by rw [HS1.out]; exact HBw.out)⟩
    have hd1 : decide (fn ≥ (p.f4.length : Int)) = false := decide_eq_false (by omega)
    have HROW := Aside0.mk (graphSites hrt HG.out (x := fn) hfn)
    go_wp2_with fail
    clear k4
    refine HROW.out.mono ?_
    rintro e w5 ⟨v, rfl, hR, hM, hF⟩
    have HGn := Aside0.mk hM.gr
    have HBn := Aside0.mk (fr_below hF HBw.out (by rw [← HS1.out]; exact HBw.out.size) HLG.out)
    clear HG HBw HROW
    have HG := HGn
    have HBw := HBn
    clear HGn HBn hM hF
    obtain ⟨as0, cs_, rfl⟩ := Kd.R_slice hR
    have HRS := Aside0.mk (Kd.R_lower hR (Nat.zero_le _))
    clear hR
    have HROW := Aside0.mk (graphBacks hrt HG.out (x := fn) hfn)
    go_wp2_with fail
    refine HROW.out.mono ?_
    rintro e w6 ⟨v, rfl, hR, hM, hF⟩
    obtain ⟨ab_, cb_, rfl⟩ := Kd.R_slice hR
    have HCS0 : Aside0 (Cs (w.heap.size + 1) W1 g BB p (.slice as0 (sitesL p fn).length cs_) (.slice ab_ (backsL p fn).length cb_) (sitesL p fn) (backsL p fn) w6) :=
      ⟨⟨Nat.le_trans (by rw [← HS1.out]; exact HBw.out.size) hF.size, hM.gr, fr_below hF HBw.out (by rw [← HS1.out]; exact HBw.out.size) HLG.out, r_gr HRS.out HG.out hF, Kd.R_lower hR (Nat.zero_le _)⟩⟩
    obtain ⟨fd, hfd⟩ : ∃ z, rd p.f4 fn = z := ⟨_, rfl⟩
    obtain ⟨a4, ea4, hx4⟩ := Kd.at_int HC4.out fn hf0 hf1
    cases ea4
    have HFD : Aside0 (∀ W, Below (w.heap.size + 1) W1 W → W.cell? (a4.add fn.toNat) = some (.int .i64 fd)) := ⟨fun W hB => by
      obtain ⟨ad, e, hx⟩ := Kd.at_int (Kd.C_below HC4W.out (by rw [HS1.out]; exact hB)) fn hf0 hf1
      cases e
      rw [hfd] at hx
      exact hx⟩
    have HFDD := Lib.hid hfd
    have hq0 : (0 ≤ fn) = True := eq_true hf0
    have hq1 : (fn < (p.f4.length : Int)) = True := eq_true hf1
    clear hx4 hR hM hF HRS HG HBw HROW hfd HC3 HC4 HC5
    go_wp2
    go_loopw [9] (fun v9 wr => ∃ (i : Nat), v9 = .int .i64 i ∧ Aside0 (i ≤ (sitesL p fn).length) ∧ Aside0 (Cs (w.heap.size + 1) W1 g BB p (.slice as0 (sitesL p fn).length cs_) (.slice ab_ (backsL p fn).length cb_) (sitesL p fn) (backsL p fn) wr))
      (fun v _ => (sitesL p fn).length - (intOf v).toNat)
    case atStart => exact ⟨0, rfl, ⟨Nat.zero_le _⟩, HCS0⟩
    case round =>
      clear HCS0
      obtain ⟨i, rfl, hi, hcs⟩ := hrel
      have hi := hi.out
      by_cases hil : i < (sitesL p fn).length
      · obtain ⟨wo, rfl⟩ : ∃ wo : World, wo = wr := ⟨_, rfl⟩
        have hid : decide ((i : Int) < ((sitesL p fn).length : Int)) = true := decide_eq_true (by omega)
        obtain ⟨z, hz⟩ : ∃ z, rd (sitesL p fn) (i : Int) = z := ⟨_, rfl⟩
        obtain ⟨as_, ea, _⟩ := Kd.at_int (Kd.R_reads' hcs.out.r1).2.2 (i : Int) (by omega) (by omega)
        cases ea
        have hzm := rd_mem hil
        rw [hz] at hzm
        have hzi := mem_sites.1 hzm
        have hn256 := HN.out
        have hsl := sites_len p hn256 fn
        have hzw : Gr.wfI z := Gr.wfI_of (by omega)
        have hnx : nextL p z = [fd] := (next_site hzm).trans (by rw [HFDD.out])
        have CS0 := Aside0.mk (hcs.out.below (below_drew (Below.refl _ _)))
        have HS0 : Aside0 (∀ W, Cs (w.heap.size + 1) W1 g BB p (.slice (some as_) (sitesL p fn).length cs_) (.slice ab_ (backsL p fn).length cb_) (sitesL p fn) (backsL p fn) W → W.cell? (as_.add i) = some (.int .i64 z)) := ⟨fun W h => hz ▸ row_at h.r1 i hil⟩
        have HS1c : Aside0 (∀ W, Cs (w.heap.size + 1) W1 g BB p (.slice (some as_) (sitesL p fn).length cs_) (.slice ab_ (backsL p fn).length cb_) (sitesL p fn) (backsL p fn) W → W.cell? ⟨w.heap.size, 4, none⟩ = some (.slice (some a4) p.f4.length c4)) := ⟨fun W h => (blk_cell ((h.bel.block w.heap.size (Nat.lt_succ_self _)).trans BX1.out) 4).trans rfl⟩
        have HS2 : Aside0 (∀ W, Cs (w.heap.size + 1) W1 g BB p (.slice (some as_) (sitesL p fn).length cs_) (.slice ab_ (backsL p fn).length cb_) (sitesL p fn) (backsL p fn) W → W.cell? (a4.add fn.toNat) = some (.int .i64 fd)) := ⟨fun W h => HFD.out W h.bel⟩
        have hp0 : (0 ≤ (i : Int)) = True := eq_true (by omega)
        have hp1 : ((i : Int) < ((sitesL p fn).length : Int)) = True := eq_true (by omega)
        have hwi : IntKind.i64.wrap ((i : Int) + 1) = (i : Int) + 1 := IntWalk.i64_in _ (by omega)
        have HZ := Lib.hid hz
        clear hz hzm
        by_cases hi0 : (i : Int) > 0
        · obtain ⟨j, hj⟩ : ∃ j : Nat, i = j + 1 := ⟨i - 1, by omega⟩
          obtain ⟨zp, hzp⟩ : ∃ z, rd (sitesL p fn) (j : Int) = z := ⟨_, rfl⟩
          have hjl : j < (sitesL p fn).length := by omega
          have hasc := rd_asc (sites_asc p fn) (i := j) (by omega)
          rw [← hj, HZ.out, hzp] at hasc
          have hlz : decide (z ≤ zp) = false := decide_eq_false (by omega)
          have hg0 : decide ((i : Int) > 0) = true := decide_eq_true hi0
          have hg1 : decide (0 < (i : Int)) = true := decide_eq_true hi0
          have hg2 : decide (0 < i) = true := decide_eq_true (by omega)
          have hwj : IntKind.i64.wrap ((i : Int) - 1) = (j : Int) := by rw [IntWalk.i64_in _ (by omega)]; omega
          have hp2 : (0 ≤ (j : Int)) = True := eq_true (by omega)
          have hp3 : ((j : Int) < ((sitesL p fn).length : Int)) = True := eq_true (by omega)
          have HS3 : Aside0 (∀ W, Cs (w.heap.size + 1) W1 g BB p (.slice (some as_) (sitesL p fn).length cs_) (.slice ab_ (backsL p fn).length cb_) (sitesL p fn) (backsL p fn) W → W.cell? (as_.add j) = some (.int .i64 zp)) := ⟨fun W h => hzp ▸ row_at h.r1 j hjl⟩
          have HJ := Lib.hid hj
          clear hj hzp hasc hi0
          go_upto_region 12 with (fail)
          refine start_ (n := 30) (S := fun w' => w'.cell? (as_.add i) = some (.int .i64 z) ∧ w'.cell? ⟨w.heap.size, 4, none⟩ = some (.slice (some a4) p.f4.length c4) ∧ w'.cell? (a4.add fn.toNat) = some (.int .i64 fd) ∧ w'.cell? (as_.add j) = some (.int .i64 zp)) (ds := []) #[false, false, false, false, false, false, false, false, false, false, false, false, false, false, false, false, false, false, false, false, false, false, false, false, false, false, false, false, false, false] (by kernel_rfl) rfl rfl ⟨(HS0.out _ CS0.out), (HS1c.out _ CS0.out), (HS2.out _ CS0.out), (HS3.out _ CS0.out)⟩ (fun hHeld => ?_)
          refine pure_ (i := 0) (N := some 48) (v := ?_) (a' := ?_) #[true, false, false, false, false, false, false, false, false, false, false, false, false, false, false, false, false, false, false, false, false, false, false, false, false, false, false, false, false, false] rfl rfl (by kernel_rfl) (fun _ _ _ h => h) (Or.inl ⟨by rfl, ?_⟩) ?_ ?_
          rotate_left
          · intro w'
            go_simp
            with_reducible rfl
          rotate_left
          · simp only [Act.put, List.setIfInBounds_toArray, List.set_cons_zero, List.set_cons_succ, i64_w, i32_w]
            rfl
          refine pure_ (i := 1) (N := some 49) (v := ?_) (a' := ?_) #[true, true, false, false, false, false, false, false, false, false, false, false, false, false, false, false, false, false, false, false, false, false, false, false, false, false, false, false, false, false] rfl rfl (by kernel_rfl) (fun _ _ _ h => h) (Or.inl ⟨by rfl, ?_⟩) ?_ ?_
          rotate_left
          · intro w'
            go_simp
            with_reducible rfl
          rotate_left
          · simp only [Act.put, List.setIfInBounds_toArray, List.set_cons_zero, List.set_cons_succ, i64_w, i32_w]
            rfl
          refine pure_ (i := 2) (N := some 50) (v := ?_) (a' := ?_) #[true, true, true, false, false, false, false, false, false, false, false, false, false, false, false, false, false, false, false, false, false, false, false, false, false, false, false, false, false, false] rfl rfl (by kernel_rfl) (fun _ _ _ h => h) (Or.inl ⟨by rfl, ?_⟩) ?_ ?_
          rotate_left
          · intro w'
            go_simp
            with_reducible rfl
          rotate_left
          · simp only [Act.put, List.setIfInBounds_toArray, List.set_cons_zero, List.set_cons_succ, i64_w, i32_w]
            rfl
          refine pure_ (i := 3) (N := some 51) (v := ?_) (a' := ?_) #[true, true, true, true, false, false, false, false, false, false, false, false, false, false, false, false, false, false, false, false, false, false, false, false, false, false, false, false, false, false] rfl rfl (by kernel_rfl) (fun _ _ _ h => h) (Or.inl ⟨by rfl, ?_⟩) ?_ ?_
          rotate_left
          · intro w'
            go_simp
            with_reducible rfl
          rotate_left
          · simp only [Act.put, List.setIfInBounds_toArray, List.set_cons_zero, List.set_cons_succ, i64_w, i32_w]
            rfl
          refine pure_ (i := 6) (N := some 54) (v := ?_) (a' := ?_) #[true, true, true, true, false, false, true, false, false, false, false, false, false, false, false, false, false, false, false, false, false, false, false, false, false, false, false, false, false, false] rfl rfl (by kernel_rfl) (fun _ _ _ h => h) (Or.inl ⟨by rfl, ?_⟩) ?_ ?_
          rotate_left
          · intro w'
            go_simp
            with_reducible rfl
          rotate_left
          · simp only [Act.put, List.setIfInBounds_toArray, List.set_cons_zero, List.set_cons_succ, i64_w, i32_w]
            rfl
          refine pure_ (i := 8) (N := some 56) (v := ?_) (a' := ?_) #[true, true, true, true, false, false, true, false, true, false, false, false, false, false, false, false, false, false, false, false, false, false, false, false, false, false, false, false, false, false] rfl rfl (by kernel_rfl) (fun _ _ _ h => h) (Or.inl ⟨by rfl, ?_⟩) ?_ ?_
          rotate_left
          · intro w'
            go_simp
            with_reducible rfl
          rotate_left
          · simp only [Act.put, List.setIfInBounds_toArray, List.set_cons_zero, List.set_cons_succ, i64_w, i32_w]
            rfl
          refine take_ (i := 4) (N := some 52) (v := ?_) (a' := ?_) #[true, true, true, true, true, false, true, false, true, false, false, false, false, false, false, false, false, false, false, false, false, false, false, false, false, false, false, false, false, false] rfl rfl (by kernel_rfl) (fun _ _ _ h => h) (Or.inl ⟨by rfl, ?_⟩) hHeld ?_ ?_
          rotate_left
          · rintro w' ⟨s0, s1, s2, s3⟩
            go_simp
            with_reducible rfl
          rotate_left
          · simp only [Act.put, List.setIfInBounds_toArray, List.set_cons_zero, List.set_cons_succ, i64_w, i32_w]
            rfl
          refine take_ (i := 7) (N := some 55) (v := ?_) (a' := ?_) #[true, true, true, true, true, false, true, true, true, false, false, false, false, false, false, false, false, false, false, false, false, false, false, false, false, false, false, false, false, false] rfl rfl (by kernel_rfl) (fun _ _ _ h => h) (Or.inl ⟨by rfl, ?_⟩) hHeld ?_ ?_
          rotate_left
          · rintro w' ⟨s0, s1, s2, s3⟩
            go_simp
            with_reducible rfl
          rotate_left
          · simp only [Act.put, List.setIfInBounds_toArray, List.set_cons_zero, List.set_cons_succ, i64_w, i32_w]
            rfl
          refine pure_ (i := 9) (N := some 57) (v := ?_) (a' := ?_) #[true, true, true, true, true, false, true, true, true, true, false, false, false, false, false, false, false, false, false, false, false, false, false, false, false, false, false, false, false, false] rfl rfl (by kernel_rfl) (fun _ _ _ h => h) (Or.inl ⟨by rfl, ?_⟩) ?_ ?_
          rotate_left
          · intro w'
            go_simp
            with_reducible rfl
          rotate_left
          · simp only [Act.put, List.setIfInBounds_toArray, List.set_cons_zero, List.set_cons_succ, i64_w, i32_w]
            rfl
          refine take_ (i := 10) (N := some 58) (v := ?_) (a' := ?_) #[true, true, true, true, true, false, true, true, true, true, true, false, false, false, false, false, false, false, false, false, false, false, false, false, false, false, false, false, false, false] rfl rfl (by kernel_rfl) (fun _ _ _ h => h) (Or.inl ⟨by rfl, ?_⟩) hHeld ?_ ?_
          rotate_left
          · rintro w' ⟨s0, s1, s2, s3⟩
            go_simp
            with_reducible rfl
          rotate_left
          · simp only [Act.put, List.setIfInBounds_toArray, List.set_cons_zero, List.set_cons_succ, i64_w, i32_w]
            rfl
          refine join_ (σ := (Option Addr × Nat) × Nat) 18 #[true, true, true, true, true, true, true, true, true, true, true, true, false, false, false, false, false, false, false, false, false, false, false, false, false, false, false, false, false, false] (fun s_ => [(53, .slice s_.1.1 [fd].length s_.1.2), (59, .slice (some ⟨s_.2, 0, none⟩) 1 1)]) (fun s_ w' => Cs (w.heap.size + 1) W1 g BB p (.slice (some as_) (sitesL p fn).length cs_) (.slice ab_ (backsL p fn).length cb_) (sitesL p fn) (backsL p fn) w' ∧ Kd.R (Kd.int .i64) 3 w' 0 (fun _ => True) (.slice s_.1.1 [fd].length s_.1.2) [fd] ∧ w'.heap[s_.2]? = some (.cells #[.int .i64 fd] 3 (0, 0))) ?_ ?_
          rotate_left
          · intro hCont
            refine two_ (i := 5) (j := 11) (Ni := some 53) (Nj := some 59) #[true, true, true, true, true, true, true, true, true, true, true, false, false, false, false, false, false, false, false, false, false, false, false, false, false, false, false, false, false, false] #[true, true, true, true, true, false, true, true, true, true, true, true, false, false, false, false, false, false, false, false, false, false, false, false, false, false, false, false, false, false] rfl rfl rfl rfl (by kernel_rfl) (by decide) (by decide) (fun K hK => ?_) (fun K hK => ?_)
            · skip
              refine goes_ Try.func12 (by kernel_rfl) rfl #[.pointer (some ⟨g, 0, none⟩), .int .i64 z] (by rfl) rfl rfl (by simp only [List.map_toArray, List.map_cons, List.map_nil]; rfl) ?_
              refine (graphNext hrt CS0.out.gr hzw).mono ?_
              rintro e w5 ⟨v5, rfl, hR5, hM5, hF5⟩
              rw [hnx] at hR5
              obtain ⟨A5, c5, ev5⟩ := Kd.R_slice hR5
              subst ev5
              refine ⟨_, rfl, ?_⟩
              have CS5 := Aside0.mk (CS0.out.fr hM5 hF5 HLG.out)
              have HR5 := Aside0.mk (Kd.R_lower hR5 (Nat.zero_le _))
              have HF5 := Aside0.mk hF5
              clear hR5 hM5 hF5
              refine hK.out _ _ ⟨(HS0.out _ CS5.out), (HS1c.out _ CS5.out), (HS2.out _ CS5.out), (HS3.out _ CS5.out)⟩ (fun hHeld => ?_)
              clear hK K
              refine norm_ (a' := ?_) ?_ ?_
              rotate_left
              · show Act.put _ (some 53) _ = _
                simp only [Act.put, List.setIfInBounds_toArray, List.set_cons_zero, List.set_cons_succ, i64_w, i32_w]
                rfl
              refine one_ (i := 11) (N := some 59) #[true, true, true, true, true, true, true, true, true, true, true, true, false, false, false, false, false, false, false, false, false, false, false, false, false, false, false, false, false, false] rfl rfl (by kernel_rfl) (by decide) (fun K hK => ?_)
              refine value_ (w1 := ?_) (v := ?_) (by rfl) rfl ?_ ?_
              rotate_left 2
              · go_simp
                constructor
                · rfl
                · rfl
              refine hK.out _ _ ⟨(HS0.out _ (CS5.out.below (below_alloc (Below.refl _ _) (Obj.cells #[.int .i64 fd] 3)))), (HS1c.out _ (CS5.out.below (below_alloc (Below.refl _ _) (Obj.cells #[.int .i64 fd] 3)))), (HS2.out _ (CS5.out.below (below_alloc (Below.refl _ _) (Obj.cells #[.int .i64 fd] 3)))), (HS3.out _ (CS5.out.below (below_alloc (Below.refl _ _) (Obj.cells #[.int .i64 fd] 3))))⟩ (fun hHeld => ?_)
              clear hK K
              refine norm_ (a' := ?_) ?_ ?_
              rotate_left
              · show Act.put _ (some 59) _ = _
                simp only [Act.put, List.setIfInBounds_toArray, List.set_cons_zero, List.set_cons_succ, i64_w, i32_w]
                rfl
              exact norm_ (by simp only [putAll, Act.put, List.setIfInBounds_toArray, List.set_cons_zero, List.set_cons_succ]) (hCont ((A5, c5), w5.heap.size) _ ⟨CS5.out.below (below_alloc (Below.refl _ _) (Obj.cells #[.int .i64 fd] 3)), Kd.R_alloc HR5.out _, blk_new w5 _⟩)
            · skip
              refine value_ (w1 := ?_) (v := ?_) (by rfl) rfl ?_ ?_
              rotate_left 2
              · go_simp
                constructor
                · rfl
                · rfl
              refine hK.out _ _ ⟨(HS0.out _ (CS0.out.below (below_alloc (Below.refl _ _) (Obj.cells #[.int .i64 fd] 3)))), (HS1c.out _ (CS0.out.below (below_alloc (Below.refl _ _) (Obj.cells #[.int .i64 fd] 3)))), (HS2.out _ (CS0.out.below (below_alloc (Below.refl _ _) (Obj.cells #[.int .i64 fd] 3)))), (HS3.out _ (CS0.out.below (below_alloc (Below.refl _ _) (Obj.cells #[.int .i64 fd] 3))))⟩ (fun hHeld => ?_)
              clear hK K
              refine norm_ (a' := ?_) ?_ ?_
              rotate_left
              · show Act.put _ (some 59) _ = _
                simp only [Act.put, List.setIfInBounds_toArray, List.set_cons_zero, List.set_cons_succ, i64_w, i32_w]
                rfl
              refine one_ (i := 5) (N := some 53) #[true, true, true, true, true, true, true, true, true, true, true, true, false, false, false, false, false, false, false, false, false, false, false, false, false, false, false, false, false, false] rfl rfl (by kernel_rfl) (by decide) (fun K hK => ?_)
              refine goes_ Try.func12 (by kernel_rfl) rfl #[.pointer (some ⟨g, 0, none⟩), .int .i64 z] (by rfl) rfl rfl (by simp only [List.map_toArray, List.map_cons, List.map_nil]; rfl) ?_
              refine (graphNext hrt (CS0.out.below (below_alloc (Below.refl _ _) (Obj.cells #[.int .i64 fd] 3))).gr hzw).mono ?_
              rintro e w5 ⟨v5, rfl, hR5, hM5, hF5⟩
              rw [hnx] at hR5
              obtain ⟨A5, c5, ev5⟩ := Kd.R_slice hR5
              subst ev5
              refine ⟨_, rfl, ?_⟩
              have CS5 := Aside0.mk ((CS0.out.below (below_alloc (Below.refl _ _) (Obj.cells #[.int .i64 fd] 3))).fr hM5 hF5 HLG.out)
              have HR5 := Aside0.mk (Kd.R_lower hR5 (Nat.zero_le _))
              have HF5 := Aside0.mk hF5
              clear hR5 hM5 hF5
              refine hK.out _ _ ⟨(HS0.out _ CS5.out), (HS1c.out _ CS5.out), (HS2.out _ CS5.out), (HS3.out _ CS5.out)⟩ (fun hHeld => ?_)
              clear hK K
              refine norm_ (a' := ?_) ?_ ?_
              rotate_left
              · show Act.put _ (some 53) _ = _
                simp only [Act.put, List.setIfInBounds_toArray, List.set_cons_zero, List.set_cons_succ, i64_w, i32_w]
                rfl
              exact norm_ (by simp only [putAll, Act.put, List.setIfInBounds_toArray, List.set_cons_zero, List.set_cons_succ]) (hCont ((A5, c5), wo.heap.size) _ ⟨CS5.out, HR5.out, (HF5.out.block _ (by show _ < (wo.heap.push _).size; simp) (Nat.ne_of_gt CS0.out.gr.lt)).trans (blk_new wo.drew (Obj.cells #[.int .i64 fd] 3))⟩)
          rintro s_ wj hst_
          have HST := Aside0.mk hst_
          have hHeld := And.intro (HS0.out _ hst_.1) (And.intro (HS1c.out _ hst_.1) (And.intro (HS2.out _ hst_.1) (HS3.out _ hst_.1)))
          clear hst_
          refine norm_ (a' := ?_) ?_ ?_
          rotate_left
          · simp only [putAll, Act.put, List.setIfInBounds_toArray, List.set_cons_zero, List.set_cons_succ]
            rfl
          refine one_ (i := 12) (N := some 60) #[true, true, true, true, true, true, true, true, true, true, true, true, true, false, false, false, false, false, false, false, false, false, false, false, false, false, false, false, false, false] rfl rfl (by kernel_rfl) (by decide) (fun K hK => ?_)
          refine goes_ Try.func16 (by kernel_rfl) rfl #[.slice s_.1.1 [fd].length s_.1.2, .slice (some ⟨s_.2, 0, none⟩) 1 1] (by rfl) rfl rfl (by simp only [List.map_toArray, List.map_cons, List.map_nil]; rfl) ?_
          refine (ints_calls true (Kd.R_reads' HST.out.2.1).2.2 (Kd.R_reads' HST.out.2.1).2.1 (ints_lit [fd] (by simp) HST.out.2.2) (Nat.le_refl 1) (by simp) (by simp)).mono ?_
          rintro e w6 ⟨rfl, nd, rfl⟩
          refine ⟨_, rfl, ?_⟩
          have CS6 := Aside0.mk (HST.out.1.below (below_drewN (Below.refl _ _) nd))
          refine hK.out _ _ ⟨(HS0.out _ CS6.out), (HS1c.out _ CS6.out), (HS2.out _ CS6.out), (HS3.out _ CS6.out)⟩ (fun hHeld => ?_)
          clear hK K
          refine norm_ (a' := ?_) ?_ ?_
          rotate_left
          · show Act.put _ (some 60) _ = _
            simp only [Act.put, List.setIfInBounds_toArray, List.set_cons_zero, List.set_cons_succ, i64_w, i32_w]
            rfl
          refine pure_ (i := 13) (N := some 61) (v := ?_) (a' := ?_) #[true, true, true, true, true, true, true, true, true, true, true, true, true, true, false, false, false, false, false, false, false, false, false, false, false, false, false, false, false, false] rfl rfl (by kernel_rfl) (fun _ _ _ h => h) (Or.inl ⟨by rfl, ?_⟩) ?_ ?_
          rotate_left
          · intro w'
            go_simp
            with_reducible rfl
          rotate_left
          · simp only [Act.put, List.setIfInBounds_toArray, List.set_cons_zero, List.set_cons_succ, i64_w, i32_w]
            rfl
          refine pure_ (i := 14) (N := some 62) (v := ?_) (a' := ?_) #[true, true, true, true, true, true, true, true, true, true, true, true, true, true, true, false, false, false, false, false, false, false, false, false, false, false, false, false, false, false] rfl rfl (by kernel_rfl) (fun _ _ _ h => h) (Or.inl ⟨by rfl, ?_⟩) ?_ ?_
          rotate_left
          · intro w'
            go_simp
            with_reducible rfl
          rotate_left
          · simp only [Act.put, List.setIfInBounds_toArray, List.set_cons_zero, List.set_cons_succ, i64_w, i32_w]
            rfl
          refine pure_ (i := 15) (N := some 63) (v := ?_) (a' := ?_) #[true, true, true, true, true, true, true, true, true, true, true, true, true, true, true, true, false, false, false, false, false, false, false, false, false, false, false, false, false, false] rfl rfl (by kernel_rfl) (fun _ _ _ h => h) (Or.inl ⟨by rfl, ?_⟩) ?_ ?_
          rotate_left
          · intro w'
            go_simp
            with_reducible rfl
          rotate_left
          · simp only [Act.put, List.setIfInBounds_toArray, List.set_cons_zero, List.set_cons_succ, i64_w, i32_w]
            rfl
          refine pure_ (i := 16) (N := some 64) (v := ?_) (a' := ?_) #[true, true, true, true, true, true, true, true, true, true, true, true, true, true, true, true, true, false, false, false, false, false, false, false, false, false, false, false, false, false] rfl rfl (by kernel_rfl) (fun _ _ _ h => h) (Or.inl ⟨by rfl, ?_⟩) ?_ ?_
          rotate_left
          · intro w'
            go_simp
            with_reducible rfl
          rotate_left
          · simp only [Act.put, List.setIfInBounds_toArray, List.set_cons_zero, List.set_cons_succ, i64_w, i32_w]
            rfl
          refine pure_ (i := 17) (N := some 65) (v := ?_) (a' := ?_) #[true, true, true, true, true, true, true, true, true, true, true, true, true, true, true, true, true, true, false, false, false, false, false, false, false, false, false, false, false, false] rfl rfl (by kernel_rfl) (fun _ _ _ h => h) (Or.inl ⟨by rfl, ?_⟩) ?_ ?_
          rotate_left
          · intro w'
            go_simp
            with_reducible rfl
          rotate_left
          · simp only [Act.put, List.setIfInBounds_toArray, List.set_cons_zero, List.set_cons_succ, i64_w, i32_w]
            rfl
          refine pure_ (i := 18) (N := some 66) (v := ?_) (a' := ?_) #[true, true, true, true, true, true, true, true, true, true, true, true, true, true, true, true, true, true, true, false, false, false, false, false, false, false, false, false, false, false] rfl rfl (by kernel_rfl) (fun _ _ _ h => h) (Or.inl ⟨by rfl, ?_⟩) ?_ ?_
          rotate_left
          · intro w'
            go_simp
            with_reducible rfl
          rotate_left
          · simp only [Act.put, List.setIfInBounds_toArray, List.set_cons_zero, List.set_cons_succ, i64_w, i32_w]
            rfl
          refine pure_ (i := 19) (N := some 67) (v := ?_) (a' := ?_) #[true, true, true, true, true, true, true, true, true, true, true, true, true, true, true, true, true, true, true, true, false, false, false, false, false, false, false, false, false, false] rfl rfl (by kernel_rfl) (fun _ _ _ h => h) (Or.inl ⟨by rfl, ?_⟩) ?_ ?_
          rotate_left
          · intro w'
            go_simp
            with_reducible rfl
          rotate_left
          · simp only [Act.put, List.setIfInBounds_toArray, List.set_cons_zero, List.set_cons_succ, i64_w, i32_w]
            rfl
          refine pure_ (i := 20) (N := some 68) (v := ?_) (a' := ?_) #[true, true, true, true, true, true, true, true, true, true, true, true, true, true, true, true, true, true, true, true, true, false, false, false, false, false, false, false, false, false] rfl rfl (by kernel_rfl) (fun _ _ _ h => h) (Or.inl ⟨by rfl, ?_⟩) ?_ ?_
          rotate_left
          · intro w'
            go_simp
            with_reducible rfl
          rotate_left
          · simp only [Act.put, List.setIfInBounds_toArray, List.set_cons_zero, List.set_cons_succ, i64_w, i32_w]
            rfl
          refine pure_ (i := 22) (N := some 70) (v := ?_) (a' := ?_) #[true, true, true, true, true, true, true, true, true, true, true, true, true, true, true, true, true, true, true, true, true, false, true, false, false, false, false, false, false, false] rfl rfl (by kernel_rfl) (fun _ _ _ h => h) (Or.inl ⟨by rfl, ?_⟩) ?_ ?_
          rotate_left
          · intro w'
            go_simp
            with_reducible rfl
          rotate_left
          · simp only [Act.put, List.setIfInBounds_toArray, List.set_cons_zero, List.set_cons_succ, i64_w, i32_w]
            rfl
          refine pure_ (i := 23) (N := some 71) (v := ?_) (a' := ?_) #[true, true, true, true, true, true, true, true, true, true, true, true, true, true, true, true, true, true, true, true, true, false, true, true, false, false, false, false, false, false] rfl rfl (by kernel_rfl) (fun _ _ _ h => h) (Or.inl ⟨by rfl, ?_⟩) ?_ ?_
          rotate_left
          · intro w'
            go_simp
            with_reducible rfl
          rotate_left
          · simp only [Act.put, List.setIfInBounds_toArray, List.set_cons_zero, List.set_cons_succ, i64_w, i32_w]
            rfl
          refine pure_ (i := 24) (N := some 72) (v := ?_) (a' := ?_) #[true, true, true, true, true, true, true, true, true, true, true, true, true, true, true, true, true, true, true, true, true, false, true, true, true, false, false, false, false, false] rfl rfl (by kernel_rfl) (fun _ _ _ h => h) (Or.inl ⟨by rfl, ?_⟩) ?_ ?_
          rotate_left
          · intro w'
            go_simp
            with_reducible rfl
          rotate_left
          · simp only [Act.put, List.setIfInBounds_toArray, List.set_cons_zero, List.set_cons_succ, i64_w, i32_w]
            rfl
          refine pure_ (i := 25) (N := some 73) (v := ?_) (a' := ?_) #[true, true, true, true, true, true, true, true, true, true, true, true, true, true, true, true, true, true, true, true, true, false, true, true, true, true, false, false, false, false] rfl rfl (by kernel_rfl) (fun _ _ _ h => h) (Or.inl ⟨by rfl, ?_⟩) ?_ ?_
          rotate_left
          · intro w'
            go_simp
            with_reducible rfl
          rotate_left
          · simp only [Act.put, List.setIfInBounds_toArray, List.set_cons_zero, List.set_cons_succ, i64_w, i32_w]
            rfl
          refine take_ (i := 21) (N := some 69) (v := ?_) (a' := ?_) #[true, true, true, true, true, true, true, true, true, true, true, true, true, true, true, true, true, true, true, true, true, true, true, true, true, true, false, false, false, false] rfl rfl (by kernel_rfl) (fun _ _ _ h => h) (Or.inl ⟨by rfl, ?_⟩) hHeld ?_ ?_
          rotate_left
          · rintro w' ⟨s0, s1, s2, s3⟩
            go_simp
            with_reducible rfl
          rotate_left
          · simp only [Act.put, List.setIfInBounds_toArray, List.set_cons_zero, List.set_cons_succ, i64_w, i32_w]
            rfl
          refine take_ (i := 26) (N := some 74) (v := ?_) (a' := ?_) #[true, true, true, true, true, true, true, true, true, true, true, true, true, true, true, true, true, true, true, true, true, true, true, true, true, true, true, false, false, false] rfl rfl (by kernel_rfl) (fun _ _ _ h => h) (Or.inl ⟨by rfl, ?_⟩) hHeld ?_ ?_
          rotate_left
          · rintro w' ⟨s0, s1, s2, s3⟩
            go_simp
            with_reducible rfl
          rotate_left
          · simp only [Act.put, List.setIfInBounds_toArray, List.set_cons_zero, List.set_cons_succ, i64_w, i32_w]
            rfl
          refine pure_ (i := 27) (N := some 75) (v := ?_) (a' := ?_) #[true, true, true, true, true, true, true, true, true, true, true, true, true, true, true, true, true, true, true, true, true, true, true, true, true, true, true, true, false, false] rfl rfl (by kernel_rfl) (fun _ _ _ h => h) (Or.inl ⟨by rfl, ?_⟩) ?_ ?_
          rotate_left
          · intro w'
            go_simp
            with_reducible rfl
          rotate_left
          · simp only [Act.put, List.setIfInBounds_toArray, List.set_cons_zero, List.set_cons_succ, i64_w, i32_w]
            rfl
          refine pure_ (i := 28) (N := some 76) (v := ?_) (a' := ?_) #[true, true, true, true, true, true, true, true, true, true, true, true, true, true, true, true, true, true, true, true, true, true, true, true, true, true, true, true, true, false] rfl rfl (by kernel_rfl) (fun _ _ _ h => h) (Or.inl ⟨by rfl, ?_⟩) ?_ ?_
          rotate_left
          · intro w'
            go_simp
            with_reducible rfl
          rotate_left
          · simp only [Act.put, List.setIfInBounds_toArray, List.set_cons_zero, List.set_cons_succ, i64_w, i32_w]
            rfl
          refine pure_ (i := 29) (N := some 77) (v := ?_) (a' := ?_) #[true, true, true, true, true, true, true, true, true, true, true, true, true, true, true, true, true, true, true, true, true, true, true, true, true, true, true, true, true, true] rfl rfl (by kernel_rfl) (fun _ _ _ h => h) (Or.inl ⟨by rfl, ?_⟩) ?_ ?_
          rotate_left
          · intro w'
            go_simp
            with_reducible rfl
          rotate_left
          · simp only [Act.put, List.setIfInBounds_toArray, List.set_cons_zero, List.set_cons_succ, i64_w, i32_w]
            rfl
          refine done_ (by kernel_rfl) ?_
          go_wp2
          go_roundw
          case rel => exact ⟨i + 1, by go_num, ⟨by omega⟩, CS6⟩
          case measure => simp [intOf]; omega
        · have hg0 : decide ((i : Int) > 0) = false := decide_eq_false hi0
          have hg1 : decide (0 < (i : Int)) = false := decide_eq_false hi0
          have hg2 : decide (0 < i) = false := decide_eq_false (by omega)
          clear hi0
          go_upto_region 12 with (fail)
          refine start_ (n := 30) (S := fun w' => w'.cell? (as_.add i) = some (.int .i64 z) ∧ w'.cell? ⟨w.heap.size, 4, none⟩ = some (.slice (some a4) p.f4.length c4) ∧ w'.cell? (a4.add fn.toNat) = some (.int .i64 fd)) (ds := []) #[false, false, false, false, false, false, false, false, false, false, false, false, false, false, false, false, false, false, false, false, false, false, false, false, false, false, false, false, false, false] (by kernel_rfl) rfl rfl ⟨(HS0.out _ CS0.out), (HS1c.out _ CS0.out), (HS2.out _ CS0.out)⟩ (fun hHeld => ?_)
          refine pure_ (i := 0) (N := some 48) (v := ?_) (a' := ?_) #[true, false, false, false, false, false, false, false, false, false, false, false, false, false, false, false, false, false, false, false, false, false, false, false, false, false, false, false, false, false] rfl rfl (by kernel_rfl) (fun _ _ _ h => h) (Or.inl ⟨by rfl, ?_⟩) ?_ ?_
          rotate_left
          · intro w'
            go_simp
            with_reducible rfl
          rotate_left
          · simp only [Act.put, List.setIfInBounds_toArray, List.set_cons_zero, List.set_cons_succ, i64_w, i32_w]
            rfl
          refine pure_ (i := 1) (N := some 49) (v := ?_) (a' := ?_) #[true, true, false, false, false, false, false, false, false, false, false, false, false, false, false, false, false, false, false, false, false, false, false, false, false, false, false, false, false, false] rfl rfl (by kernel_rfl) (fun _ _ _ h => h) (Or.inl ⟨by rfl, ?_⟩) ?_ ?_
          rotate_left
          · intro w'
            go_simp
            with_reducible rfl
          rotate_left
          · simp only [Act.put, List.setIfInBounds_toArray, List.set_cons_zero, List.set_cons_succ, i64_w, i32_w]
            rfl
          refine pure_ (i := 2) (N := some 50) (v := ?_) (a' := ?_) #[true, true, true, false, false, false, false, false, false, false, false, false, false, false, false, false, false, false, false, false, false, false, false, false, false, false, false, false, false, false] rfl rfl (by kernel_rfl) (fun _ _ _ h => h) (Or.inl ⟨by rfl, ?_⟩) ?_ ?_
          rotate_left
          · intro w'
            go_simp
            with_reducible rfl
          rotate_left
          · simp only [Act.put, List.setIfInBounds_toArray, List.set_cons_zero, List.set_cons_succ, i64_w, i32_w]
            rfl
          refine pure_ (i := 3) (N := some 51) (v := ?_) (a' := ?_) #[true, true, true, true, false, false, false, false, false, false, false, false, false, false, false, false, false, false, false, false, false, false, false, false, false, false, false, false, false, false] rfl rfl (by kernel_rfl) (fun _ _ _ h => h) (Or.inl ⟨by rfl, ?_⟩) ?_ ?_
          rotate_left
          · intro w'
            go_simp
            with_reducible rfl
          rotate_left
          · simp only [Act.put, List.setIfInBounds_toArray, List.set_cons_zero, List.set_cons_succ, i64_w, i32_w]
            rfl
          refine pure_ (i := 6) (N := some 54) (v := ?_) (a' := ?_) #[true, true, true, true, false, false, true, false, false, false, false, false, false, false, false, false, false, false, false, false, false, false, false, false, false, false, false, false, false, false] rfl rfl (by kernel_rfl) (fun _ _ _ h => h) (Or.inl ⟨by rfl, ?_⟩) ?_ ?_
          rotate_left
          · intro w'
            go_simp
            with_reducible rfl
          rotate_left
          · simp only [Act.put, List.setIfInBounds_toArray, List.set_cons_zero, List.set_cons_succ, i64_w, i32_w]
            rfl
          refine pure_ (i := 8) (N := some 56) (v := ?_) (a' := ?_) #[true, true, true, true, false, false, true, false, true, false, false, false, false, false, false, false, false, false, false, false, false, false, false, false, false, false, false, false, false, false] rfl rfl (by kernel_rfl) (fun _ _ _ h => h) (Or.inl ⟨by rfl, ?_⟩) ?_ ?_
          rotate_left
          · intro w'
            go_simp
            with_reducible rfl
          rotate_left
          · simp only [Act.put, List.setIfInBounds_toArray, List.set_cons_zero, List.set_cons_succ, i64_w, i32_w]
            rfl
          refine take_ (i := 4) (N := some 52) (v := ?_) (a' := ?_) #[true, true, true, true, true, false, true, false, true, false, false, false, false, false, false, false, false, false, false, false, false, false, false, false, false, false, false, false, false, false] rfl rfl (by kernel_rfl) (fun _ _ _ h => h) (Or.inl ⟨by rfl, ?_⟩) hHeld ?_ ?_
          rotate_left
          · rintro w' ⟨s0, s1, s2⟩
            go_simp
            with_reducible rfl
          rotate_left
          · simp only [Act.put, List.setIfInBounds_toArray, List.set_cons_zero, List.set_cons_succ, i64_w, i32_w]
            rfl
          refine take_ (i := 7) (N := some 55) (v := ?_) (a' := ?_) #[true, true, true, true, true, false, true, true, true, false, false, false, false, false, false, false, false, false, false, false, false, false, false, false, false, false, false, false, false, false] rfl rfl (by kernel_rfl) (fun _ _ _ h => h) (Or.inl ⟨by rfl, ?_⟩) hHeld ?_ ?_
          rotate_left
          · rintro w' ⟨s0, s1, s2⟩
            go_simp
            with_reducible rfl
          rotate_left
          · simp only [Act.put, List.setIfInBounds_toArray, List.set_cons_zero, List.set_cons_succ, i64_w, i32_w]
            rfl
          refine pure_ (i := 9) (N := some 57) (v := ?_) (a' := ?_) #[true, true, true, true, true, false, true, true, true, true, false, false, false, false, false, false, false, false, false, false, false, false, false, false, false, false, false, false, false, false] rfl rfl (by kernel_rfl) (fun _ _ _ h => h) (Or.inl ⟨by rfl, ?_⟩) ?_ ?_
          rotate_left
          · intro w'
            go_simp
            with_reducible rfl
          rotate_left
          · simp only [Act.put, List.setIfInBounds_toArray, List.set_cons_zero, List.set_cons_succ, i64_w, i32_w]
            rfl
          refine take_ (i := 10) (N := some 58) (v := ?_) (a' := ?_) #[true, true, true, true, true, false, true, true, true, true, true, false, false, false, false, false, false, false, false, false, false, false, false, false, false, false, false, false, false, false] rfl rfl (by kernel_rfl) (fun _ _ _ h => h) (Or.inl ⟨by rfl, ?_⟩) hHeld ?_ ?_
          rotate_left
          · rintro w' ⟨s0, s1, s2⟩
            go_simp
            with_reducible rfl
          rotate_left
          · simp only [Act.put, List.setIfInBounds_toArray, List.set_cons_zero, List.set_cons_succ, i64_w, i32_w]
            rfl
          refine join_ (σ := (Option Addr × Nat) × Nat) 18 #[true, true, true, true, true, true, true, true, true, true, true, true, false, false, false, false, false, false, false, false, false, false, false, false, false, false, false, false, false, false] (fun s_ => [(53, .slice s_.1.1 [fd].length s_.1.2), (59, .slice (some ⟨s_.2, 0, none⟩) 1 1)]) (fun s_ w' => Cs (w.heap.size + 1) W1 g BB p (.slice (some as_) (sitesL p fn).length cs_) (.slice ab_ (backsL p fn).length cb_) (sitesL p fn) (backsL p fn) w' ∧ Kd.R (Kd.int .i64) 3 w' 0 (fun _ => True) (.slice s_.1.1 [fd].length s_.1.2) [fd] ∧ w'.heap[s_.2]? = some (.cells #[.int .i64 fd] 3 (0, 0))) ?_ ?_
          rotate_left
          · intro hCont
            refine two_ (i := 5) (j := 11) (Ni := some 53) (Nj := some 59) #[true, true, true, true, true, true, true, true, true, true, true, false, false, false, false, false, false, false, false, false, false, false, false, false, false, false, false, false, false, false] #[true, true, true, true, true, false, true, true, true, true, true, true, false, false, false, false, false, false, false, false, false, false, false, false, false, false, false, false, false, false] rfl rfl rfl rfl (by kernel_rfl) (by decide) (by decide) (fun K hK => ?_) (fun K hK => ?_)
            · skip
              refine goes_ Try.func12 (by kernel_rfl) rfl #[.pointer (some ⟨g, 0, none⟩), .int .i64 z] (by rfl) rfl rfl (by simp only [List.map_toArray, List.map_cons, List.map_nil]; rfl) ?_
              refine (graphNext hrt CS0.out.gr hzw).mono ?_
              rintro e w5 ⟨v5, rfl, hR5, hM5, hF5⟩
              rw [hnx] at hR5
              obtain ⟨A5, c5, ev5⟩ := Kd.R_slice hR5
              subst ev5
              refine ⟨_, rfl, ?_⟩
              have CS5 := Aside0.mk (CS0.out.fr hM5 hF5 HLG.out)
              have HR5 := Aside0.mk (Kd.R_lower hR5 (Nat.zero_le _))
              have HF5 := Aside0.mk hF5
              clear hR5 hM5 hF5
              refine hK.out _ _ ⟨(HS0.out _ CS5.out), (HS1c.out _ CS5.out), (HS2.out _ CS5.out)⟩ (fun hHeld => ?_)
              clear hK K
              refine norm_ (a' := ?_) ?_ ?_
              rotate_left
              · show Act.put _ (some 53) _ = _
                simp only [Act.put, List.setIfInBounds_toArray, List.set_cons_zero, List.set_cons_succ, i64_w, i32_w]
                rfl
              refine one_ (i := 11) (N := some 59) #[true, true, true, true, true, true, true, true, true, true, true, true, false, false, false, false, false, false, false, false, false, false, false, false, false, false, false, false, false, false] rfl rfl (by kernel_rfl) (by decide) (fun K hK => ?_)
              refine value_ (w1 := ?_) (v := ?_) (by rfl) rfl ?_ ?_
              rotate_left 2
              · go_simp
                constructor
                · rfl
                · rfl
              refine hK.out _ _ ⟨(HS0.out _ (CS5.out.below (below_alloc (Below.refl _ _) (Obj.cells #[.int .i64 fd] 3)))), (HS1c.out _ (CS5.out.below (below_alloc (Below.refl _ _) (Obj.cells #[.int .i64 fd] 3)))), (HS2.out _ (CS5.out.below (below_alloc (Below.refl _ _) (Obj.cells #[.int .i64 fd] 3))))⟩ (fun hHeld => ?_)
              clear hK K
              refine norm_ (a' := ?_) ?_ ?_
              rotate_left
              · show Act.put _ (some 59) _ = _
                simp only [Act.put, List.setIfInBounds_toArray, List.set_cons_zero, List.set_cons_succ, i64_w, i32_w]
                rfl
              exact norm_ (by simp only [putAll, Act.put, List.setIfInBounds_toArray, List.set_cons_zero, List.set_cons_succ]) (hCont ((A5, c5), w5.heap.size) _ ⟨CS5.out.below (below_alloc (Below.refl _ _) (Obj.cells #[.int .i64 fd] 3)), Kd.R_alloc HR5.out _, blk_new w5 _⟩)
            · skip
              refine value_ (w1 := ?_) (v := ?_) (by rfl) rfl ?_ ?_
              rotate_left 2
              · go_simp
                constructor
                · rfl
                · rfl
              refine hK.out _ _ ⟨(HS0.out _ (CS0.out.below (below_alloc (Below.refl _ _) (Obj.cells #[.int .i64 fd] 3)))), (HS1c.out _ (CS0.out.below (below_alloc (Below.refl _ _) (Obj.cells #[.int .i64 fd] 3)))), (HS2.out _ (CS0.out.below (below_alloc (Below.refl _ _) (Obj.cells #[.int .i64 fd] 3))))⟩ (fun hHeld => ?_)
              clear hK K
              refine norm_ (a' := ?_) ?_ ?_
              rotate_left
              · show Act.put _ (some 59) _ = _
                simp only [Act.put, List.setIfInBounds_toArray, List.set_cons_zero, List.set_cons_succ, i64_w, i32_w]
                rfl
              refine one_ (i := 5) (N := some 53) #[true, true, true, true, true, true, true, true, true, true, true, true, false, false, false, false, false, false, false, false, false, false, false, false, false, false, false, false, false, false] rfl rfl (by kernel_rfl) (by decide) (fun K hK => ?_)
              refine goes_ Try.func12 (by kernel_rfl) rfl #[.pointer (some ⟨g, 0, none⟩), .int .i64 z] (by rfl) rfl rfl (by simp only [List.map_toArray, List.map_cons, List.map_nil]; rfl) ?_
              refine (graphNext hrt (CS0.out.below (below_alloc (Below.refl _ _) (Obj.cells #[.int .i64 fd] 3))).gr hzw).mono ?_
              rintro e w5 ⟨v5, rfl, hR5, hM5, hF5⟩
              rw [hnx] at hR5
              obtain ⟨A5, c5, ev5⟩ := Kd.R_slice hR5
              subst ev5
              refine ⟨_, rfl, ?_⟩
              have CS5 := Aside0.mk ((CS0.out.below (below_alloc (Below.refl _ _) (Obj.cells #[.int .i64 fd] 3))).fr hM5 hF5 HLG.out)
              have HR5 := Aside0.mk (Kd.R_lower hR5 (Nat.zero_le _))
              have HF5 := Aside0.mk hF5
              clear hR5 hM5 hF5
              refine hK.out _ _ ⟨(HS0.out _ CS5.out), (HS1c.out _ CS5.out), (HS2.out _ CS5.out)⟩ (fun hHeld => ?_)
              clear hK K
              refine norm_ (a' := ?_) ?_ ?_
              rotate_left
              · show Act.put _ (some 53) _ = _
                simp only [Act.put, List.setIfInBounds_toArray, List.set_cons_zero, List.set_cons_succ, i64_w, i32_w]
                rfl
              exact norm_ (by simp only [putAll, Act.put, List.setIfInBounds_toArray, List.set_cons_zero, List.set_cons_succ]) (hCont ((A5, c5), wo.heap.size) _ ⟨CS5.out, HR5.out, (HF5.out.block _ (by show _ < (wo.heap.push _).size; simp) (Nat.ne_of_gt CS0.out.gr.lt)).trans (blk_new wo.drew (Obj.cells #[.int .i64 fd] 3))⟩)
          rintro s_ wj hst_
          have HST := Aside0.mk hst_
          have hHeld := And.intro (HS0.out _ hst_.1) (And.intro (HS1c.out _ hst_.1) (HS2.out _ hst_.1))
          clear hst_
          refine norm_ (a' := ?_) ?_ ?_
          rotate_left
          · simp only [putAll, Act.put, List.setIfInBounds_toArray, List.set_cons_zero, List.set_cons_succ]
            rfl
          refine one_ (i := 12) (N := some 60) #[true, true, true, true, true, true, true, true, true, true, true, true, true, false, false, false, false, false, false, false, false, false, false, false, false, false, false, false, false, false] rfl rfl (by kernel_rfl) (by decide) (fun K hK => ?_)
          refine goes_ Try.func16 (by kernel_rfl) rfl #[.slice s_.1.1 [fd].length s_.1.2, .slice (some ⟨s_.2, 0, none⟩) 1 1] (by rfl) rfl rfl (by simp only [List.map_toArray, List.map_cons, List.map_nil]; rfl) ?_
          refine (ints_calls true (Kd.R_reads' HST.out.2.1).2.2 (Kd.R_reads' HST.out.2.1).2.1 (ints_lit [fd] (by simp) HST.out.2.2) (Nat.le_refl 1) (by simp) (by simp)).mono ?_
          rintro e w6 ⟨rfl, nd, rfl⟩
          refine ⟨_, rfl, ?_⟩
          have CS6 := Aside0.mk (HST.out.1.below (below_drewN (Below.refl _ _) nd))
          refine hK.out _ _ ⟨(HS0.out _ CS6.out), (HS1c.out _ CS6.out), (HS2.out _ CS6.out)⟩ (fun hHeld => ?_)
          clear hK K
          refine norm_ (a' := ?_) ?_ ?_
          rotate_left
          · show Act.put _ (some 60) _ = _
            simp only [Act.put, List.setIfInBounds_toArray, List.set_cons_zero, List.set_cons_succ, i64_w, i32_w]
            rfl
          refine pure_ (i := 13) (N := some 61) (v := ?_) (a' := ?_) #[true, true, true, true, true, true, true, true, true, true, true, true, true, true, false, false, false, false, false, false, false, false, false, false, false, false, false, false, false, false] rfl rfl (by kernel_rfl) (fun _ _ _ h => h) (Or.inl ⟨by rfl, ?_⟩) ?_ ?_
          rotate_left
          · intro w'
            go_simp
            with_reducible rfl
          rotate_left
          · simp only [Act.put, List.setIfInBounds_toArray, List.set_cons_zero, List.set_cons_succ, i64_w, i32_w]
            rfl
          refine pure_ (i := 14) (N := some 62) (v := ?_) (a' := ?_) #[true, true, true, true, true, true, true, true, true, true, true, true, true, true, true, false, false, false, false, false, false, false, false, false, false, false, false, false, false, false] rfl rfl (by kernel_rfl) (fun _ _ _ h => h) (Or.inl ⟨by rfl, ?_⟩) ?_ ?_
          rotate_left
          · intro w'
            go_simp
            with_reducible rfl
          rotate_left
          · simp only [Act.put, List.setIfInBounds_toArray, List.set_cons_zero, List.set_cons_succ, i64_w, i32_w]
            rfl
          refine pure_ (i := 15) (N := some 63) (v := ?_) (a' := ?_) #[true, true, true, true, true, true, true, true, true, true, true, true, true, true, true, true, false, false, false, false, false, false, false, false, false, false, false, false, false, false] rfl rfl (by kernel_rfl) (fun _ _ _ h => h) (Or.inl ⟨by rfl, ?_⟩) ?_ ?_
          rotate_left
          · intro w'
            go_simp
            with_reducible rfl
          rotate_left
          · simp only [Act.put, List.setIfInBounds_toArray, List.set_cons_zero, List.set_cons_succ, i64_w, i32_w]
            rfl
          refine pure_ (i := 16) (N := some 64) (v := ?_) (a' := ?_) #[true, true, true, true, true, true, true, true, true, true, true, true, true, true, true, true, true, false, false, false, false, false, false, false, false, false, false, false, false, false] rfl rfl (by kernel_rfl) (fun _ _ _ h => h) (Or.inl ⟨by rfl, ?_⟩) ?_ ?_
          rotate_left
          · intro w'
            go_simp
            with_reducible rfl
          rotate_left
          · simp only [Act.put, List.setIfInBounds_toArray, List.set_cons_zero, List.set_cons_succ, i64_w, i32_w]
            rfl
          refine pure_ (i := 17) (N := some 65) (v := ?_) (a' := ?_) #[true, true, true, true, true, true, true, true, true, true, true, true, true, true, true, true, true, true, false, false, false, false, false, false, false, false, false, false, false, false] rfl rfl (by kernel_rfl) (fun _ _ _ h => h) (Or.inl ⟨by rfl, ?_⟩) ?_ ?_
          rotate_left
          · intro w'
            go_simp
            with_reducible rfl
          rotate_left
          · simp only [Act.put, List.setIfInBounds_toArray, List.set_cons_zero, List.set_cons_succ, i64_w, i32_w]
            rfl
          refine pure_ (i := 18) (N := some 66) (v := undef) (a' := ?_) #[true, true, true, true, true, true, true, true, true, true, true, true, true, true, true, true, true, true, true, false, false, false, false, false, false, false, false, false, false, false] rfl rfl (by kernel_rfl) (fun _ _ _ h => h) (Or.inr ⟨by rfl, rfl⟩) ?_ ?_
          rotate_left
          · simp only [Act.put, List.setIfInBounds_toArray, List.set_cons_zero, List.set_cons_succ, i64_w, i32_w]
            rfl
          refine pure_ (i := 19) (N := some 67) (v := undef) (a' := ?_) #[true, true, true, true, true, true, true, true, true, true, true, true, true, true, true, true, true, true, true, true, false, false, false, false, false, false, false, false, false, false] rfl rfl (by kernel_rfl) (fun _ _ _ h => h) (Or.inr ⟨by rfl, rfl⟩) ?_ ?_
          rotate_left
          · simp only [Act.put, List.setIfInBounds_toArray, List.set_cons_zero, List.set_cons_succ, i64_w, i32_w]
            rfl
          refine pure_ (i := 20) (N := some 68) (v := undef) (a' := ?_) #[true, true, true, true, true, true, true, true, true, true, true, true, true, true, true, true, true, true, true, true, true, false, false, false, false, false, false, false, false, false] rfl rfl (by kernel_rfl) (fun _ _ _ h => h) (Or.inr ⟨by rfl, rfl⟩) ?_ ?_
          rotate_left
          · simp only [Act.put, List.setIfInBounds_toArray, List.set_cons_zero, List.set_cons_succ, i64_w, i32_w]
            rfl
          refine pure_ (i := 21) (N := some 69) (v := undef) (a' := ?_) #[true, true, true, true, true, true, true, true, true, true, true, true, true, true, true, true, true, true, true, true, true, true, false, false, false, false, false, false, false, false] rfl rfl (by kernel_rfl) (fun _ _ _ h => h) (Or.inr ⟨by rfl, rfl⟩) ?_ ?_
          rotate_left
          · simp only [Act.put, List.setIfInBounds_toArray, List.set_cons_zero, List.set_cons_succ, i64_w, i32_w]
            rfl
          refine pure_ (i := 22) (N := some 70) (v := undef) (a' := ?_) #[true, true, true, true, true, true, true, true, true, true, true, true, true, true, true, true, true, true, true, true, true, true, true, false, false, false, false, false, false, false] rfl rfl (by kernel_rfl) (fun _ _ _ h => h) (Or.inr ⟨by rfl, rfl⟩) ?_ ?_
          rotate_left
          · simp only [Act.put, List.setIfInBounds_toArray, List.set_cons_zero, List.set_cons_succ, i64_w, i32_w]
            rfl
          refine pure_ (i := 23) (N := some 71) (v := undef) (a' := ?_) #[true, true, true, true, true, true, true, true, true, true, true, true, true, true, true, true, true, true, true, true, true, true, true, true, false, false, false, false, false, false] rfl rfl (by kernel_rfl) (fun _ _ _ h => h) (Or.inr ⟨by rfl, rfl⟩) ?_ ?_
          rotate_left
          · simp only [Act.put, List.setIfInBounds_toArray, List.set_cons_zero, List.set_cons_succ, i64_w, i32_w]
            rfl
          refine pure_ (i := 24) (N := some 72) (v := undef) (a' := ?_) #[true, true, true, true, true, true, true, true, true, true, true, true, true, true, true, true, true, true, true, true, true, true, true, true, true, false, false, false, false, false] rfl rfl (by kernel_rfl) (fun _ _ _ h => h) (Or.inr ⟨by rfl, rfl⟩) ?_ ?_
          rotate_left
          · simp only [Act.put, List.setIfInBounds_toArray, List.set_cons_zero, List.set_cons_succ, i64_w, i32_w]
            rfl
          refine pure_ (i := 25) (N := some 73) (v := undef) (a' := ?_) #[true, true, true, true, true, true, true, true, true, true, true, true, true, true, true, true, true, true, true, true, true, true, true, true, true, true, false, false, false, false] rfl rfl (by kernel_rfl) (fun _ _ _ h => h) (Or.inr ⟨by rfl, rfl⟩) ?_ ?_
          rotate_left
          · simp only [Act.put, List.setIfInBounds_toArray, List.set_cons_zero, List.set_cons_succ, i64_w, i32_w]
            rfl
          refine pure_ (i := 26) (N := some 74) (v := undef) (a' := ?_) #[true, true, true, true, true, true, true, true, true, true, true, true, true, true, true, true, true, true, true, true, true, true, true, true, true, true, true, false, false, false] rfl rfl (by kernel_rfl) (fun _ _ _ h => h) (Or.inr ⟨by rfl, rfl⟩) ?_ ?_
          rotate_left
          · simp only [Act.put, List.setIfInBounds_toArray, List.set_cons_zero, List.set_cons_succ, i64_w, i32_w]
            rfl
          refine pure_ (i := 27) (N := some 75) (v := undef) (a' := ?_) #[true, true, true, true, true, true, true, true, true, true, true, true, true, true, true, true, true, true, true, true, true, true, true, true, true, true, true, true, false, false] rfl rfl (by kernel_rfl) (fun _ _ _ h => h) (Or.inr ⟨by rfl, rfl⟩) ?_ ?_
          rotate_left
          · simp only [Act.put, List.setIfInBounds_toArray, List.set_cons_zero, List.set_cons_succ, i64_w, i32_w]
            rfl
          refine pure_ (i := 28) (N := some 76) (v := ?_) (a' := ?_) #[true, true, true, true, true, true, true, true, true, true, true, true, true, true, true, true, true, true, true, true, true, true, true, true, true, true, true, true, true, false] rfl rfl (by kernel_rfl) (fun _ _ _ h => h) (Or.inl ⟨by rfl, ?_⟩) ?_ ?_
          rotate_left
          · intro w'
            go_simp
            with_reducible rfl
          rotate_left
          · simp only [Act.put, List.setIfInBounds_toArray, List.set_cons_zero, List.set_cons_succ, i64_w, i32_w]
            rfl
          refine pure_ (i := 29) (N := some 77) (v := ?_) (a' := ?_) #[true, true, true, true, true, true, true, true, true, true, true, true, true, true, true, true, true, true, true, true, true, true, true, true, true, true, true, true, true, true] rfl rfl (by kernel_rfl) (fun _ _ _ h => h) (Or.inl ⟨by rfl, ?_⟩) ?_ ?_
          rotate_left
          · intro w'
            go_simp
            with_reducible rfl
          rotate_left
          · simp only [Act.put, List.setIfInBounds_toArray, List.set_cons_zero, List.set_cons_succ, i64_w, i32_w]
            rfl
          refine done_ (by kernel_rfl) ?_
          go_wp2
          go_roundw
          case rel => exact ⟨i + 1, by go_num, ⟨by omega⟩, CS6⟩
          case measure => simp [intOf]; omega
      · have ei : i = (sitesL p fn).length := by omega
        subst ei
        have hid : decide (((sitesL p fn).length : Int) < ((sitesL p fn).length : Int)) = false := decide_eq_false (by omega)
        clear hil hi
        go_wp2
        clear hid
        go_loopw [10] (fun v10 wr => ∃ (i : Nat), v10 = .int .i64 i ∧ Aside0 (i ≤ (backsL p fn).length) ∧ Aside0 (Cs (w.heap.size + 1) W1 g BB p (.slice as0 (sitesL p fn).length cs_) (.slice ab_ (backsL p fn).length cb_) (sitesL p fn) (backsL p fn) wr))
          (fun v _ => (backsL p fn).length - (intOf v).toNat)
        case atStart => exact ⟨0, rfl, ⟨Nat.zero_le _⟩, hcs⟩
        case round =>
          clear hcs
          obtain ⟨i, rfl, hi, hcs⟩ := hrel
          have hi := hi.out
          have hn256 := HN.out
          have hsl := sites_len p hn256 fn
          have hbl := backs_len p hn256 fn
          by_cases hil : i < (backsL p fn).length
          · obtain ⟨wo, rfl⟩ : ∃ wo : World, wo = wr := ⟨_, rfl⟩
            have hid : decide ((i : Int) < ((backsL p fn).length : Int)) = true := decide_eq_true (by omega)
            obtain ⟨z, hz⟩ : ∃ z, rd (backsL p fn) (i : Int) = z := ⟨_, rfl⟩
            obtain ⟨ab, ea, hxz⟩ := Kd.at_int (Kd.R_reads' hcs.out.r2).2.2 (i : Int) (by omega) (by omega)
            cases ea
            rw [Int.toNat_natCast, hz] at hxz
            have hzm := rd_mem hil
            rw [hz] at hzm
            have hzi := backs_in hzm
            have hnx := next_back hzm
            have HNX := Aside0.mk (graphNext hrt hcs.out.gr (x := z) (Gr.wfI_of (by omega)))
            have hp0 : (0 ≤ (i : Int)) = True := eq_true (by omega)
            have hp1 : ((i : Int) < ((backsL p fn).length : Int)) = True := eq_true (by omega)
            have hwi : IntKind.i64.wrap ((i : Int) + 1) = (i : Int) + 1 := IntWalk.i64_in _ (by omega)
            clear hz hzm
            go_wp2_with fail
            refine HNX.out.mono ?_
            rintro e w5 ⟨v, rfl, hR, hM, hF⟩
            have CS5 := Aside0.mk (hcs.out.fr hM hF HLG.out)
            rw [hnx] at hR
            obtain ⟨an, cn, ev⟩ := Kd.R_slice hR
            rw [List.length_map] at ev
            subst ev
            have HRN := Aside0.mk (Kd.R_lower hR (Nat.zero_le _))
            clear hR hM hF HNX hxz hp0 hp1
            go_wp2
            go_loopw [12] (fun v12 wi => ∃ (k : Nat), v12 = .int .i64 k ∧ Aside0 (k ≤ (sitesL p fn).length) ∧ Aside0 (Cs (w.heap.size + 1) W1 g BB p (.slice as0 (sitesL p fn).length cs_) (.slice (some ab) (backsL p fn).length cb_) (sitesL p fn) (backsL p fn) wi) ∧ Aside0 (Kd.R (Kd.int .i64) 3 wi 0 (fun _ => True) (.slice an (sitesL p fn).length cn) ((sitesL p fn).map (· + 1))))
              (fun v _ => (sitesL p fn).length - (intOf v).toNat)
            case atStart => exact ⟨0, rfl, ⟨Nat.zero_le _⟩, CS5, HRN⟩
            case round =>
              clear CS5 HRN hcs
              obtain ⟨k, rfl, hk, hcs, hrn⟩ := hrel
              have hk := hk.out
              by_cases hkl : k < (sitesL p fn).length
              · obtain ⟨wv, rfl⟩ : ∃ wv : World, wv = wr := ⟨_, rfl⟩
                have hkd : decide ((k : Int) < ((sitesL p fn).length : Int)) = true := decide_eq_true (by omega)
                obtain ⟨y, hy⟩ : ∃ z, rd (sitesL p fn) (k : Int) = z := ⟨_, rfl⟩
                obtain ⟨as_, ea, hxs⟩ := Kd.at_int (Kd.R_reads' hcs.out.r1).2.2 (k : Int) (by omega) (by omega)
                cases ea
                rw [Int.toNat_natCast, hy] at hxs
                have hR' := hrn.out
                rw [show (sitesL p fn).length = ((sitesL p fn).map (· + 1)).length by simp] at hR'
                obtain ⟨an_, ea, hxn⟩ := Kd.at_int (Kd.R_reads' hR').2.2 (k : Int) (by omega) (by rw [List.length_map]; omega)
                cases ea
                have hym : rd ((sitesL p fn).map (· + 1)) (k : Int) = y + 1 := by
                  rw [← hy]
                  unfold rd
                  rw [Int.toNat_natCast, List.getD_eq_getElem?_getD, List.getD_eq_getElem?_getD, List.getElem?_map, List.getElem?_eq_getElem hkl]
                  rfl
                rw [Int.toNat_natCast, hym] at hxn
                have hyi := mem_sites.1 (hy ▸ rd_mem hkl)
                have hwy : IntKind.i64.wrap (y + 1) = y + 1 := IntWalk.i64_in _ (by omega)
                have hwk : IntKind.i64.wrap ((k : Int) + 1) = (k : Int) + 1 := IntWalk.i64_in _ (by omega)
                have hp0 : (0 ≤ (k : Int)) = True := eq_true (by omega)
                have hp1 : ((k : Int) < ((sitesL p fn).length : Int)) = True := eq_true (by omega)
                have hne : ((y + 1) != (y + 1)) = false := by simp
                clear hy hym hR' hyi
                go_upto_region 23 with (fail)
                refine start_ (n := 10) (S := fun w' => w'.cell? (an_.add k) = some (.int .i64 (y + 1)) ∧ w'.cell? (as_.add k) = some (.int .i64 y)) (ds := []) #[false, false, false, false, false, false, false, false, false, false] (by kernel_rfl) rfl rfl ⟨hxn, hxs⟩ (fun hHeld => ?_)
                refine pure_ (i := 0) (N := some 101) (v := ?_) (a' := ?_) #[true, false, false, false, false, false, false, false, false, false] rfl rfl (by kernel_rfl) (fun _ _ _ h => h) (Or.inl ⟨by rfl, ?_⟩) ?_ ?_
                rotate_left
                · intro w'
                  go_simp
                  with_reducible rfl
                rotate_left
                · simp only [Act.put, List.setIfInBounds_toArray, List.set_cons_zero, List.set_cons_succ, i64_w, i32_w]
                  rfl
                refine pure_ (i := 1) (N := some 102) (v := ?_) (a' := ?_) #[true, true, false, false, false, false, false, false, false, false] rfl rfl (by kernel_rfl) (fun _ _ _ h => h) (Or.inl ⟨by rfl, ?_⟩) ?_ ?_
                rotate_left
                · intro w'
                  go_simp
                  with_reducible rfl
                rotate_left
                · simp only [Act.put, List.setIfInBounds_toArray, List.set_cons_zero, List.set_cons_succ, i64_w, i32_w]
                  rfl
                refine pure_ (i := 2) (N := some 103) (v := ?_) (a' := ?_) #[true, true, true, false, false, false, false, false, false, false] rfl rfl (by kernel_rfl) (fun _ _ _ h => h) (Or.inl ⟨by rfl, ?_⟩) ?_ ?_
                rotate_left
                · intro w'
                  go_simp
                  with_reducible rfl
                rotate_left
                · simp only [Act.put, List.setIfInBounds_toArray, List.set_cons_zero, List.set_cons_succ, i64_w, i32_w]
                  rfl
                refine pure_ (i := 4) (N := some 105) (v := ?_) (a' := ?_) #[true, true, true, false, true, false, false, false, false, false] rfl rfl (by kernel_rfl) (fun _ _ _ h => h) (Or.inl ⟨by rfl, ?_⟩) ?_ ?_
                rotate_left
                · intro w'
                  go_simp
                  with_reducible rfl
                rotate_left
                · simp only [Act.put, List.setIfInBounds_toArray, List.set_cons_zero, List.set_cons_succ, i64_w, i32_w]
                  rfl
                refine pure_ (i := 5) (N := some 106) (v := ?_) (a' := ?_) #[true, true, true, false, true, true, false, false, false, false] rfl rfl (by kernel_rfl) (fun _ _ _ h => h) (Or.inl ⟨by rfl, ?_⟩) ?_ ?_
                rotate_left
                · intro w'
                  go_simp
                  with_reducible rfl
                rotate_left
                · simp only [Act.put, List.setIfInBounds_toArray, List.set_cons_zero, List.set_cons_succ, i64_w, i32_w]
                  rfl
                refine pure_ (i := 6) (N := some 107) (v := ?_) (a' := ?_) #[true, true, true, false, true, true, true, false, false, false] rfl rfl (by kernel_rfl) (fun _ _ _ h => h) (Or.inl ⟨by rfl, ?_⟩) ?_ ?_
                rotate_left
                · intro w'
                  go_simp
                  with_reducible rfl
                rotate_left
                · simp only [Act.put, List.setIfInBounds_toArray, List.set_cons_zero, List.set_cons_succ, i64_w, i32_w]
                  rfl
                refine take_ (i := 3) (N := some 104) (v := ?_) (a' := ?_) #[true, true, true, true, true, true, true, false, false, false] rfl rfl (by kernel_rfl) (fun _ _ _ h => h) (Or.inl ⟨by rfl, ?_⟩) hHeld ?_ ?_
                rotate_left
                · rintro w' ⟨s0, s1⟩
                  go_simp
                  with_reducible rfl
                rotate_left
                · simp only [Act.put, List.setIfInBounds_toArray, List.set_cons_zero, List.set_cons_succ, i64_w, i32_w]
                  rfl
                refine take_ (i := 7) (N := some 108) (v := ?_) (a' := ?_) #[true, true, true, true, true, true, true, true, false, false] rfl rfl (by kernel_rfl) (fun _ _ _ h => h) (Or.inl ⟨by rfl, ?_⟩) hHeld ?_ ?_
                rotate_left
                · rintro w' ⟨s0, s1⟩
                  go_simp
                  with_reducible rfl
                rotate_left
                · simp only [Act.put, List.setIfInBounds_toArray, List.set_cons_zero, List.set_cons_succ, i64_w, i32_w]
                  rfl
                refine pure_ (i := 8) (N := some 109) (v := ?_) (a' := ?_) #[true, true, true, true, true, true, true, true, true, false] rfl rfl (by kernel_rfl) (fun _ _ _ h => h) (Or.inl ⟨by rfl, ?_⟩) ?_ ?_
                rotate_left
                · intro w'
                  go_simp
                  with_reducible rfl
                rotate_left
                · simp only [Act.put, List.setIfInBounds_toArray, List.set_cons_zero, List.set_cons_succ, i64_w, i32_w]
                  rfl
                refine pure_ (i := 9) (N := some 110) (v := ?_) (a' := ?_) #[true, true, true, true, true, true, true, true, true, true] rfl rfl (by kernel_rfl) (fun _ _ _ h => h) (Or.inl ⟨by rfl, ?_⟩) ?_ ?_
                rotate_left
                · intro w'
                  go_simp
                  with_reducible rfl
                rotate_left
                · simp only [Act.put, List.setIfInBounds_toArray, List.set_cons_zero, List.set_cons_succ, i64_w, i32_w]
                  rfl
                refine done_ (by kernel_rfl) ?_
                go_wp2
                go_roundw
                case rel => exact ⟨k + 1, by go_num, ⟨by omega⟩, ⟨hcs.out.below (below_drew (Below.refl _ _))⟩, ⟨r_below hrn.out (below_drew (Below.refl _ _))⟩⟩
                case measure => simp [intOf]; omega
              · have hkd : decide ((k : Int) < ((sitesL p fn).length : Int)) = false := decide_eq_false (by omega)
                go_wp2
                go_roundw
                case rel => exact ⟨i + 1, by go_num, ⟨by omega⟩, hcs⟩
                case measure => simp [intOf]; omega
          · have hid : decide ((i : Int) < ((backsL p fn).length : Int)) = false := decide_eq_false (by omega)
            go_wp2
            go_ret
            exact ⟨rfl, below_then HB1.out HB1.out.size (by rw [HS1.out]; exact hcs.out.bel)⟩
end Go.Proofs.Ytcbnhfnnjkkceaa.X
end
section
namespace Go.Proofs.Ytcbnhfnnjkkceaa.graphCalls
open Go.ChangeShapes Go.WideShapes Go.ChangeAt Go.RowKit
set_option linter.unusedVariables false
theorem own : ownKnob Try.prog.godebug = none := by kernel_rfl
theorem laidOut : laidOutB Try.prog = true := by kernel_rfl
set_option maxRecDepth 100000 in
theorem lifted (os : Os) (started : os.Started) (H : Type) (enc : TypeId × Value → H) :
    ReturnsInHanded {} Try.checked os 4 .any (Rows.graphCallsSpec.pre6 enc Try.prog Try.f4 Rows.graphCallsRow.domain false) (Rows.graphCallsSpec.post enc Try.prog Try.f4 false true false false) := by
  refine returnsInHanded_of_change_sized (C := Try.checked) own started (by kernel_rfl) Try.func4
    (ChangeSpec.witness6 (enc := enc) (C := Try.checked) false ⟨#[], #[.agg #[.int .i64 0, .int .i64 0, .int .i64 0, .slice none 0 0, .slice none 0 0, .slice none 0 0], .int .i64 0], []⟩ 8 (by kernel_rfl) (by kernel_rfl) (by kernel_rfl) (by kernel_rfl)) ?_
  intro W base args ds gs before hval0 hW hcnd hsz0 _
  have hsz : (DataW.weightsEach Try.prog (Try.f4.params.toList ++ Rows.graphCallsSpec.plain.varTypes Try.prog) (ds ++ gs)).all (· ≤ reachBytes) = true := hsz0
  have hval : ∀ (j : Nat) t v, Try.f4.params[j]? = some t → args[j]? = some v → Value.okWide Try.prog W .any base t v := hval0
  have hW' := hW
  obtain ⟨p, q, hA0, hV, rfl, hfz, hnd⟩ := hW
  have hA : DataW.TrodAll enc Try.prog W 0 (fun _ => true) true Try.f4.params.toList args.toList ds p := hA0
  rw [Try.params4] at hA hval hsz
  obtain ⟨v0, vs0, d0, ds0, p0, q0, hargs, rfl, rfl, h0, r0⟩ := trodAll_cons hA
  obtain ⟨v1, vs1, d1, ds1, p1, q1, rfl, rfl, rfl, h1, r1⟩ := trodAll_cons r0
  obtain ⟨rfl, rfl, rfl⟩ := trodAll_nil r1
  obtain rfl : args = #[v0, v1] := by cases args; simp_all
  obtain ⟨rfl, rfl⟩ := trodVars_none hV
  have k0 := h0
  have lt0 : ∀ x ∈ p0, x.block < W.heap.size := by obtain ⟨m, hm⟩ := k0; exact DataW.trod_lt m _ _ _ hm
  obtain ⟨im0, A3_0, c3_0, A4_0, c4_0, A5_0, c5_0, rfl, hr3_0, hc3_0, hr4_0, hc4_0, hr5_0, hc5_0, hw0⟩ := X.open_image (hval 0 26 v0 rfl rfl) h0
  obtain ⟨a1, rfl, rfl, rfl, w1⟩ := open_int Try.underlying3 (hval 1 3 v1 rfl rfl) h1
  clear hA0 hval0 hsz0 hsz
  refine (X.graphCalls_law im0 A3_0 c3_0 A4_0 c4_0 A5_0 c5_0 a1 W hr3_0 hc3_0 hr4_0 hc4_0 hr5_0 hc5_0 hw0 w1).mono fun e W' ⟨he, bel⟩ => ?_
  subst he
  exact ⟨_, rfl, _, _, _, [], _, [], hW', trodAll_mk1 (shut_bool Try.underlying4 _), (trodAll_cons_mk (Below.trod laidOut (by kernel_rfl) (of_decide_eq_true (by kernel_rfl)) k0 bel lt0) (trodAll_cons_mk (shut_int Try.underlying3 w1) trodAll_mk0)), rfl, bel.frame _, fun h => by cases h⟩
theorem over : Rows.graphCallsRow.holds Try.pinned (OpenSpec.ofChange Rows.graphCallsSpec) :=
  OpenClaim.holds_of_wide 4 Try.f4 rfl rfl rfl rfl rfl rfl rfl ⟨rfl, rfl, rfl, rfl, rfl⟩ rfl rfl rfl rfl rfl (by kernel_rfl) Try.func4 (by kernel_rfl)
    (of_decide_eq_true (by kernel_rfl)) (by unfold Func.isWrapper; first | (rw [if_pos (by decide +kernel)]; kernel_rfl) | (rw [if_neg (by decide +kernel)]; exact ⟨rfl, rfl⟩))
    (fun os started H enc _ => lifted os started H enc)
theorem proved : Rows.GraphCallsSaid := over
#print axioms proved
end Go.Proofs.Ytcbnhfnnjkkceaa.graphCalls
namespace Go.Proofs.Ytcbnhfnnjkkceaa
/-- The row, under a short name, for the claim. -/
theorem graphCalls_holds : Rows.GraphCallsSaid := graphCalls.proved
end Go.Proofs.Ytcbnhfnnjkkceaa
end
