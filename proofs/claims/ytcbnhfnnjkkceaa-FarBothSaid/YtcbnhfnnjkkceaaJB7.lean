/- For the statement of the row : what its proof needs of the text B7. -/
import Derived.Test.YtcbnhfnnjkkceaaJB1
import Derived.Test.YtcbnhfnnjkkceaaJB2
import Derived.Test.YtcbnhfnnjkkceaaJB3
import Derived.Test.YtcbnhfnnjkkceaaJB4
import Derived.Test.YtcbnhfnnjkkceaaJB5
import Derived.Test.YtcbnhfnnjkkceaaJB6
set_option linter.unusedSimpArgs false
set_option linter.unusedVariables false

section
namespace Go.Proofs.Ytcbnhfnnjkkceaa.X
open Go.RowKit Go.Proofs.YtcbnhfnnjkkceaaW.PrintWords Go.Proofs.YtcbnhfnnjkkceaaW.PrintLast Go.Proofs.YtcbnhfnnjkkceaaW.PrintMore
attribute [local go_sem] max2_int min2_int max_two min_two max_three min_three max_four min_four
mutual
def z0d.j0 : Nat → Bool → Int → Int → Int → Int → Int → Option (Int)
 | 0,_,_,_,_,_,_=>none
 | k + 1,x11,x202000,x202001,x202002,x202003,x202004=>if x11 = true then (some 0) else ((z0e.f k x202000).bind fun t202=>((z0g.f k t202 97 x202001).bind fun t203=>(if t203 = true then ((z0g.f k t202 98 x202002).bind fun t204=>(if t204 = true then ((z0f.f k t202 119).bind fun t205=>(if t205 = true then (if x202003 = 1 then (z0d.j1 k t202 false x202000 x202001 x202002 x202003 x202004) else (if x202003 = 2 then (z0d.j1 k t202 false x202000 x202001 x202002 x202003 x202004) else (if x202003 = 4 then (z0d.j1 k t202 false x202000 x202001 x202002 x202003 x202004) else (z0d.j1 k t202 (x202003 != 8) x202000 x202001 x202002 x202003 x202004)))) else ((z0g.f k t202 99 x202003).bind fun t207=>(if t207 = true then ((z0f.f k t202 105).bind fun t208=>(if t208 = true then (some (-1)) else (if x202004 = 0 then (some (-1)) else (some 4)))) else (some 3))))) else (some 2))) else (some 1))))
def z0d.j1 : Nat → ByteArray → Bool → Int → Int → Int → Int → Int → Option (Int)
 | 0,_,_,_,_,_,_,_=>none
 | k + 1,x3,x44,x202000,x202001,x202002,x202003,x202004=>if x44 = true then (some 3) else ((z0f.f k x3 105).bind fun t206=>(if t206 = true then (some (-1)) else (if x202004 = 0 then (some (-1)) else (some 4))))
end
def z0d.f (k : Nat) (a0_0 : Int) (a0_1 : Int) (a0_2 : Int) (a0_3 : Int) (a0_4 : Int) : Option (Int):=if a0_0 < 0 then (z0d.j0 k true a0_0 a0_1 a0_2 a0_3 a0_4) else (z0d.j0 k (decide (a0_0 > 25)) a0_0 a0_1 a0_2 a0_3 a0_4)
theorem z0d.mono_l : ∀ k,(∀ y0 y1 y2 y3 y4 y5,LeO (z0d.j0 k y0 y1 y2 y3 y4 y5) (z0d.j0 (k + 1) y0 y1 y2 y3 y4 y5)) ∧ (∀ y0 y1 y2 y3 y4 y5 y6,LeO (z0d.j1 k y0 y1 y2 y3 y4 y5 y6) (z0d.j1 (k + 1) y0 y1 y2 y3 y4 y5 y6))
 | 0=>⟨fun _ _ _ _ _ _ r h=>by simp [z0d.j0] at h,fun _ _ _ _ _ _ _ r h=>by simp [z0d.j1] at h⟩
 | k + 1=>by
  obtain ⟨ih0,ih1⟩:=z0d.mono_l k
  refine ⟨?_,?_⟩
  ·intro y0 y1 y2 y3 y4 y5
   unfold z0d.j0
   repeat' first
   | (with_reducible exact ih0 _ _ _ _ _ _)
   | (with_reducible exact ih1 _ _ _ _ _ _ _)
   | (with_reducible exact z0e.mono _ _)
   | (with_reducible exact z0f.mono _ _ _)
   | (with_reducible exact z0g.mono _ _ _ _)
   | (with_reducible exact LeO.refl _)
   | (with_reducible exact LeO.none _)
   | (with_reducible refine LeO.ite ?_ ?_)
   | (with_reducible refine LeO.bind ?_ (fun _=>?_))
   | exact ih0 _ _ _ _ _ _
   | exact ih1 _ _ _ _ _ _ _
   | exact z0e.mono _ _
   | exact z0f.mono _ _ _
   | exact z0g.mono _ _ _ _
   | exact LeO.none _
   | refine LeO.ite ?_ ?_
   | refine LeO.bind ?_ (fun _=>?_)
  ·intro y0 y1 y2 y3 y4 y5 y6
   unfold z0d.j1
   repeat' first
   | (with_reducible exact ih0 _ _ _ _ _ _)
   | (with_reducible exact ih1 _ _ _ _ _ _ _)
   | (with_reducible exact z0e.mono _ _)
   | (with_reducible exact z0f.mono _ _ _)
   | (with_reducible exact z0g.mono _ _ _ _)
   | (with_reducible exact LeO.refl _)
   | (with_reducible exact LeO.none _)
   | (with_reducible refine LeO.ite ?_ ?_)
   | (with_reducible refine LeO.bind ?_ (fun _=>?_))
   | exact ih0 _ _ _ _ _ _
   | exact ih1 _ _ _ _ _ _ _
   | exact z0e.mono _ _
   | exact z0f.mono _ _ _
   | exact z0g.mono _ _ _ _
   | exact LeO.none _
   | refine LeO.ite ?_ ?_
   | refine LeO.bind ?_ (fun _=>?_)
theorem z0d.mono : ∀ a0 a1 a2 a3 a4 k,LeO (z0d.f k a0 a1 a2 a3 a4) (z0d.f (k + 1) a0 a1 a2 a3 a4):=by
 intro a0 a1 a2 a3 a4 k
 obtain ⟨ih0,ih1⟩:=z0d.mono_l k
 unfold z0d.f
 repeat' first
   | (with_reducible exact ih0 _ _ _ _ _ _)
   | (with_reducible exact ih1 _ _ _ _ _ _ _)
   | (with_reducible exact z0e.mono _ _)
   | (with_reducible exact z0f.mono _ _ _)
   | (with_reducible exact z0g.mono _ _ _ _)
   | (with_reducible exact LeO.refl _)
   | (with_reducible exact LeO.none _)
   | (with_reducible refine LeO.ite ?_ ?_)
   | (with_reducible refine LeO.bind ?_ (fun _=>?_))
   | exact ih0 _ _ _ _ _ _
   | exact ih1 _ _ _ _ _ _ _
   | exact z0e.mono _ _
   | exact z0f.mono _ _ _
   | exact z0g.mono _ _ _ _
   | exact LeO.none _
   | refine LeO.ite ?_ ?_
   | refine LeO.bind ?_ (fun _=>?_)
set_option maxHeartbeats 8000000 in
set_option maxRecDepth 100000 in
theorem z0d.calls (k : Nat) (a0_0 : Int) (a0_1 : Int) (a0_2 : Int) (a0_3 : Int) (a0_4 : Int) (r : Int) (w : World) (h : z0d.f k a0_0 a0_1 a0_2 a0_3 a0_4 = some r) :
  Calls Try.prog 68 #[.agg #[.int .i64 a0_0,.int .i64 a0_1,.int .i64 a0_2,.int .i64 a0_3,.int .u64 a0_4]] w fun e w'=>e = .returned (.int .i64 r) ∧ Below w.heap.size w w':=by
 have hu45:=Try.underlying45
 have HB:=Aside0.mk (Below.refl w.heap.size w)
 have H : (if a0_0 < 0 then (z0d.j0 k true a0_0 a0_1 a0_2 a0_3 a0_4) else (z0d.j0 k (decide (a0_0 > 25)) a0_0 a0_1 a0_2 a0_3 a0_4)) = some r:=h
 clear h
 have HC2:=Aside0.mk H
 clear H
 go_enter Try.func68,Try.ntmps68
 go_upto_region 1 with (first | ((with_reducible refine z10 (N:=1) rfl ?_); refine box_event ?hg (N:=1) ?hd (cs:=#[.int .i64 a0_0,.int .i64 a0_1,.int .i64 a0_2,.int .i64 a0_3,.int .u64 a0_4]) (t:=45) ?hr ?_; (case hd=>rfl); (case hg=>rfl); (case hr=>first | (go_simp; done) | (go_simp; rfl)); intro gb201 hg w3 hbox hb; have n0_:=Aside0.mk (z0s (by repeat (first | (with_reducible first | exact HB.out | apply z04 | apply z03 | apply z05) | exact HB.out)) hb); have n1_:=Aside0.mk (hbox); have n2_:=Aside0.mk ((by rw [hg]; exact (z0l (by repeat (first | (with_reducible first | exact HB.out | apply z04 | apply z03 | apply z05) | exact HB.out))) : w.heap.size ≤ gb201)); have n3_:=Aside0.mk ((by rw [hg]; exact (z0l (by repeat (first | (with_reducible first | exact HB.out | apply z04 | apply z03 | apply z05) | exact HB.out))) : w.heap.size ≤ gb201)); clear HB; have HB:=n0_; have BK201:=n1_; have GW201:=n2_; have GE201:=n3_; clear n0_ n1_ n2_ n3_; clear hb hbox hg))
 (try simp only [Act.put,zq1,zq2,zq3])
 go_cut [11] (fun v11 wc=>∃ (kq : Nat) (x11_1 : Bool),v11 = .bool x11_1 ∧ Aside0 (z0d.j0 kq x11_1 a0_0 a0_1 a0_2 a0_3 a0_4 = some r) ∧ Aside0 (kq ≤ k) ∧ Aside0 (wc.heap[gb201]? = some (.cells #[.int .i64 a0_0,.int .i64 a0_1,.int .i64 a0_2,.int .i64 a0_3,.int .u64 a0_4] 45 (0,0))) ∧ Aside0 (Below w.heap.size w wc))
 case first =>
  have H:=HC2.out
  clear HC2
  by_cases c4 : a0_0 < 0
  ·rw [if_pos c4] at H
   have c4b0 : decide (a0_0 < 0) = true:=decide_eq_true c4
   clear c4
   (first | rw [c4b0] | (simp only [i64_w,i32_w]; rw [c4b0]) | skip)
   have H':=Aside0.mk H
   clear H
   have hcz5_0 : w3.cell? ⟨gb201,0,none⟩ = some (.int .i64 a0_0):=(z02 BK201.out 0).trans rfl
   have hcz5_1 : w3.cell? ⟨gb201,1,none⟩ = some (.int .i64 a0_1):=(z02 BK201.out 1).trans rfl
   have hcz5_2 : w3.cell? ⟨gb201,2,none⟩ = some (.int .i64 a0_2):=(z02 BK201.out 2).trans rfl
   have hcz5_3 : w3.cell? ⟨gb201,3,none⟩ = some (.int .i64 a0_3):=(z02 BK201.out 3).trans rfl
   have hcz5_4 : w3.cell? ⟨gb201,4,none⟩ = some (.int .u64 a0_4):=(z02 BK201.out 4).trans rfl
   have hfz5_0:=z01 BK201.out 0
   have hfz5_1:=z01 BK201.out 1
   have hfz5_2:=z01 BK201.out 2
   have hfz5_3:=z01 BK201.out 3
   have hfz5_4:=z01 BK201.out 4
   go_wp2
   go_meet
   case rel=>exact ⟨_,(true),(by first | rfl | (simp; done) | (simp [*]; done)),H',⟨by first | omega | exact Nat.le_refl _⟩,⟨by (with_reducible repeat (first | refine z08 ?_ _ | refine z09 ?_ | refine z06 ?_ _)); exact BK201.out⟩,⟨by repeat (first | (with_reducible first | exact HB.out | apply z04 | apply z03 | apply z05 | refine z07 ?_ GE201.out) | exact HB.out)⟩⟩
  ·rw [if_neg c4] at H
   have c4b0 : decide (a0_0 < 0) = false:=decide_eq_false c4
   clear c4
   (first | rw [c4b0] | (simp only [i64_w,i32_w]; rw [c4b0]) | skip)
   have H':=Aside0.mk H
   clear H
   have hcz6_0 : w3.cell? ⟨gb201,0,none⟩ = some (.int .i64 a0_0):=(z02 BK201.out 0).trans rfl
   have hcz6_1 : w3.cell? ⟨gb201,1,none⟩ = some (.int .i64 a0_1):=(z02 BK201.out 1).trans rfl
   have hcz6_2 : w3.cell? ⟨gb201,2,none⟩ = some (.int .i64 a0_2):=(z02 BK201.out 2).trans rfl
   have hcz6_3 : w3.cell? ⟨gb201,3,none⟩ = some (.int .i64 a0_3):=(z02 BK201.out 3).trans rfl
   have hcz6_4 : w3.cell? ⟨gb201,4,none⟩ = some (.int .u64 a0_4):=(z02 BK201.out 4).trans rfl
   have hfz6_0:=z01 BK201.out 0
   have hfz6_1:=z01 BK201.out 1
   have hfz6_2:=z01 BK201.out 2
   have hfz6_3:=z01 BK201.out 3
   have hfz6_4:=z01 BK201.out 4
   go_wp2
   go_meet
   case rel=>exact ⟨_,(decide (a0_0 > 25)),(by first | rfl | (simp; done) | (simp [*]; done)),H',⟨by first | omega | exact Nat.le_refl _⟩,⟨by (with_reducible repeat (first | refine z08 ?_ _ | refine z09 ?_ | refine z06 ?_ _)); exact BK201.out⟩,⟨by repeat (first | (with_reducible first | exact HB.out | apply z04 | apply z03 | apply z05 | refine z07 ?_ GE201.out) | exact HB.out)⟩⟩
 case rest =>
  clear HC2
  try clear p2
  try clear c4
  try clear c4b0
  try clear c6
  try clear hcz5_0
  try clear hcz5_1
  try clear hcz5_2
  try clear hcz5_3
  try clear hcz5_4
  try clear hcz6_0
  try clear hcz6_1
  try clear hcz6_2
  try clear hcz6_3
  try clear hcz6_4
  try clear hfz5_0
  try clear hfz5_1
  try clear hfz5_2
  try clear hfz5_3
  try clear hfz5_4
  try clear hfz6_0
  try clear hfz6_1
  try clear hfz6_2
  try clear hfz6_3
  try clear hfz6_4
  obtain ⟨kq,x11_1,rfl,HA,HJ1,BK201,HB⟩:=hcut
  cases kq with
  | zero=>exact absurd HA.out (by simp [z0d.j0])
  | succ kj1 =>
   have H:=HA.out
   clear HA
   simp only [z0d.j0] at H
   by_cases c7 : x11_1 = true
   ·subst c7
    have H1 : (some 0) = some r:=by rw [if_pos rfl] at H; exact H
    clear H
    have H:=H1
    clear H1
    obtain rfl:=Option.some.inj H
    go_wp2
    go_ret
    exact ⟨by first | rfl | (simp [z0i,z0h] <;> rfl) | (simp [*,z0i,z0h] <;> rfl),by repeat (first | (with_reducible first | exact HB.out | apply z04 | apply z03 | apply z05 | refine z07 ?_ GE201.out) | exact HB.out)⟩
   ·replace c7:=Bool.eq_false_iff.mpr c7
    subst c7
    have H1 : ((z0e.f kj1 a0_0).bind fun t202=>((z0g.f kj1 t202 97 a0_1).bind fun t203=>(if t203 = true then ((z0g.f kj1 t202 98 a0_2).bind fun t204=>(if t204 = true then ((z0f.f kj1 t202 119).bind fun t205=>(if t205 = true then (if a0_3 = 1 then (z0d.j1 kj1 t202 false a0_0 a0_1 a0_2 a0_3 a0_4) else (if a0_3 = 2 then (z0d.j1 kj1 t202 false a0_0 a0_1 a0_2 a0_3 a0_4) else (if a0_3 = 4 then (z0d.j1 kj1 t202 false a0_0 a0_1 a0_2 a0_3 a0_4) else (z0d.j1 kj1 t202 (a0_3 != 8) a0_0 a0_1 a0_2 a0_3 a0_4)))) else ((z0g.f kj1 t202 99 a0_3).bind fun t207=>(if t207 = true then ((z0f.f kj1 t202 105).bind fun t208=>(if t208 = true then (some (-1)) else (if a0_4 = 0 then (some (-1)) else (some 4)))) else (some 3))))) else (some 2))) else (some 1)))) = some r:=by rw [if_neg (show ¬ (false = true) by decide)] at H; exact H
    clear H
    have H:=H1
    clear H1
    replace H:=Option.bind_eq_some_iff.mp H
    obtain ⟨t202,A80,H⟩:=H
    replace H : ((z0g.f kj1 t202 97 a0_1).bind fun t203=>(if t203 = true then ((z0g.f kj1 t202 98 a0_2).bind fun t204=>(if t204 = true then ((z0f.f kj1 t202 119).bind fun t205=>(if t205 = true then (if a0_3 = 1 then (z0d.j1 kj1 t202 false a0_0 a0_1 a0_2 a0_3 a0_4) else (if a0_3 = 2 then (z0d.j1 kj1 t202 false a0_0 a0_1 a0_2 a0_3 a0_4) else (if a0_3 = 4 then (z0d.j1 kj1 t202 false a0_0 a0_1 a0_2 a0_3 a0_4) else (z0d.j1 kj1 t202 (a0_3 != 8) a0_0 a0_1 a0_2 a0_3 a0_4)))) else ((z0g.f kj1 t202 99 a0_3).bind fun t207=>(if t207 = true then ((z0f.f kj1 t202 105).bind fun t208=>(if t208 = true then (some (-1)) else (if a0_4 = 0 then (some (-1)) else (some 4)))) else (some 3))))) else (some 2))) else (some 1))) = some r:=H
    have A8:=Aside0.mk A80
    clear A80
    replace H:=Option.bind_eq_some_iff.mp H
    obtain ⟨t203,A90,H⟩:=H
    replace H : (if t203 = true then ((z0g.f kj1 t202 98 a0_2).bind fun t204=>(if t204 = true then ((z0f.f kj1 t202 119).bind fun t205=>(if t205 = true then (if a0_3 = 1 then (z0d.j1 kj1 t202 false a0_0 a0_1 a0_2 a0_3 a0_4) else (if a0_3 = 2 then (z0d.j1 kj1 t202 false a0_0 a0_1 a0_2 a0_3 a0_4) else (if a0_3 = 4 then (z0d.j1 kj1 t202 false a0_0 a0_1 a0_2 a0_3 a0_4) else (z0d.j1 kj1 t202 (a0_3 != 8) a0_0 a0_1 a0_2 a0_3 a0_4)))) else ((z0g.f kj1 t202 99 a0_3).bind fun t207=>(if t207 = true then ((z0f.f kj1 t202 105).bind fun t208=>(if t208 = true then (some (-1)) else (if a0_4 = 0 then (some (-1)) else (some 4)))) else (some 3))))) else (some 2))) else (some 1)) = some r:=H
    have A9:=Aside0.mk A90
    clear A90
    by_cases c10 : t203 = true
    ·subst c10
     have H1 : ((z0g.f kj1 t202 98 a0_2).bind fun t204=>(if t204 = true then ((z0f.f kj1 t202 119).bind fun t205=>(if t205 = true then (if a0_3 = 1 then (z0d.j1 kj1 t202 false a0_0 a0_1 a0_2 a0_3 a0_4) else (if a0_3 = 2 then (z0d.j1 kj1 t202 false a0_0 a0_1 a0_2 a0_3 a0_4) else (if a0_3 = 4 then (z0d.j1 kj1 t202 false a0_0 a0_1 a0_2 a0_3 a0_4) else (z0d.j1 kj1 t202 (a0_3 != 8) a0_0 a0_1 a0_2 a0_3 a0_4)))) else ((z0g.f kj1 t202 99 a0_3).bind fun t207=>(if t207 = true then ((z0f.f kj1 t202 105).bind fun t208=>(if t208 = true then (some (-1)) else (if a0_4 = 0 then (some (-1)) else (some 4)))) else (some 3))))) else (some 2))) = some r:=by rw [if_pos rfl] at H; exact H
     clear H
     have H:=H1
     clear H1
     replace H:=Option.bind_eq_some_iff.mp H
     obtain ⟨t204,A110,H⟩:=H
     replace H : (if t204 = true then ((z0f.f kj1 t202 119).bind fun t205=>(if t205 = true then (if a0_3 = 1 then (z0d.j1 kj1 t202 false a0_0 a0_1 a0_2 a0_3 a0_4) else (if a0_3 = 2 then (z0d.j1 kj1 t202 false a0_0 a0_1 a0_2 a0_3 a0_4) else (if a0_3 = 4 then (z0d.j1 kj1 t202 false a0_0 a0_1 a0_2 a0_3 a0_4) else (z0d.j1 kj1 t202 (a0_3 != 8) a0_0 a0_1 a0_2 a0_3 a0_4)))) else ((z0g.f kj1 t202 99 a0_3).bind fun t207=>(if t207 = true then ((z0f.f kj1 t202 105).bind fun t208=>(if t208 = true then (some (-1)) else (if a0_4 = 0 then (some (-1)) else (some 4)))) else (some 3))))) else (some 2)) = some r:=H
     have A11:=Aside0.mk A110
     clear A110
     by_cases c12 : t204 = true
     ·subst c12
      have H1 : ((z0f.f kj1 t202 119).bind fun t205=>(if t205 = true then (if a0_3 = 1 then (z0d.j1 kj1 t202 false a0_0 a0_1 a0_2 a0_3 a0_4) else (if a0_3 = 2 then (z0d.j1 kj1 t202 false a0_0 a0_1 a0_2 a0_3 a0_4) else (if a0_3 = 4 then (z0d.j1 kj1 t202 false a0_0 a0_1 a0_2 a0_3 a0_4) else (z0d.j1 kj1 t202 (a0_3 != 8) a0_0 a0_1 a0_2 a0_3 a0_4)))) else ((z0g.f kj1 t202 99 a0_3).bind fun t207=>(if t207 = true then ((z0f.f kj1 t202 105).bind fun t208=>(if t208 = true then (some (-1)) else (if a0_4 = 0 then (some (-1)) else (some 4)))) else (some 3))))) = some r:=by rw [if_pos rfl] at H; exact H
      clear H
      have H:=H1
      clear H1
      replace H:=Option.bind_eq_some_iff.mp H
      obtain ⟨t205,A130,H⟩:=H
      replace H : (if t205 = true then (if a0_3 = 1 then (z0d.j1 kj1 t202 false a0_0 a0_1 a0_2 a0_3 a0_4) else (if a0_3 = 2 then (z0d.j1 kj1 t202 false a0_0 a0_1 a0_2 a0_3 a0_4) else (if a0_3 = 4 then (z0d.j1 kj1 t202 false a0_0 a0_1 a0_2 a0_3 a0_4) else (z0d.j1 kj1 t202 (a0_3 != 8) a0_0 a0_1 a0_2 a0_3 a0_4)))) else ((z0g.f kj1 t202 99 a0_3).bind fun t207=>(if t207 = true then ((z0f.f kj1 t202 105).bind fun t208=>(if t208 = true then (some (-1)) else (if a0_4 = 0 then (some (-1)) else (some 4)))) else (some 3)))) = some r:=H
      have A13:=Aside0.mk A130
      clear A130
      by_cases c14 : t205 = true
      ·subst c14
       have H1 : (if a0_3 = 1 then (z0d.j1 kj1 t202 false a0_0 a0_1 a0_2 a0_3 a0_4) else (if a0_3 = 2 then (z0d.j1 kj1 t202 false a0_0 a0_1 a0_2 a0_3 a0_4) else (if a0_3 = 4 then (z0d.j1 kj1 t202 false a0_0 a0_1 a0_2 a0_3 a0_4) else (z0d.j1 kj1 t202 (a0_3 != 8) a0_0 a0_1 a0_2 a0_3 a0_4)))) = some r:=by rw [if_pos rfl] at H; exact H
       clear H
       have H:=H1
       clear H1
       have HC15:=Aside0.mk H
       clear H
       have hcz16_0 : wc.cell? ⟨gb201,0,none⟩ = some (.int .i64 a0_0):=(z02 BK201.out 0).trans rfl
       have hcz16_1 : wc.cell? ⟨gb201,1,none⟩ = some (.int .i64 a0_1):=(z02 BK201.out 1).trans rfl
       have hcz16_2 : wc.cell? ⟨gb201,2,none⟩ = some (.int .i64 a0_2):=(z02 BK201.out 2).trans rfl
       have hcz16_3 : wc.cell? ⟨gb201,3,none⟩ = some (.int .i64 a0_3):=(z02 BK201.out 3).trans rfl
       have hcz16_4 : wc.cell? ⟨gb201,4,none⟩ = some (.int .u64 a0_4):=(z02 BK201.out 4).trans rfl
       have hfz16_0:=z01 BK201.out 0
       have hfz16_1:=z01 BK201.out 1
       have hfz16_2:=z01 BK201.out 2
       have hfz16_3:=z01 BK201.out 3
       have hfz16_4:=z01 BK201.out 4
       go_upto_region 9 with (first | ((with_reducible refine z0t (f:=78) rfl ?_); refine goesL_ (some 14) rfl rfl Try.func78 (by kernel_rfl) rfl #[.int .i64 a0_0] rfl (by (try simp only [List.map_toArray,List.map_cons,List.map_nil]); first | done | rfl | (simp only [List.length_drop,List.length_take]; rfl)) ?_; (with_reducible refine (z0e.calls kj1 a0_0 t202 _ A8.out).mono ?_); rintro e w' ⟨rfl,⟨nd,rfl⟩⟩; refine ⟨_,rfl,?_⟩) | ((with_reducible refine z0t (f:=79) rfl ?_); refine goesL_ (some 18) rfl rfl Try.func79 (by kernel_rfl) rfl #[.string t202,.int .u8 97,.int .i64 a0_1] rfl (by (try simp only [List.map_toArray,List.map_cons,List.map_nil]); first | done | rfl | (simp only [List.length_drop,List.length_take]; rfl)) ?_; (with_reducible refine (z0g.calls kj1 t202 97 a0_1 true _ A9.out).mono ?_); rintro e w' ⟨rfl,⟨nd,rfl⟩⟩; refine ⟨_,rfl,?_⟩) | ((with_reducible refine z0t (f:=79) rfl ?_); refine goesL_ (some 23) rfl rfl Try.func79 (by kernel_rfl) rfl #[.string t202,.int .u8 98,.int .i64 a0_2] rfl (by (try simp only [List.map_toArray,List.map_cons,List.map_nil]); first | done | rfl | (simp only [List.length_drop,List.length_take]; rfl)) ?_; (with_reducible refine (z0g.calls kj1 t202 98 a0_2 true _ A11.out).mono ?_); rintro e w' ⟨rfl,⟨nd,rfl⟩⟩; refine ⟨_,rfl,?_⟩) | ((with_reducible refine z0t (f:=80) rfl ?_); refine goesL_ (some 26) rfl rfl Try.func80 (by kernel_rfl) rfl #[.string t202,.int .u8 119] rfl (by (try simp only [List.map_toArray,List.map_cons,List.map_nil]); first | done | rfl | (simp only [List.length_drop,List.length_take]; rfl)) ?_; (with_reducible refine (z0f.calls kj1 t202 119 true _ A13.out).mono ?_); rintro e w' ⟨rfl,⟨nd,rfl⟩⟩; refine ⟨_,rfl,?_⟩))
       (try simp only [Act.put,zq1,zq2,zq3])
       go_cut [44] (fun v44 wc=>∃ (kq : Nat) (x44_14 : Bool),v44 = .bool x44_14 ∧ Aside0 (z0d.j1 kq t202 x44_14 a0_0 a0_1 a0_2 a0_3 a0_4 = some r) ∧ Aside0 (kq ≤ kj1) ∧ Aside0 (wc.heap[gb201]? = some (.cells #[.int .i64 a0_0,.int .i64 a0_1,.int .i64 a0_2,.int .i64 a0_3,.int .u64 a0_4] 45 (0,0))) ∧ Aside0 (Below w.heap.size w wc))
       case first =>
        have H:=HC15.out
        clear HC15
        by_cases c17 : a0_3 = 1
        ·rw [if_pos c17] at H
         have c17b0 : (a0_3 == 1) = true:=beq_iff_eq.mpr c17
         have c17b1 : (a0_3 != 1) = false:=bne_eq_false_iff_eq.mpr c17
         clear c17
         (first | rw [c17b0] | (simp only [i64_w,i32_w]; rw [c17b0]) | skip)
         have H':=Aside0.mk H
         clear H
         have hcz18_0 : wc.cell? ⟨gb201,0,none⟩ = some (.int .i64 a0_0):=(z02 BK201.out 0).trans rfl
         have hcz18_1 : wc.cell? ⟨gb201,1,none⟩ = some (.int .i64 a0_1):=(z02 BK201.out 1).trans rfl
         have hcz18_2 : wc.cell? ⟨gb201,2,none⟩ = some (.int .i64 a0_2):=(z02 BK201.out 2).trans rfl
         have hcz18_3 : wc.cell? ⟨gb201,3,none⟩ = some (.int .i64 a0_3):=(z02 BK201.out 3).trans rfl
         have hcz18_4 : wc.cell? ⟨gb201,4,none⟩ = some (.int .u64 a0_4):=(z02 BK201.out 4).trans rfl
         have hfz18_0:=z01 BK201.out 0
         have hfz18_1:=z01 BK201.out 1
         have hfz18_2:=z01 BK201.out 2
         have hfz18_3:=z01 BK201.out 3
         have hfz18_4:=z01 BK201.out 4
         go_wp2
         go_meet
         case rel=>exact ⟨_,(false),(by first | rfl | (simp; done) | (simp [*]; done)),H',⟨by have:=HJ1.out; first | omega | exact Nat.le_refl _⟩,⟨by (with_reducible repeat (first | refine z08 ?_ _ | refine z09 ?_ | refine z06 ?_ _)); exact BK201.out⟩,⟨by repeat (first | (with_reducible first | exact HB.out | apply z04 | apply z03 | apply z05 | refine z07 ?_ GE201.out) | exact HB.out)⟩⟩
        ·rw [if_neg c17] at H
         have c17b0 : (a0_3 == 1) = false:=beq_eq_false_iff_ne.mpr c17
         have c17b1 : (a0_3 != 1) = true:=bne_iff_ne.mpr c17
         (first | rw [c17b0] | (simp only [i64_w,i32_w]; rw [c17b0]) | skip)
         by_cases c19 : a0_3 = 2
         ·rw [if_pos c19] at H
          have c19b0 : (a0_3 == 2) = true:=beq_iff_eq.mpr c19
          have c19b1 : (a0_3 != 2) = false:=bne_eq_false_iff_eq.mpr c19
          clear c19
          have H':=Aside0.mk H
          clear H
          have hcz20_0 : wc.cell? ⟨gb201,0,none⟩ = some (.int .i64 a0_0):=(z02 BK201.out 0).trans rfl
          have hcz20_1 : wc.cell? ⟨gb201,1,none⟩ = some (.int .i64 a0_1):=(z02 BK201.out 1).trans rfl
          have hcz20_2 : wc.cell? ⟨gb201,2,none⟩ = some (.int .i64 a0_2):=(z02 BK201.out 2).trans rfl
          have hcz20_3 : wc.cell? ⟨gb201,3,none⟩ = some (.int .i64 a0_3):=(z02 BK201.out 3).trans rfl
          have hcz20_4 : wc.cell? ⟨gb201,4,none⟩ = some (.int .u64 a0_4):=(z02 BK201.out 4).trans rfl
          have hfz20_0:=z01 BK201.out 0
          have hfz20_1:=z01 BK201.out 1
          have hfz20_2:=z01 BK201.out 2
          have hfz20_3:=z01 BK201.out 3
          have hfz20_4:=z01 BK201.out 4
          go_wp2
          go_meet
          case rel=>exact ⟨_,(false),(by first | rfl | (simp; done) | (simp [*]; done)),H',⟨by have:=HJ1.out; first | omega | exact Nat.le_refl _⟩,⟨by (with_reducible repeat (first | refine z08 ?_ _ | refine z09 ?_ | refine z06 ?_ _)); exact BK201.out⟩,⟨by repeat (first | (with_reducible first | exact HB.out | apply z04 | apply z03 | apply z05 | refine z07 ?_ GE201.out) | exact HB.out)⟩⟩
         ·rw [if_neg c19] at H
          have c19b0 : (a0_3 == 2) = false:=beq_eq_false_iff_ne.mpr c19
          have c19b1 : (a0_3 != 2) = true:=bne_iff_ne.mpr c19
          by_cases c21 : a0_3 = 4
          ·rw [if_pos c21] at H
           have c21b0 : (a0_3 == 4) = true:=beq_iff_eq.mpr c21
           have c21b1 : (a0_3 != 4) = false:=bne_eq_false_iff_eq.mpr c21
           clear c21
           have H':=Aside0.mk H
           clear H
           have hcz22_0 : wc.cell? ⟨gb201,0,none⟩ = some (.int .i64 a0_0):=(z02 BK201.out 0).trans rfl
           have hcz22_1 : wc.cell? ⟨gb201,1,none⟩ = some (.int .i64 a0_1):=(z02 BK201.out 1).trans rfl
           have hcz22_2 : wc.cell? ⟨gb201,2,none⟩ = some (.int .i64 a0_2):=(z02 BK201.out 2).trans rfl
           have hcz22_3 : wc.cell? ⟨gb201,3,none⟩ = some (.int .i64 a0_3):=(z02 BK201.out 3).trans rfl
           have hcz22_4 : wc.cell? ⟨gb201,4,none⟩ = some (.int .u64 a0_4):=(z02 BK201.out 4).trans rfl
           have hfz22_0:=z01 BK201.out 0
           have hfz22_1:=z01 BK201.out 1
           have hfz22_2:=z01 BK201.out 2
           have hfz22_3:=z01 BK201.out 3
           have hfz22_4:=z01 BK201.out 4
           go_wp2
           go_meet
           case rel=>exact ⟨_,(false),(by first | rfl | (simp; done) | (simp [*]; done)),H',⟨by have:=HJ1.out; first | omega | exact Nat.le_refl _⟩,⟨by (with_reducible repeat (first | refine z08 ?_ _ | refine z09 ?_ | refine z06 ?_ _)); exact BK201.out⟩,⟨by repeat (first | (with_reducible first | exact HB.out | apply z04 | apply z03 | apply z05 | refine z07 ?_ GE201.out) | exact HB.out)⟩⟩
          ·rw [if_neg c21] at H
           have c21b0 : (a0_3 == 4) = false:=beq_eq_false_iff_ne.mpr c21
           have c21b1 : (a0_3 != 4) = true:=bne_iff_ne.mpr c21
           have H':=Aside0.mk H
           clear H
           have hcz23_0 : wc.cell? ⟨gb201,0,none⟩ = some (.int .i64 a0_0):=(z02 BK201.out 0).trans rfl
           have hcz23_1 : wc.cell? ⟨gb201,1,none⟩ = some (.int .i64 a0_1):=(z02 BK201.out 1).trans rfl
           have hcz23_2 : wc.cell? ⟨gb201,2,none⟩ = some (.int .i64 a0_2):=(z02 BK201.out 2).trans rfl
           have hcz23_3 : wc.cell? ⟨gb201,3,none⟩ = some (.int .i64 a0_3):=(z02 BK201.out 3).trans rfl
           have hcz23_4 : wc.cell? ⟨gb201,4,none⟩ = some (.int .u64 a0_4):=(z02 BK201.out 4).trans rfl
           have hfz23_0:=z01 BK201.out 0
           have hfz23_1:=z01 BK201.out 1
           have hfz23_2:=z01 BK201.out 2
           have hfz23_3:=z01 BK201.out 3
           have hfz23_4:=z01 BK201.out 4
           go_wp2
           go_meet
           case rel=>exact ⟨_,((a0_3 != 8)),(by first | rfl | (simp; done) | (simp [*]; done)),H',⟨by have:=HJ1.out; first | omega | exact Nat.le_refl _⟩,⟨by (with_reducible repeat (first | refine z08 ?_ _ | refine z09 ?_ | refine z06 ?_ _)); exact BK201.out⟩,⟨by repeat (first | (with_reducible first | exact HB.out | apply z04 | apply z03 | apply z05 | refine z07 ?_ GE201.out) | exact HB.out)⟩⟩
       case rest =>
        clear HC15
        try clear c1
        try clear c2
        try clear p2
        try clear c4
        try clear c4b0
        try clear c6
        try clear c7
        try clear c8
        try clear c10
        try clear c12
        try clear c14
        try clear c17
        try clear c17b0
        try clear c17b1
        try clear c19
        try clear c19b0
        try clear c19b1
        try clear c21
        try clear c21b0
        try clear c21b1
        try clear hcz16_0
        try clear hcz16_1
        try clear hcz16_2
        try clear hcz16_3
        try clear hcz16_4
        try clear hcz18_0
        try clear hcz18_1
        try clear hcz18_2
        try clear hcz18_3
        try clear hcz18_4
        try clear hcz20_0
        try clear hcz20_1
        try clear hcz20_2
        try clear hcz20_3
        try clear hcz20_4
        try clear hcz22_0
        try clear hcz22_1
        try clear hcz22_2
        try clear hcz22_3
        try clear hcz22_4
        try clear hcz23_0
        try clear hcz23_1
        try clear hcz23_2
        try clear hcz23_3
        try clear hcz23_4
        try clear hcz5_0
        try clear hcz5_1
        try clear hcz5_2
        try clear hcz5_3
        try clear hcz5_4
        try clear hcz6_0
        try clear hcz6_1
        try clear hcz6_2
        try clear hcz6_3
        try clear hcz6_4
        try clear hfz16_0
        try clear hfz16_1
        try clear hfz16_2
        try clear hfz16_3
        try clear hfz16_4
        try clear hfz18_0
        try clear hfz18_1
        try clear hfz18_2
        try clear hfz18_3
        try clear hfz18_4
        try clear hfz20_0
        try clear hfz20_1
        try clear hfz20_2
        try clear hfz20_3
        try clear hfz20_4
        try clear hfz22_0
        try clear hfz22_1
        try clear hfz22_2
        try clear hfz22_3
        try clear hfz22_4
        try clear hfz23_0
        try clear hfz23_1
        try clear hfz23_2
        try clear hfz23_3
        try clear hfz23_4
        try clear hfz5_0
        try clear hfz5_1
        try clear hfz5_2
        try clear hfz5_3
        try clear hfz5_4
        try clear hfz6_0
        try clear hfz6_1
        try clear hfz6_2
        try clear hfz6_3
        try clear hfz6_4
        try clear p2
        obtain ⟨kq,x44_14,rfl,HA,HJ14,BK201,HB⟩:=hcut
        cases kq with
        | zero=>exact absurd HA.out (by simp [z0d.j1])
        | succ kj14 =>
         have H:=HA.out
         clear HA
         simp only [z0d.j1] at H
         by_cases c24 : x44_14 = true
         ·subst c24
          have H1 : (some 3) = some r:=by rw [if_pos rfl] at H; exact H
          clear H
          have H:=H1
          clear H1
          obtain rfl:=Option.some.inj H
          go_wp2
          go_ret
          exact ⟨by first | rfl | (simp [z0i,z0h] <;> rfl) | (simp [*,z0i,z0h] <;> rfl),by repeat (first | (with_reducible first | exact HB.out | apply z04 | apply z03 | apply z05 | refine z07 ?_ GE201.out) | exact HB.out)⟩
         ·replace c24:=Bool.eq_false_iff.mpr c24
          subst c24
          have H1 : ((z0f.f kj14 t202 105).bind fun t206=>(if t206 = true then (some (-1)) else (if a0_4 = 0 then (some (-1)) else (some 4)))) = some r:=by rw [if_neg (show ¬ (false = true) by decide)] at H; exact H
          clear H
          have H:=H1
          clear H1
          replace H:=Option.bind_eq_some_iff.mp H
          obtain ⟨t206,A250,H⟩:=H
          replace H : (if t206 = true then (some (-1)) else (if a0_4 = 0 then (some (-1)) else (some 4))) = some r:=H
          have A25:=Aside0.mk A250
          clear A250
          by_cases c26 : t206 = true
          ·subst c26
           have H1 : (some (-1)) = some r:=by rw [if_pos rfl] at H; exact H
           clear H
           have H:=H1
           clear H1
           obtain rfl:=Option.some.inj H
           go_wp2_with (first | ((with_reducible refine z0t (f:=80) rfl ?_); refine goesL_ (some 51) rfl rfl Try.func80 (by kernel_rfl) rfl #[.string t202,.int .u8 105] rfl (by (try simp only [List.map_toArray,List.map_cons,List.map_nil]); first | done | rfl | (simp only [List.length_drop,List.length_take]; rfl)) ?_; (with_reducible refine (z0f.calls kj14 t202 105 true _ A25.out).mono ?_); rintro e w' ⟨rfl,⟨nd,rfl⟩⟩; refine ⟨_,rfl,?_⟩))
           go_ret
           exact ⟨by first | rfl | (simp [z0i,z0h] <;> rfl) | (simp [*,z0i,z0h] <;> rfl),by repeat (first | (with_reducible first | exact HB.out | apply z04 | apply z03 | apply z05 | refine z07 ?_ GE201.out) | exact HB.out)⟩
          ·replace c26:=Bool.eq_false_iff.mpr c26
           subst c26
           have H1 : (if a0_4 = 0 then (some (-1)) else (some 4)) = some r:=by rw [if_neg (show ¬ (false = true) by decide)] at H; exact H
           clear H
           have H:=H1
           clear H1
           by_cases c27 : a0_4 = 0
           ·rw [if_pos c27] at H
            have c27b0 : (a0_4 == 0) = true:=beq_iff_eq.mpr c27
            have c27b1 : (a0_4 != 0) = false:=bne_eq_false_iff_eq.mpr c27
            clear c27
            obtain rfl:=Option.some.inj H
            go_wp2_with (first | ((with_reducible refine z0t (f:=80) rfl ?_); refine goesL_ (some 51) rfl rfl Try.func80 (by kernel_rfl) rfl #[.string t202,.int .u8 105] rfl (by (try simp only [List.map_toArray,List.map_cons,List.map_nil]); first | done | rfl | (simp only [List.length_drop,List.length_take]; rfl)) ?_; (with_reducible refine (z0f.calls kj14 t202 105 false _ A25.out).mono ?_); rintro e w' ⟨rfl,⟨nd,rfl⟩⟩; refine ⟨_,rfl,?_⟩; have hcz28_0 : wc.cell? ⟨gb201,0,none⟩ = some (.int .i64 a0_0):=(z02 BK201.out 0).trans rfl; have hcz28_1 : wc.cell? ⟨gb201,1,none⟩ = some (.int .i64 a0_1):=(z02 BK201.out 1).trans rfl; have hcz28_2 : wc.cell? ⟨gb201,2,none⟩ = some (.int .i64 a0_2):=(z02 BK201.out 2).trans rfl; have hcz28_3 : wc.cell? ⟨gb201,3,none⟩ = some (.int .i64 a0_3):=(z02 BK201.out 3).trans rfl; have hcz28_4 : wc.cell? ⟨gb201,4,none⟩ = some (.int .u64 a0_4):=(z02 BK201.out 4).trans rfl; have hfz28_0:=z01 BK201.out 0; have hfz28_1:=z01 BK201.out 1; have hfz28_2:=z01 BK201.out 2; have hfz28_3:=z01 BK201.out 3; have hfz28_4:=z01 BK201.out 4))
            go_ret
            exact ⟨by first | rfl | (simp [z0i,z0h] <;> rfl) | (simp [*,z0i,z0h] <;> rfl),by repeat (first | (with_reducible first | exact HB.out | apply z04 | apply z03 | apply z05 | refine z07 ?_ GE201.out) | exact HB.out)⟩
           ·rw [if_neg c27] at H
            have c27b0 : (a0_4 == 0) = false:=beq_eq_false_iff_ne.mpr c27
            have c27b1 : (a0_4 != 0) = true:=bne_iff_ne.mpr c27
            obtain rfl:=Option.some.inj H
            go_wp2_with (first | ((with_reducible refine z0t (f:=80) rfl ?_); refine goesL_ (some 51) rfl rfl Try.func80 (by kernel_rfl) rfl #[.string t202,.int .u8 105] rfl (by (try simp only [List.map_toArray,List.map_cons,List.map_nil]); first | done | rfl | (simp only [List.length_drop,List.length_take]; rfl)) ?_; (with_reducible refine (z0f.calls kj14 t202 105 false _ A25.out).mono ?_); rintro e w' ⟨rfl,⟨nd,rfl⟩⟩; refine ⟨_,rfl,?_⟩; have hcz29_0 : wc.cell? ⟨gb201,0,none⟩ = some (.int .i64 a0_0):=(z02 BK201.out 0).trans rfl; have hcz29_1 : wc.cell? ⟨gb201,1,none⟩ = some (.int .i64 a0_1):=(z02 BK201.out 1).trans rfl; have hcz29_2 : wc.cell? ⟨gb201,2,none⟩ = some (.int .i64 a0_2):=(z02 BK201.out 2).trans rfl; have hcz29_3 : wc.cell? ⟨gb201,3,none⟩ = some (.int .i64 a0_3):=(z02 BK201.out 3).trans rfl; have hcz29_4 : wc.cell? ⟨gb201,4,none⟩ = some (.int .u64 a0_4):=(z02 BK201.out 4).trans rfl; have hfz29_0:=z01 BK201.out 0; have hfz29_1:=z01 BK201.out 1; have hfz29_2:=z01 BK201.out 2; have hfz29_3:=z01 BK201.out 3; have hfz29_4:=z01 BK201.out 4))
            go_ret
            exact ⟨by first | rfl | (simp [z0i,z0h] <;> rfl) | (simp [*,z0i,z0h] <;> rfl),by repeat (first | (with_reducible first | exact HB.out | apply z04 | apply z03 | apply z05 | refine z07 ?_ GE201.out) | exact HB.out)⟩
      ·replace c14:=Bool.eq_false_iff.mpr c14
       subst c14
       have H1 : ((z0g.f kj1 t202 99 a0_3).bind fun t207=>(if t207 = true then ((z0f.f kj1 t202 105).bind fun t208=>(if t208 = true then (some (-1)) else (if a0_4 = 0 then (some (-1)) else (some 4)))) else (some 3))) = some r:=by rw [if_neg (show ¬ (false = true) by decide)] at H; exact H
       clear H
       have H:=H1
       clear H1
       replace H:=Option.bind_eq_some_iff.mp H
       obtain ⟨t207,A300,H⟩:=H
       replace H : (if t207 = true then ((z0f.f kj1 t202 105).bind fun t208=>(if t208 = true then (some (-1)) else (if a0_4 = 0 then (some (-1)) else (some 4)))) else (some 3)) = some r:=H
       have A30:=Aside0.mk A300
       clear A300
       by_cases c31 : t207 = true
       ·subst c31
        have H1 : ((z0f.f kj1 t202 105).bind fun t208=>(if t208 = true then (some (-1)) else (if a0_4 = 0 then (some (-1)) else (some 4)))) = some r:=by rw [if_pos rfl] at H; exact H
        clear H
        have H:=H1
        clear H1
        replace H:=Option.bind_eq_some_iff.mp H
        obtain ⟨t208,A320,H⟩:=H
        replace H : (if t208 = true then (some (-1)) else (if a0_4 = 0 then (some (-1)) else (some 4))) = some r:=H
        have A32:=Aside0.mk A320
        clear A320
        by_cases c33 : t208 = true
        ·subst c33
         have H1 : (some (-1)) = some r:=by rw [if_pos rfl] at H; exact H
         clear H
         have H:=H1
         clear H1
         obtain rfl:=Option.some.inj H
         have hcz34_0 : wc.cell? ⟨gb201,0,none⟩ = some (.int .i64 a0_0):=(z02 BK201.out 0).trans rfl
         have hcz34_1 : wc.cell? ⟨gb201,1,none⟩ = some (.int .i64 a0_1):=(z02 BK201.out 1).trans rfl
         have hcz34_2 : wc.cell? ⟨gb201,2,none⟩ = some (.int .i64 a0_2):=(z02 BK201.out 2).trans rfl
         have hcz34_3 : wc.cell? ⟨gb201,3,none⟩ = some (.int .i64 a0_3):=(z02 BK201.out 3).trans rfl
         have hcz34_4 : wc.cell? ⟨gb201,4,none⟩ = some (.int .u64 a0_4):=(z02 BK201.out 4).trans rfl
         have hfz34_0:=z01 BK201.out 0
         have hfz34_1:=z01 BK201.out 1
         have hfz34_2:=z01 BK201.out 2
         have hfz34_3:=z01 BK201.out 3
         have hfz34_4:=z01 BK201.out 4
         go_wp2_with (first | ((with_reducible refine z0t (f:=78) rfl ?_); refine goesL_ (some 14) rfl rfl Try.func78 (by kernel_rfl) rfl #[.int .i64 a0_0] rfl (by (try simp only [List.map_toArray,List.map_cons,List.map_nil]); first | done | rfl | (simp only [List.length_drop,List.length_take]; rfl)) ?_; (with_reducible refine (z0e.calls kj1 a0_0 t202 _ A8.out).mono ?_); rintro e w' ⟨rfl,⟨nd,rfl⟩⟩; refine ⟨_,rfl,?_⟩) | ((with_reducible refine z0t (f:=79) rfl ?_); refine goesL_ (some 18) rfl rfl Try.func79 (by kernel_rfl) rfl #[.string t202,.int .u8 97,.int .i64 a0_1] rfl (by (try simp only [List.map_toArray,List.map_cons,List.map_nil]); first | done | rfl | (simp only [List.length_drop,List.length_take]; rfl)) ?_; (with_reducible refine (z0g.calls kj1 t202 97 a0_1 true _ A9.out).mono ?_); rintro e w' ⟨rfl,⟨nd,rfl⟩⟩; refine ⟨_,rfl,?_⟩) | ((with_reducible refine z0t (f:=79) rfl ?_); refine goesL_ (some 23) rfl rfl Try.func79 (by kernel_rfl) rfl #[.string t202,.int .u8 98,.int .i64 a0_2] rfl (by (try simp only [List.map_toArray,List.map_cons,List.map_nil]); first | done | rfl | (simp only [List.length_drop,List.length_take]; rfl)) ?_; (with_reducible refine (z0g.calls kj1 t202 98 a0_2 true _ A11.out).mono ?_); rintro e w' ⟨rfl,⟨nd,rfl⟩⟩; refine ⟨_,rfl,?_⟩) | ((with_reducible refine z0t (f:=80) rfl ?_); refine goesL_ (some 26) rfl rfl Try.func80 (by kernel_rfl) rfl #[.string t202,.int .u8 119] rfl (by (try simp only [List.map_toArray,List.map_cons,List.map_nil]); first | done | rfl | (simp only [List.length_drop,List.length_take]; rfl)) ?_; (with_reducible refine (z0f.calls kj1 t202 119 false _ A13.out).mono ?_); rintro e w' ⟨rfl,⟨nd,rfl⟩⟩; refine ⟨_,rfl,?_⟩) | ((with_reducible refine z0t (f:=79) rfl ?_); refine goesL_ (some 48) rfl rfl Try.func79 (by kernel_rfl) rfl #[.string t202,.int .u8 99,.int .i64 a0_3] rfl (by (try simp only [List.map_toArray,List.map_cons,List.map_nil]); first | done | rfl | (simp only [List.length_drop,List.length_take]; rfl)) ?_; (with_reducible refine (z0g.calls kj1 t202 99 a0_3 true _ A30.out).mono ?_); rintro e w' ⟨rfl,⟨nd,rfl⟩⟩; refine ⟨_,rfl,?_⟩) | ((with_reducible refine z0t (f:=80) rfl ?_); refine goesL_ (some 51) rfl rfl Try.func80 (by kernel_rfl) rfl #[.string t202,.int .u8 105] rfl (by (try simp only [List.map_toArray,List.map_cons,List.map_nil]); first | done | rfl | (simp only [List.length_drop,List.length_take]; rfl)) ?_; (with_reducible refine (z0f.calls kj1 t202 105 true _ A32.out).mono ?_); rintro e w' ⟨rfl,⟨nd,rfl⟩⟩; refine ⟨_,rfl,?_⟩))
         go_ret
         exact ⟨by first | rfl | (simp [z0i,z0h] <;> rfl) | (simp [*,z0i,z0h] <;> rfl),by repeat (first | (with_reducible first | exact HB.out | apply z04 | apply z03 | apply z05 | refine z07 ?_ GE201.out) | exact HB.out)⟩
        ·replace c33:=Bool.eq_false_iff.mpr c33
         subst c33
         have H1 : (if a0_4 = 0 then (some (-1)) else (some 4)) = some r:=by rw [if_neg (show ¬ (false = true) by decide)] at H; exact H
         clear H
         have H:=H1
         clear H1
         by_cases c35 : a0_4 = 0
         ·rw [if_pos c35] at H
          have c35b0 : (a0_4 == 0) = true:=beq_iff_eq.mpr c35
          have c35b1 : (a0_4 != 0) = false:=bne_eq_false_iff_eq.mpr c35
          clear c35
          obtain rfl:=Option.some.inj H
          have hcz36_0 : wc.cell? ⟨gb201,0,none⟩ = some (.int .i64 a0_0):=(z02 BK201.out 0).trans rfl
          have hcz36_1 : wc.cell? ⟨gb201,1,none⟩ = some (.int .i64 a0_1):=(z02 BK201.out 1).trans rfl
          have hcz36_2 : wc.cell? ⟨gb201,2,none⟩ = some (.int .i64 a0_2):=(z02 BK201.out 2).trans rfl
          have hcz36_3 : wc.cell? ⟨gb201,3,none⟩ = some (.int .i64 a0_3):=(z02 BK201.out 3).trans rfl
          have hcz36_4 : wc.cell? ⟨gb201,4,none⟩ = some (.int .u64 a0_4):=(z02 BK201.out 4).trans rfl
          have hfz36_0:=z01 BK201.out 0
          have hfz36_1:=z01 BK201.out 1
          have hfz36_2:=z01 BK201.out 2
          have hfz36_3:=z01 BK201.out 3
          have hfz36_4:=z01 BK201.out 4
          go_wp2_with (first | ((with_reducible refine z0t (f:=78) rfl ?_); refine goesL_ (some 14) rfl rfl Try.func78 (by kernel_rfl) rfl #[.int .i64 a0_0] rfl (by (try simp only [List.map_toArray,List.map_cons,List.map_nil]); first | done | rfl | (simp only [List.length_drop,List.length_take]; rfl)) ?_; (with_reducible refine (z0e.calls kj1 a0_0 t202 _ A8.out).mono ?_); rintro e w' ⟨rfl,⟨nd,rfl⟩⟩; refine ⟨_,rfl,?_⟩) | ((with_reducible refine z0t (f:=79) rfl ?_); refine goesL_ (some 18) rfl rfl Try.func79 (by kernel_rfl) rfl #[.string t202,.int .u8 97,.int .i64 a0_1] rfl (by (try simp only [List.map_toArray,List.map_cons,List.map_nil]); first | done | rfl | (simp only [List.length_drop,List.length_take]; rfl)) ?_; (with_reducible refine (z0g.calls kj1 t202 97 a0_1 true _ A9.out).mono ?_); rintro e w' ⟨rfl,⟨nd,rfl⟩⟩; refine ⟨_,rfl,?_⟩) | ((with_reducible refine z0t (f:=79) rfl ?_); refine goesL_ (some 23) rfl rfl Try.func79 (by kernel_rfl) rfl #[.string t202,.int .u8 98,.int .i64 a0_2] rfl (by (try simp only [List.map_toArray,List.map_cons,List.map_nil]); first | done | rfl | (simp only [List.length_drop,List.length_take]; rfl)) ?_; (with_reducible refine (z0g.calls kj1 t202 98 a0_2 true _ A11.out).mono ?_); rintro e w' ⟨rfl,⟨nd,rfl⟩⟩; refine ⟨_,rfl,?_⟩) | ((with_reducible refine z0t (f:=80) rfl ?_); refine goesL_ (some 26) rfl rfl Try.func80 (by kernel_rfl) rfl #[.string t202,.int .u8 119] rfl (by (try simp only [List.map_toArray,List.map_cons,List.map_nil]); first | done | rfl | (simp only [List.length_drop,List.length_take]; rfl)) ?_; (with_reducible refine (z0f.calls kj1 t202 119 false _ A13.out).mono ?_); rintro e w' ⟨rfl,⟨nd,rfl⟩⟩; refine ⟨_,rfl,?_⟩) | ((with_reducible refine z0t (f:=79) rfl ?_); refine goesL_ (some 48) rfl rfl Try.func79 (by kernel_rfl) rfl #[.string t202,.int .u8 99,.int .i64 a0_3] rfl (by (try simp only [List.map_toArray,List.map_cons,List.map_nil]); first | done | rfl | (simp only [List.length_drop,List.length_take]; rfl)) ?_; (with_reducible refine (z0g.calls kj1 t202 99 a0_3 true _ A30.out).mono ?_); rintro e w' ⟨rfl,⟨nd,rfl⟩⟩; refine ⟨_,rfl,?_⟩) | ((with_reducible refine z0t (f:=80) rfl ?_); refine goesL_ (some 51) rfl rfl Try.func80 (by kernel_rfl) rfl #[.string t202,.int .u8 105] rfl (by (try simp only [List.map_toArray,List.map_cons,List.map_nil]); first | done | rfl | (simp only [List.length_drop,List.length_take]; rfl)) ?_; (with_reducible refine (z0f.calls kj1 t202 105 false _ A32.out).mono ?_); rintro e w' ⟨rfl,⟨nd,rfl⟩⟩; refine ⟨_,rfl,?_⟩))
          go_ret
          exact ⟨by first | rfl | (simp [z0i,z0h] <;> rfl) | (simp [*,z0i,z0h] <;> rfl),by repeat (first | (with_reducible first | exact HB.out | apply z04 | apply z03 | apply z05 | refine z07 ?_ GE201.out) | exact HB.out)⟩
         ·rw [if_neg c35] at H
          have c35b0 : (a0_4 == 0) = false:=beq_eq_false_iff_ne.mpr c35
          have c35b1 : (a0_4 != 0) = true:=bne_iff_ne.mpr c35
          obtain rfl:=Option.some.inj H
          have hcz37_0 : wc.cell? ⟨gb201,0,none⟩ = some (.int .i64 a0_0):=(z02 BK201.out 0).trans rfl
          have hcz37_1 : wc.cell? ⟨gb201,1,none⟩ = some (.int .i64 a0_1):=(z02 BK201.out 1).trans rfl
          have hcz37_2 : wc.cell? ⟨gb201,2,none⟩ = some (.int .i64 a0_2):=(z02 BK201.out 2).trans rfl
          have hcz37_3 : wc.cell? ⟨gb201,3,none⟩ = some (.int .i64 a0_3):=(z02 BK201.out 3).trans rfl
          have hcz37_4 : wc.cell? ⟨gb201,4,none⟩ = some (.int .u64 a0_4):=(z02 BK201.out 4).trans rfl
          have hfz37_0:=z01 BK201.out 0
          have hfz37_1:=z01 BK201.out 1
          have hfz37_2:=z01 BK201.out 2
          have hfz37_3:=z01 BK201.out 3
          have hfz37_4:=z01 BK201.out 4
          go_wp2_with (first | ((with_reducible refine z0t (f:=78) rfl ?_); refine goesL_ (some 14) rfl rfl Try.func78 (by kernel_rfl) rfl #[.int .i64 a0_0] rfl (by (try simp only [List.map_toArray,List.map_cons,List.map_nil]); first | done | rfl | (simp only [List.length_drop,List.length_take]; rfl)) ?_; (with_reducible refine (z0e.calls kj1 a0_0 t202 _ A8.out).mono ?_); rintro e w' ⟨rfl,⟨nd,rfl⟩⟩; refine ⟨_,rfl,?_⟩) | ((with_reducible refine z0t (f:=79) rfl ?_); refine goesL_ (some 18) rfl rfl Try.func79 (by kernel_rfl) rfl #[.string t202,.int .u8 97,.int .i64 a0_1] rfl (by (try simp only [List.map_toArray,List.map_cons,List.map_nil]); first | done | rfl | (simp only [List.length_drop,List.length_take]; rfl)) ?_; (with_reducible refine (z0g.calls kj1 t202 97 a0_1 true _ A9.out).mono ?_); rintro e w' ⟨rfl,⟨nd,rfl⟩⟩; refine ⟨_,rfl,?_⟩) | ((with_reducible refine z0t (f:=79) rfl ?_); refine goesL_ (some 23) rfl rfl Try.func79 (by kernel_rfl) rfl #[.string t202,.int .u8 98,.int .i64 a0_2] rfl (by (try simp only [List.map_toArray,List.map_cons,List.map_nil]); first | done | rfl | (simp only [List.length_drop,List.length_take]; rfl)) ?_; (with_reducible refine (z0g.calls kj1 t202 98 a0_2 true _ A11.out).mono ?_); rintro e w' ⟨rfl,⟨nd,rfl⟩⟩; refine ⟨_,rfl,?_⟩) | ((with_reducible refine z0t (f:=80) rfl ?_); refine goesL_ (some 26) rfl rfl Try.func80 (by kernel_rfl) rfl #[.string t202,.int .u8 119] rfl (by (try simp only [List.map_toArray,List.map_cons,List.map_nil]); first | done | rfl | (simp only [List.length_drop,List.length_take]; rfl)) ?_; (with_reducible refine (z0f.calls kj1 t202 119 false _ A13.out).mono ?_); rintro e w' ⟨rfl,⟨nd,rfl⟩⟩; refine ⟨_,rfl,?_⟩) | ((with_reducible refine z0t (f:=79) rfl ?_); refine goesL_ (some 48) rfl rfl Try.func79 (by kernel_rfl) rfl #[.string t202,.int .u8 99,.int .i64 a0_3] rfl (by (try simp only [List.map_toArray,List.map_cons,List.map_nil]); first | done | rfl | (simp only [List.length_drop,List.length_take]; rfl)) ?_; (with_reducible refine (z0g.calls kj1 t202 99 a0_3 true _ A30.out).mono ?_); rintro e w' ⟨rfl,⟨nd,rfl⟩⟩; refine ⟨_,rfl,?_⟩) | ((with_reducible refine z0t (f:=80) rfl ?_); refine goesL_ (some 51) rfl rfl Try.func80 (by kernel_rfl) rfl #[.string t202,.int .u8 105] rfl (by (try simp only [List.map_toArray,List.map_cons,List.map_nil]); first | done | rfl | (simp only [List.length_drop,List.length_take]; rfl)) ?_; (with_reducible refine (z0f.calls kj1 t202 105 false _ A32.out).mono ?_); rintro e w' ⟨rfl,⟨nd,rfl⟩⟩; refine ⟨_,rfl,?_⟩))
          go_ret
          exact ⟨by first | rfl | (simp [z0i,z0h] <;> rfl) | (simp [*,z0i,z0h] <;> rfl),by repeat (first | (with_reducible first | exact HB.out | apply z04 | apply z03 | apply z05 | refine z07 ?_ GE201.out) | exact HB.out)⟩
       ·replace c31:=Bool.eq_false_iff.mpr c31
        subst c31
        have H1 : (some 3) = some r:=by rw [if_neg (show ¬ (false = true) by decide)] at H; exact H
        clear H
        have H:=H1
        clear H1
        obtain rfl:=Option.some.inj H
        have hcz38_0 : wc.cell? ⟨gb201,0,none⟩ = some (.int .i64 a0_0):=(z02 BK201.out 0).trans rfl
        have hcz38_1 : wc.cell? ⟨gb201,1,none⟩ = some (.int .i64 a0_1):=(z02 BK201.out 1).trans rfl
        have hcz38_2 : wc.cell? ⟨gb201,2,none⟩ = some (.int .i64 a0_2):=(z02 BK201.out 2).trans rfl
        have hcz38_3 : wc.cell? ⟨gb201,3,none⟩ = some (.int .i64 a0_3):=(z02 BK201.out 3).trans rfl
        have hcz38_4 : wc.cell? ⟨gb201,4,none⟩ = some (.int .u64 a0_4):=(z02 BK201.out 4).trans rfl
        have hfz38_0:=z01 BK201.out 0
        have hfz38_1:=z01 BK201.out 1
        have hfz38_2:=z01 BK201.out 2
        have hfz38_3:=z01 BK201.out 3
        have hfz38_4:=z01 BK201.out 4
        go_wp2_with (first | ((with_reducible refine z0t (f:=78) rfl ?_); refine goesL_ (some 14) rfl rfl Try.func78 (by kernel_rfl) rfl #[.int .i64 a0_0] rfl (by (try simp only [List.map_toArray,List.map_cons,List.map_nil]); first | done | rfl | (simp only [List.length_drop,List.length_take]; rfl)) ?_; (with_reducible refine (z0e.calls kj1 a0_0 t202 _ A8.out).mono ?_); rintro e w' ⟨rfl,⟨nd,rfl⟩⟩; refine ⟨_,rfl,?_⟩) | ((with_reducible refine z0t (f:=79) rfl ?_); refine goesL_ (some 18) rfl rfl Try.func79 (by kernel_rfl) rfl #[.string t202,.int .u8 97,.int .i64 a0_1] rfl (by (try simp only [List.map_toArray,List.map_cons,List.map_nil]); first | done | rfl | (simp only [List.length_drop,List.length_take]; rfl)) ?_; (with_reducible refine (z0g.calls kj1 t202 97 a0_1 true _ A9.out).mono ?_); rintro e w' ⟨rfl,⟨nd,rfl⟩⟩; refine ⟨_,rfl,?_⟩) | ((with_reducible refine z0t (f:=79) rfl ?_); refine goesL_ (some 23) rfl rfl Try.func79 (by kernel_rfl) rfl #[.string t202,.int .u8 98,.int .i64 a0_2] rfl (by (try simp only [List.map_toArray,List.map_cons,List.map_nil]); first | done | rfl | (simp only [List.length_drop,List.length_take]; rfl)) ?_; (with_reducible refine (z0g.calls kj1 t202 98 a0_2 true _ A11.out).mono ?_); rintro e w' ⟨rfl,⟨nd,rfl⟩⟩; refine ⟨_,rfl,?_⟩) | ((with_reducible refine z0t (f:=80) rfl ?_); refine goesL_ (some 26) rfl rfl Try.func80 (by kernel_rfl) rfl #[.string t202,.int .u8 119] rfl (by (try simp only [List.map_toArray,List.map_cons,List.map_nil]); first | done | rfl | (simp only [List.length_drop,List.length_take]; rfl)) ?_; (with_reducible refine (z0f.calls kj1 t202 119 false _ A13.out).mono ?_); rintro e w' ⟨rfl,⟨nd,rfl⟩⟩; refine ⟨_,rfl,?_⟩) | ((with_reducible refine z0t (f:=79) rfl ?_); refine goesL_ (some 48) rfl rfl Try.func79 (by kernel_rfl) rfl #[.string t202,.int .u8 99,.int .i64 a0_3] rfl (by (try simp only [List.map_toArray,List.map_cons,List.map_nil]); first | done | rfl | (simp only [List.length_drop,List.length_take]; rfl)) ?_; (with_reducible refine (z0g.calls kj1 t202 99 a0_3 false _ A30.out).mono ?_); rintro e w' ⟨rfl,⟨nd,rfl⟩⟩; refine ⟨_,rfl,?_⟩))
        go_ret
        exact ⟨by first | rfl | (simp [z0i,z0h] <;> rfl) | (simp [*,z0i,z0h] <;> rfl),by repeat (first | (with_reducible first | exact HB.out | apply z04 | apply z03 | apply z05 | refine z07 ?_ GE201.out) | exact HB.out)⟩
     ·replace c12:=Bool.eq_false_iff.mpr c12
      subst c12
      have H1 : (some 2) = some r:=by rw [if_neg (show ¬ (false = true) by decide)] at H; exact H
      clear H
      have H:=H1
      clear H1
      obtain rfl:=Option.some.inj H
      have hcz39_0 : wc.cell? ⟨gb201,0,none⟩ = some (.int .i64 a0_0):=(z02 BK201.out 0).trans rfl
      have hcz39_1 : wc.cell? ⟨gb201,1,none⟩ = some (.int .i64 a0_1):=(z02 BK201.out 1).trans rfl
      have hcz39_2 : wc.cell? ⟨gb201,2,none⟩ = some (.int .i64 a0_2):=(z02 BK201.out 2).trans rfl
      have hcz39_3 : wc.cell? ⟨gb201,3,none⟩ = some (.int .i64 a0_3):=(z02 BK201.out 3).trans rfl
      have hcz39_4 : wc.cell? ⟨gb201,4,none⟩ = some (.int .u64 a0_4):=(z02 BK201.out 4).trans rfl
      have hfz39_0:=z01 BK201.out 0
      have hfz39_1:=z01 BK201.out 1
      have hfz39_2:=z01 BK201.out 2
      have hfz39_3:=z01 BK201.out 3
      have hfz39_4:=z01 BK201.out 4
      go_wp2_with (first | ((with_reducible refine z0t (f:=78) rfl ?_); refine goesL_ (some 14) rfl rfl Try.func78 (by kernel_rfl) rfl #[.int .i64 a0_0] rfl (by (try simp only [List.map_toArray,List.map_cons,List.map_nil]); first | done | rfl | (simp only [List.length_drop,List.length_take]; rfl)) ?_; (with_reducible refine (z0e.calls kj1 a0_0 t202 _ A8.out).mono ?_); rintro e w' ⟨rfl,⟨nd,rfl⟩⟩; refine ⟨_,rfl,?_⟩) | ((with_reducible refine z0t (f:=79) rfl ?_); refine goesL_ (some 18) rfl rfl Try.func79 (by kernel_rfl) rfl #[.string t202,.int .u8 97,.int .i64 a0_1] rfl (by (try simp only [List.map_toArray,List.map_cons,List.map_nil]); first | done | rfl | (simp only [List.length_drop,List.length_take]; rfl)) ?_; (with_reducible refine (z0g.calls kj1 t202 97 a0_1 true _ A9.out).mono ?_); rintro e w' ⟨rfl,⟨nd,rfl⟩⟩; refine ⟨_,rfl,?_⟩) | ((with_reducible refine z0t (f:=79) rfl ?_); refine goesL_ (some 23) rfl rfl Try.func79 (by kernel_rfl) rfl #[.string t202,.int .u8 98,.int .i64 a0_2] rfl (by (try simp only [List.map_toArray,List.map_cons,List.map_nil]); first | done | rfl | (simp only [List.length_drop,List.length_take]; rfl)) ?_; (with_reducible refine (z0g.calls kj1 t202 98 a0_2 false _ A11.out).mono ?_); rintro e w' ⟨rfl,⟨nd,rfl⟩⟩; refine ⟨_,rfl,?_⟩))
      go_ret
      exact ⟨by first | rfl | (simp [z0i,z0h] <;> rfl) | (simp [*,z0i,z0h] <;> rfl),by repeat (first | (with_reducible first | exact HB.out | apply z04 | apply z03 | apply z05 | refine z07 ?_ GE201.out) | exact HB.out)⟩
    ·replace c10:=Bool.eq_false_iff.mpr c10
     subst c10
     have H1 : (some 1) = some r:=by rw [if_neg (show ¬ (false = true) by decide)] at H; exact H
     clear H
     have H:=H1
     clear H1
     obtain rfl:=Option.some.inj H
     have hcz40_0 : wc.cell? ⟨gb201,0,none⟩ = some (.int .i64 a0_0):=(z02 BK201.out 0).trans rfl
     have hcz40_1 : wc.cell? ⟨gb201,1,none⟩ = some (.int .i64 a0_1):=(z02 BK201.out 1).trans rfl
     have hcz40_2 : wc.cell? ⟨gb201,2,none⟩ = some (.int .i64 a0_2):=(z02 BK201.out 2).trans rfl
     have hcz40_3 : wc.cell? ⟨gb201,3,none⟩ = some (.int .i64 a0_3):=(z02 BK201.out 3).trans rfl
     have hcz40_4 : wc.cell? ⟨gb201,4,none⟩ = some (.int .u64 a0_4):=(z02 BK201.out 4).trans rfl
     have hfz40_0:=z01 BK201.out 0
     have hfz40_1:=z01 BK201.out 1
     have hfz40_2:=z01 BK201.out 2
     have hfz40_3:=z01 BK201.out 3
     have hfz40_4:=z01 BK201.out 4
     go_wp2_with (first | ((with_reducible refine z0t (f:=78) rfl ?_); refine goesL_ (some 14) rfl rfl Try.func78 (by kernel_rfl) rfl #[.int .i64 a0_0] rfl (by (try simp only [List.map_toArray,List.map_cons,List.map_nil]); first | done | rfl | (simp only [List.length_drop,List.length_take]; rfl)) ?_; (with_reducible refine (z0e.calls kj1 a0_0 t202 _ A8.out).mono ?_); rintro e w' ⟨rfl,⟨nd,rfl⟩⟩; refine ⟨_,rfl,?_⟩) | ((with_reducible refine z0t (f:=79) rfl ?_); refine goesL_ (some 18) rfl rfl Try.func79 (by kernel_rfl) rfl #[.string t202,.int .u8 97,.int .i64 a0_1] rfl (by (try simp only [List.map_toArray,List.map_cons,List.map_nil]); first | done | rfl | (simp only [List.length_drop,List.length_take]; rfl)) ?_; (with_reducible refine (z0g.calls kj1 t202 97 a0_1 false _ A9.out).mono ?_); rintro e w' ⟨rfl,⟨nd,rfl⟩⟩; refine ⟨_,rfl,?_⟩))
     go_ret
     exact ⟨by first | rfl | (simp [z0i,z0h] <;> rfl) | (simp [*,z0i,z0h] <;> rfl),by repeat (first | (with_reducible first | exact HB.out | apply z04 | apply z03 | apply z05 | refine z07 ?_ GE201.out) | exact HB.out)⟩
def z0q.l0 : Nat → List Int → Int → Int → Int → Int → Int → Int → Int → Option (List Int × Int)
 | 0,_,_,_,_,_,_,_,_=>none
 | k + 1,x5,x6,x7,x210000,x210001,x210002,x210003,x210004=>if x7 ≥ 0 then (if 0 ≤ x7 then (if x7 < (x5.length : Int) then (z0q.l0 k (x5.set (x7 : Int).toNat ((Int.tmod x6 256) % 256)) (IntKind.u64.wrap (Int.tdiv x6 256)) (wrap64 (x7 - 1)) x210000 x210001 x210002 x210003 x210004) else (none)) else (none)) else ((some (([(x210000) % 256,(x210001) % 256,(x210002) % 256,(x210003) % 256] : List Int) : List Int)).bind fun y215=>(if y215.length + x5.length < 140737488355328 then (some ((y215 ++ x5),0)) else (none)))
def z0q.f (k : Nat) (a0_0 : Int) (a0_1 : Int) (a0_2 : Int) (a0_3 : Int) (a0_4 : Int) : Option (List Int × Int):=(z0d.f k a0_0 a0_1 a0_2 a0_3 a0_4).bind fun t210=>(if t210 = 0 then (some (([] : List Int),4)) else (if t210 > 0 then (some (([] : List Int),5)) else (if 8 ≤ 281474976710656 then (z0q.l0 k (List.replicate 8 0) a0_4 7 a0_0 a0_1 a0_2 a0_3 a0_4) else (none))))
theorem z0q.mono_l : ∀ k,(∀ y0 y1 y2 y3 y4 y5 y6 y7,LeO (z0q.l0 k y0 y1 y2 y3 y4 y5 y6 y7) (z0q.l0 (k + 1) y0 y1 y2 y3 y4 y5 y6 y7))
 | 0=>fun _ _ _ _ _ _ _ _ r h=>by simp [z0q.l0] at h
 | k + 1=>by
  have ih0:=z0q.mono_l k
  ·intro y0 y1 y2 y3 y4 y5 y6 y7
   unfold z0q.l0
   repeat' first
   | (with_reducible exact ih0 _ _ _ _ _ _ _ _)
   | (with_reducible exact z0d.mono _ _ _ _ _ _)
   | (with_reducible exact LeO.refl _)
   | (with_reducible exact LeO.none _)
   | (with_reducible refine LeO.ite ?_ ?_)
   | (with_reducible refine LeO.bind ?_ (fun _=>?_))
   | exact ih0 _ _ _ _ _ _ _ _
   | exact z0d.mono _ _ _ _ _ _
   | exact LeO.none _
   | refine LeO.ite ?_ ?_
   | refine LeO.bind ?_ (fun _=>?_)
theorem z0q.mono : ∀ a0 a1 a2 a3 a4 k,LeO (z0q.f k a0 a1 a2 a3 a4) (z0q.f (k + 1) a0 a1 a2 a3 a4):=by
 intro a0 a1 a2 a3 a4 k
 have ih0:=z0q.mono_l k
 unfold z0q.f
 repeat' first
   | (with_reducible exact ih0 _ _ _ _ _ _ _ _)
   | (with_reducible exact z0d.mono _ _ _ _ _ _)
   | (with_reducible exact LeO.refl _)
   | (with_reducible exact LeO.none _)
   | (with_reducible refine LeO.ite ?_ ?_)
   | (with_reducible refine LeO.bind ?_ (fun _=>?_))
   | exact ih0 _ _ _ _ _ _ _ _
   | exact z0d.mono _ _ _ _ _ _
   | exact LeO.none _
   | refine LeO.ite ?_ ?_
   | refine LeO.bind ?_ (fun _=>?_)
set_option maxHeartbeats 8000000 in
set_option maxRecDepth 100000 in
theorem z0q.calls (k : Nat) (a0_0 : Int) (a0_1 : Int) (a0_2 : Int) (a0_3 : Int) (a0_4 : Int) (r1 : List Int) (r2 : Int) (w : World) (h : z0q.f k a0_0 a0_1 a0_2 a0_3 a0_4 = some (r1,r2)) :
  Calls Try.prog 57 #[.agg #[.int .i64 a0_0,.int .i64 a0_1,.int .i64 a0_2,.int .i64 a0_3,.int .u64 a0_4]] w fun e w'=>∃ v0_ : Value,e = .returned (.tuple #[v0_,.int .i64 r2]) ∧ Kd.R (Kd.int .u8) 5 w' w.heap.size (fun _=>True) v0_ r1 ∧ Below w.heap.size w w':=by
 have hu45:=Try.underlying45
 have HB:=Aside0.mk (Below.refl w.heap.size w)
 have H : ((z0d.f k a0_0 a0_1 a0_2 a0_3 a0_4).bind fun t210=>(if t210 = 0 then (some (([] : List Int),4)) else (if t210 > 0 then (some (([] : List Int),5)) else (if 8 ≤ 281474976710656 then (z0q.l0 k (List.replicate 8 0) a0_4 7 a0_0 a0_1 a0_2 a0_3 a0_4) else (none))))) = some (r1,r2):=h
 clear h
 replace H:=Option.bind_eq_some_iff.mp H
 obtain ⟨t210,A20,H⟩:=H
 replace H : (if t210 = 0 then (some (([] : List Int),4)) else (if t210 > 0 then (some (([] : List Int),5)) else (if 8 ≤ 281474976710656 then (z0q.l0 k (List.replicate 8 0) a0_4 7 a0_0 a0_1 a0_2 a0_3 a0_4) else (none)))) = some (r1,r2):=H
 have A2:=Aside0.mk A20
 clear A20
 by_cases c3 : t210 = 0
 ·rw [if_pos c3] at H
  have c3b0 : (t210 == 0) = true:=beq_iff_eq.mpr c3
  have c3b1 : (t210 != 0) = false:=bne_eq_false_iff_eq.mpr c3
  clear c3
  simp only [Option.some.injEq,Prod.mk.injEq] at H
  obtain ⟨rfl,rfl⟩:=H
  go_enter Try.func57,Try.ntmps57
  go_wp2_with (first | ((with_reducible refine z10 (N:=1) rfl ?_); refine box_event ?hg (N:=1) ?hd (cs:=#[.int .i64 a0_0,.int .i64 a0_1,.int .i64 a0_2,.int .i64 a0_3,.int .u64 a0_4]) (t:=45) ?hr ?_; (case hd=>rfl); (case hg=>rfl); (case hr=>first | (go_simp; done) | (go_simp; rfl)); intro gb209 hg w4 hbox hb; have n0_:=Aside0.mk (z0s (by repeat (first | (with_reducible first | exact HB.out | apply z04 | apply z03 | apply z05) | exact HB.out)) hb); have n1_:=Aside0.mk (hbox); have n2_:=Aside0.mk ((by rw [hg]; exact (z0l (by repeat (first | (with_reducible first | exact HB.out | apply z04 | apply z03 | apply z05) | exact HB.out))) : w.heap.size ≤ gb209)); have n3_:=Aside0.mk ((by rw [hg]; exact (z0l (by repeat (first | (with_reducible first | exact HB.out | apply z04 | apply z03 | apply z05) | exact HB.out))) : w.heap.size ≤ gb209)); clear HB; have HB:=n0_; have BK209:=n1_; have GW209:=n2_; have GE209:=n3_; clear n0_ n1_ n2_ n3_; clear hb hbox hg; have hcz5_0 : w4.cell? ⟨gb209,0,none⟩ = some (.int .i64 a0_0):=(z02 BK209.out 0).trans rfl; have hcz5_1 : w4.cell? ⟨gb209,1,none⟩ = some (.int .i64 a0_1):=(z02 BK209.out 1).trans rfl; have hcz5_2 : w4.cell? ⟨gb209,2,none⟩ = some (.int .i64 a0_2):=(z02 BK209.out 2).trans rfl; have hcz5_3 : w4.cell? ⟨gb209,3,none⟩ = some (.int .i64 a0_3):=(z02 BK209.out 3).trans rfl; have hcz5_4 : w4.cell? ⟨gb209,4,none⟩ = some (.int .u64 a0_4):=(z02 BK209.out 4).trans rfl; have hfz5_0:=z01 BK209.out 0; have hfz5_1:=z01 BK209.out 1; have hfz5_2:=z01 BK209.out 2; have hfz5_3:=z01 BK209.out 3; have hfz5_4:=z01 BK209.out 4) | ((with_reducible refine z0t (f:=68) rfl ?_); refine goesL_ (some 9) rfl rfl Try.func68 (by kernel_rfl) rfl #[.agg #[.int .i64 a0_0,.int .i64 a0_1,.int .i64 a0_2,.int .i64 a0_3,.int .u64 a0_4]] rfl (by (try simp only [List.map_toArray,List.map_cons,List.map_nil]); first | done | rfl | (simp only [List.length_drop,List.length_take]; rfl)) ?_; (with_reducible refine (z0d.calls k a0_0 a0_1 a0_2 a0_3 a0_4 t210 _ A2.out).mono ?_); rintro e w6 ⟨rfl,hb⟩; refine ⟨_,rfl,?_⟩; have n0_:=Aside0.mk (z0v (g:=gb209) (o:=.cells #[.int .i64 a0_0,.int .i64 a0_1,.int .i64 a0_2,.int .i64 a0_3,.int .u64 a0_4] 45 (0,0)) (by (with_reducible repeat (first | refine z08 ?_ _ | refine z09 ?_ | refine z06 ?_ _)); exact BK209.out) hb); have n1_:=Aside0.mk (z0s (by repeat (first | (with_reducible first | exact HB.out | apply z04 | apply z03 | apply z05 | refine z07 ?_ GE209.out) | exact HB.out)) hb); clear BK209; clear HB; have BK209:=n0_; have HB:=n1_; clear n0_ n1_; (try clear hb); (try clear hb2); (try clear hk); (try clear hi)))
  go_ret2
  exact ⟨_,by first | rfl | (simp [z0i,z0h] <;> rfl) | (simp [*,z0i,z0h] <;> rfl),by first | exact Kd.R_nil _ _ _ _ _ | exact Kd.N_nil _ _ _ _ _ | exact Kd.V_nil _ _ _ _ _ | exact Kd.Q_nil _ _ _ _ _ | exact Kd.S_nil _ _ _ _ _,by repeat (first | (with_reducible first | exact HB.out | apply z04 | apply z03 | apply z05 | refine z07 ?_ GE209.out) | exact HB.out)⟩
 ·rw [if_neg c3] at H
  have c3b0 : (t210 == 0) = false:=beq_eq_false_iff_ne.mpr c3
  have c3b1 : (t210 != 0) = true:=bne_iff_ne.mpr c3
  by_cases c7 : t210 > 0
  ·rw [if_pos c7] at H
   have c7b0 : decide (0 < t210) = true:=decide_eq_true c7
   clear c7
   simp only [Option.some.injEq,Prod.mk.injEq] at H
   obtain ⟨rfl,rfl⟩:=H
   go_enter Try.func57,Try.ntmps57
   go_wp2_with (first | ((with_reducible refine z10 (N:=1) rfl ?_); refine box_event ?hg (N:=1) ?hd (cs:=#[.int .i64 a0_0,.int .i64 a0_1,.int .i64 a0_2,.int .i64 a0_3,.int .u64 a0_4]) (t:=45) ?hr ?_; (case hd=>rfl); (case hg=>rfl); (case hr=>first | (go_simp; done) | (go_simp; rfl)); intro gb209 hg w8 hbox hb; have n0_:=Aside0.mk (z0s (by repeat (first | (with_reducible first | exact HB.out | apply z04 | apply z03 | apply z05) | exact HB.out)) hb); have n1_:=Aside0.mk (hbox); have n2_:=Aside0.mk ((by rw [hg]; exact (z0l (by repeat (first | (with_reducible first | exact HB.out | apply z04 | apply z03 | apply z05) | exact HB.out))) : w.heap.size ≤ gb209)); have n3_:=Aside0.mk ((by rw [hg]; exact (z0l (by repeat (first | (with_reducible first | exact HB.out | apply z04 | apply z03 | apply z05) | exact HB.out))) : w.heap.size ≤ gb209)); clear HB; have HB:=n0_; have BK209:=n1_; have GW209:=n2_; have GE209:=n3_; clear n0_ n1_ n2_ n3_; clear hb hbox hg; have hcz9_0 : w8.cell? ⟨gb209,0,none⟩ = some (.int .i64 a0_0):=(z02 BK209.out 0).trans rfl; have hcz9_1 : w8.cell? ⟨gb209,1,none⟩ = some (.int .i64 a0_1):=(z02 BK209.out 1).trans rfl; have hcz9_2 : w8.cell? ⟨gb209,2,none⟩ = some (.int .i64 a0_2):=(z02 BK209.out 2).trans rfl; have hcz9_3 : w8.cell? ⟨gb209,3,none⟩ = some (.int .i64 a0_3):=(z02 BK209.out 3).trans rfl; have hcz9_4 : w8.cell? ⟨gb209,4,none⟩ = some (.int .u64 a0_4):=(z02 BK209.out 4).trans rfl; have hfz9_0:=z01 BK209.out 0; have hfz9_1:=z01 BK209.out 1; have hfz9_2:=z01 BK209.out 2; have hfz9_3:=z01 BK209.out 3; have hfz9_4:=z01 BK209.out 4) | ((with_reducible refine z0t (f:=68) rfl ?_); refine goesL_ (some 9) rfl rfl Try.func68 (by kernel_rfl) rfl #[.agg #[.int .i64 a0_0,.int .i64 a0_1,.int .i64 a0_2,.int .i64 a0_3,.int .u64 a0_4]] rfl (by (try simp only [List.map_toArray,List.map_cons,List.map_nil]); first | done | rfl | (simp only [List.length_drop,List.length_take]; rfl)) ?_; (with_reducible refine (z0d.calls k a0_0 a0_1 a0_2 a0_3 a0_4 t210 _ A2.out).mono ?_); rintro e w10 ⟨rfl,hb⟩; refine ⟨_,rfl,?_⟩; have n0_:=Aside0.mk (z0v (g:=gb209) (o:=.cells #[.int .i64 a0_0,.int .i64 a0_1,.int .i64 a0_2,.int .i64 a0_3,.int .u64 a0_4] 45 (0,0)) (by (with_reducible repeat (first | refine z08 ?_ _ | refine z09 ?_ | refine z06 ?_ _)); exact BK209.out) hb); have n1_:=Aside0.mk (z0s (by repeat (first | (with_reducible first | exact HB.out | apply z04 | apply z03 | apply z05 | refine z07 ?_ GE209.out) | exact HB.out)) hb); clear BK209; clear HB; have BK209:=n0_; have HB:=n1_; clear n0_ n1_; (try clear hb); (try clear hb2); (try clear hk); (try clear hi)))
   go_ret2
   exact ⟨_,by first | rfl | (simp [z0i,z0h] <;> rfl) | (simp [*,z0i,z0h] <;> rfl),by first | exact Kd.R_nil _ _ _ _ _ | exact Kd.N_nil _ _ _ _ _ | exact Kd.V_nil _ _ _ _ _ | exact Kd.Q_nil _ _ _ _ _ | exact Kd.S_nil _ _ _ _ _,by repeat (first | (with_reducible first | exact HB.out | apply z04 | apply z03 | apply z05 | refine z07 ?_ GE209.out) | exact HB.out)⟩
  ·rw [if_neg c7] at H
   have c7b0 : decide (0 < t210) = false:=decide_eq_false c7
   clear c7
   by_cases c11 : 8 ≤ 281474976710656
   ·rw [if_pos c11] at H
    have c11b0:=eq_true c11
    have c11b1 : decide (8 ≤ 281474976710656) = true:=decide_eq_true c11
    clear c11
    obtain ⟨y211,hy211⟩ : ∃ y_ : List Int,y_ = (List.replicate 8 0):=⟨_,rfl⟩
    replace H : (z0q.l0 k y211 a0_4 7 a0_0 a0_1 a0_2 a0_3 a0_4) = some (r1,r2):=by first | (rw [hy211]; with_reducible exact H) | (have H2_:=(Option.bind_some _ _).symm.trans H; rw [hy211]; with_reducible exact H2_) | (have H2_:=(Option.bind_some _ _).symm.trans H; with_reducible exact H2_) | with_reducible exact H | (rw [hy211]; exact H) | exact H
    have Ny211:=Aside0.mk hy211
    clear hy211
    have H':=Aside0.mk H
    clear H
    go_enter Try.func57,Try.ntmps57
    go_wp2_with (first | ((with_reducible refine z10 (N:=1) rfl ?_); refine box_event ?hg (N:=1) ?hd (cs:=#[.int .i64 a0_0,.int .i64 a0_1,.int .i64 a0_2,.int .i64 a0_3,.int .u64 a0_4]) (t:=45) ?hr ?_; (case hd=>rfl); (case hg=>rfl); (case hr=>first | (go_simp; done) | (go_simp; rfl)); intro gb209 hg w12 hbox hb; have n0_:=Aside0.mk (z0s (by repeat (first | (with_reducible first | exact HB.out | apply z04 | apply z03 | apply z05) | exact HB.out)) hb); have n1_:=Aside0.mk (hbox); have n2_:=Aside0.mk ((by rw [hg]; exact (z0l (by repeat (first | (with_reducible first | exact HB.out | apply z04 | apply z03 | apply z05) | exact HB.out))) : w.heap.size ≤ gb209)); have n3_:=Aside0.mk ((by rw [hg]; exact (z0l (by repeat (first | (with_reducible first | exact HB.out | apply z04 | apply z03 | apply z05) | exact HB.out))) : w.heap.size ≤ gb209)); clear HB; have HB:=n0_; have BK209:=n1_; have GW209:=n2_; have GE209:=n3_; clear n0_ n1_ n2_ n3_; clear hb hbox hg; have hcz13_0 : w12.cell? ⟨gb209,0,none⟩ = some (.int .i64 a0_0):=(z02 BK209.out 0).trans rfl; have hcz13_1 : w12.cell? ⟨gb209,1,none⟩ = some (.int .i64 a0_1):=(z02 BK209.out 1).trans rfl; have hcz13_2 : w12.cell? ⟨gb209,2,none⟩ = some (.int .i64 a0_2):=(z02 BK209.out 2).trans rfl; have hcz13_3 : w12.cell? ⟨gb209,3,none⟩ = some (.int .i64 a0_3):=(z02 BK209.out 3).trans rfl; have hcz13_4 : w12.cell? ⟨gb209,4,none⟩ = some (.int .u64 a0_4):=(z02 BK209.out 4).trans rfl; have hfz13_0:=z01 BK209.out 0; have hfz13_1:=z01 BK209.out 1; have hfz13_2:=z01 BK209.out 2; have hfz13_3:=z01 BK209.out 3; have hfz13_4:=z01 BK209.out 4) | ((with_reducible refine z0t (f:=68) rfl ?_); refine goesL_ (some 9) rfl rfl Try.func68 (by kernel_rfl) rfl #[.agg #[.int .i64 a0_0,.int .i64 a0_1,.int .i64 a0_2,.int .i64 a0_3,.int .u64 a0_4]] rfl (by (try simp only [List.map_toArray,List.map_cons,List.map_nil]); first | done | rfl | (simp only [List.length_drop,List.length_take]; rfl)) ?_; (with_reducible refine (z0d.calls k a0_0 a0_1 a0_2 a0_3 a0_4 t210 _ A2.out).mono ?_); rintro e w14 ⟨rfl,hb⟩; refine ⟨_,rfl,?_⟩; have n0_:=Aside0.mk (z0v (g:=gb209) (o:=.cells #[.int .i64 a0_0,.int .i64 a0_1,.int .i64 a0_2,.int .i64 a0_3,.int .u64 a0_4] 45 (0,0)) (by (with_reducible repeat (first | refine z08 ?_ _ | refine z09 ?_ | refine z06 ?_ _)); exact BK209.out) hb); have n1_:=Aside0.mk (z0s (by repeat (first | (with_reducible first | exact HB.out | apply z04 | apply z03 | apply z05 | refine z07 ?_ GE209.out) | exact HB.out)) hb); clear BK209; clear HB; have BK209:=n0_; have HB:=n1_; clear n0_ n1_; (try clear hb); (try clear hb2); (try clear hk); (try clear hi)) | ((with_reducible refine z10 (N:=14) rfl ?_); refine Kd.R_make (Kd.int .u8) _ 5 rfl (N:=14) rfl 22 _ _ rfl 8 rfl rfl Try.underlying22 (.int .u8 0) 1 info5 rfl (by decide) (by omega) 0 (ok:=fun _=>True) (okp:=fun _=>True) rfl (fun _ hk=>hk) trivial (by omega) (by omega) (Below.refl _ _) (Nat.le_refl _) ?_; intro v212 w15 ho16 hb hg_ hnew_; clear hg_ hnew_; (first | rw [← Ny211.out] at ho16 | (simp only [Int.reduceToNat] at ho16; rw [← Ny211.out] at ho16)); have n0_:=Aside0.mk (Kd.R_lower ho16 (z0l (by repeat (first | (with_reducible first | exact HB.out | apply z04 | apply z03 | apply z05 | refine z07 ?_ GE209.out) | exact HB.out)))); have n1_:=Aside0.mk (z0v (g:=gb209) (o:=.cells #[.int .i64 a0_0,.int .i64 a0_1,.int .i64 a0_2,.int .i64 a0_3,.int .u64 a0_4] 45 (0,0)) (by (with_reducible repeat (first | refine z08 ?_ _ | refine z09 ?_ | refine z06 ?_ _)); exact BK209.out) hb); have n2_:=Aside0.mk (z0s (by repeat (first | (with_reducible first | exact HB.out | apply z04 | apply z03 | apply z05 | refine z07 ?_ GE209.out) | exact HB.out)) hb); clear BK209; clear HB; have HO213:=n0_; have BK209:=n1_; have HB:=n2_; clear n0_ n1_ n2_; clear hb ho16; have hcz17_0 : w15.cell? ⟨gb209,0,none⟩ = some (.int .i64 a0_0):=(z02 BK209.out 0).trans rfl; have hcz17_1 : w15.cell? ⟨gb209,1,none⟩ = some (.int .i64 a0_1):=(z02 BK209.out 1).trans rfl; have hcz17_2 : w15.cell? ⟨gb209,2,none⟩ = some (.int .i64 a0_2):=(z02 BK209.out 2).trans rfl; have hcz17_3 : w15.cell? ⟨gb209,3,none⟩ = some (.int .i64 a0_3):=(z02 BK209.out 3).trans rfl; have hcz17_4 : w15.cell? ⟨gb209,4,none⟩ = some (.int .u64 a0_4):=(z02 BK209.out 4).trans rfl; have hfz17_0:=z01 BK209.out 0; have hfz17_1:=z01 BK209.out 1; have hfz17_2:=z01 BK209.out 2; have hfz17_3:=z01 BK209.out 3; have hfz17_4:=z01 BK209.out 4))
    go_loopg [6,7] k (fun kq v6 v7 w'=>∃ (x5_1 : List Int) (x6_1 : Int) (x7_1 : Int),v6 = .int .u64 x6_1 ∧ v7 = .int .i64 x7_1 ∧ Aside0 (z0q.l0 kq x5_1 x6_1 x7_1 a0_0 a0_1 a0_2 a0_3 a0_4 = some (r1,r2)) ∧ Aside0 (kq ≤ k) ∧ Aside0 (Kd.R (Kd.int .u8) 5 w' w.heap.size (fun _=>True) v212 x5_1) ∧ Aside0 (w'.heap[gb209]? = some (.cells #[.int .i64 a0_0,.int .i64 a0_1,.int .i64 a0_2,.int .i64 a0_3,.int .u64 a0_4] 45 (0,0))) ∧ Aside0 (Below w.heap.size w w'))
    case atStart=>exact ⟨(y211),(a0_4),(7),(by first | rfl | (simp; done) | (simp [*]; done)),(by first | rfl | (simp; done) | (simp [*]; done)),H',⟨Nat.le_refl _⟩,⟨by (with_reducible repeat (first | apply Kd.R_alloc | apply Kd.R_drewN | apply Kd.R_drew)); exact HO213.out⟩,⟨by (with_reducible repeat (first | refine z08 ?_ _ | refine z09 ?_ | refine z06 ?_ _)); exact BK209.out⟩,⟨by repeat (first | (with_reducible first | exact HB.out | apply z04 | apply z03 | apply z05 | refine z07 ?_ GE209.out) | exact HB.out)⟩⟩
    case round =>
     clear H'
     try clear c1
     try clear p2
     try clear c3
     try clear c3b0
     try clear c3b1
     try clear c5
     try clear c6
     try clear c7
     try clear c7b0
     try clear c11
     try clear c11b0
     try clear c11b1
     try clear hcz13_0
     try clear hcz13_1
     try clear hcz13_2
     try clear hcz13_3
     try clear hcz13_4
     try clear hcz17_0
     try clear hcz17_1
     try clear hcz17_2
     try clear hcz17_3
     try clear hcz17_4
     try clear hcz5_0
     try clear hcz5_1
     try clear hcz5_2
     try clear hcz5_3
     try clear hcz5_4
     try clear hcz9_0
     try clear hcz9_1
     try clear hcz9_2
     try clear hcz9_3
     try clear hcz9_4
     try clear hfz13_0
     try clear hfz13_1
     try clear hfz13_2
     try clear hfz13_3
     try clear hfz13_4
     try clear hfz17_0
     try clear hfz17_1
     try clear hfz17_2
     try clear hfz17_3
     try clear hfz17_4
     try clear hfz5_0
     try clear hfz5_1
     try clear hfz5_2
     try clear hfz5_3
     try clear hfz5_4
     try clear hfz9_0
     try clear hfz9_1
     try clear hfz9_2
     try clear hfz9_3
     try clear hfz9_4
     obtain ⟨x5_1,x6_1,x7_1,rfl,rfl,HA,HK1,HO_5,BK209,HB⟩:=hrel
     cases gk with
     | zero=>exact absurd HA.out (by simp [z0q.l0])
     | succ k1 =>
      have H:=HA.out
      clear HA
      simp only [z0q.l0] at H
      by_cases c18 : x7_1 ≥ 0
      ·rw [if_pos c18] at H
       have c18b0 : decide (0 ≤ x7_1) = true:=decide_eq_true c18
       clear c18
       by_cases c19 : 0 ≤ x7_1
       ·rw [if_pos c19] at H
        have c19b0 : decide (0 ≤ x7_1) = true:=decide_eq_true c19
        clear c19
        by_cases c20 : x7_1 < (x5_1.length : Int)
        ·rw [if_pos c20] at H
         have c20b0 : decide (x7_1 < (x5_1.length : Int)) = true:=decide_eq_true c20
         clear c20
         obtain ⟨y214,hy214⟩ : ∃ y_ : List Int,y_ = (x5_1.set (x7_1 : Int).toNat ((Int.tmod x6_1 256) % 256)):=⟨_,rfl⟩
         replace H : (z0q.l0 k1 y214 (IntKind.u64.wrap (Int.tdiv x6_1 256)) (wrap64 (x7_1 - 1)) a0_0 a0_1 a0_2 a0_3 a0_4) = some (r1,r2):=by first | (rw [hy214]; with_reducible exact H) | (have H2_:=(Option.bind_some _ _).symm.trans H; rw [hy214]; with_reducible exact H2_) | (have H2_:=(Option.bind_some _ _).symm.trans H; with_reducible exact H2_) | with_reducible exact H | (rw [hy214]; exact H) | exact H
         have Ny214:=Aside0.mk hy214
         clear hy214
         have H':=Aside0.mk H
         clear H
         have p21 : 0 ≤ (x7_1 : Int):=of_decide_eq_true (by assumption)
         have q21 : (x7_1 : Int) < ((x5_1.length : Int) : Int):=of_decide_eq_true (by assumption)
         obtain ⟨go21,co21,eo21,gb21,gl21,cl21,HG21⟩:=Kd.R_form HO_5.out (by omega)
         (first | cases eo21 | (injection eo21 with ea_ en_ ec_; (first | subst ea_ | (injection ea_ with ea_; subst ea_)); subst ec_; clear en_))
         have GB21:=Aside0.mk gb21
         have GG21:=Aside0.mk HG21
         clear gb21 gl21 HG21
         obtain ⟨hx21_0,hf21_0⟩:=Kd.R_celln 0 HO_5.out (x7_1 : Int) p21 q21
         replace p21:=eq_true p21
         replace q21:=eq_true q21
         have HP22:=Kd.R_putg HO_5.out (x7_1 : Int) ((Int.tmod x6_1 256) % 256)
         go_wp2_with (first | ((with_reducible refine gate_store (t:=5) (p:=26) rfl ?_); refine store_event (t:=5) (p:=26) (v:=?vo_w23) (w1:=(wr.setCell ⟨go21,(x7_1 : Int).toNat,none⟩ (.int .u8 ((Int.tmod x6_1 256) % 256)))) ?hg ?ho ?hn ?hr ?_; (case ho=>rfl); (case hg=>rfl); (case hn=>rfl); (case hr=>first | (go_simp; done) | (go_simp; rfl)); intro w23 hw; have hg : wr.grownBy w23 (some go21):=(by rw [hw]; exact HP22.2); have hp_ : Kd.R (Kd.int .u8) 5 w23 w.heap.size (fun _=>True) (.slice (some ⟨go21,0,none⟩) x5_1.length co21) y214:=(by rw [hw,Ny214.out]; exact HP22.1); clear HP22; have n0_:=Aside0.mk (hp_); have n1_:=Aside0.mk (blk_grown (g:=gb209) (o:=.cells #[.int .i64 a0_0,.int .i64 a0_1,.int .i64 a0_2,.int .i64 a0_3,.int .u64 a0_4] 45 (0,0)) (by (with_reducible repeat (first | refine z08 ?_ _ | refine z09 ?_ | refine z06 ?_ _)); exact BK209.out) hg (Kd.R_ne HO_5.out BK209.out (by decide))); have n2_:=Aside0.mk ((by rw [hw]; exact z07 (HB.out) GB21.out : Below w.heap.size w w23)); clear HO_5; clear BK209; clear HB; have HO_5:=n0_; have BK209:=n1_; have HB:=n2_; clear n0_ n1_ n2_; clear hg hw hp_))
         go_roundg k1
         case measure=>have:=HK1.out; omega
         case rel=>exact ⟨(y214),(IntKind.u64.wrap (Int.tdiv x6_1 256)),(wrap64 (x7_1 - 1)),(by first | rfl | (simp; done) | (simp [*]; done)),(by first | rfl | (simp; done) | (simp [*]; done)),H',⟨by have:=HK1.out; omega⟩,⟨by (with_reducible repeat (first | apply Kd.R_alloc | apply Kd.R_drewN | apply Kd.R_drew)); exact HO_5.out⟩,⟨by (with_reducible repeat (first | refine z08 ?_ _ | refine z09 ?_ | refine z06 ?_ _)); exact BK209.out⟩,⟨by repeat (first | (with_reducible first | exact HB.out | apply z04 | apply z03 | apply z05 | refine z07 ?_ GE209.out) | exact HB.out)⟩⟩
        ·rw [if_neg c20] at H
         exact absurd H (by simp)
       ·rw [if_neg c19] at H
        exact absurd H (by simp)
      ·rw [if_neg c18] at H
       have c18b0 : decide (0 ≤ x7_1) = false:=decide_eq_false c18
       clear c18
       obtain ⟨y215,hy215⟩ : ∃ y_ : List Int,y_ = (([(a0_0) % 256,(a0_1) % 256,(a0_2) % 256,(a0_3) % 256] : List Int)):=⟨_,rfl⟩
       replace H : (if y215.length + x5_1.length < 140737488355328 then (some ((y215 ++ x5_1),0)) else (none)) = some (r1,r2):=by first | (rw [hy215]; with_reducible exact H) | (have H2_:=(Option.bind_some _ _).symm.trans H; rw [hy215]; with_reducible exact H2_) | (have H2_:=(Option.bind_some _ _).symm.trans H; with_reducible exact H2_) | with_reducible exact H | (rw [hy215]; exact H) | exact H
       have Ny215:=Aside0.mk hy215
       clear hy215
       by_cases c24 : y215.length + x5_1.length < 140737488355328
       ·rw [if_pos c24] at H
        have LMc24:=Aside0.mk c24
        clear c24
        obtain ⟨y218,hy218⟩ : ∃ y_ : List Int,y_ = (y215 ++ x5_1):=⟨_,rfl⟩
        replace H : (some (y218,0)) = some (r1,r2):=by first | (rw [hy218]; with_reducible exact H) | (have H2_:=(Option.bind_some _ _).symm.trans H; rw [hy218]; with_reducible exact H2_) | (have H2_:=(Option.bind_some _ _).symm.trans H; with_reducible exact H2_) | with_reducible exact H | (rw [hy218]; exact H) | exact H
        have Ny218:=Aside0.mk hy218
        clear hy218
        simp only [Option.some.injEq,Prod.mk.injEq] at H
        obtain ⟨rfl,rfl⟩:=H
        have hcz25_0 : wr.cell? ⟨gb209,0,none⟩ = some (.int .i64 a0_0):=(z02 BK209.out 0).trans rfl
        have hcz25_1 : wr.cell? ⟨gb209,1,none⟩ = some (.int .i64 a0_1):=(z02 BK209.out 1).trans rfl
        have hcz25_2 : wr.cell? ⟨gb209,2,none⟩ = some (.int .i64 a0_2):=(z02 BK209.out 2).trans rfl
        have hcz25_3 : wr.cell? ⟨gb209,3,none⟩ = some (.int .i64 a0_3):=(z02 BK209.out 3).trans rfl
        have hcz25_4 : wr.cell? ⟨gb209,4,none⟩ = some (.int .u64 a0_4):=(z02 BK209.out 4).trans rfl
        have hfz25_0:=z01 BK209.out 0
        have hfz25_1:=z01 BK209.out 1
        have hfz25_2:=z01 BK209.out 2
        have hfz25_3:=z01 BK209.out 3
        have hfz25_4:=z01 BK209.out 4
        go_wp2_with (first | ((with_reducible refine z10 (N:=41) rfl ?_); refine Kd.R_lit (Kd.int .u8) _ 5 ?hg (N:=41) ?hd (xs:=([(a0_0) % 256,(a0_1) % 256,(a0_2) % 256,(a0_3) % 256] : List Int)) (inner:=[.int .u8 ((a0_0) % 256),.int .u8 ((a0_1) % 256),.int .u8 ((a0_2) % 256),.int .u8 ((a0_3) % 256)]) (ok:=fun _=>True) (okp:=fun _=>True) ?hr ?hp (fun _ hk=>hk) trivial (Below.refl _ _) (Nat.le_refl _) (by simp) ?_; (case hd=>rfl); (case hg=>rfl); (case hr=>first | (go_simp; done) | (go_simp; rfl)); (case hp=>exact (Reps.one (show Kd.M (Kd.int .u8) _ _ _ ((a0_0) % 256) [.int .u8 ((a0_0) % 256)] from rfl) (Reps.one (show Kd.M (Kd.int .u8) _ _ _ ((a0_1) % 256) [.int .u8 ((a0_1) % 256)] from rfl) (Reps.one (show Kd.M (Kd.int .u8) _ _ _ ((a0_2) % 256) [.int .u8 ((a0_2) % 256)] from rfl) (Reps.one (show Kd.M (Kd.int .u8) _ _ _ ((a0_3) % 256) [.int .u8 ((a0_3) % 256)] from rfl) (Reps.none _ _)))))); intro v216 w26 ho27 hb hg_ hnew_; clear hg_ hnew_; (first | rw [← Ny215.out] at ho27 | (simp only [Int.reduceToNat] at ho27; rw [← Ny215.out] at ho27)); have n0_:=Aside0.mk (Kd.R_elder' (by (with_reducible repeat (first | apply Kd.R_alloc | apply Kd.R_drewN | apply Kd.R_drew)); exact HO_5.out) (Kd.R_base ho27) hb); have n1_:=Aside0.mk (Kd.R_lower (Kd.R_new' ho27 (Kd.R_lt (by (with_reducible repeat (first | apply Kd.R_alloc | apply Kd.R_drewN | apply Kd.R_drew)); exact HO_5.out))) (z0l (by repeat (first | (with_reducible first | exact HB.out | apply z04 | apply z03 | apply z05 | refine z07 ?_ GE209.out) | exact HB.out)))); have n2_:=Aside0.mk (z0v (g:=gb209) (o:=.cells #[.int .i64 a0_0,.int .i64 a0_1,.int .i64 a0_2,.int .i64 a0_3,.int .u64 a0_4] 45 (0,0)) (by (with_reducible repeat (first | refine z08 ?_ _ | refine z09 ?_ | refine z06 ?_ _)); exact BK209.out) hb); have n3_:=Aside0.mk (z0s (by repeat (first | (with_reducible first | exact HB.out | apply z04 | apply z03 | apply z05 | refine z07 ?_ GE209.out) | exact HB.out)) hb); clear HO_5; clear BK209; clear HB; have HO_5:=n0_; have HO217:=n1_; have BK209:=n2_; have HB:=n3_; clear n0_ n1_ n2_ n3_; clear hb ho27; obtain ⟨Ao29,co29,eo29⟩:=Kd.R_slice HO_5.out; subst eo29) | ((with_reducible refine gate_builtin (b:=.append) (xs:=#[.tmp 41,.tmp 42]) rfl ?_); at_builtin; refine Kd.R_append_rows (Kd.int .u8) (w0:=w) w.heap.size rfl (.tmp 41) (.tmp 42) 22 5 (.int .u8 0) 1 rfl Try.underlying22 info5 rfl (by decide) (by omega) v216 y215 x5_1 _ _ _ (fun k_=>some k_ ≠ (.slice Ao29 x5_1.length co29 : Value).ownBlock) (fun _=>False) rfl rfl ?aO ?aR (fun _ _ h=>h) (fun _ h=>h.elim) ?aF ?aB ?aS ?aL ?_; (case aR=>repeat (first | exact (Kd.R_reads' HO_5.out).2.2 | (with_reducible refine Kd.C_alloc ?_ _) | (with_reducible refine Kd.C_drewN ?_ _) | (with_reducible refine Kd.C_drew ?_))); (case aB=>exact (by repeat (first | (with_reducible first | exact HB.out | apply z04 | apply z03 | apply z05 | refine z07 ?_ GE209.out) | exact HB.out))); (case aF=>exact (fun k_ hk=>Kd.fresh' (Kd.R_lt (by (with_reducible repeat (first | apply Kd.R_alloc | apply Kd.R_drewN | apply Kd.R_drew)); exact HO_5.out)) k_ hk)); (case aO=>exact (by (with_reducible repeat (first | apply Kd.R_alloc | apply Kd.R_drewN | apply Kd.R_drew)); exact Kd.R_mono HO217.out (fun _ hk=>hk.2))); (case aS=>exact (z0l (by repeat (first | (with_reducible first | exact HB.out | apply z04 | apply z03 | apply z05 | refine z07 ?_ GE209.out) | exact HB.out)))); (case aL=>have:=LMc24.out; omega); intro v219 w28 ho hb hg hat; rw [← Ny218.out] at ho; have n0_:=Aside0.mk (Kd.R_after (ok:=(fun _=>True)) (by (with_reducible repeat (first | apply Kd.R_alloc | apply Kd.R_drewN | apply Kd.R_drew)); exact HO_5.out) hg hat); have n1_:=Aside0.mk (blk_grown (g:=gb209) (o:=.cells #[.int .i64 a0_0,.int .i64 a0_1,.int .i64 a0_2,.int .i64 a0_3,.int .u64 a0_4] 45 (0,0)) (by (with_reducible repeat (first | refine z08 ?_ _ | refine z09 ?_ | refine z06 ?_ _)); exact BK209.out) hg (Kd.R_ne HO217.out BK209.out (by decide))); have n2_:=Aside0.mk (hb); have n3_:=Aside0.mk (ho); clear HO_5; clear BK209; clear HB; clear HO217; have HO_5:=n0_; have BK209:=n1_; have HB:=n2_; have HO220:=n3_; clear n0_ n1_ n2_ n3_; clear ho hb hg hat))
        go_ret2
        exact ⟨_,by first | rfl | (simp [z0i,z0h] <;> rfl) | (simp [*,z0i,z0h] <;> rfl),by (with_reducible repeat (first | apply Kd.R_alloc | apply Kd.R_drewN | apply Kd.R_drew)); exact Kd.R_mono HO220.out (fun _ hk=>trivial),by repeat (first | (with_reducible first | exact HB.out | apply z04 | apply z03 | apply z05 | refine z07 ?_ GE209.out) | exact HB.out)⟩
       ·rw [if_neg c24] at H
        exact absurd H (by simp)
   ·rw [if_neg c11] at H
    exact absurd H (by simp)
end Go.Proofs.Ytcbnhfnnjkkceaa.X
end
section
namespace Go.Proofs.Ytcbnhfnnjkkceaa.X
open Go.RowKit Go.Proofs.YtcbnhfnnjkkceaaW.PrintWords Go.Proofs.YtcbnhfnnjkkceaaW.PrintLast Go.Proofs.YtcbnhfnnjkkceaaW.PrintMore
attribute [local go_sem] max2_int min2_int max_two min_two max_three min_three max_four min_four
mutual
def z0j.j0 : Nat → Int → Bool → Int → Int → Int → List Int → List Int → List (S45) → Option (Int)
 | 0,_,_,_,_,_,_,_,_=>none
 | k + 1,x1,x15,x222000,x222001,x222002,x222003,x222004,x222005=>if x15 = true then (some (-1)) else (z0j.l0 k x1 (-1) 0 x222000 x222001 x222002 x222003 x222004 x222005)
def z0j.l0 : Nat → Int → Int → Int → Int → Int → Int → List Int → List Int → List (S45) → Option (Int)
 | 0,_,_,_,_,_,_,_,_,_=>none
 | k + 1,x1,x5,x6,x222000,x222001,x222002,x222003,x222004,x222005=>if x6 < (x222004.length : Int) then (if 0 ≤ x6 then (if (rd x222004 x6) ≤ x1 then (z0j.l0 k x1 x6 (wrap64 (x6 + 1)) x222000 x222001 x222002 x222003 x222004 x222005) else (z0j.l0 k x1 x5 (wrap64 (x6 + 1)) x222000 x222001 x222002 x222003 x222004 x222005)) else (none)) else (some x5)
end
def z0j.f (k : Nat) (a0_0 : Int) (a0_1 : Int) (a0_2 : Int) (l0_3 : List Int) (l0_4 : List Int) (l0_5 : List (S45)) (a1 : Int) : Option (Int):=if a1 < 0 then (z0j.j0 k a1 true a0_0 a0_1 a0_2 l0_3 l0_4 l0_5) else (z0j.j0 k a1 (decide (a1 ≥ (l0_5.length : Int))) a0_0 a0_1 a0_2 l0_3 l0_4 l0_5)
theorem z0j.mono_l : ∀ k,(∀ y0 y1 y2 y3 y4 y5 y6 y7,LeO (z0j.j0 k y0 y1 y2 y3 y4 y5 y6 y7) (z0j.j0 (k + 1) y0 y1 y2 y3 y4 y5 y6 y7)) ∧ (∀ y0 y1 y2 y3 y4 y5 y6 y7 y8,LeO (z0j.l0 k y0 y1 y2 y3 y4 y5 y6 y7 y8) (z0j.l0 (k + 1) y0 y1 y2 y3 y4 y5 y6 y7 y8))
 | 0=>⟨fun _ _ _ _ _ _ _ _ r h=>by simp [z0j.j0] at h,fun _ _ _ _ _ _ _ _ _ r h=>by simp [z0j.l0] at h⟩
 | k + 1=>by
  obtain ⟨ih0,ih1⟩:=z0j.mono_l k
  refine ⟨?_,?_⟩
  ·intro y0 y1 y2 y3 y4 y5 y6 y7
   unfold z0j.j0
   repeat' first
   | (with_reducible exact ih0 _ _ _ _ _ _ _ _)
   | (with_reducible exact ih1 _ _ _ _ _ _ _ _ _)
   | (with_reducible exact LeO.refl _)
   | (with_reducible exact LeO.none _)
   | (with_reducible refine LeO.ite ?_ ?_)
   | (with_reducible refine LeO.bind ?_ (fun _=>?_))
   | exact ih0 _ _ _ _ _ _ _ _
   | exact ih1 _ _ _ _ _ _ _ _ _
   | exact LeO.none _
   | refine LeO.ite ?_ ?_
   | refine LeO.bind ?_ (fun _=>?_)
  ·intro y0 y1 y2 y3 y4 y5 y6 y7 y8
   unfold z0j.l0
   repeat' first
   | (with_reducible exact ih0 _ _ _ _ _ _ _ _)
   | (with_reducible exact ih1 _ _ _ _ _ _ _ _ _)
   | (with_reducible exact LeO.refl _)
   | (with_reducible exact LeO.none _)
   | (with_reducible refine LeO.ite ?_ ?_)
   | (with_reducible refine LeO.bind ?_ (fun _=>?_))
   | exact ih0 _ _ _ _ _ _ _ _
   | exact ih1 _ _ _ _ _ _ _ _ _
   | exact LeO.none _
   | refine LeO.ite ?_ ?_
   | refine LeO.bind ?_ (fun _=>?_)
theorem z0j.mono : ∀ a0 a1 a2 a3 a4 a5 a6 k,LeO (z0j.f k a0 a1 a2 a3 a4 a5 a6) (z0j.f (k + 1) a0 a1 a2 a3 a4 a5 a6):=by
 intro a0 a1 a2 a3 a4 a5 a6 k
 obtain ⟨ih0,ih1⟩:=z0j.mono_l k
 unfold z0j.f
 repeat' first
   | (with_reducible exact ih0 _ _ _ _ _ _ _ _)
   | (with_reducible exact ih1 _ _ _ _ _ _ _ _ _)
   | (with_reducible exact LeO.refl _)
   | (with_reducible exact LeO.none _)
   | (with_reducible refine LeO.ite ?_ ?_)
   | (with_reducible refine LeO.bind ?_ (fun _=>?_))
   | exact ih0 _ _ _ _ _ _ _ _
   | exact ih1 _ _ _ _ _ _ _ _ _
   | exact LeO.none _
   | refine LeO.ite ?_ ?_
   | refine LeO.bind ?_ (fun _=>?_)
set_option maxHeartbeats 8000000 in
set_option maxRecDepth 100000 in
theorem z0j.calls (k : Nat) (a0_0 : Int) (a0_1 : Int) (a0_2 : Int) (A0_3 : Option Addr) (c0_3 : Nat) (l0_3 : List Int) (A0_4 : Option Addr) (c0_4 : Nat) (l0_4 : List Int) (A0_5 : Option Addr) (c0_5 : Nat) (l0_5 : List (S45)) (a1 : Int) (r : Int) (w : World) (hr0_3 : Kd.C (Kd.int .u8) w A0_3 l0_3.length l0_3) (hc0_3 : l0_3.length ≤ c0_3) (hr0_4 : Kd.C (Kd.int .i64) w A0_4 l0_4.length l0_4) (hc0_4 : l0_4.length ≤ c0_4) (hr0_5 : Kd.C k45 w A0_5 l0_5.length l0_5) (hc0_5 : l0_5.length ≤ c0_5) (h : z0j.f k a0_0 a0_1 a0_2 l0_3 l0_4 l0_5 a1 = some r) :
  Calls Try.prog 69 #[.agg #[.int .i64 a0_0,.int .i64 a0_1,.int .i64 a0_2,.slice A0_3 l0_3.length c0_3,.slice A0_4 l0_4.length c0_4,.slice A0_5 l0_5.length c0_5],.int .i64 a1] w fun e w'=>e = .returned (.int .i64 r) ∧ Below w.heap.size w w':=by
 have hu26:=Try.underlying26
 have HR0_3:=Aside0.mk hr0_3
 have HC0_3:=Aside0.mk hc0_3
 clear hr0_3 hc0_3
 have HR0_4:=Aside0.mk hr0_4
 have HC0_4:=Aside0.mk hc0_4
 clear hr0_4 hc0_4
 have HR0_5:=Aside0.mk hr0_5
 have HC0_5:=Aside0.mk hc0_5
 clear hr0_5 hc0_5
 have HB:=Aside0.mk (Below.refl w.heap.size w)
 have H : (if a1 < 0 then (z0j.j0 k a1 true a0_0 a0_1 a0_2 l0_3 l0_4 l0_5) else (z0j.j0 k a1 (decide (a1 ≥ (l0_5.length : Int))) a0_0 a0_1 a0_2 l0_3 l0_4 l0_5)) = some r:=h
 clear h
 have HC3:=Aside0.mk H
 clear H
 go_enter Try.func69,Try.ntmps69
 go_upto_region 1 with (first | ((with_reducible refine z10 (N:=2) rfl ?_); (try (refine gate_guard (by rfl) ?_; dsimp only)); refine box_event ?hg (N:=2) ?hd (cs:=#[.int .i64 a0_0,.int .i64 a0_1,.int .i64 a0_2,.slice A0_3 l0_3.length c0_3,.slice A0_4 l0_4.length c0_4,.slice A0_5 l0_5.length c0_5]) (t:=26) ?hr ?_; (case hd=>rfl); (case hg=>rfl); (case hr=>first | (go_simp; done) | (go_simp; rfl)); intro gb221 hg w4 hbox hb; have n0_:=Aside0.mk (z0s (by repeat (first | (with_reducible first | exact HB.out | apply z04 | apply z03 | apply z05) | exact HB.out)) hb); have n1_:=Aside0.mk (hbox); have n2_:=Aside0.mk ((by rw [hg]; exact (z0l (by repeat (first | (with_reducible first | exact HB.out | apply z04 | apply z03 | apply z05) | exact HB.out))) : w.heap.size ≤ gb221)); have n3_:=Aside0.mk ((by rw [hg]; exact (z0l (by repeat (first | (with_reducible first | exact HB.out | apply z04 | apply z03 | apply z05) | exact HB.out))) : w.heap.size ≤ gb221)); clear HB; have HB:=n0_; have BK221:=n1_; have GW221:=n2_; have GE221:=n3_; clear n0_ n1_ n2_ n3_; clear hb hbox hg))
 (try simp only [Act.put,zq1,zq2,zq3])
 go_cut [15] (fun v15 wc=>∃ (kq : Nat) (x15_2 : Bool),v15 = .bool x15_2 ∧ Aside0 (z0j.j0 kq a1 x15_2 a0_0 a0_1 a0_2 l0_3 l0_4 l0_5 = some r) ∧ Aside0 (kq ≤ k) ∧ Aside0 (wc.heap[gb221]? = some (.cells #[.int .i64 a0_0,.int .i64 a0_1,.int .i64 a0_2,(.slice A0_3 l0_3.length c0_3),(.slice A0_4 l0_4.length c0_4),(.slice A0_5 l0_5.length c0_5)] 26 (0,0))) ∧ Aside0 (Below w.heap.size w wc))
 case first =>
  have H:=HC3.out
  clear HC3
  by_cases c5 : a1 < 0
  ·rw [if_pos c5] at H
   have c5b0 : decide (a1 < 0) = true:=decide_eq_true c5
   clear c5
   (first | rw [c5b0] | (simp only [i64_w,i32_w]; rw [c5b0]) | skip)
   have H':=Aside0.mk H
   clear H
   go_wp2
   go_meet
   case rel=>exact ⟨_,(true),(by first | rfl | (simp; done) | (simp [*]; done)),H',⟨by first | omega | exact Nat.le_refl _⟩,⟨by (with_reducible repeat (first | refine z08 ?_ _ | refine z09 ?_ | refine z06 ?_ _)); exact BK221.out⟩,⟨by repeat (first | (with_reducible first | exact HB.out | apply z04 | apply z03 | apply z05 | refine z07 ?_ GE221.out) | exact HB.out)⟩⟩
  ·rw [if_neg c5] at H
   have c5b0 : decide (a1 < 0) = false:=decide_eq_false c5
   clear c5
   (first | rw [c5b0] | (simp only [i64_w,i32_w]; rw [c5b0]) | skip)
   have H':=Aside0.mk H
   clear H
   have hcz6_0 : w4.cell? ⟨gb221,0,none⟩ = some (.int .i64 a0_0):=(z02 BK221.out 0).trans rfl
   have hcz6_1 : w4.cell? ⟨gb221,1,none⟩ = some (.int .i64 a0_1):=(z02 BK221.out 1).trans rfl
   have hcz6_2 : w4.cell? ⟨gb221,2,none⟩ = some (.int .i64 a0_2):=(z02 BK221.out 2).trans rfl
   have hcz6_3 : w4.cell? ⟨gb221,3,none⟩ = some (.slice A0_3 l0_3.length c0_3):=(z02 BK221.out 3).trans rfl
   have hcz6_4 : w4.cell? ⟨gb221,4,none⟩ = some (.slice A0_4 l0_4.length c0_4):=(z02 BK221.out 4).trans rfl
   have hcz6_5 : w4.cell? ⟨gb221,5,none⟩ = some (.slice A0_5 l0_5.length c0_5):=(z02 BK221.out 5).trans rfl
   have hfz6_0:=z01 BK221.out 0
   have hfz6_1:=z01 BK221.out 1
   have hfz6_2:=z01 BK221.out 2
   have hfz6_3:=z01 BK221.out 3
   have hfz6_4:=z01 BK221.out 4
   have hfz6_5:=z01 BK221.out 5
   go_wp2
   go_meet
   case rel=>exact ⟨_,(decide (a1 ≥ (l0_5.length : Int))),(by first | rfl | (simp; done) | (simp [*]; done)),H',⟨by first | omega | exact Nat.le_refl _⟩,⟨by (with_reducible repeat (first | refine z08 ?_ _ | refine z09 ?_ | refine z06 ?_ _)); exact BK221.out⟩,⟨by repeat (first | (with_reducible first | exact HB.out | apply z04 | apply z03 | apply z05 | refine z07 ?_ GE221.out) | exact HB.out)⟩⟩
 case rest =>
  clear HC3
  try clear p2
  try clear c5
  try clear c5b0
  try clear c6
  try clear hcz6_0
  try clear hcz6_1
  try clear hcz6_2
  try clear hcz6_3
  try clear hcz6_4
  try clear hcz6_5
  try clear hfz6_0
  try clear hfz6_1
  try clear hfz6_2
  try clear hfz6_3
  try clear hfz6_4
  try clear hfz6_5
  obtain ⟨kq,x15_2,rfl,HA,HJ2,BK221,HB⟩:=hcut
  cases kq with
  | zero=>exact absurd HA.out (by simp [z0j.j0])
  | succ kj2 =>
   have H:=HA.out
   clear HA
   simp only [z0j.j0] at H
   by_cases c7 : x15_2 = true
   ·subst c7
    have H1 : (some (-1)) = some r:=by rw [if_pos rfl] at H; exact H
    clear H
    have H:=H1
    clear H1
    obtain rfl:=Option.some.inj H
    go_wp2
    go_ret
    exact ⟨by first | rfl | (simp [z0i,z0h] <;> rfl) | (simp [*,z0i,z0h] <;> rfl),by repeat (first | (with_reducible first | exact HB.out | apply z04 | apply z03 | apply z05 | refine z07 ?_ GE221.out) | exact HB.out)⟩
   ·replace c7:=Bool.eq_false_iff.mpr c7
    subst c7
    have H1 : (z0j.l0 kj2 a1 (-1) 0 a0_0 a0_1 a0_2 l0_3 l0_4 l0_5) = some r:=by rw [if_neg (show ¬ (false = true) by decide)] at H; exact H
    clear H
    have H:=H1
    clear H1
    have H':=Aside0.mk H
    clear H
    go_wp2
    go_loopg [5,6] kj2 (fun kq v5 v6 w'=>∃ (x5_2 : Int) (x6_2 : Int),v5 = .int .i64 x5_2 ∧ v6 = .int .i64 x6_2 ∧ Aside0 (z0j.l0 kq a1 x5_2 x6_2 a0_0 a0_1 a0_2 l0_3 l0_4 l0_5 = some r) ∧ Aside0 (kq ≤ kj2) ∧ Aside0 (w'.heap[gb221]? = some (.cells #[.int .i64 a0_0,.int .i64 a0_1,.int .i64 a0_2,(.slice A0_3 l0_3.length c0_3),(.slice A0_4 l0_4.length c0_4),(.slice A0_5 l0_5.length c0_5)] 26 (0,0))) ∧ Aside0 (Below w.heap.size w w'))
    case atStart=>exact ⟨((-1)),(0),(by first | rfl | (simp; done) | (simp [*]; done)),(by first | rfl | (simp; done) | (simp [*]; done)),H',⟨Nat.le_refl _⟩,⟨by (with_reducible repeat (first | refine z08 ?_ _ | refine z09 ?_ | refine z06 ?_ _)); exact BK221.out⟩,⟨by repeat (first | (with_reducible first | exact HB.out | apply z04 | apply z03 | apply z05 | refine z07 ?_ GE221.out) | exact HB.out)⟩⟩
    case round =>
     clear H'
     try clear p2
     try clear c5
     try clear c5b0
     try clear c6
     try clear c7
     try clear hcz6_0
     try clear hcz6_1
     try clear hcz6_2
     try clear hcz6_3
     try clear hcz6_4
     try clear hcz6_5
     try clear hfz6_0
     try clear hfz6_1
     try clear hfz6_2
     try clear hfz6_3
     try clear hfz6_4
     try clear hfz6_5
     try clear p2
     obtain ⟨x5_2,x6_2,rfl,rfl,HA,HK2,BK221,HB⟩:=hrel
     cases gk with
     | zero=>exact absurd HA.out (by simp [z0j.l0])
     | succ k2 =>
      have H:=HA.out
      clear HA
      simp only [z0j.l0] at H
      by_cases c8 : x6_2 < (l0_4.length : Int)
      ·rw [if_pos c8] at H
       have c8b0 : decide (x6_2 < (l0_4.length : Int)) = true:=decide_eq_true c8
       clear c8
       by_cases c9 : 0 ≤ x6_2
       ·rw [if_pos c9] at H
        have c9b0 : decide (0 ≤ x6_2) = true:=decide_eq_true c9
        clear c9
        by_cases c10 : (rd l0_4 x6_2) ≤ a1
        ·rw [if_pos c10] at H
         have c10b0 : decide ((rd l0_4 x6_2) ≤ a1) = true:=decide_eq_true c10
         clear c10
         have H':=Aside0.mk H
         clear H
         have hcz11_0 : wr.cell? ⟨gb221,0,none⟩ = some (.int .i64 a0_0):=(z02 BK221.out 0).trans rfl
         have hcz11_1 : wr.cell? ⟨gb221,1,none⟩ = some (.int .i64 a0_1):=(z02 BK221.out 1).trans rfl
         have hcz11_2 : wr.cell? ⟨gb221,2,none⟩ = some (.int .i64 a0_2):=(z02 BK221.out 2).trans rfl
         have hcz11_3 : wr.cell? ⟨gb221,3,none⟩ = some (.slice A0_3 l0_3.length c0_3):=(z02 BK221.out 3).trans rfl
         have hcz11_4 : wr.cell? ⟨gb221,4,none⟩ = some (.slice A0_4 l0_4.length c0_4):=(z02 BK221.out 4).trans rfl
         have hcz11_5 : wr.cell? ⟨gb221,5,none⟩ = some (.slice A0_5 l0_5.length c0_5):=(z02 BK221.out 5).trans rfl
         have hfz11_0:=z01 BK221.out 0
         have hfz11_1:=z01 BK221.out 1
         have hfz11_2:=z01 BK221.out 2
         have hfz11_3:=z01 BK221.out 3
         have hfz11_4:=z01 BK221.out 4
         have hfz11_5:=z01 BK221.out 5
         have p222 : 0 ≤ (x6_2 : Int):=of_decide_eq_true (by assumption)
         have q222 : x6_2 < (l0_4.length : Int):=of_decide_eq_true (by assumption)
         obtain ⟨ad222,e222,hx222_0⟩:=Kd.at_int HR0_4.out x6_2 p222 q222
         cases e222
         replace hx222_0:=(HB.out.cell (World.block_lt_of_cell? w _ hx222_0)).trans hx222_0
         replace p222:=eq_true p222
         replace q222:=eq_true q222
         go_wp2
         go_roundg k2
         case measure=>have:=HJ2.out; have:=HK2.out; omega
         case rel=>exact ⟨(x6_2),(wrap64 (x6_2 + 1)),(by first | rfl | (simp; done) | (simp [*]; done)),(by first | rfl | (simp; done) | (simp [*]; done)),H',⟨by have:=HJ2.out; have:=HK2.out; omega⟩,⟨by (with_reducible repeat (first | refine z08 ?_ _ | refine z09 ?_ | refine z06 ?_ _)); exact BK221.out⟩,⟨by repeat (first | (with_reducible first | exact HB.out | apply z04 | apply z03 | apply z05 | refine z07 ?_ GE221.out) | exact HB.out)⟩⟩
        ·rw [if_neg c10] at H
         have c10b0 : decide ((rd l0_4 x6_2) ≤ a1) = false:=decide_eq_false c10
         clear c10
         have H':=Aside0.mk H
         clear H
         have hcz12_0 : wr.cell? ⟨gb221,0,none⟩ = some (.int .i64 a0_0):=(z02 BK221.out 0).trans rfl
         have hcz12_1 : wr.cell? ⟨gb221,1,none⟩ = some (.int .i64 a0_1):=(z02 BK221.out 1).trans rfl
         have hcz12_2 : wr.cell? ⟨gb221,2,none⟩ = some (.int .i64 a0_2):=(z02 BK221.out 2).trans rfl
         have hcz12_3 : wr.cell? ⟨gb221,3,none⟩ = some (.slice A0_3 l0_3.length c0_3):=(z02 BK221.out 3).trans rfl
         have hcz12_4 : wr.cell? ⟨gb221,4,none⟩ = some (.slice A0_4 l0_4.length c0_4):=(z02 BK221.out 4).trans rfl
         have hcz12_5 : wr.cell? ⟨gb221,5,none⟩ = some (.slice A0_5 l0_5.length c0_5):=(z02 BK221.out 5).trans rfl
         have hfz12_0:=z01 BK221.out 0
         have hfz12_1:=z01 BK221.out 1
         have hfz12_2:=z01 BK221.out 2
         have hfz12_3:=z01 BK221.out 3
         have hfz12_4:=z01 BK221.out 4
         have hfz12_5:=z01 BK221.out 5
         have p222 : 0 ≤ (x6_2 : Int):=of_decide_eq_true (by assumption)
         have q222 : x6_2 < (l0_4.length : Int):=of_decide_eq_true (by assumption)
         obtain ⟨ad222,e222,hx222_0⟩:=Kd.at_int HR0_4.out x6_2 p222 q222
         cases e222
         replace hx222_0:=(HB.out.cell (World.block_lt_of_cell? w _ hx222_0)).trans hx222_0
         replace p222:=eq_true p222
         replace q222:=eq_true q222
         go_wp2
         go_roundg k2
         case measure=>have:=HJ2.out; have:=HK2.out; omega
         case rel=>exact ⟨(x5_2),(wrap64 (x6_2 + 1)),(by first | rfl | (simp; done) | (simp [*]; done)),(by first | rfl | (simp; done) | (simp [*]; done)),H',⟨by have:=HJ2.out; have:=HK2.out; omega⟩,⟨by (with_reducible repeat (first | refine z08 ?_ _ | refine z09 ?_ | refine z06 ?_ _)); exact BK221.out⟩,⟨by repeat (first | (with_reducible first | exact HB.out | apply z04 | apply z03 | apply z05 | refine z07 ?_ GE221.out) | exact HB.out)⟩⟩
       ·rw [if_neg c9] at H
        exact absurd H (by simp)
      ·rw [if_neg c8] at H
       have c8b0 : decide (x6_2 < (l0_4.length : Int)) = false:=decide_eq_false c8
       clear c8
       obtain rfl:=Option.some.inj H
       have hcz13_0 : wr.cell? ⟨gb221,0,none⟩ = some (.int .i64 a0_0):=(z02 BK221.out 0).trans rfl
       have hcz13_1 : wr.cell? ⟨gb221,1,none⟩ = some (.int .i64 a0_1):=(z02 BK221.out 1).trans rfl
       have hcz13_2 : wr.cell? ⟨gb221,2,none⟩ = some (.int .i64 a0_2):=(z02 BK221.out 2).trans rfl
       have hcz13_3 : wr.cell? ⟨gb221,3,none⟩ = some (.slice A0_3 l0_3.length c0_3):=(z02 BK221.out 3).trans rfl
       have hcz13_4 : wr.cell? ⟨gb221,4,none⟩ = some (.slice A0_4 l0_4.length c0_4):=(z02 BK221.out 4).trans rfl
       have hcz13_5 : wr.cell? ⟨gb221,5,none⟩ = some (.slice A0_5 l0_5.length c0_5):=(z02 BK221.out 5).trans rfl
       have hfz13_0:=z01 BK221.out 0
       have hfz13_1:=z01 BK221.out 1
       have hfz13_2:=z01 BK221.out 2
       have hfz13_3:=z01 BK221.out 3
       have hfz13_4:=z01 BK221.out 4
       have hfz13_5:=z01 BK221.out 5
       go_wp2
       go_ret
       exact ⟨by first | rfl | (simp [z0i,z0h] <;> rfl) | (simp [*,z0i,z0h] <;> rfl),by repeat (first | (with_reducible first | exact HB.out | apply z04 | apply z03 | apply z05 | refine z07 ?_ GE221.out) | exact HB.out)⟩
def backreachref02_Goes.f (a0 : Int) : Option (Bool):=if a0 ≥ 0 then (if a0 ≤ 25 then (if a0 = 0 then (some false) else (if a0 = 21 then (some false) else (if a0 = 24 then (some false) else (some (a0 != 25))))) else (some false)) else (some false)
set_option maxHeartbeats 8000000 in
set_option maxRecDepth 100000 in
theorem backreachref02_Goes.calls (a0 : Int) (r : Bool) (w : World) (h : backreachref02_Goes.f a0 = some r) :
  Calls Try.prog 70 #[.int .i64 a0] w fun e w'=>e = .returned (.bool r) ∧ Drawn0 w w':=by
 have H : (if a0 ≥ 0 then (if a0 ≤ 25 then (if a0 = 0 then (some false) else (if a0 = 21 then (some false) else (if a0 = 24 then (some false) else (some (a0 != 25))))) else (some false)) else (some false)) = some r:=h
 clear h
 by_cases c2 : a0 ≥ 0
 ·rw [if_pos c2] at H
  have c2b0 : decide (0 ≤ a0) = true:=decide_eq_true c2
  clear c2
  by_cases c3 : a0 ≤ 25
  ·rw [if_pos c3] at H
   have c3b0 : decide (a0 ≤ 25) = true:=decide_eq_true c3
   clear c3
   by_cases c4 : a0 = 0
   ·rw [if_pos c4] at H
    have c4b0 : (a0 == 0) = true:=beq_iff_eq.mpr c4
    have c4b1 : (a0 != 0) = false:=bne_eq_false_iff_eq.mpr c4
    clear c4
    obtain rfl:=Option.some.inj H
    go_enter Try.func70,Try.ntmps70
    go_wp2
    go_ret
    exact ⟨by first | rfl | (simp; done) | (simp [*]; done),by repeat (first | exact Drawn0.refl _ | apply Drawn0.step)⟩
   ·rw [if_neg c4] at H
    have c4b0 : (a0 == 0) = false:=beq_eq_false_iff_ne.mpr c4
    have c4b1 : (a0 != 0) = true:=bne_iff_ne.mpr c4
    by_cases c5 : a0 = 21
    ·rw [if_pos c5] at H
     have c5b0 : (a0 == 21) = true:=beq_iff_eq.mpr c5
     have c5b1 : (a0 != 21) = false:=bne_eq_false_iff_eq.mpr c5
     clear c5
     obtain rfl:=Option.some.inj H
     go_enter Try.func70,Try.ntmps70
     go_wp2
     go_ret
     exact ⟨by first | rfl | (simp; done) | (simp [*]; done),by repeat (first | exact Drawn0.refl _ | apply Drawn0.step)⟩
    ·rw [if_neg c5] at H
     have c5b0 : (a0 == 21) = false:=beq_eq_false_iff_ne.mpr c5
     have c5b1 : (a0 != 21) = true:=bne_iff_ne.mpr c5
     by_cases c6 : a0 = 24
     ·rw [if_pos c6] at H
      have c6b0 : (a0 == 24) = true:=beq_iff_eq.mpr c6
      have c6b1 : (a0 != 24) = false:=bne_eq_false_iff_eq.mpr c6
      clear c6
      obtain rfl:=Option.some.inj H
      go_enter Try.func70,Try.ntmps70
      go_wp2
      go_ret
      exact ⟨by first | rfl | (simp; done) | (simp [*]; done),by repeat (first | exact Drawn0.refl _ | apply Drawn0.step)⟩
     ·rw [if_neg c6] at H
      have c6b0 : (a0 == 24) = false:=beq_eq_false_iff_ne.mpr c6
      have c6b1 : (a0 != 24) = true:=bne_iff_ne.mpr c6
      obtain rfl:=Option.some.inj H
      go_enter Try.func70,Try.ntmps70
      go_wp2
      go_ret
      exact ⟨by first | rfl | (simp; done) | (simp [*]; done),by repeat (first | exact Drawn0.refl _ | apply Drawn0.step)⟩
  ·rw [if_neg c3] at H
   have c3b0 : decide (a0 ≤ 25) = false:=decide_eq_false c3
   clear c3
   obtain rfl:=Option.some.inj H
   go_enter Try.func70,Try.ntmps70
   go_wp2
   go_ret
   exact ⟨by first | rfl | (simp; done) | (simp [*]; done),by repeat (first | exact Drawn0.refl _ | apply Drawn0.step)⟩
 ·rw [if_neg c2] at H
  have c2b0 : decide (0 ≤ a0) = false:=decide_eq_false c2
  clear c2
  obtain rfl:=Option.some.inj H
  go_enter Try.func70,Try.ntmps70
  go_wp2
  go_ret
  exact ⟨by first | rfl | (simp; done) | (simp [*]; done),by repeat (first | exact Drawn0.refl _ | apply Drawn0.step)⟩
end Go.Proofs.Ytcbnhfnnjkkceaa.X
end
section
namespace Go.Proofs.Ytcbnhfnnjkkceaa.X
open Go.RowKit Go.Proofs.YtcbnhfnnjkkceaaW.PrintWords Go.Proofs.YtcbnhfnnjkkceaaW.PrintLast Go.Proofs.YtcbnhfnnjkkceaaW.PrintMore
attribute [local go_sem] max2_int min2_int max_two min_two max_three min_three max_four min_four
mutual
def z0c.l0 : Nat → Int → Int → Int → Int → List Int → List Int → List (S45) → Option (Int)
 | 0,_,_,_,_,_,_,_=>none
 | k + 1,x3,x224000,x224001,x224002,x224003,x224004,x224005=>if x3 < (x224005.length : Int) then (if 0 ≤ x3 then ((z0j.f k x224000 x224001 x224002 x224003 x224004 x224005 x3).bind fun t226=>((backreachref02_Goes.f ((z0a x224005 x3).f0)).bind fun t227=>(if t227 = true then (if (wrap64 (x3 + 1)) = (x224005.length : Int) then (z0c.j1 k x3 t226 true x224000 x224001 x224002 x224003 x224004 x224005 ((z0a x224005 x3).f0) ((z0a x224005 x3).f1) ((z0a x224005 x3).f2) ((z0a x224005 x3).f3) ((z0a x224005 x3).f4)) else ((z0j.f k x224000 x224001 x224002 x224003 x224004 x224005 (wrap64 (x3 + 1))).bind fun t228=>(z0c.j1 k x3 t226 (t228 != t226) x224000 x224001 x224002 x224003 x224004 x224005 ((z0a x224005 x3).f0) ((z0a x224005 x3).f1) ((z0a x224005 x3).f2) ((z0a x224005 x3).f3) ((z0a x224005 x3).f4)))) else (z0c.j1 k x3 t226 false x224000 x224001 x224002 x224003 x224004 x224005 ((z0a x224005 x3).f0) ((z0a x224005 x3).f1) ((z0a x224005 x3).f2) ((z0a x224005 x3).f3) ((z0a x224005 x3).f4))))) else (none)) else (some (-1))
def z0c.j1 : Nat → Int → Int → Bool → Int → Int → Int → List Int → List Int → List (S45) → Int → Int → Int → Int → Int → Option (Int)
 | 0,_,_,_,_,_,_,_,_,_,_,_,_,_,_=>none
 | k + 1,x3,x5,x39,x224000,x224001,x224002,x224003,x224004,x224005,x226000,x226001,x226002,x226003,x226004=>if x39 = true then (some x3) else (if x226000 = 21 then (z0c.j2 k x3 x5 true x224000 x224001 x224002 x224003 x224004 x224005 x226000 x226001 x226002 x226003 x226004) else (z0c.j2 k x3 x5 (x226000 == 22) x224000 x224001 x224002 x224003 x224004 x224005 x226000 x226001 x226002 x226003 x226004))
def z0c.j2 : Nat → Int → Int → Bool → Int → Int → Int → List Int → List Int → List (S45) → Int → Int → Int → Int → Int → Option (Int)
 | 0,_,_,_,_,_,_,_,_,_,_,_,_,_,_=>none
 | k + 1,x3,x5,x48,x224000,x224001,x224002,x224003,x224004,x224005,x226000,x226001,x226002,x226003,x226004=>if x48 = true then (if x226004 ≥ (IntKind.u64.wrap ((x224005.length : Int))) then (z0c.j3 k x3 true x224000 x224001 x224002 x224003 x224004 x224005 x226000 x226001 x226002 x226003 x226004) else ((z0j.f k x224000 x224001 x224002 x224003 x224004 x224005 (wrap64 (x226004))).bind fun t229=>(z0c.j3 k x3 (t229 != x5) x224000 x224001 x224002 x224003 x224004 x224005 x226000 x226001 x226002 x226003 x226004))) else (if x226000 = 23 then (if x226004 ≥ (IntKind.u64.wrap ((x224004.length : Int))) then (some x3) else (z0c.l0 k (wrap64 (x3 + 1)) x224000 x224001 x224002 x224003 x224004 x224005)) else (z0c.l0 k (wrap64 (x3 + 1)) x224000 x224001 x224002 x224003 x224004 x224005))
def z0c.j3 : Nat → Int → Bool → Int → Int → Int → List Int → List Int → List (S45) → Int → Int → Int → Int → Int → Option (Int)
 | 0,_,_,_,_,_,_,_,_,_,_,_,_,_=>none
 | k + 1,x3,x64,x224000,x224001,x224002,x224003,x224004,x224005,x226000,x226001,x226002,x226003,x226004=>if x64 = true then (some x3) else (if x226000 = 23 then (if x226004 ≥ (IntKind.u64.wrap ((x224004.length : Int))) then (some x3) else (z0c.l0 k (wrap64 (x3 + 1)) x224000 x224001 x224002 x224003 x224004 x224005)) else (z0c.l0 k (wrap64 (x3 + 1)) x224000 x224001 x224002 x224003 x224004 x224005))
end
def z0c.f (k : Nat) (a0_0 : Int) (a0_1 : Int) (a0_2 : Int) (l0_3 : List Int) (l0_4 : List Int) (l0_5 : List (S45)) : Option (Int):=z0c.l0 k 0 a0_0 a0_1 a0_2 l0_3 l0_4 l0_5
theorem z0c.mono_l : ∀ k,(∀ y0 y1 y2 y3 y4 y5 y6,LeO (z0c.l0 k y0 y1 y2 y3 y4 y5 y6) (z0c.l0 (k + 1) y0 y1 y2 y3 y4 y5 y6)) ∧ (∀ y0 y1 y2 y3 y4 y5 y6 y7 y8 y9 y10 y11 y12 y13,LeO (z0c.j1 k y0 y1 y2 y3 y4 y5 y6 y7 y8 y9 y10 y11 y12 y13) (z0c.j1 (k + 1) y0 y1 y2 y3 y4 y5 y6 y7 y8 y9 y10 y11 y12 y13)) ∧ (∀ y0 y1 y2 y3 y4 y5 y6 y7 y8 y9 y10 y11 y12 y13,LeO (z0c.j2 k y0 y1 y2 y3 y4 y5 y6 y7 y8 y9 y10 y11 y12 y13) (z0c.j2 (k + 1) y0 y1 y2 y3 y4 y5 y6 y7 y8 y9 y10 y11 y12 y13)) ∧ (∀ y0 y1 y2 y3 y4 y5 y6 y7 y8 y9 y10 y11 y12,LeO (z0c.j3 k y0 y1 y2 y3 y4 y5 y6 y7 y8 y9 y10 y11 y12) (z0c.j3 (k + 1) y0 y1 y2 y3 y4 y5 y6 y7 y8 y9 y10 y11 y12))
 | 0=>⟨fun _ _ _ _ _ _ _ r h=>by simp [z0c.l0] at h,fun _ _ _ _ _ _ _ _ _ _ _ _ _ _ r h=>by simp [z0c.j1] at h,fun _ _ _ _ _ _ _ _ _ _ _ _ _ _ r h=>by simp [z0c.j2] at h,fun _ _ _ _ _ _ _ _ _ _ _ _ _ r h=>by simp [z0c.j3] at h⟩
 | k + 1=>by
  obtain ⟨ih0,ih1,ih2,ih3⟩:=z0c.mono_l k
  refine ⟨?_,?_,?_,?_⟩
  ·intro y0 y1 y2 y3 y4 y5 y6
   unfold z0c.l0
   repeat' first
   | (with_reducible exact ih0 _ _ _ _ _ _ _)
   | (with_reducible exact ih1 _ _ _ _ _ _ _ _ _ _ _ _ _ _)
   | (with_reducible exact ih2 _ _ _ _ _ _ _ _ _ _ _ _ _ _)
   | (with_reducible exact ih3 _ _ _ _ _ _ _ _ _ _ _ _ _)
   | (with_reducible exact z0j.mono _ _ _ _ _ _ _ _)
   | (with_reducible exact LeO.refl _)
   | (with_reducible exact LeO.none _)
   | (with_reducible refine LeO.ite ?_ ?_)
   | (with_reducible refine LeO.bind ?_ (fun _=>?_))
   | exact ih0 _ _ _ _ _ _ _
   | exact ih1 _ _ _ _ _ _ _ _ _ _ _ _ _ _
   | exact ih2 _ _ _ _ _ _ _ _ _ _ _ _ _ _
   | exact ih3 _ _ _ _ _ _ _ _ _ _ _ _ _
   | exact z0j.mono _ _ _ _ _ _ _ _
   | exact LeO.none _
   | refine LeO.ite ?_ ?_
   | refine LeO.bind ?_ (fun _=>?_)
  ·intro y0 y1 y2 y3 y4 y5 y6 y7 y8 y9 y10 y11 y12 y13
   unfold z0c.j1
   repeat' first
   | (with_reducible exact ih0 _ _ _ _ _ _ _)
   | (with_reducible exact ih1 _ _ _ _ _ _ _ _ _ _ _ _ _ _)
   | (with_reducible exact ih2 _ _ _ _ _ _ _ _ _ _ _ _ _ _)
   | (with_reducible exact ih3 _ _ _ _ _ _ _ _ _ _ _ _ _)
   | (with_reducible exact z0j.mono _ _ _ _ _ _ _ _)
   | (with_reducible exact LeO.refl _)
   | (with_reducible exact LeO.none _)
   | (with_reducible refine LeO.ite ?_ ?_)
   | (with_reducible refine LeO.bind ?_ (fun _=>?_))
   | exact ih0 _ _ _ _ _ _ _
   | exact ih1 _ _ _ _ _ _ _ _ _ _ _ _ _ _
   | exact ih2 _ _ _ _ _ _ _ _ _ _ _ _ _ _
   | exact ih3 _ _ _ _ _ _ _ _ _ _ _ _ _
   | exact z0j.mono _ _ _ _ _ _ _ _
   | exact LeO.none _
   | refine LeO.ite ?_ ?_
   | refine LeO.bind ?_ (fun _=>?_)
  ·intro y0 y1 y2 y3 y4 y5 y6 y7 y8 y9 y10 y11 y12 y13
   unfold z0c.j2
   repeat' first
   | (with_reducible exact ih0 _ _ _ _ _ _ _)
   | (with_reducible exact ih1 _ _ _ _ _ _ _ _ _ _ _ _ _ _)
   | (with_reducible exact ih2 _ _ _ _ _ _ _ _ _ _ _ _ _ _)
   | (with_reducible exact ih3 _ _ _ _ _ _ _ _ _ _ _ _ _)
   | (with_reducible exact z0j.mono _ _ _ _ _ _ _ _)
   | (with_reducible exact LeO.refl _)
   | (with_reducible exact LeO.none _)
   | (with_reducible refine LeO.ite ?_ ?_)
   | (with_reducible refine LeO.bind ?_ (fun _=>?_))
   | exact ih0 _ _ _ _ _ _ _
   | exact ih1 _ _ _ _ _ _ _ _ _ _ _ _ _ _
   | exact ih2 _ _ _ _ _ _ _ _ _ _ _ _ _ _
   | exact ih3 _ _ _ _ _ _ _ _ _ _ _ _ _
   | exact z0j.mono _ _ _ _ _ _ _ _
   | exact LeO.none _
   | refine LeO.ite ?_ ?_
   | refine LeO.bind ?_ (fun _=>?_)
  ·intro y0 y1 y2 y3 y4 y5 y6 y7 y8 y9 y10 y11 y12
   unfold z0c.j3
   repeat' first
   | (with_reducible exact ih0 _ _ _ _ _ _ _)
   | (with_reducible exact ih1 _ _ _ _ _ _ _ _ _ _ _ _ _ _)
   | (with_reducible exact ih2 _ _ _ _ _ _ _ _ _ _ _ _ _ _)
   | (with_reducible exact ih3 _ _ _ _ _ _ _ _ _ _ _ _ _)
   | (with_reducible exact z0j.mono _ _ _ _ _ _ _ _)
   | (with_reducible exact LeO.refl _)
   | (with_reducible exact LeO.none _)
   | (with_reducible refine LeO.ite ?_ ?_)
   | (with_reducible refine LeO.bind ?_ (fun _=>?_))
   | exact ih0 _ _ _ _ _ _ _
   | exact ih1 _ _ _ _ _ _ _ _ _ _ _ _ _ _
   | exact ih2 _ _ _ _ _ _ _ _ _ _ _ _ _ _
   | exact ih3 _ _ _ _ _ _ _ _ _ _ _ _ _
   | exact z0j.mono _ _ _ _ _ _ _ _
   | exact LeO.none _
   | refine LeO.ite ?_ ?_
   | refine LeO.bind ?_ (fun _=>?_)
theorem z0c.mono : ∀ a0 a1 a2 a3 a4 a5 k,LeO (z0c.f k a0 a1 a2 a3 a4 a5) (z0c.f (k + 1) a0 a1 a2 a3 a4 a5):=by
 intro a0 a1 a2 a3 a4 a5 k
 obtain ⟨ih0,ih1,ih2,ih3⟩:=z0c.mono_l k
 unfold z0c.f
 repeat' first
   | (with_reducible exact ih0 _ _ _ _ _ _ _)
   | (with_reducible exact ih1 _ _ _ _ _ _ _ _ _ _ _ _ _ _)
   | (with_reducible exact ih2 _ _ _ _ _ _ _ _ _ _ _ _ _ _)
   | (with_reducible exact ih3 _ _ _ _ _ _ _ _ _ _ _ _ _)
   | (with_reducible exact z0j.mono _ _ _ _ _ _ _ _)
   | (with_reducible exact LeO.refl _)
   | (with_reducible exact LeO.none _)
   | (with_reducible refine LeO.ite ?_ ?_)
   | (with_reducible refine LeO.bind ?_ (fun _=>?_))
   | exact ih0 _ _ _ _ _ _ _
   | exact ih1 _ _ _ _ _ _ _ _ _ _ _ _ _ _
   | exact ih2 _ _ _ _ _ _ _ _ _ _ _ _ _ _
   | exact ih3 _ _ _ _ _ _ _ _ _ _ _ _ _
   | exact z0j.mono _ _ _ _ _ _ _ _
   | exact LeO.none _
   | refine LeO.ite ?_ ?_
   | refine LeO.bind ?_ (fun _=>?_)
set_option maxHeartbeats 8000000 in
set_option maxRecDepth 100000 in
theorem z0c.calls (k : Nat) (a0_0 : Int) (a0_1 : Int) (a0_2 : Int) (A0_3 : Option Addr) (c0_3 : Nat) (l0_3 : List Int) (A0_4 : Option Addr) (c0_4 : Nat) (l0_4 : List Int) (A0_5 : Option Addr) (c0_5 : Nat) (l0_5 : List (S45)) (r : Int) (w : World) (hr0_3 : Kd.C (Kd.int .u8) w A0_3 l0_3.length l0_3) (hc0_3 : l0_3.length ≤ c0_3) (hr0_4 : Kd.C (Kd.int .i64) w A0_4 l0_4.length l0_4) (hc0_4 : l0_4.length ≤ c0_4) (hr0_5 : Kd.C k45 w A0_5 l0_5.length l0_5) (hc0_5 : l0_5.length ≤ c0_5) (h : z0c.f k a0_0 a0_1 a0_2 l0_3 l0_4 l0_5 = some r) :
  Calls Try.prog 58 #[.agg #[.int .i64 a0_0,.int .i64 a0_1,.int .i64 a0_2,.slice A0_3 l0_3.length c0_3,.slice A0_4 l0_4.length c0_4,.slice A0_5 l0_5.length c0_5]] w fun e w'=>e = .returned (.int .i64 r) ∧ Below w.heap.size w w':=by
 have hu26:=Try.underlying26
 have hu45:=Try.underlying45
 have HR0_3:=Aside0.mk hr0_3
 have HC0_3:=Aside0.mk hc0_3
 clear hr0_3 hc0_3
 have HR0_4:=Aside0.mk hr0_4
 have HC0_4:=Aside0.mk hc0_4
 clear hr0_4 hc0_4
 have HR0_5:=Aside0.mk hr0_5
 have HC0_5:=Aside0.mk hc0_5
 clear hr0_5 hc0_5
 have HB:=Aside0.mk (Below.refl w.heap.size w)
 have H : (z0c.l0 k 0 a0_0 a0_1 a0_2 l0_3 l0_4 l0_5) = some r:=h
 clear h
 have H':=Aside0.mk H
 clear H
 go_enter Try.func58,Try.ntmps58
 go_wp2_with (first | ((with_reducible refine z10 (N:=1) rfl ?_); (try (refine gate_guard (by rfl) ?_; dsimp only)); refine box_event ?hg (N:=1) ?hd (cs:=#[.int .i64 a0_0,.int .i64 a0_1,.int .i64 a0_2,.slice A0_3 l0_3.length c0_3,.slice A0_4 l0_4.length c0_4,.slice A0_5 l0_5.length c0_5]) (t:=26) ?hr ?_; (case hd=>rfl); (case hg=>rfl); (case hr=>first | (go_simp; done) | (go_simp; rfl)); intro gb223 hg w2 hbox hb; have n0_:=Aside0.mk (z0s (by repeat (first | (with_reducible first | exact HB.out | apply z04 | apply z03 | apply z05) | exact HB.out)) hb); have n1_:=Aside0.mk (hbox); have n2_:=Aside0.mk ((by rw [hg]; exact (z0l (by repeat (first | (with_reducible first | exact HB.out | apply z04 | apply z03 | apply z05) | exact HB.out))) : w.heap.size ≤ gb223)); have n3_:=Aside0.mk ((by rw [hg]; exact (z0l (by repeat (first | (with_reducible first | exact HB.out | apply z04 | apply z03 | apply z05) | exact HB.out))) : w.heap.size ≤ gb223)); clear HB; have HB:=n0_; have BK223:=n1_; have GW223:=n2_; have GE223:=n3_; clear n0_ n1_ n2_ n3_; clear hb hbox hg))
 go_loopg [3] k (fun kq v3 w'=>∃ (x3_1 : Int),v3 = .int .i64 x3_1 ∧ Aside0 (z0c.l0 kq x3_1 a0_0 a0_1 a0_2 l0_3 l0_4 l0_5 = some r) ∧ Aside0 (kq ≤ k) ∧ Aside0 (w'.heap[gb223]? = some (.cells #[.int .i64 a0_0,.int .i64 a0_1,.int .i64 a0_2,(.slice A0_3 l0_3.length c0_3),(.slice A0_4 l0_4.length c0_4),(.slice A0_5 l0_5.length c0_5)] 26 (0,0))) ∧ Aside0 (Below w.heap.size w w'))
 case atStart=>exact ⟨(0),(by first | rfl | (simp; done) | (simp [*]; done)),H',⟨Nat.le_refl _⟩,⟨by (with_reducible repeat (first | refine z08 ?_ _ | refine z09 ?_ | refine z06 ?_ _)); exact BK223.out⟩,⟨by repeat (first | (with_reducible first | exact HB.out | apply z04 | apply z03 | apply z05 | refine z07 ?_ GE223.out) | exact HB.out)⟩⟩
 case round =>
  clear H'
  try clear p2
  obtain ⟨x3_1,rfl,HA,HK1,BK223,HB⟩:=hrel
  cases gk with
  | zero=>exact absurd HA.out (by simp [z0c.l0])
  | succ k1 =>
   have H:=HA.out
   clear HA
   simp only [z0c.l0] at H
   by_cases c3 : x3_1 < (l0_5.length : Int)
   ·rw [if_pos c3] at H
    have c3b0 : decide (x3_1 < (l0_5.length : Int)) = true:=decide_eq_true c3
    clear c3
    by_cases c4 : 0 ≤ x3_1
    ·rw [if_pos c4] at H
     have c4b0 : decide (0 ≤ x3_1) = true:=decide_eq_true c4
     clear c4
     replace H:=Option.bind_eq_some_iff.mp H
     obtain ⟨t226,A50,H⟩:=H
     replace H : ((backreachref02_Goes.f ((z0a l0_5 x3_1).f0)).bind fun t227=>(if t227 = true then (if (wrap64 (x3_1 + 1)) = (l0_5.length : Int) then (z0c.j1 k1 x3_1 t226 true a0_0 a0_1 a0_2 l0_3 l0_4 l0_5 ((z0a l0_5 x3_1).f0) ((z0a l0_5 x3_1).f1) ((z0a l0_5 x3_1).f2) ((z0a l0_5 x3_1).f3) ((z0a l0_5 x3_1).f4)) else ((z0j.f k1 a0_0 a0_1 a0_2 l0_3 l0_4 l0_5 (wrap64 (x3_1 + 1))).bind fun t228=>(z0c.j1 k1 x3_1 t226 (t228 != t226) a0_0 a0_1 a0_2 l0_3 l0_4 l0_5 ((z0a l0_5 x3_1).f0) ((z0a l0_5 x3_1).f1) ((z0a l0_5 x3_1).f2) ((z0a l0_5 x3_1).f3) ((z0a l0_5 x3_1).f4)))) else (z0c.j1 k1 x3_1 t226 false a0_0 a0_1 a0_2 l0_3 l0_4 l0_5 ((z0a l0_5 x3_1).f0) ((z0a l0_5 x3_1).f1) ((z0a l0_5 x3_1).f2) ((z0a l0_5 x3_1).f3) ((z0a l0_5 x3_1).f4)))) = some r:=H
     have A5:=Aside0.mk A50
     clear A50
     have HC6:=Aside0.mk H
     clear H
     have hcz7_0 : wr.cell? ⟨gb223,0,none⟩ = some (.int .i64 a0_0):=(z02 BK223.out 0).trans rfl
     have hcz7_1 : wr.cell? ⟨gb223,1,none⟩ = some (.int .i64 a0_1):=(z02 BK223.out 1).trans rfl
     have hcz7_2 : wr.cell? ⟨gb223,2,none⟩ = some (.int .i64 a0_2):=(z02 BK223.out 2).trans rfl
     have hcz7_3 : wr.cell? ⟨gb223,3,none⟩ = some (.slice A0_3 l0_3.length c0_3):=(z02 BK223.out 3).trans rfl
     have hcz7_4 : wr.cell? ⟨gb223,4,none⟩ = some (.slice A0_4 l0_4.length c0_4):=(z02 BK223.out 4).trans rfl
     have hcz7_5 : wr.cell? ⟨gb223,5,none⟩ = some (.slice A0_5 l0_5.length c0_5):=(z02 BK223.out 5).trans rfl
     have hfz7_0:=z01 BK223.out 0
     have hfz7_1:=z01 BK223.out 1
     have hfz7_2:=z01 BK223.out 2
     have hfz7_3:=z01 BK223.out 3
     have hfz7_4:=z01 BK223.out 4
     have hfz7_5:=z01 BK223.out 5
     have p224 : 0 ≤ (x3_1 : Int):=of_decide_eq_true (by assumption)
     have q224 : x3_1 < (l0_5.length : Int):=of_decide_eq_true (by assumption)
     obtain ⟨ad224,e224,hx224_0,hx224_1,hx224_2,hx224_3,hx224_4⟩:=at_T45 HR0_5.out x3_1 p224 q224
     cases e224
     replace hx224_0:=(HB.out.cell (World.block_lt_of_cell? w _ hx224_0)).trans hx224_0
     replace hx224_1:=(HB.out.cell (World.block_lt_of_cell? w _ hx224_1)).trans hx224_1
     replace hx224_2:=(HB.out.cell (World.block_lt_of_cell? w _ hx224_2)).trans hx224_2
     replace hx224_3:=(HB.out.cell (World.block_lt_of_cell? w _ hx224_3)).trans hx224_3
     replace hx224_4:=(HB.out.cell (World.block_lt_of_cell? w _ hx224_4)).trans hx224_4
     replace p224:=eq_true p224
     replace q224:=eq_true q224
     go_upto_region 6 with (first | ((with_reducible refine z10 (N:=4) rfl ?_); (try (refine gate_guard (by rfl) ?_; dsimp only)); refine box_event ?hg (N:=4) ?hd (cs:=#[.int .i64 0,.int .i64 0,.int .i64 0,.int .i64 0,.int .u64 0]) (t:=45) ?hr ?_; (case hd=>rfl); (case hg=>rfl); (case hr=>first | (go_simp; done) | (go_simp; rfl)); intro gb225 hg w8 hbox hb; have n0_:=Aside0.mk (z0v (g:=gb223) (o:=.cells #[.int .i64 a0_0,.int .i64 a0_1,.int .i64 a0_2,.slice A0_3 l0_3.length c0_3,.slice A0_4 l0_4.length c0_4,.slice (some ad224) l0_5.length c0_5] 26 (0,0)) (by (with_reducible repeat (first | refine z08 ?_ _ | refine z09 ?_ | refine z06 ?_ _)); exact BK223.out) hb); have n1_:=Aside0.mk (z0s (by repeat (first | (with_reducible first | exact HB.out | apply z04 | apply z03 | apply z05 | refine z07 ?_ GE223.out) | exact HB.out)) hb); have n2_:=Aside0.mk (hbox); have n3_:=Aside0.mk ((by rw [hg]; exact (z0l (by repeat (first | (with_reducible first | exact HB.out | apply z04 | apply z03 | apply z05 | refine z07 ?_ GE223.out) | exact HB.out))) : w.heap.size ≤ gb225)); have n4_:=Aside0.mk ((by rw [hg]; exact (z0l (by repeat (first | (with_reducible first | exact HB.out | apply z04 | apply z03 | apply z05 | refine z07 ?_ GE223.out) | exact HB.out))) : w.heap.size ≤ gb225)); have n5_:=Aside0.mk ((by rw [hg]; exact Nat.ne_of_lt (blk_lt (g:=gb223) (o:=.cells #[.int .i64 a0_0,.int .i64 a0_1,.int .i64 a0_2,.slice A0_3 l0_3.length c0_3,.slice A0_4 l0_4.length c0_4,.slice (some ad224) l0_5.length c0_5] 26 (0,0)) (by (with_reducible repeat (first | refine z08 ?_ _ | refine z09 ?_ | refine z06 ?_ _)); exact BK223.out)) : gb223 ≠ gb225)); have n6_:=Aside0.mk ((by rw [hg]; exact Nat.ne_of_gt (blk_lt (g:=gb223) (o:=.cells #[.int .i64 a0_0,.int .i64 a0_1,.int .i64 a0_2,.slice A0_3 l0_3.length c0_3,.slice A0_4 l0_4.length c0_4,.slice (some ad224) l0_5.length c0_5] 26 (0,0)) (by (with_reducible repeat (first | refine z08 ?_ _ | refine z09 ?_ | refine z06 ?_ _)); exact BK223.out)) : gb225 ≠ gb223)); clear BK223; clear HB; have BK223:=n0_; have HB:=n1_; have BK225:=n2_; have GW225:=n3_; have GE225:=n4_; have NB223_225:=n5_; have NB225_223:=n6_; clear n0_ n1_ n2_ n3_ n4_ n5_ n6_; clear hb hbox hg; have hnb9:=NB225_223.out; have hnc9:=NB223_225.out; have hcz10_0 : w8.cell? ⟨gb225,0,none⟩ = some (.int .i64 0):=(z02 BK225.out 0).trans rfl; have hcz10_1 : w8.cell? ⟨gb225,1,none⟩ = some (.int .i64 0):=(z02 BK225.out 1).trans rfl; have hcz10_2 : w8.cell? ⟨gb225,2,none⟩ = some (.int .i64 0):=(z02 BK225.out 2).trans rfl; have hcz10_3 : w8.cell? ⟨gb225,3,none⟩ = some (.int .i64 0):=(z02 BK225.out 3).trans rfl; have hcz10_4 : w8.cell? ⟨gb225,4,none⟩ = some (.int .u64 0):=(z02 BK225.out 4).trans rfl; have hfz10_0:=z01 BK225.out 0; have hfz10_1:=z01 BK225.out 1; have hfz10_2:=z01 BK225.out 2; have hfz10_3:=z01 BK225.out 3; have hfz10_4:=z01 BK225.out 4; have hcz11_0 : w8.cell? ⟨gb223,0,none⟩ = some (.int .i64 a0_0):=(z02 BK223.out 0).trans rfl; have hcz11_1 : w8.cell? ⟨gb223,1,none⟩ = some (.int .i64 a0_1):=(z02 BK223.out 1).trans rfl; have hcz11_2 : w8.cell? ⟨gb223,2,none⟩ = some (.int .i64 a0_2):=(z02 BK223.out 2).trans rfl; have hcz11_3 : w8.cell? ⟨gb223,3,none⟩ = some (.slice A0_3 l0_3.length c0_3):=(z02 BK223.out 3).trans rfl; have hcz11_4 : w8.cell? ⟨gb223,4,none⟩ = some (.slice A0_4 l0_4.length c0_4):=(z02 BK223.out 4).trans rfl; have hcz11_5 : w8.cell? ⟨gb223,5,none⟩ = some (.slice (some ad224) l0_5.length c0_5):=(z02 BK223.out 5).trans rfl; have hfz11_0:=z01 BK223.out 0; have hfz11_1:=z01 BK223.out 1; have hfz11_2:=z01 BK223.out 2; have hfz11_3:=z01 BK223.out 3; have hfz11_4:=z01 BK223.out 4; have hfz11_5:=z01 BK223.out 5) | ((with_reducible refine z0t (f:=69) rfl ?_); refine goesL_ (some 20) rfl rfl Try.func69 (by kernel_rfl) rfl #[.agg #[.int .i64 a0_0,.int .i64 a0_1,.int .i64 a0_2,.slice A0_3 l0_3.length c0_3,.slice A0_4 l0_4.length c0_4,.slice (some ad224) l0_5.length c0_5],.int .i64 x3_1] rfl (by (try simp only [List.map_toArray,List.map_cons,List.map_nil]); first | done | rfl | (simp only [List.length_drop,List.length_take]; rfl)) ?_; (with_reducible refine (z0j.calls k1 a0_0 a0_1 a0_2 _ _ l0_3 _ _ l0_4 _ _ l0_5 x3_1 t226 _ ?side1 ?side2 ?side3 ?side4 ?side5 ?side6 A5.out).mono ?_); (case side1=>exact Kd.C_below HR0_3.out (by repeat (first | (with_reducible first | exact HB.out | apply z04 | apply z03 | apply z05 | refine z07 ?_ GE223.out | refine z07 ?_ GE225.out) | exact HB.out))); (case side2=>exact HC0_3.out); (case side3=>exact Kd.C_below HR0_4.out (by repeat (first | (with_reducible first | exact HB.out | apply z04 | apply z03 | apply z05 | refine z07 ?_ GE223.out | refine z07 ?_ GE225.out) | exact HB.out))); (case side4=>exact HC0_4.out); (case side5=>exact Kd.C_below HR0_5.out (by repeat (first | (with_reducible first | exact HB.out | apply z04 | apply z03 | apply z05 | refine z07 ?_ GE223.out | refine z07 ?_ GE225.out) | exact HB.out))); (case side6=>exact HC0_5.out); rintro e w12 ⟨rfl,hb⟩; refine ⟨_,rfl,?_⟩; have n0_:=Aside0.mk (z0v (g:=gb223) (o:=.cells #[.int .i64 a0_0,.int .i64 a0_1,.int .i64 a0_2,.slice A0_3 l0_3.length c0_3,.slice A0_4 l0_4.length c0_4,.slice (some ad224) l0_5.length c0_5] 26 (0,0)) (by (with_reducible repeat (first | refine z08 ?_ _ | refine z09 ?_ | refine z06 ?_ _)); refine z0x ?_ NB223_225.out _; (with_reducible repeat (first | refine z08 ?_ _ | refine z09 ?_ | refine z06 ?_ _)); refine z0x ?_ NB223_225.out _; (with_reducible repeat (first | refine z08 ?_ _ | refine z09 ?_ | refine z06 ?_ _)); refine z0x ?_ NB223_225.out _; (with_reducible repeat (first | refine z08 ?_ _ | refine z09 ?_ | refine z06 ?_ _)); refine z0x ?_ NB223_225.out _; (with_reducible repeat (first | refine z08 ?_ _ | refine z09 ?_ | refine z06 ?_ _)); refine z0x ?_ NB223_225.out _; (with_reducible repeat (first | refine z08 ?_ _ | refine z09 ?_ | refine z06 ?_ _)); exact BK223.out) hb); have n1_:=Aside0.mk (z0v (g:=gb225) (o:=.cells #[.int .i64 ((z0a l0_5 x3_1).f0),.int .i64 ((z0a l0_5 x3_1).f1),.int .i64 ((z0a l0_5 x3_1).f2),.int .i64 ((z0a l0_5 x3_1).f3),.int .u64 ((z0a l0_5 x3_1).f4)] 45 (0,0)) (by (with_reducible repeat (first | refine z08 ?_ _ | refine z09 ?_ | refine z06 ?_ _)); refine z0u (cs:=#[.int .i64 ((z0a l0_5 x3_1).f0),.int .i64 ((z0a l0_5 x3_1).f1),.int .i64 ((z0a l0_5 x3_1).f2),.int .i64 ((z0a l0_5 x3_1).f3),.int .u64 0]) ?_ 4 _ rfl; (with_reducible repeat (first | refine z08 ?_ _ | refine z09 ?_ | refine z06 ?_ _)); refine z0u (cs:=#[.int .i64 ((z0a l0_5 x3_1).f0),.int .i64 ((z0a l0_5 x3_1).f1),.int .i64 ((z0a l0_5 x3_1).f2),.int .i64 0,.int .u64 0]) ?_ 3 _ rfl; (with_reducible repeat (first | refine z08 ?_ _ | refine z09 ?_ | refine z06 ?_ _)); refine z0u (cs:=#[.int .i64 ((z0a l0_5 x3_1).f0),.int .i64 ((z0a l0_5 x3_1).f1),.int .i64 0,.int .i64 0,.int .u64 0]) ?_ 2 _ rfl; (with_reducible repeat (first | refine z08 ?_ _ | refine z09 ?_ | refine z06 ?_ _)); refine z0u (cs:=#[.int .i64 ((z0a l0_5 x3_1).f0),.int .i64 0,.int .i64 0,.int .i64 0,.int .u64 0]) ?_ 1 _ rfl; (with_reducible repeat (first | refine z08 ?_ _ | refine z09 ?_ | refine z06 ?_ _)); refine z0u (cs:=#[.int .i64 0,.int .i64 0,.int .i64 0,.int .i64 0,.int .u64 0]) ?_ 0 _ rfl; (with_reducible repeat (first | refine z08 ?_ _ | refine z09 ?_ | refine z06 ?_ _)); exact BK225.out) hb); have n2_:=Aside0.mk (z0s (by repeat (first | (with_reducible first | exact HB.out | apply z04 | apply z03 | apply z05 | refine z07 ?_ GE223.out | refine z07 ?_ GE225.out) | exact HB.out)) hb); clear BK223; clear BK225; clear HB; have BK223:=n0_; have BK225:=n1_; have HB:=n2_; clear n0_ n1_ n2_; (try clear hb); (try clear hb2); (try clear hk); (try clear hi)))
     (try simp only [Act.put,zq1,zq2,zq3])
     go_cut [39] (fun v39 wc=>∃ (kq : Nat) (x39_5 : Bool),v39 = .bool x39_5 ∧ Aside0 (z0c.j1 kq x3_1 t226 x39_5 a0_0 a0_1 a0_2 l0_3 l0_4 l0_5 ((z0a l0_5 x3_1).f0) ((z0a l0_5 x3_1).f1) ((z0a l0_5 x3_1).f2) ((z0a l0_5 x3_1).f3) ((z0a l0_5 x3_1).f4) = some r) ∧ Aside0 (kq ≤ k1) ∧ Aside0 (wc.heap[gb223]? = some (.cells #[.int .i64 a0_0,.int .i64 a0_1,.int .i64 a0_2,(.slice A0_3 l0_3.length c0_3),(.slice A0_4 l0_4.length c0_4),(.slice (some ad224) l0_5.length c0_5)] 26 (0,0))) ∧ Aside0 (wc.heap[gb225]? = some (.cells #[.int .i64 ((z0a l0_5 x3_1).f0),.int .i64 ((z0a l0_5 x3_1).f1),.int .i64 ((z0a l0_5 x3_1).f2),.int .i64 ((z0a l0_5 x3_1).f3),.int .u64 ((z0a l0_5 x3_1).f4)] 45 (0,0))) ∧ Aside0 (Below w.heap.size w wc))
     case first =>
      have H:=HC6.out
      clear HC6
      replace H:=Option.bind_eq_some_iff.mp H
      obtain ⟨t227,A130,H⟩:=H
      replace H : (if t227 = true then (if (wrap64 (x3_1 + 1)) = (l0_5.length : Int) then (z0c.j1 k1 x3_1 t226 true a0_0 a0_1 a0_2 l0_3 l0_4 l0_5 ((z0a l0_5 x3_1).f0) ((z0a l0_5 x3_1).f1) ((z0a l0_5 x3_1).f2) ((z0a l0_5 x3_1).f3) ((z0a l0_5 x3_1).f4)) else ((z0j.f k1 a0_0 a0_1 a0_2 l0_3 l0_4 l0_5 (wrap64 (x3_1 + 1))).bind fun t228=>(z0c.j1 k1 x3_1 t226 (t228 != t226) a0_0 a0_1 a0_2 l0_3 l0_4 l0_5 ((z0a l0_5 x3_1).f0) ((z0a l0_5 x3_1).f1) ((z0a l0_5 x3_1).f2) ((z0a l0_5 x3_1).f3) ((z0a l0_5 x3_1).f4)))) else (z0c.j1 k1 x3_1 t226 false a0_0 a0_1 a0_2 l0_3 l0_4 l0_5 ((z0a l0_5 x3_1).f0) ((z0a l0_5 x3_1).f1) ((z0a l0_5 x3_1).f2) ((z0a l0_5 x3_1).f3) ((z0a l0_5 x3_1).f4))) = some r:=H
      have A13:=Aside0.mk A130
      clear A130
      by_cases c14 : t227 = true
      ·subst c14
       have H1 : (if (wrap64 (x3_1 + 1)) = (l0_5.length : Int) then (z0c.j1 k1 x3_1 t226 true a0_0 a0_1 a0_2 l0_3 l0_4 l0_5 ((z0a l0_5 x3_1).f0) ((z0a l0_5 x3_1).f1) ((z0a l0_5 x3_1).f2) ((z0a l0_5 x3_1).f3) ((z0a l0_5 x3_1).f4)) else ((z0j.f k1 a0_0 a0_1 a0_2 l0_3 l0_4 l0_5 (wrap64 (x3_1 + 1))).bind fun t228=>(z0c.j1 k1 x3_1 t226 (t228 != t226) a0_0 a0_1 a0_2 l0_3 l0_4 l0_5 ((z0a l0_5 x3_1).f0) ((z0a l0_5 x3_1).f1) ((z0a l0_5 x3_1).f2) ((z0a l0_5 x3_1).f3) ((z0a l0_5 x3_1).f4)))) = some r:=by rw [if_pos rfl] at H; exact H
       clear H
       have H:=H1
       clear H1
       by_cases c15 : (wrap64 (x3_1 + 1)) = (l0_5.length : Int)
       ·rw [if_pos c15] at H
        have c15b0 : ((wrap64 (x3_1 + 1)) == (l0_5.length : Int)) = true:=beq_iff_eq.mpr c15
        have c15b1 : ((wrap64 (x3_1 + 1)) != (l0_5.length : Int)) = false:=bne_eq_false_iff_eq.mpr c15
        clear c15
        (first | rw [c15b0] | (simp only [i64_w,i32_w]; rw [c15b0]) | skip)
        have H':=Aside0.mk H
        clear H
        have hnb16:=NB225_223.out
        have hnc16:=NB223_225.out
        have hcz17_0 : w12.cell? ⟨gb225,0,none⟩ = some (.int .i64 ((z0a l0_5 x3_1).f0)):=(z02 BK225.out 0).trans rfl
        have hcz17_1 : w12.cell? ⟨gb225,1,none⟩ = some (.int .i64 ((z0a l0_5 x3_1).f1)):=(z02 BK225.out 1).trans rfl
        have hcz17_2 : w12.cell? ⟨gb225,2,none⟩ = some (.int .i64 ((z0a l0_5 x3_1).f2)):=(z02 BK225.out 2).trans rfl
        have hcz17_3 : w12.cell? ⟨gb225,3,none⟩ = some (.int .i64 ((z0a l0_5 x3_1).f3)):=(z02 BK225.out 3).trans rfl
        have hcz17_4 : w12.cell? ⟨gb225,4,none⟩ = some (.int .u64 ((z0a l0_5 x3_1).f4)):=(z02 BK225.out 4).trans rfl
        have hfz17_0:=z01 BK225.out 0
        have hfz17_1:=z01 BK225.out 1
        have hfz17_2:=z01 BK225.out 2
        have hfz17_3:=z01 BK225.out 3
        have hfz17_4:=z01 BK225.out 4
        go_wp2_with (first | ((with_reducible refine z0t (f:=70) rfl ?_); refine goesL_ (some 23) rfl rfl Try.func70 (by kernel_rfl) rfl #[.int .i64 ((z0a l0_5 x3_1).f0)] rfl (by (try simp only [List.map_toArray,List.map_cons,List.map_nil]); first | done | rfl | (simp only [List.length_drop,List.length_take]; rfl)) ?_; (with_reducible refine (backreachref02_Goes.calls ((z0a l0_5 x3_1).f0) true _ A13.out).mono ?_); rintro e w' ⟨rfl,⟨nd,rfl⟩⟩; refine ⟨_,rfl,?_⟩; have hcz18_0 : w12.cell? ⟨gb223,0,none⟩ = some (.int .i64 a0_0):=(z02 BK223.out 0).trans rfl; have hcz18_1 : w12.cell? ⟨gb223,1,none⟩ = some (.int .i64 a0_1):=(z02 BK223.out 1).trans rfl; have hcz18_2 : w12.cell? ⟨gb223,2,none⟩ = some (.int .i64 a0_2):=(z02 BK223.out 2).trans rfl; have hcz18_3 : w12.cell? ⟨gb223,3,none⟩ = some (.slice A0_3 l0_3.length c0_3):=(z02 BK223.out 3).trans rfl; have hcz18_4 : w12.cell? ⟨gb223,4,none⟩ = some (.slice A0_4 l0_4.length c0_4):=(z02 BK223.out 4).trans rfl; have hcz18_5 : w12.cell? ⟨gb223,5,none⟩ = some (.slice (some ad224) l0_5.length c0_5):=(z02 BK223.out 5).trans rfl; have hfz18_0:=z01 BK223.out 0; have hfz18_1:=z01 BK223.out 1; have hfz18_2:=z01 BK223.out 2; have hfz18_3:=z01 BK223.out 3; have hfz18_4:=z01 BK223.out 4; have hfz18_5:=z01 BK223.out 5))
        go_meet
        case rel=>exact ⟨_,(true),(by first | rfl | (simp; done) | (simp [*]; done)),H',⟨by have:=HK1.out; first | omega | exact Nat.le_refl _⟩,⟨by (with_reducible repeat (first | refine z08 ?_ _ | refine z09 ?_ | refine z06 ?_ _)); exact BK223.out⟩,⟨by (with_reducible repeat (first | refine z08 ?_ _ | refine z09 ?_ | refine z06 ?_ _)); exact BK225.out⟩,⟨by repeat (first | (with_reducible first | exact HB.out | apply z04 | apply z03 | apply z05 | refine z07 ?_ GE223.out | refine z07 ?_ GE225.out) | exact HB.out)⟩⟩
       ·rw [if_neg c15] at H
        have c15b0 : ((wrap64 (x3_1 + 1)) == (l0_5.length : Int)) = false:=beq_eq_false_iff_ne.mpr c15
        have c15b1 : ((wrap64 (x3_1 + 1)) != (l0_5.length : Int)) = true:=bne_iff_ne.mpr c15
        (first | rw [c15b0] | (simp only [i64_w,i32_w]; rw [c15b0]) | skip)
        replace H:=Option.bind_eq_some_iff.mp H
        obtain ⟨t228,A190,H⟩:=H
        replace H : (z0c.j1 k1 x3_1 t226 (t228 != t226) a0_0 a0_1 a0_2 l0_3 l0_4 l0_5 ((z0a l0_5 x3_1).f0) ((z0a l0_5 x3_1).f1) ((z0a l0_5 x3_1).f2) ((z0a l0_5 x3_1).f3) ((z0a l0_5 x3_1).f4)) = some r:=H
        have A19:=Aside0.mk A190
        clear A190
        have H':=Aside0.mk H
        clear H
        have hnb20:=NB225_223.out
        have hnc20:=NB223_225.out
        have hcz21_0 : w12.cell? ⟨gb225,0,none⟩ = some (.int .i64 ((z0a l0_5 x3_1).f0)):=(z02 BK225.out 0).trans rfl
        have hcz21_1 : w12.cell? ⟨gb225,1,none⟩ = some (.int .i64 ((z0a l0_5 x3_1).f1)):=(z02 BK225.out 1).trans rfl
        have hcz21_2 : w12.cell? ⟨gb225,2,none⟩ = some (.int .i64 ((z0a l0_5 x3_1).f2)):=(z02 BK225.out 2).trans rfl
        have hcz21_3 : w12.cell? ⟨gb225,3,none⟩ = some (.int .i64 ((z0a l0_5 x3_1).f3)):=(z02 BK225.out 3).trans rfl
        have hcz21_4 : w12.cell? ⟨gb225,4,none⟩ = some (.int .u64 ((z0a l0_5 x3_1).f4)):=(z02 BK225.out 4).trans rfl
        have hfz21_0:=z01 BK225.out 0
        have hfz21_1:=z01 BK225.out 1
        have hfz21_2:=z01 BK225.out 2
        have hfz21_3:=z01 BK225.out 3
        have hfz21_4:=z01 BK225.out 4
        go_wp2_with (first | ((with_reducible refine z0t (f:=70) rfl ?_); refine goesL_ (some 23) rfl rfl Try.func70 (by kernel_rfl) rfl #[.int .i64 ((z0a l0_5 x3_1).f0)] rfl (by (try simp only [List.map_toArray,List.map_cons,List.map_nil]); first | done | rfl | (simp only [List.length_drop,List.length_take]; rfl)) ?_; (with_reducible refine (backreachref02_Goes.calls ((z0a l0_5 x3_1).f0) true _ A13.out).mono ?_); rintro e w' ⟨rfl,⟨nd,rfl⟩⟩; refine ⟨_,rfl,?_⟩; have hcz22_0 : w12.cell? ⟨gb223,0,none⟩ = some (.int .i64 a0_0):=(z02 BK223.out 0).trans rfl; have hcz22_1 : w12.cell? ⟨gb223,1,none⟩ = some (.int .i64 a0_1):=(z02 BK223.out 1).trans rfl; have hcz22_2 : w12.cell? ⟨gb223,2,none⟩ = some (.int .i64 a0_2):=(z02 BK223.out 2).trans rfl; have hcz22_3 : w12.cell? ⟨gb223,3,none⟩ = some (.slice A0_3 l0_3.length c0_3):=(z02 BK223.out 3).trans rfl; have hcz22_4 : w12.cell? ⟨gb223,4,none⟩ = some (.slice A0_4 l0_4.length c0_4):=(z02 BK223.out 4).trans rfl; have hcz22_5 : w12.cell? ⟨gb223,5,none⟩ = some (.slice (some ad224) l0_5.length c0_5):=(z02 BK223.out 5).trans rfl; have hfz22_0:=z01 BK223.out 0; have hfz22_1:=z01 BK223.out 1; have hfz22_2:=z01 BK223.out 2; have hfz22_3:=z01 BK223.out 3; have hfz22_4:=z01 BK223.out 4; have hfz22_5:=z01 BK223.out 5) | (go_at_call 69; (with_reducible refine (z0j.calls k1 a0_0 a0_1 a0_2 _ _ l0_3 _ _ l0_4 _ _ l0_5 (wrap64 (x3_1 + 1)) t228 _ ?side1 ?side2 ?side3 ?side4 ?side5 ?side6 A19.out).mono ?_); (case side1=>repeat (first | exact (Kd.C_below HR0_3.out (by repeat (first | (with_reducible first | exact HB.out | apply z04 | apply z03 | apply z05 | refine z07 ?_ GE223.out | refine z07 ?_ GE225.out) | exact HB.out))) | (with_reducible refine Kd.C_alloc ?_ _) | (with_reducible refine Kd.C_drewN ?_ _) | (with_reducible refine Kd.C_drew ?_))); (case side2=>exact HC0_3.out); (case side3=>repeat (first | exact (Kd.C_below HR0_4.out (by repeat (first | (with_reducible first | exact HB.out | apply z04 | apply z03 | apply z05 | refine z07 ?_ GE223.out | refine z07 ?_ GE225.out) | exact HB.out))) | (with_reducible refine Kd.C_alloc ?_ _) | (with_reducible refine Kd.C_drewN ?_ _) | (with_reducible refine Kd.C_drew ?_))); (case side4=>exact HC0_4.out); (case side5=>repeat (first | exact (Kd.C_below HR0_5.out (by repeat (first | (with_reducible first | exact HB.out | apply z04 | apply z03 | apply z05 | refine z07 ?_ GE223.out | refine z07 ?_ GE225.out) | exact HB.out))) | (with_reducible refine Kd.C_alloc ?_ _) | (with_reducible refine Kd.C_drewN ?_ _) | (with_reducible refine Kd.C_drew ?_))); (case side6=>exact HC0_5.out); rintro e w23 ⟨rfl,hb⟩; have n0_:=Aside0.mk (z0v (g:=gb223) (o:=.cells #[.int .i64 a0_0,.int .i64 a0_1,.int .i64 a0_2,.slice A0_3 l0_3.length c0_3,.slice A0_4 l0_4.length c0_4,.slice (some ad224) l0_5.length c0_5] 26 (0,0)) (by (with_reducible repeat (first | refine z08 ?_ _ | refine z09 ?_ | refine z06 ?_ _)); exact BK223.out) hb); have n1_:=Aside0.mk (z0v (g:=gb225) (o:=.cells #[.int .i64 ((z0a l0_5 x3_1).f0),.int .i64 ((z0a l0_5 x3_1).f1),.int .i64 ((z0a l0_5 x3_1).f2),.int .i64 ((z0a l0_5 x3_1).f3),.int .u64 ((z0a l0_5 x3_1).f4)] 45 (0,0)) (by (with_reducible repeat (first | refine z08 ?_ _ | refine z09 ?_ | refine z06 ?_ _)); exact BK225.out) hb); have n2_:=Aside0.mk (z0s (by repeat (first | (with_reducible first | exact HB.out | apply z04 | apply z03 | apply z05 | refine z07 ?_ GE223.out | refine z07 ?_ GE225.out) | exact HB.out)) hb); clear BK223; clear BK225; clear HB; have BK223:=n0_; have BK225:=n1_; have HB:=n2_; clear n0_ n1_ n2_; (try clear hb); (try clear hb2); (try clear hk); (try clear hi)))
        go_meet
        case rel=>exact ⟨_,((t228 != t226)),(by first | rfl | (simp; done) | (simp [*]; done)),H',⟨by have:=HK1.out; first | omega | exact Nat.le_refl _⟩,⟨by (with_reducible repeat (first | refine z08 ?_ _ | refine z09 ?_ | refine z06 ?_ _)); exact BK223.out⟩,⟨by (with_reducible repeat (first | refine z08 ?_ _ | refine z09 ?_ | refine z06 ?_ _)); exact BK225.out⟩,⟨by repeat (first | (with_reducible first | exact HB.out | apply z04 | apply z03 | apply z05 | refine z07 ?_ GE223.out | refine z07 ?_ GE225.out) | exact HB.out)⟩⟩
      ·replace c14:=Bool.eq_false_iff.mpr c14
       subst c14
       have H1 : (z0c.j1 k1 x3_1 t226 false a0_0 a0_1 a0_2 l0_3 l0_4 l0_5 ((z0a l0_5 x3_1).f0) ((z0a l0_5 x3_1).f1) ((z0a l0_5 x3_1).f2) ((z0a l0_5 x3_1).f3) ((z0a l0_5 x3_1).f4)) = some r:=by rw [if_neg (show ¬ (false = true) by decide)] at H; exact H
       clear H
       have H:=H1
       clear H1
       have H':=Aside0.mk H
       clear H
       have hnb24:=NB225_223.out
       have hnc24:=NB223_225.out
       have hcz25_0 : w12.cell? ⟨gb225,0,none⟩ = some (.int .i64 ((z0a l0_5 x3_1).f0)):=(z02 BK225.out 0).trans rfl
       have hcz25_1 : w12.cell? ⟨gb225,1,none⟩ = some (.int .i64 ((z0a l0_5 x3_1).f1)):=(z02 BK225.out 1).trans rfl
       have hcz25_2 : w12.cell? ⟨gb225,2,none⟩ = some (.int .i64 ((z0a l0_5 x3_1).f2)):=(z02 BK225.out 2).trans rfl
       have hcz25_3 : w12.cell? ⟨gb225,3,none⟩ = some (.int .i64 ((z0a l0_5 x3_1).f3)):=(z02 BK225.out 3).trans rfl
       have hcz25_4 : w12.cell? ⟨gb225,4,none⟩ = some (.int .u64 ((z0a l0_5 x3_1).f4)):=(z02 BK225.out 4).trans rfl
       have hfz25_0:=z01 BK225.out 0
       have hfz25_1:=z01 BK225.out 1
       have hfz25_2:=z01 BK225.out 2
       have hfz25_3:=z01 BK225.out 3
       have hfz25_4:=z01 BK225.out 4
       go_wp2_with (first | ((with_reducible refine z0t (f:=70) rfl ?_); refine goesL_ (some 23) rfl rfl Try.func70 (by kernel_rfl) rfl #[.int .i64 ((z0a l0_5 x3_1).f0)] rfl (by (try simp only [List.map_toArray,List.map_cons,List.map_nil]); first | done | rfl | (simp only [List.length_drop,List.length_take]; rfl)) ?_; (with_reducible refine (backreachref02_Goes.calls ((z0a l0_5 x3_1).f0) false _ A13.out).mono ?_); rintro e w' ⟨rfl,⟨nd,rfl⟩⟩; refine ⟨_,rfl,?_⟩))
       go_meet
       case rel=>exact ⟨_,(false),(by first | rfl | (simp; done) | (simp [*]; done)),H',⟨by have:=HK1.out; first | omega | exact Nat.le_refl _⟩,⟨by (with_reducible repeat (first | refine z08 ?_ _ | refine z09 ?_ | refine z06 ?_ _)); exact BK223.out⟩,⟨by (with_reducible repeat (first | refine z08 ?_ _ | refine z09 ?_ | refine z06 ?_ _)); exact BK225.out⟩,⟨by repeat (first | (with_reducible first | exact HB.out | apply z04 | apply z03 | apply z05 | refine z07 ?_ GE223.out | refine z07 ?_ GE225.out) | exact HB.out)⟩⟩
     case rest =>
      clear HC6
      try clear c1
      try clear c2
      try clear p2
      try clear q2
      try clear hx2
      try clear c3
      try clear c3b0
      try clear c4
      try clear c4b0
      try clear c5
      try clear c6
      try clear p6
      try clear c7
      try clear c9
      try clear c14
      try clear c15
      try clear c15b0
      try clear c15b1
      try clear c16
      try clear c20
      try clear p22
      try clear q22
      try clear hx22
      try clear c24
      try clear hcz10_0
      try clear hcz10_1
      try clear hcz10_2
      try clear hcz10_3
      try clear hcz10_4
      try clear hcz11_0
      try clear hcz11_1
      try clear hcz11_2
      try clear hcz11_3
      try clear hcz11_4
      try clear hcz11_5
      try clear hcz17_0
      try clear hcz17_1
      try clear hcz17_2
      try clear hcz17_3
      try clear hcz17_4
      try clear hcz18_0
      try clear hcz18_1
      try clear hcz18_2
      try clear hcz18_3
      try clear hcz18_4
      try clear hcz18_5
      try clear hcz21_0
      try clear hcz21_1
      try clear hcz21_2
      try clear hcz21_3
      try clear hcz21_4
      try clear hcz22_0
      try clear hcz22_1
      try clear hcz22_2
      try clear hcz22_3
      try clear hcz22_4
      try clear hcz22_5
      try clear hcz25_0
      try clear hcz25_1
      try clear hcz25_2
      try clear hcz25_3
      try clear hcz25_4
      try clear hcz7_0
      try clear hcz7_1
      try clear hcz7_2
      try clear hcz7_3
      try clear hcz7_4
      try clear hcz7_5
      try clear hfz10_0
      try clear hfz10_1
      try clear hfz10_2
      try clear hfz10_3
      try clear hfz10_4
      try clear hfz11_0
      try clear hfz11_1
      try clear hfz11_2
      try clear hfz11_3
      try clear hfz11_4
      try clear hfz11_5
      try clear hfz17_0
      try clear hfz17_1
      try clear hfz17_2
      try clear hfz17_3
      try clear hfz17_4
      try clear hfz18_0
      try clear hfz18_1
      try clear hfz18_2
      try clear hfz18_3
      try clear hfz18_4
      try clear hfz18_5
      try clear hfz21_0
      try clear hfz21_1
      try clear hfz21_2
      try clear hfz21_3
      try clear hfz21_4
      try clear hfz22_0
      try clear hfz22_1
      try clear hfz22_2
      try clear hfz22_3
      try clear hfz22_4
      try clear hfz22_5
      try clear hfz25_0
      try clear hfz25_1
      try clear hfz25_2
      try clear hfz25_3
      try clear hfz25_4
      try clear hfz7_0
      try clear hfz7_1
      try clear hfz7_2
      try clear hfz7_3
      try clear hfz7_4
      try clear hfz7_5
      try clear hx224_0
      try clear hx224_1
      try clear hx224_2
      try clear hx224_3
      try clear hx224_4
      try clear p2
      try clear p224
      try clear q224
      obtain ⟨kq,x39_5,rfl,HA,HJ5,BK223,BK225,HB⟩:=hcut
      cases kq with
      | zero=>exact absurd HA.out (by simp [z0c.j1])
      | succ kj5 =>
       have H:=HA.out
       clear HA
       simp only [z0c.j1] at H
       by_cases c26 : x39_5 = true
       ·subst c26
        have H1 : (some x3_1) = some r:=by rw [if_pos rfl] at H; exact H
        clear H
        have H:=H1
        clear H1
        obtain rfl:=Option.some.inj H
        go_wp2
        go_ret
        exact ⟨by first | rfl | (simp [z0i,z0h] <;> rfl) | (simp [*,z0i,z0h] <;> rfl),by repeat (first | (with_reducible first | exact HB.out | apply z04 | apply z03 | apply z05 | refine z07 ?_ GE223.out | refine z07 ?_ GE225.out) | exact HB.out)⟩
       ·replace c26:=Bool.eq_false_iff.mpr c26
        subst c26
        have H1 : (if ((z0a l0_5 x3_1).f0) = 21 then (z0c.j2 kj5 x3_1 t226 true a0_0 a0_1 a0_2 l0_3 l0_4 l0_5 ((z0a l0_5 x3_1).f0) ((z0a l0_5 x3_1).f1) ((z0a l0_5 x3_1).f2) ((z0a l0_5 x3_1).f3) ((z0a l0_5 x3_1).f4)) else (z0c.j2 kj5 x3_1 t226 (((z0a l0_5 x3_1).f0) == 22) a0_0 a0_1 a0_2 l0_3 l0_4 l0_5 ((z0a l0_5 x3_1).f0) ((z0a l0_5 x3_1).f1) ((z0a l0_5 x3_1).f2) ((z0a l0_5 x3_1).f3) ((z0a l0_5 x3_1).f4))) = some r:=by rw [if_neg (show ¬ (false = true) by decide)] at H; exact H
        clear H
        have H:=H1
        clear H1
        have HC27:=Aside0.mk H
        clear H
        go_upto_region 8 with (fail)
        go_cut [48] (fun v48 wc=>∃ (kq : Nat) (x48_26 : Bool),v48 = .bool x48_26 ∧ Aside0 (z0c.j2 kq x3_1 t226 x48_26 a0_0 a0_1 a0_2 l0_3 l0_4 l0_5 ((z0a l0_5 x3_1).f0) ((z0a l0_5 x3_1).f1) ((z0a l0_5 x3_1).f2) ((z0a l0_5 x3_1).f3) ((z0a l0_5 x3_1).f4) = some r) ∧ Aside0 (kq ≤ kj5) ∧ Aside0 (wc.heap[gb223]? = some (.cells #[.int .i64 a0_0,.int .i64 a0_1,.int .i64 a0_2,(.slice A0_3 l0_3.length c0_3),(.slice A0_4 l0_4.length c0_4),(.slice (some ad224) l0_5.length c0_5)] 26 (0,0))) ∧ Aside0 (wc.heap[gb225]? = some (.cells #[.int .i64 ((z0a l0_5 x3_1).f0),.int .i64 ((z0a l0_5 x3_1).f1),.int .i64 ((z0a l0_5 x3_1).f2),.int .i64 ((z0a l0_5 x3_1).f3),.int .u64 ((z0a l0_5 x3_1).f4)] 45 (0,0))) ∧ Aside0 (Below w.heap.size w wc))
        case first =>
         have H:=HC27.out
         clear HC27
         by_cases c28 : ((z0a l0_5 x3_1).f0) = 21
         ·rw [if_pos c28] at H
          have c28b0 : (((z0a l0_5 x3_1).f0) == 21) = true:=beq_iff_eq.mpr c28
          have c28b1 : (((z0a l0_5 x3_1).f0) != 21) = false:=bne_eq_false_iff_eq.mpr c28
          clear c28
          (first | rw [c28b0] | (simp only [i64_w,i32_w]; rw [c28b0]) | skip)
          have H':=Aside0.mk H
          clear H
          have hnb29:=NB225_223.out
          have hnc29:=NB223_225.out
          have hcz30_0 : wc.cell? ⟨gb225,0,none⟩ = some (.int .i64 ((z0a l0_5 x3_1).f0)):=(z02 BK225.out 0).trans rfl
          have hcz30_1 : wc.cell? ⟨gb225,1,none⟩ = some (.int .i64 ((z0a l0_5 x3_1).f1)):=(z02 BK225.out 1).trans rfl
          have hcz30_2 : wc.cell? ⟨gb225,2,none⟩ = some (.int .i64 ((z0a l0_5 x3_1).f2)):=(z02 BK225.out 2).trans rfl
          have hcz30_3 : wc.cell? ⟨gb225,3,none⟩ = some (.int .i64 ((z0a l0_5 x3_1).f3)):=(z02 BK225.out 3).trans rfl
          have hcz30_4 : wc.cell? ⟨gb225,4,none⟩ = some (.int .u64 ((z0a l0_5 x3_1).f4)):=(z02 BK225.out 4).trans rfl
          have hfz30_0:=z01 BK225.out 0
          have hfz30_1:=z01 BK225.out 1
          have hfz30_2:=z01 BK225.out 2
          have hfz30_3:=z01 BK225.out 3
          have hfz30_4:=z01 BK225.out 4
          go_wp2
          go_meet
          case rel=>exact ⟨_,(true),(by first | rfl | (simp; done) | (simp [*]; done)),H',⟨by have:=HK1.out; have:=HJ5.out; first | omega | exact Nat.le_refl _⟩,⟨by (with_reducible repeat (first | refine z08 ?_ _ | refine z09 ?_ | refine z06 ?_ _)); exact BK223.out⟩,⟨by (with_reducible repeat (first | refine z08 ?_ _ | refine z09 ?_ | refine z06 ?_ _)); exact BK225.out⟩,⟨by repeat (first | (with_reducible first | exact HB.out | apply z04 | apply z03 | apply z05 | refine z07 ?_ GE223.out | refine z07 ?_ GE225.out) | exact HB.out)⟩⟩
         ·rw [if_neg c28] at H
          have c28b0 : (((z0a l0_5 x3_1).f0) == 21) = false:=beq_eq_false_iff_ne.mpr c28
          have c28b1 : (((z0a l0_5 x3_1).f0) != 21) = true:=bne_iff_ne.mpr c28
          (first | rw [c28b0] | (simp only [i64_w,i32_w]; rw [c28b0]) | skip)
          have H':=Aside0.mk H
          clear H
          have hnb31:=NB225_223.out
          have hnc31:=NB223_225.out
          have hcz32_0 : wc.cell? ⟨gb225,0,none⟩ = some (.int .i64 ((z0a l0_5 x3_1).f0)):=(z02 BK225.out 0).trans rfl
          have hcz32_1 : wc.cell? ⟨gb225,1,none⟩ = some (.int .i64 ((z0a l0_5 x3_1).f1)):=(z02 BK225.out 1).trans rfl
          have hcz32_2 : wc.cell? ⟨gb225,2,none⟩ = some (.int .i64 ((z0a l0_5 x3_1).f2)):=(z02 BK225.out 2).trans rfl
          have hcz32_3 : wc.cell? ⟨gb225,3,none⟩ = some (.int .i64 ((z0a l0_5 x3_1).f3)):=(z02 BK225.out 3).trans rfl
          have hcz32_4 : wc.cell? ⟨gb225,4,none⟩ = some (.int .u64 ((z0a l0_5 x3_1).f4)):=(z02 BK225.out 4).trans rfl
          have hfz32_0:=z01 BK225.out 0
          have hfz32_1:=z01 BK225.out 1
          have hfz32_2:=z01 BK225.out 2
          have hfz32_3:=z01 BK225.out 3
          have hfz32_4:=z01 BK225.out 4
          go_wp2
          go_meet
          case rel=>exact ⟨_,((((z0a l0_5 x3_1).f0) == 22)),(by first | rfl | (simp; done) | (simp [*]; done)),H',⟨by have:=HK1.out; have:=HJ5.out; first | omega | exact Nat.le_refl _⟩,⟨by (with_reducible repeat (first | refine z08 ?_ _ | refine z09 ?_ | refine z06 ?_ _)); exact BK223.out⟩,⟨by (with_reducible repeat (first | refine z08 ?_ _ | refine z09 ?_ | refine z06 ?_ _)); exact BK225.out⟩,⟨by repeat (first | (with_reducible first | exact HB.out | apply z04 | apply z03 | apply z05 | refine z07 ?_ GE223.out | refine z07 ?_ GE225.out) | exact HB.out)⟩⟩
        case rest =>
         clear HC27
         try clear c1
         try clear c2
         try clear p2
         try clear q2
         try clear hx2
         try clear c3
         try clear c3b0
         try clear c4
         try clear c4b0
         try clear c5
         try clear c6
         try clear p6
         try clear c7
         try clear c9
         try clear c14
         try clear c15
         try clear c15b0
         try clear c15b1
         try clear c16
         try clear c20
         try clear p22
         try clear q22
         try clear hx22
         try clear c24
         try clear c26
         try clear c28
         try clear c28b0
         try clear c28b1
         try clear c29
         try clear c31
         try clear hcz10_0
         try clear hcz10_1
         try clear hcz10_2
         try clear hcz10_3
         try clear hcz10_4
         try clear hcz11_0
         try clear hcz11_1
         try clear hcz11_2
         try clear hcz11_3
         try clear hcz11_4
         try clear hcz11_5
         try clear hcz17_0
         try clear hcz17_1
         try clear hcz17_2
         try clear hcz17_3
         try clear hcz17_4
         try clear hcz18_0
         try clear hcz18_1
         try clear hcz18_2
         try clear hcz18_3
         try clear hcz18_4
         try clear hcz18_5
         try clear hcz21_0
         try clear hcz21_1
         try clear hcz21_2
         try clear hcz21_3
         try clear hcz21_4
         try clear hcz22_0
         try clear hcz22_1
         try clear hcz22_2
         try clear hcz22_3
         try clear hcz22_4
         try clear hcz22_5
         try clear hcz25_0
         try clear hcz25_1
         try clear hcz25_2
         try clear hcz25_3
         try clear hcz25_4
         try clear hcz30_0
         try clear hcz30_1
         try clear hcz30_2
         try clear hcz30_3
         try clear hcz30_4
         try clear hcz32_0
         try clear hcz32_1
         try clear hcz32_2
         try clear hcz32_3
         try clear hcz32_4
         try clear hcz7_0
         try clear hcz7_1
         try clear hcz7_2
         try clear hcz7_3
         try clear hcz7_4
         try clear hcz7_5
         try clear hfz10_0
         try clear hfz10_1
         try clear hfz10_2
         try clear hfz10_3
         try clear hfz10_4
         try clear hfz11_0
         try clear hfz11_1
         try clear hfz11_2
         try clear hfz11_3
         try clear hfz11_4
         try clear hfz11_5
         try clear hfz17_0
         try clear hfz17_1
         try clear hfz17_2
         try clear hfz17_3
         try clear hfz17_4
         try clear hfz18_0
         try clear hfz18_1
         try clear hfz18_2
         try clear hfz18_3
         try clear hfz18_4
         try clear hfz18_5
         try clear hfz21_0
         try clear hfz21_1
         try clear hfz21_2
         try clear hfz21_3
         try clear hfz21_4
         try clear hfz22_0
         try clear hfz22_1
         try clear hfz22_2
         try clear hfz22_3
         try clear hfz22_4
         try clear hfz22_5
         try clear hfz25_0
         try clear hfz25_1
         try clear hfz25_2
         try clear hfz25_3
         try clear hfz25_4
         try clear hfz30_0
         try clear hfz30_1
         try clear hfz30_2
         try clear hfz30_3
         try clear hfz30_4
         try clear hfz32_0
         try clear hfz32_1
         try clear hfz32_2
         try clear hfz32_3
         try clear hfz32_4
         try clear hfz7_0
         try clear hfz7_1
         try clear hfz7_2
         try clear hfz7_3
         try clear hfz7_4
         try clear hfz7_5
         try clear hx224_0
         try clear hx224_1
         try clear hx224_2
         try clear hx224_3
         try clear hx224_4
         try clear p2
         try clear p22
         try clear p224
         try clear p6
         try clear q2
         try clear q22
         try clear q224
         obtain ⟨kq,x48_26,rfl,HA,HJ26,BK223,BK225,HB⟩:=hcut
         cases kq with
         | zero=>exact absurd HA.out (by simp [z0c.j2])
         | succ kj26 =>
          have H:=HA.out
          clear HA
          simp only [z0c.j2] at H
          by_cases c33 : x48_26 = true
          ·subst c33
           have H1 : (if ((z0a l0_5 x3_1).f4) ≥ (IntKind.u64.wrap ((l0_5.length : Int))) then (z0c.j3 kj26 x3_1 true a0_0 a0_1 a0_2 l0_3 l0_4 l0_5 ((z0a l0_5 x3_1).f0) ((z0a l0_5 x3_1).f1) ((z0a l0_5 x3_1).f2) ((z0a l0_5 x3_1).f3) ((z0a l0_5 x3_1).f4)) else ((z0j.f kj26 a0_0 a0_1 a0_2 l0_3 l0_4 l0_5 (wrap64 (((z0a l0_5 x3_1).f4)))).bind fun t229=>(z0c.j3 kj26 x3_1 (t229 != t226) a0_0 a0_1 a0_2 l0_3 l0_4 l0_5 ((z0a l0_5 x3_1).f0) ((z0a l0_5 x3_1).f1) ((z0a l0_5 x3_1).f2) ((z0a l0_5 x3_1).f3) ((z0a l0_5 x3_1).f4)))) = some r:=by rw [if_pos rfl] at H; exact H
           clear H
           have H:=H1
           clear H1
           have HC34:=Aside0.mk H
           clear H
           go_upto_region 9 with (fail)
           go_cut [64] (fun v64 wc=>∃ (kq : Nat) (x64_33 : Bool),v64 = .bool x64_33 ∧ Aside0 (z0c.j3 kq x3_1 x64_33 a0_0 a0_1 a0_2 l0_3 l0_4 l0_5 ((z0a l0_5 x3_1).f0) ((z0a l0_5 x3_1).f1) ((z0a l0_5 x3_1).f2) ((z0a l0_5 x3_1).f3) ((z0a l0_5 x3_1).f4) = some r) ∧ Aside0 (kq ≤ kj26) ∧ Aside0 (wc.heap[gb223]? = some (.cells #[.int .i64 a0_0,.int .i64 a0_1,.int .i64 a0_2,(.slice A0_3 l0_3.length c0_3),(.slice A0_4 l0_4.length c0_4),(.slice (some ad224) l0_5.length c0_5)] 26 (0,0))) ∧ Aside0 (wc.heap[gb225]? = some (.cells #[.int .i64 ((z0a l0_5 x3_1).f0),.int .i64 ((z0a l0_5 x3_1).f1),.int .i64 ((z0a l0_5 x3_1).f2),.int .i64 ((z0a l0_5 x3_1).f3),.int .u64 ((z0a l0_5 x3_1).f4)] 45 (0,0))) ∧ Aside0 (Below w.heap.size w wc))
           case first =>
            have H:=HC34.out
            clear HC34
            by_cases c35 : ((z0a l0_5 x3_1).f4) ≥ (IntKind.u64.wrap ((l0_5.length : Int)))
            ·rw [if_pos c35] at H
             have c35b0 : decide ((IntKind.u64.wrap ((l0_5.length : Int))) ≤ ((z0a l0_5 x3_1).f4)) = true:=decide_eq_true c35
             clear c35
             (first | rw [c35b0] | (simp only [i64_w,i32_w]; rw [c35b0]) | skip)
             have H':=Aside0.mk H
             clear H
             have hnb36:=NB225_223.out
             have hnc36:=NB223_225.out
             have hcz37_0 : wc.cell? ⟨gb225,0,none⟩ = some (.int .i64 ((z0a l0_5 x3_1).f0)):=(z02 BK225.out 0).trans rfl
             have hcz37_1 : wc.cell? ⟨gb225,1,none⟩ = some (.int .i64 ((z0a l0_5 x3_1).f1)):=(z02 BK225.out 1).trans rfl
             have hcz37_2 : wc.cell? ⟨gb225,2,none⟩ = some (.int .i64 ((z0a l0_5 x3_1).f2)):=(z02 BK225.out 2).trans rfl
             have hcz37_3 : wc.cell? ⟨gb225,3,none⟩ = some (.int .i64 ((z0a l0_5 x3_1).f3)):=(z02 BK225.out 3).trans rfl
             have hcz37_4 : wc.cell? ⟨gb225,4,none⟩ = some (.int .u64 ((z0a l0_5 x3_1).f4)):=(z02 BK225.out 4).trans rfl
             have hfz37_0:=z01 BK225.out 0
             have hfz37_1:=z01 BK225.out 1
             have hfz37_2:=z01 BK225.out 2
             have hfz37_3:=z01 BK225.out 3
             have hfz37_4:=z01 BK225.out 4
             have hcz38_0 : wc.cell? ⟨gb223,0,none⟩ = some (.int .i64 a0_0):=(z02 BK223.out 0).trans rfl
             have hcz38_1 : wc.cell? ⟨gb223,1,none⟩ = some (.int .i64 a0_1):=(z02 BK223.out 1).trans rfl
             have hcz38_2 : wc.cell? ⟨gb223,2,none⟩ = some (.int .i64 a0_2):=(z02 BK223.out 2).trans rfl
             have hcz38_3 : wc.cell? ⟨gb223,3,none⟩ = some (.slice A0_3 l0_3.length c0_3):=(z02 BK223.out 3).trans rfl
             have hcz38_4 : wc.cell? ⟨gb223,4,none⟩ = some (.slice A0_4 l0_4.length c0_4):=(z02 BK223.out 4).trans rfl
             have hcz38_5 : wc.cell? ⟨gb223,5,none⟩ = some (.slice (some ad224) l0_5.length c0_5):=(z02 BK223.out 5).trans rfl
             have hfz38_0:=z01 BK223.out 0
             have hfz38_1:=z01 BK223.out 1
             have hfz38_2:=z01 BK223.out 2
             have hfz38_3:=z01 BK223.out 3
             have hfz38_4:=z01 BK223.out 4
             have hfz38_5:=z01 BK223.out 5
             go_wp2
             go_meet
             case rel=>exact ⟨_,(true),(by first | rfl | (simp; done) | (simp [*]; done)),H',⟨by have:=HK1.out; have:=HJ5.out; have:=HJ26.out; first | omega | exact Nat.le_refl _⟩,⟨by (with_reducible repeat (first | refine z08 ?_ _ | refine z09 ?_ | refine z06 ?_ _)); exact BK223.out⟩,⟨by (with_reducible repeat (first | refine z08 ?_ _ | refine z09 ?_ | refine z06 ?_ _)); exact BK225.out⟩,⟨by repeat (first | (with_reducible first | exact HB.out | apply z04 | apply z03 | apply z05 | refine z07 ?_ GE223.out | refine z07 ?_ GE225.out) | exact HB.out)⟩⟩
            ·rw [if_neg c35] at H
             have c35b0 : decide ((IntKind.u64.wrap ((l0_5.length : Int))) ≤ ((z0a l0_5 x3_1).f4)) = false:=decide_eq_false c35
             clear c35
             (first | rw [c35b0] | (simp only [i64_w,i32_w]; rw [c35b0]) | skip)
             replace H:=Option.bind_eq_some_iff.mp H
             obtain ⟨t229,A390,H⟩:=H
             replace H : (z0c.j3 kj26 x3_1 (t229 != t226) a0_0 a0_1 a0_2 l0_3 l0_4 l0_5 ((z0a l0_5 x3_1).f0) ((z0a l0_5 x3_1).f1) ((z0a l0_5 x3_1).f2) ((z0a l0_5 x3_1).f3) ((z0a l0_5 x3_1).f4)) = some r:=H
             have A39:=Aside0.mk A390
             clear A390
             have H':=Aside0.mk H
             clear H
             have hnb40:=NB225_223.out
             have hnc40:=NB223_225.out
             have hcz41_0 : wc.cell? ⟨gb225,0,none⟩ = some (.int .i64 ((z0a l0_5 x3_1).f0)):=(z02 BK225.out 0).trans rfl
             have hcz41_1 : wc.cell? ⟨gb225,1,none⟩ = some (.int .i64 ((z0a l0_5 x3_1).f1)):=(z02 BK225.out 1).trans rfl
             have hcz41_2 : wc.cell? ⟨gb225,2,none⟩ = some (.int .i64 ((z0a l0_5 x3_1).f2)):=(z02 BK225.out 2).trans rfl
             have hcz41_3 : wc.cell? ⟨gb225,3,none⟩ = some (.int .i64 ((z0a l0_5 x3_1).f3)):=(z02 BK225.out 3).trans rfl
             have hcz41_4 : wc.cell? ⟨gb225,4,none⟩ = some (.int .u64 ((z0a l0_5 x3_1).f4)):=(z02 BK225.out 4).trans rfl
             have hfz41_0:=z01 BK225.out 0
             have hfz41_1:=z01 BK225.out 1
             have hfz41_2:=z01 BK225.out 2
             have hfz41_3:=z01 BK225.out 3
             have hfz41_4:=z01 BK225.out 4
             have hcz42_0 : wc.cell? ⟨gb223,0,none⟩ = some (.int .i64 a0_0):=(z02 BK223.out 0).trans rfl
             have hcz42_1 : wc.cell? ⟨gb223,1,none⟩ = some (.int .i64 a0_1):=(z02 BK223.out 1).trans rfl
             have hcz42_2 : wc.cell? ⟨gb223,2,none⟩ = some (.int .i64 a0_2):=(z02 BK223.out 2).trans rfl
             have hcz42_3 : wc.cell? ⟨gb223,3,none⟩ = some (.slice A0_3 l0_3.length c0_3):=(z02 BK223.out 3).trans rfl
             have hcz42_4 : wc.cell? ⟨gb223,4,none⟩ = some (.slice A0_4 l0_4.length c0_4):=(z02 BK223.out 4).trans rfl
             have hcz42_5 : wc.cell? ⟨gb223,5,none⟩ = some (.slice (some ad224) l0_5.length c0_5):=(z02 BK223.out 5).trans rfl
             have hfz42_0:=z01 BK223.out 0
             have hfz42_1:=z01 BK223.out 1
             have hfz42_2:=z01 BK223.out 2
             have hfz42_3:=z01 BK223.out 3
             have hfz42_4:=z01 BK223.out 4
             have hfz42_5:=z01 BK223.out 5
             go_wp2_with (first | (go_at_call 69; (with_reducible refine (z0j.calls kj26 a0_0 a0_1 a0_2 _ _ l0_3 _ _ l0_4 _ _ l0_5 (wrap64 (((z0a l0_5 x3_1).f4))) t229 _ ?side1 ?side2 ?side3 ?side4 ?side5 ?side6 A39.out).mono ?_); (case side1=>repeat (first | exact (Kd.C_below HR0_3.out HB.out) | (with_reducible refine Kd.C_alloc ?_ _) | (with_reducible refine Kd.C_drewN ?_ _) | (with_reducible refine Kd.C_drew ?_))); (case side2=>exact HC0_3.out); (case side3=>repeat (first | exact (Kd.C_below HR0_4.out HB.out) | (with_reducible refine Kd.C_alloc ?_ _) | (with_reducible refine Kd.C_drewN ?_ _) | (with_reducible refine Kd.C_drew ?_))); (case side4=>exact HC0_4.out); (case side5=>repeat (first | exact (Kd.C_below HR0_5.out HB.out) | (with_reducible refine Kd.C_alloc ?_ _) | (with_reducible refine Kd.C_drewN ?_ _) | (with_reducible refine Kd.C_drew ?_))); (case side6=>exact HC0_5.out); rintro e w43 ⟨rfl,hb⟩; have n0_:=Aside0.mk (z0v (g:=gb223) (o:=.cells #[.int .i64 a0_0,.int .i64 a0_1,.int .i64 a0_2,.slice A0_3 l0_3.length c0_3,.slice A0_4 l0_4.length c0_4,.slice (some ad224) l0_5.length c0_5] 26 (0,0)) (by (with_reducible repeat (first | refine z08 ?_ _ | refine z09 ?_ | refine z06 ?_ _)); exact BK223.out) hb); have n1_:=Aside0.mk (z0v (g:=gb225) (o:=.cells #[.int .i64 ((z0a l0_5 x3_1).f0),.int .i64 ((z0a l0_5 x3_1).f1),.int .i64 ((z0a l0_5 x3_1).f2),.int .i64 ((z0a l0_5 x3_1).f3),.int .u64 ((z0a l0_5 x3_1).f4)] 45 (0,0)) (by (with_reducible repeat (first | refine z08 ?_ _ | refine z09 ?_ | refine z06 ?_ _)); exact BK225.out) hb); have n2_:=Aside0.mk (z0s (by repeat (first | (with_reducible first | exact HB.out | apply z04 | apply z03 | apply z05 | refine z07 ?_ GE223.out | refine z07 ?_ GE225.out) | exact HB.out)) hb); clear BK223; clear BK225; clear HB; have BK223:=n0_; have BK225:=n1_; have HB:=n2_; clear n0_ n1_ n2_; (try clear hb); (try clear hb2); (try clear hk); (try clear hi)))
             go_meet
             case rel=>exact ⟨_,((t229 != t226)),(by first | rfl | (simp; done) | (simp [*]; done)),H',⟨by have:=HK1.out; have:=HJ5.out; have:=HJ26.out; first | omega | exact Nat.le_refl _⟩,⟨by (with_reducible repeat (first | refine z08 ?_ _ | refine z09 ?_ | refine z06 ?_ _)); exact BK223.out⟩,⟨by (with_reducible repeat (first | refine z08 ?_ _ | refine z09 ?_ | refine z06 ?_ _)); exact BK225.out⟩,⟨by repeat (first | (with_reducible first | exact HB.out | apply z04 | apply z03 | apply z05 | refine z07 ?_ GE223.out | refine z07 ?_ GE225.out) | exact HB.out)⟩⟩
           case rest =>
            clear HC34
            try clear c1
            try clear c2
            try clear p2
            try clear q2
            try clear hx2
            try clear c3
            try clear c3b0
            try clear c4
            try clear c4b0
            try clear c5
            try clear c6
            try clear p6
            try clear c7
            try clear c9
            try clear c14
            try clear c15
            try clear c15b0
            try clear c15b1
            try clear c16
            try clear c20
            try clear p22
            try clear q22
            try clear hx22
            try clear c24
            try clear c26
            try clear c28
            try clear c28b0
            try clear c28b1
            try clear c29
            try clear c31
            try clear c33
            try clear c35
            try clear c35b0
            try clear c36
            try clear c40
            try clear hcz10_0
            try clear hcz10_1
            try clear hcz10_2
            try clear hcz10_3
            try clear hcz10_4
            try clear hcz11_0
            try clear hcz11_1
            try clear hcz11_2
            try clear hcz11_3
            try clear hcz11_4
            try clear hcz11_5
            try clear hcz17_0
            try clear hcz17_1
            try clear hcz17_2
            try clear hcz17_3
            try clear hcz17_4
            try clear hcz18_0
            try clear hcz18_1
            try clear hcz18_2
            try clear hcz18_3
            try clear hcz18_4
            try clear hcz18_5
            try clear hcz21_0
            try clear hcz21_1
            try clear hcz21_2
            try clear hcz21_3
            try clear hcz21_4
            try clear hcz22_0
            try clear hcz22_1
            try clear hcz22_2
            try clear hcz22_3
            try clear hcz22_4
            try clear hcz22_5
            try clear hcz25_0
            try clear hcz25_1
            try clear hcz25_2
            try clear hcz25_3
            try clear hcz25_4
            try clear hcz30_0
            try clear hcz30_1
            try clear hcz30_2
            try clear hcz30_3
            try clear hcz30_4
            try clear hcz32_0
            try clear hcz32_1
            try clear hcz32_2
            try clear hcz32_3
            try clear hcz32_4
            try clear hcz37_0
            try clear hcz37_1
            try clear hcz37_2
            try clear hcz37_3
            try clear hcz37_4
            try clear hcz38_0
            try clear hcz38_1
            try clear hcz38_2
            try clear hcz38_3
            try clear hcz38_4
            try clear hcz38_5
            try clear hcz41_0
            try clear hcz41_1
            try clear hcz41_2
            try clear hcz41_3
            try clear hcz41_4
            try clear hcz42_0
            try clear hcz42_1
            try clear hcz42_2
            try clear hcz42_3
            try clear hcz42_4
            try clear hcz42_5
            try clear hcz7_0
            try clear hcz7_1
            try clear hcz7_2
            try clear hcz7_3
            try clear hcz7_4
            try clear hcz7_5
            try clear hfz10_0
            try clear hfz10_1
            try clear hfz10_2
            try clear hfz10_3
            try clear hfz10_4
            try clear hfz11_0
            try clear hfz11_1
            try clear hfz11_2
            try clear hfz11_3
            try clear hfz11_4
            try clear hfz11_5
            try clear hfz17_0
            try clear hfz17_1
            try clear hfz17_2
            try clear hfz17_3
            try clear hfz17_4
            try clear hfz18_0
            try clear hfz18_1
            try clear hfz18_2
            try clear hfz18_3
            try clear hfz18_4
            try clear hfz18_5
            try clear hfz21_0
            try clear hfz21_1
            try clear hfz21_2
            try clear hfz21_3
            try clear hfz21_4
            try clear hfz22_0
            try clear hfz22_1
            try clear hfz22_2
            try clear hfz22_3
            try clear hfz22_4
            try clear hfz22_5
            try clear hfz25_0
            try clear hfz25_1
            try clear hfz25_2
            try clear hfz25_3
            try clear hfz25_4
            try clear hfz30_0
            try clear hfz30_1
            try clear hfz30_2
            try clear hfz30_3
            try clear hfz30_4
            try clear hfz32_0
            try clear hfz32_1
            try clear hfz32_2
            try clear hfz32_3
            try clear hfz32_4
            try clear hfz37_0
            try clear hfz37_1
            try clear hfz37_2
            try clear hfz37_3
            try clear hfz37_4
            try clear hfz38_0
            try clear hfz38_1
            try clear hfz38_2
            try clear hfz38_3
            try clear hfz38_4
            try clear hfz38_5
            try clear hfz41_0
            try clear hfz41_1
            try clear hfz41_2
            try clear hfz41_3
            try clear hfz41_4
            try clear hfz42_0
            try clear hfz42_1
            try clear hfz42_2
            try clear hfz42_3
            try clear hfz42_4
            try clear hfz42_5
            try clear hfz7_0
            try clear hfz7_1
            try clear hfz7_2
            try clear hfz7_3
            try clear hfz7_4
            try clear hfz7_5
            try clear hx224_0
            try clear hx224_1
            try clear hx224_2
            try clear hx224_3
            try clear hx224_4
            try clear p2
            try clear p22
            try clear p224
            try clear p6
            try clear q2
            try clear q22
            try clear q224
            obtain ⟨kq,x64_33,rfl,HA,HJ33,BK223,BK225,HB⟩:=hcut
            cases kq with
            | zero=>exact absurd HA.out (by simp [z0c.j3])
            | succ kj33 =>
             have H:=HA.out
             clear HA
             simp only [z0c.j3] at H
             by_cases c44 : x64_33 = true
             ·subst c44
              have H1 : (some x3_1) = some r:=by rw [if_pos rfl] at H; exact H
              clear H
              have H:=H1
              clear H1
              obtain rfl:=Option.some.inj H
              go_wp2
              go_ret
              exact ⟨by first | rfl | (simp [z0i,z0h] <;> rfl) | (simp [*,z0i,z0h] <;> rfl),by repeat (first | (with_reducible first | exact HB.out | apply z04 | apply z03 | apply z05 | refine z07 ?_ GE223.out | refine z07 ?_ GE225.out) | exact HB.out)⟩
             ·replace c44:=Bool.eq_false_iff.mpr c44
              subst c44
              have H1 : (if ((z0a l0_5 x3_1).f0) = 23 then (if ((z0a l0_5 x3_1).f4) ≥ (IntKind.u64.wrap ((l0_4.length : Int))) then (some x3_1) else (z0c.l0 kj33 (wrap64 (x3_1 + 1)) a0_0 a0_1 a0_2 l0_3 l0_4 l0_5)) else (z0c.l0 kj33 (wrap64 (x3_1 + 1)) a0_0 a0_1 a0_2 l0_3 l0_4 l0_5)) = some r:=by rw [if_neg (show ¬ (false = true) by decide)] at H; exact H
              clear H
              have H:=H1
              clear H1
              by_cases c45 : ((z0a l0_5 x3_1).f0) = 23
              ·rw [if_pos c45] at H
               have c45b0 : (((z0a l0_5 x3_1).f0) == 23) = true:=beq_iff_eq.mpr c45
               have c45b1 : (((z0a l0_5 x3_1).f0) != 23) = false:=bne_eq_false_iff_eq.mpr c45
               clear c45
               by_cases c46 : ((z0a l0_5 x3_1).f4) ≥ (IntKind.u64.wrap ((l0_4.length : Int)))
               ·rw [if_pos c46] at H
                have c46b0 : decide ((IntKind.u64.wrap ((l0_4.length : Int))) ≤ ((z0a l0_5 x3_1).f4)) = true:=decide_eq_true c46
                clear c46
                obtain rfl:=Option.some.inj H
                have hnb47:=NB225_223.out
                have hnc47:=NB223_225.out
                have hcz48_0 : wc.cell? ⟨gb225,0,none⟩ = some (.int .i64 ((z0a l0_5 x3_1).f0)):=(z02 BK225.out 0).trans rfl
                have hcz48_1 : wc.cell? ⟨gb225,1,none⟩ = some (.int .i64 ((z0a l0_5 x3_1).f1)):=(z02 BK225.out 1).trans rfl
                have hcz48_2 : wc.cell? ⟨gb225,2,none⟩ = some (.int .i64 ((z0a l0_5 x3_1).f2)):=(z02 BK225.out 2).trans rfl
                have hcz48_3 : wc.cell? ⟨gb225,3,none⟩ = some (.int .i64 ((z0a l0_5 x3_1).f3)):=(z02 BK225.out 3).trans rfl
                have hcz48_4 : wc.cell? ⟨gb225,4,none⟩ = some (.int .u64 ((z0a l0_5 x3_1).f4)):=(z02 BK225.out 4).trans rfl
                have hfz48_0:=z01 BK225.out 0
                have hfz48_1:=z01 BK225.out 1
                have hfz48_2:=z01 BK225.out 2
                have hfz48_3:=z01 BK225.out 3
                have hfz48_4:=z01 BK225.out 4
                have hcz49_0 : wc.cell? ⟨gb223,0,none⟩ = some (.int .i64 a0_0):=(z02 BK223.out 0).trans rfl
                have hcz49_1 : wc.cell? ⟨gb223,1,none⟩ = some (.int .i64 a0_1):=(z02 BK223.out 1).trans rfl
                have hcz49_2 : wc.cell? ⟨gb223,2,none⟩ = some (.int .i64 a0_2):=(z02 BK223.out 2).trans rfl
                have hcz49_3 : wc.cell? ⟨gb223,3,none⟩ = some (.slice A0_3 l0_3.length c0_3):=(z02 BK223.out 3).trans rfl
                have hcz49_4 : wc.cell? ⟨gb223,4,none⟩ = some (.slice A0_4 l0_4.length c0_4):=(z02 BK223.out 4).trans rfl
                have hcz49_5 : wc.cell? ⟨gb223,5,none⟩ = some (.slice (some ad224) l0_5.length c0_5):=(z02 BK223.out 5).trans rfl
                have hfz49_0:=z01 BK223.out 0
                have hfz49_1:=z01 BK223.out 1
                have hfz49_2:=z01 BK223.out 2
                have hfz49_3:=z01 BK223.out 3
                have hfz49_4:=z01 BK223.out 4
                have hfz49_5:=z01 BK223.out 5
                go_wp2
                go_ret
                exact ⟨by first | rfl | (simp [z0i,z0h] <;> rfl) | (simp [*,z0i,z0h] <;> rfl),by repeat (first | (with_reducible first | exact HB.out | apply z04 | apply z03 | apply z05 | refine z07 ?_ GE223.out | refine z07 ?_ GE225.out) | exact HB.out)⟩
               ·rw [if_neg c46] at H
                have c46b0 : decide ((IntKind.u64.wrap ((l0_4.length : Int))) ≤ ((z0a l0_5 x3_1).f4)) = false:=decide_eq_false c46
                clear c46
                have H':=Aside0.mk H
                clear H
                have hnb50:=NB225_223.out
                have hnc50:=NB223_225.out
                have hcz51_0 : wc.cell? ⟨gb225,0,none⟩ = some (.int .i64 ((z0a l0_5 x3_1).f0)):=(z02 BK225.out 0).trans rfl
                have hcz51_1 : wc.cell? ⟨gb225,1,none⟩ = some (.int .i64 ((z0a l0_5 x3_1).f1)):=(z02 BK225.out 1).trans rfl
                have hcz51_2 : wc.cell? ⟨gb225,2,none⟩ = some (.int .i64 ((z0a l0_5 x3_1).f2)):=(z02 BK225.out 2).trans rfl
                have hcz51_3 : wc.cell? ⟨gb225,3,none⟩ = some (.int .i64 ((z0a l0_5 x3_1).f3)):=(z02 BK225.out 3).trans rfl
                have hcz51_4 : wc.cell? ⟨gb225,4,none⟩ = some (.int .u64 ((z0a l0_5 x3_1).f4)):=(z02 BK225.out 4).trans rfl
                have hfz51_0:=z01 BK225.out 0
                have hfz51_1:=z01 BK225.out 1
                have hfz51_2:=z01 BK225.out 2
                have hfz51_3:=z01 BK225.out 3
                have hfz51_4:=z01 BK225.out 4
                have hcz52_0 : wc.cell? ⟨gb223,0,none⟩ = some (.int .i64 a0_0):=(z02 BK223.out 0).trans rfl
                have hcz52_1 : wc.cell? ⟨gb223,1,none⟩ = some (.int .i64 a0_1):=(z02 BK223.out 1).trans rfl
                have hcz52_2 : wc.cell? ⟨gb223,2,none⟩ = some (.int .i64 a0_2):=(z02 BK223.out 2).trans rfl
                have hcz52_3 : wc.cell? ⟨gb223,3,none⟩ = some (.slice A0_3 l0_3.length c0_3):=(z02 BK223.out 3).trans rfl
                have hcz52_4 : wc.cell? ⟨gb223,4,none⟩ = some (.slice A0_4 l0_4.length c0_4):=(z02 BK223.out 4).trans rfl
                have hcz52_5 : wc.cell? ⟨gb223,5,none⟩ = some (.slice (some ad224) l0_5.length c0_5):=(z02 BK223.out 5).trans rfl
                have hfz52_0:=z01 BK223.out 0
                have hfz52_1:=z01 BK223.out 1
                have hfz52_2:=z01 BK223.out 2
                have hfz52_3:=z01 BK223.out 3
                have hfz52_4:=z01 BK223.out 4
                have hfz52_5:=z01 BK223.out 5
                go_wp2
                go_roundg kj33
                case measure=>have:=HK1.out; have:=HJ5.out; have:=HJ26.out; have:=HJ33.out; omega
                case rel=>exact ⟨(wrap64 (x3_1 + 1)),(by first | rfl | (simp; done) | (simp [*]; done)),H',⟨by have:=HK1.out; have:=HJ5.out; have:=HJ26.out; have:=HJ33.out; omega⟩,⟨by (with_reducible repeat (first | refine z08 ?_ _ | refine z09 ?_ | refine z06 ?_ _)); exact BK223.out⟩,⟨by repeat (first | (with_reducible first | exact HB.out | apply z04 | apply z03 | apply z05 | refine z07 ?_ GE223.out | refine z07 ?_ GE225.out) | exact HB.out)⟩⟩
              ·rw [if_neg c45] at H
               have c45b0 : (((z0a l0_5 x3_1).f0) == 23) = false:=beq_eq_false_iff_ne.mpr c45
               have c45b1 : (((z0a l0_5 x3_1).f0) != 23) = true:=bne_iff_ne.mpr c45
               have H':=Aside0.mk H
               clear H
               have hnb53:=NB225_223.out
               have hnc53:=NB223_225.out
               have hcz54_0 : wc.cell? ⟨gb225,0,none⟩ = some (.int .i64 ((z0a l0_5 x3_1).f0)):=(z02 BK225.out 0).trans rfl
               have hcz54_1 : wc.cell? ⟨gb225,1,none⟩ = some (.int .i64 ((z0a l0_5 x3_1).f1)):=(z02 BK225.out 1).trans rfl
               have hcz54_2 : wc.cell? ⟨gb225,2,none⟩ = some (.int .i64 ((z0a l0_5 x3_1).f2)):=(z02 BK225.out 2).trans rfl
               have hcz54_3 : wc.cell? ⟨gb225,3,none⟩ = some (.int .i64 ((z0a l0_5 x3_1).f3)):=(z02 BK225.out 3).trans rfl
               have hcz54_4 : wc.cell? ⟨gb225,4,none⟩ = some (.int .u64 ((z0a l0_5 x3_1).f4)):=(z02 BK225.out 4).trans rfl
               have hfz54_0:=z01 BK225.out 0
               have hfz54_1:=z01 BK225.out 1
               have hfz54_2:=z01 BK225.out 2
               have hfz54_3:=z01 BK225.out 3
               have hfz54_4:=z01 BK225.out 4
               go_wp2
               go_roundg kj33
               case measure=>have:=HK1.out; have:=HJ5.out; have:=HJ26.out; have:=HJ33.out; omega
               case rel=>exact ⟨(wrap64 (x3_1 + 1)),(by first | rfl | (simp; done) | (simp [*]; done)),H',⟨by have:=HK1.out; have:=HJ5.out; have:=HJ26.out; have:=HJ33.out; omega⟩,⟨by (with_reducible repeat (first | refine z08 ?_ _ | refine z09 ?_ | refine z06 ?_ _)); exact BK223.out⟩,⟨by repeat (first | (with_reducible first | exact HB.out | apply z04 | apply z03 | apply z05 | refine z07 ?_ GE223.out | refine z07 ?_ GE225.out) | exact HB.out)⟩⟩
          ·replace c33:=Bool.eq_false_iff.mpr c33
           subst c33
           have H1 : (if ((z0a l0_5 x3_1).f0) = 23 then (if ((z0a l0_5 x3_1).f4) ≥ (IntKind.u64.wrap ((l0_4.length : Int))) then (some x3_1) else (z0c.l0 kj26 (wrap64 (x3_1 + 1)) a0_0 a0_1 a0_2 l0_3 l0_4 l0_5)) else (z0c.l0 kj26 (wrap64 (x3_1 + 1)) a0_0 a0_1 a0_2 l0_3 l0_4 l0_5)) = some r:=by rw [if_neg (show ¬ (false = true) by decide)] at H; exact H
           clear H
           have H:=H1
           clear H1
           by_cases c55 : ((z0a l0_5 x3_1).f0) = 23
           ·rw [if_pos c55] at H
            have c55b0 : (((z0a l0_5 x3_1).f0) == 23) = true:=beq_iff_eq.mpr c55
            have c55b1 : (((z0a l0_5 x3_1).f0) != 23) = false:=bne_eq_false_iff_eq.mpr c55
            clear c55
            by_cases c56 : ((z0a l0_5 x3_1).f4) ≥ (IntKind.u64.wrap ((l0_4.length : Int)))
            ·rw [if_pos c56] at H
             have c56b0 : decide ((IntKind.u64.wrap ((l0_4.length : Int))) ≤ ((z0a l0_5 x3_1).f4)) = true:=decide_eq_true c56
             clear c56
             obtain rfl:=Option.some.inj H
             have hnb57:=NB225_223.out
             have hnc57:=NB223_225.out
             have hcz58_0 : wc.cell? ⟨gb225,0,none⟩ = some (.int .i64 ((z0a l0_5 x3_1).f0)):=(z02 BK225.out 0).trans rfl
             have hcz58_1 : wc.cell? ⟨gb225,1,none⟩ = some (.int .i64 ((z0a l0_5 x3_1).f1)):=(z02 BK225.out 1).trans rfl
             have hcz58_2 : wc.cell? ⟨gb225,2,none⟩ = some (.int .i64 ((z0a l0_5 x3_1).f2)):=(z02 BK225.out 2).trans rfl
             have hcz58_3 : wc.cell? ⟨gb225,3,none⟩ = some (.int .i64 ((z0a l0_5 x3_1).f3)):=(z02 BK225.out 3).trans rfl
             have hcz58_4 : wc.cell? ⟨gb225,4,none⟩ = some (.int .u64 ((z0a l0_5 x3_1).f4)):=(z02 BK225.out 4).trans rfl
             have hfz58_0:=z01 BK225.out 0
             have hfz58_1:=z01 BK225.out 1
             have hfz58_2:=z01 BK225.out 2
             have hfz58_3:=z01 BK225.out 3
             have hfz58_4:=z01 BK225.out 4
             have hcz59_0 : wc.cell? ⟨gb223,0,none⟩ = some (.int .i64 a0_0):=(z02 BK223.out 0).trans rfl
             have hcz59_1 : wc.cell? ⟨gb223,1,none⟩ = some (.int .i64 a0_1):=(z02 BK223.out 1).trans rfl
             have hcz59_2 : wc.cell? ⟨gb223,2,none⟩ = some (.int .i64 a0_2):=(z02 BK223.out 2).trans rfl
             have hcz59_3 : wc.cell? ⟨gb223,3,none⟩ = some (.slice A0_3 l0_3.length c0_3):=(z02 BK223.out 3).trans rfl
             have hcz59_4 : wc.cell? ⟨gb223,4,none⟩ = some (.slice A0_4 l0_4.length c0_4):=(z02 BK223.out 4).trans rfl
             have hcz59_5 : wc.cell? ⟨gb223,5,none⟩ = some (.slice (some ad224) l0_5.length c0_5):=(z02 BK223.out 5).trans rfl
             have hfz59_0:=z01 BK223.out 0
             have hfz59_1:=z01 BK223.out 1
             have hfz59_2:=z01 BK223.out 2
             have hfz59_3:=z01 BK223.out 3
             have hfz59_4:=z01 BK223.out 4
             have hfz59_5:=z01 BK223.out 5
             go_wp2
             go_ret
             exact ⟨by first | rfl | (simp [z0i,z0h] <;> rfl) | (simp [*,z0i,z0h] <;> rfl),by repeat (first | (with_reducible first | exact HB.out | apply z04 | apply z03 | apply z05 | refine z07 ?_ GE223.out | refine z07 ?_ GE225.out) | exact HB.out)⟩
            ·rw [if_neg c56] at H
             have c56b0 : decide ((IntKind.u64.wrap ((l0_4.length : Int))) ≤ ((z0a l0_5 x3_1).f4)) = false:=decide_eq_false c56
             clear c56
             have H':=Aside0.mk H
             clear H
             have hnb60:=NB225_223.out
             have hnc60:=NB223_225.out
             have hcz61_0 : wc.cell? ⟨gb225,0,none⟩ = some (.int .i64 ((z0a l0_5 x3_1).f0)):=(z02 BK225.out 0).trans rfl
             have hcz61_1 : wc.cell? ⟨gb225,1,none⟩ = some (.int .i64 ((z0a l0_5 x3_1).f1)):=(z02 BK225.out 1).trans rfl
             have hcz61_2 : wc.cell? ⟨gb225,2,none⟩ = some (.int .i64 ((z0a l0_5 x3_1).f2)):=(z02 BK225.out 2).trans rfl
             have hcz61_3 : wc.cell? ⟨gb225,3,none⟩ = some (.int .i64 ((z0a l0_5 x3_1).f3)):=(z02 BK225.out 3).trans rfl
             have hcz61_4 : wc.cell? ⟨gb225,4,none⟩ = some (.int .u64 ((z0a l0_5 x3_1).f4)):=(z02 BK225.out 4).trans rfl
             have hfz61_0:=z01 BK225.out 0
             have hfz61_1:=z01 BK225.out 1
             have hfz61_2:=z01 BK225.out 2
             have hfz61_3:=z01 BK225.out 3
             have hfz61_4:=z01 BK225.out 4
             have hcz62_0 : wc.cell? ⟨gb223,0,none⟩ = some (.int .i64 a0_0):=(z02 BK223.out 0).trans rfl
             have hcz62_1 : wc.cell? ⟨gb223,1,none⟩ = some (.int .i64 a0_1):=(z02 BK223.out 1).trans rfl
             have hcz62_2 : wc.cell? ⟨gb223,2,none⟩ = some (.int .i64 a0_2):=(z02 BK223.out 2).trans rfl
             have hcz62_3 : wc.cell? ⟨gb223,3,none⟩ = some (.slice A0_3 l0_3.length c0_3):=(z02 BK223.out 3).trans rfl
             have hcz62_4 : wc.cell? ⟨gb223,4,none⟩ = some (.slice A0_4 l0_4.length c0_4):=(z02 BK223.out 4).trans rfl
             have hcz62_5 : wc.cell? ⟨gb223,5,none⟩ = some (.slice (some ad224) l0_5.length c0_5):=(z02 BK223.out 5).trans rfl
             have hfz62_0:=z01 BK223.out 0
             have hfz62_1:=z01 BK223.out 1
             have hfz62_2:=z01 BK223.out 2
             have hfz62_3:=z01 BK223.out 3
             have hfz62_4:=z01 BK223.out 4
             have hfz62_5:=z01 BK223.out 5
             go_wp2
             go_roundg kj26
             case measure=>have:=HK1.out; have:=HJ5.out; have:=HJ26.out; omega
             case rel=>exact ⟨(wrap64 (x3_1 + 1)),(by first | rfl | (simp; done) | (simp [*]; done)),H',⟨by have:=HK1.out; have:=HJ5.out; have:=HJ26.out; omega⟩,⟨by (with_reducible repeat (first | refine z08 ?_ _ | refine z09 ?_ | refine z06 ?_ _)); exact BK223.out⟩,⟨by repeat (first | (with_reducible first | exact HB.out | apply z04 | apply z03 | apply z05 | refine z07 ?_ GE223.out | refine z07 ?_ GE225.out) | exact HB.out)⟩⟩
           ·rw [if_neg c55] at H
            have c55b0 : (((z0a l0_5 x3_1).f0) == 23) = false:=beq_eq_false_iff_ne.mpr c55
            have c55b1 : (((z0a l0_5 x3_1).f0) != 23) = true:=bne_iff_ne.mpr c55
            have H':=Aside0.mk H
            clear H
            have hnb63:=NB225_223.out
            have hnc63:=NB223_225.out
            have hcz64_0 : wc.cell? ⟨gb225,0,none⟩ = some (.int .i64 ((z0a l0_5 x3_1).f0)):=(z02 BK225.out 0).trans rfl
            have hcz64_1 : wc.cell? ⟨gb225,1,none⟩ = some (.int .i64 ((z0a l0_5 x3_1).f1)):=(z02 BK225.out 1).trans rfl
            have hcz64_2 : wc.cell? ⟨gb225,2,none⟩ = some (.int .i64 ((z0a l0_5 x3_1).f2)):=(z02 BK225.out 2).trans rfl
            have hcz64_3 : wc.cell? ⟨gb225,3,none⟩ = some (.int .i64 ((z0a l0_5 x3_1).f3)):=(z02 BK225.out 3).trans rfl
            have hcz64_4 : wc.cell? ⟨gb225,4,none⟩ = some (.int .u64 ((z0a l0_5 x3_1).f4)):=(z02 BK225.out 4).trans rfl
            have hfz64_0:=z01 BK225.out 0
            have hfz64_1:=z01 BK225.out 1
            have hfz64_2:=z01 BK225.out 2
            have hfz64_3:=z01 BK225.out 3
            have hfz64_4:=z01 BK225.out 4
            go_wp2
            go_roundg kj26
            case measure=>have:=HK1.out; have:=HJ5.out; have:=HJ26.out; omega
            case rel=>exact ⟨(wrap64 (x3_1 + 1)),(by first | rfl | (simp; done) | (simp [*]; done)),H',⟨by have:=HK1.out; have:=HJ5.out; have:=HJ26.out; omega⟩,⟨by (with_reducible repeat (first | refine z08 ?_ _ | refine z09 ?_ | refine z06 ?_ _)); exact BK223.out⟩,⟨by repeat (first | (with_reducible first | exact HB.out | apply z04 | apply z03 | apply z05 | refine z07 ?_ GE223.out | refine z07 ?_ GE225.out) | exact HB.out)⟩⟩
    ·rw [if_neg c4] at H
     exact absurd H (by simp)
   ·rw [if_neg c3] at H
    have c3b0 : decide (x3_1 < (l0_5.length : Int)) = false:=decide_eq_false c3
    clear c3
    obtain rfl:=Option.some.inj H
    have hcz65_0 : wr.cell? ⟨gb223,0,none⟩ = some (.int .i64 a0_0):=(z02 BK223.out 0).trans rfl
    have hcz65_1 : wr.cell? ⟨gb223,1,none⟩ = some (.int .i64 a0_1):=(z02 BK223.out 1).trans rfl
    have hcz65_2 : wr.cell? ⟨gb223,2,none⟩ = some (.int .i64 a0_2):=(z02 BK223.out 2).trans rfl
    have hcz65_3 : wr.cell? ⟨gb223,3,none⟩ = some (.slice A0_3 l0_3.length c0_3):=(z02 BK223.out 3).trans rfl
    have hcz65_4 : wr.cell? ⟨gb223,4,none⟩ = some (.slice A0_4 l0_4.length c0_4):=(z02 BK223.out 4).trans rfl
    have hcz65_5 : wr.cell? ⟨gb223,5,none⟩ = some (.slice A0_5 l0_5.length c0_5):=(z02 BK223.out 5).trans rfl
    have hfz65_0:=z01 BK223.out 0
    have hfz65_1:=z01 BK223.out 1
    have hfz65_2:=z01 BK223.out 2
    have hfz65_3:=z01 BK223.out 3
    have hfz65_4:=z01 BK223.out 4
    have hfz65_5:=z01 BK223.out 5
    go_wp2
    go_ret
    exact ⟨by first | rfl | (simp [z0i,z0h] <;> rfl) | (simp [*,z0i,z0h] <;> rfl),by repeat (first | (with_reducible first | exact HB.out | apply z04 | apply z03 | apply z05 | refine z07 ?_ GE223.out) | exact HB.out)⟩
end Go.Proofs.Ytcbnhfnnjkkceaa.X
end
