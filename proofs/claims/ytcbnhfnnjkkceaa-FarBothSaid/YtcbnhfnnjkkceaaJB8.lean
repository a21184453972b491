/- For the statement of the row : what its proof needs of the text B8. -/
import Derived.Test.YtcbnhfnnjkkceaaJB1
import Derived.Test.YtcbnhfnnjkkceaaJB2
import Derived.Test.YtcbnhfnnjkkceaaJB3
import Derived.Test.YtcbnhfnnjkkceaaJB4
import Derived.Test.YtcbnhfnnjkkceaaJB5
import Derived.Test.YtcbnhfnnjkkceaaJB6
import Derived.Test.YtcbnhfnnjkkceaaJB7
set_option linter.unusedSimpArgs false
set_option linter.unusedVariables false

section
namespace Go.Proofs.Ytcbnhfnnjkkceaa.X
open Go.RowKit Go.Proofs.YtcbnhfnnjkkceaaW.PrintWords Go.Proofs.YtcbnhfnnjkkceaaW.PrintLast Go.Proofs.YtcbnhfnnjkkceaaW.PrintMore
attribute [local go_sem] max2_int min2_int max_two min_two max_three min_three max_four min_four
mutual
def z0b.j0 : Nat → Bool → Int → Int → Int → List Int → List Int → List (S45) → Option (Int)
 | 0,_,_,_,_,_,_,_=>none
 | k + 1,x37,x231000,x231001,x231002,x231003,x231004,x231005=>if x37 = true then (some 3) else (z0b.l0 k 0 x231000 x231001 x231002 x231003 x231004 x231005)
def z0b.l0 : Nat → Int → Int → Int → Int → List Int → List Int → List (S45) → Option (Int)
 | 0,_,_,_,_,_,_,_=>none
 | k + 1,x3,x231000,x231001,x231002,x231003,x231004,x231005=>if x3 < (x231004.length : Int) then (if x3 = 0 then (if 0 ≤ x3 then (if (rd x231004 x3) = 0 then (if x3 > 0 then (if 0 ≤ (wrap64 (x3 - 1)) then (if (wrap64 (x3 - 1)) < (x231004.length : Int) then (if (rd x231004 x3) ≤ (rd x231004 (wrap64 (x3 - 1))) then (some 3) else (z0b.l0 k (wrap64 (x3 + 1)) x231000 x231001 x231002 x231003 x231004 x231005)) else (none)) else (none)) else (z0b.l0 k (wrap64 (x3 + 1)) x231000 x231001 x231002 x231003 x231004 x231005)) else (some 3)) else (none)) else (if x3 > 0 then (if 0 ≤ x3 then (if 0 ≤ (wrap64 (x3 - 1)) then (if (wrap64 (x3 - 1)) < (x231004.length : Int) then (if (rd x231004 x3) ≤ (rd x231004 (wrap64 (x3 - 1))) then (some 3) else (z0b.l0 k (wrap64 (x3 + 1)) x231000 x231001 x231002 x231003 x231004 x231005)) else (none)) else (none)) else (none)) else (z0b.l0 k (wrap64 (x3 + 1)) x231000 x231001 x231002 x231003 x231004 x231005))) else (if (x231005.length : Int) > 256 then (z0b.j2 k true x231000 x231001 x231002 x231003 x231004 x231005) else (if 0 ≤ (wrap64 ((x231004.length : Int) - 1)) then (if (wrap64 ((x231004.length : Int) - 1)) < (x231004.length : Int) then (z0b.j2 k (decide ((rd x231004 (wrap64 ((x231004.length : Int) - 1))) ≥ (x231005.length : Int))) x231000 x231001 x231002 x231003 x231004 x231005) else (none)) else (none)))
def z0b.j2 : Nat → Bool → Int → Int → Int → List Int → List Int → List (S45) → Option (Int)
 | 0,_,_,_,_,_,_,_=>none
 | k + 1,x90,x231000,x231001,x231002,x231003,x231004,x231005=>if x90 = true then (some 3) else (z0b.l1 k 0 x231000 x231001 x231002 x231003 x231004 x231005)
def z0b.l1 : Nat → Int → Int → Int → Int → List Int → List Int → List (S45) → Option (Int)
 | 0,_,_,_,_,_,_,_=>none
 | k + 1,x4,x231000,x231001,x231002,x231003,x231004,x231005=>if x4 < (x231005.length : Int) then (if 0 ≤ x4 then ((z0q.f k ((z0a x231005 x4).f0) ((z0a x231005 x4).f1) ((z0a x231005 x4).f2) ((z0a x231005 x4).f3) ((z0a x231005 x4).f4)).bind fun bt242=>(if bt242.2 = 0 then (z0b.l1 k (wrap64 (x4 + 1)) x231000 x231001 x231002 x231003 x231004 x231005) else (some bt242.2))) else (none)) else ((z0c.f k x231000 x231001 x231002 x231003 x231004 x231005).bind fun t246=>(if t246 ≥ 0 then (some 7) else (some 0)))
end
def z0b.f (k : Nat) (a0_0 : Int) (a0_1 : Int) (a0_2 : Int) (l0_3 : List Int) (l0_4 : List Int) (l0_5 : List (S45)) : Option (Int):=(z0k.f a0_0 0 64).bind fun t231=>(if t231 = true then ((z0k.f a0_1 0 16).bind fun t232=>(if t232 = true then ((z0k.f a0_2 0 16).bind fun t233=>(if t233 = true then (if (l0_3.length : Int) > a0_0 then (z0b.j0 k true a0_0 a0_1 a0_2 l0_3 l0_4 l0_5) else ((z0k.f (l0_4.length : Int) 1 16).bind fun t234=>(z0b.j0 k (!t234) a0_0 a0_1 a0_2 l0_3 l0_4 l0_5))) else (z0b.j0 k true a0_0 a0_1 a0_2 l0_3 l0_4 l0_5))) else (z0b.j0 k true a0_0 a0_1 a0_2 l0_3 l0_4 l0_5))) else (z0b.j0 k true a0_0 a0_1 a0_2 l0_3 l0_4 l0_5))
theorem z0b.mono_l : ∀ k,(∀ y0 y1 y2 y3 y4 y5 y6,LeO (z0b.j0 k y0 y1 y2 y3 y4 y5 y6) (z0b.j0 (k + 1) y0 y1 y2 y3 y4 y5 y6)) ∧ (∀ y0 y1 y2 y3 y4 y5 y6,LeO (z0b.l0 k y0 y1 y2 y3 y4 y5 y6) (z0b.l0 (k + 1) y0 y1 y2 y3 y4 y5 y6)) ∧ (∀ y0 y1 y2 y3 y4 y5 y6,LeO (z0b.j2 k y0 y1 y2 y3 y4 y5 y6) (z0b.j2 (k + 1) y0 y1 y2 y3 y4 y5 y6)) ∧ (∀ y0 y1 y2 y3 y4 y5 y6,LeO (z0b.l1 k y0 y1 y2 y3 y4 y5 y6) (z0b.l1 (k + 1) y0 y1 y2 y3 y4 y5 y6))
 | 0=>⟨fun _ _ _ _ _ _ _ r h=>by simp [z0b.j0] at h,fun _ _ _ _ _ _ _ r h=>by simp [z0b.l0] at h,fun _ _ _ _ _ _ _ r h=>by simp [z0b.j2] at h,fun _ _ _ _ _ _ _ r h=>by simp [z0b.l1] at h⟩
 | k + 1=>by
  obtain ⟨ih0,ih1,ih2,ih3⟩:=z0b.mono_l k
  refine ⟨?_,?_,?_,?_⟩
  ·intro y0 y1 y2 y3 y4 y5 y6
   unfold z0b.j0
   repeat' first
   | (with_reducible exact ih0 _ _ _ _ _ _ _)
   | (with_reducible exact ih1 _ _ _ _ _ _ _)
   | (with_reducible exact ih2 _ _ _ _ _ _ _)
   | (with_reducible exact ih3 _ _ _ _ _ _ _)
   | (with_reducible exact z0q.mono _ _ _ _ _ _)
   | (with_reducible exact z0c.mono _ _ _ _ _ _ _)
   | (with_reducible exact LeO.refl _)
   | (with_reducible exact LeO.none _)
   | (with_reducible refine LeO.ite ?_ ?_)
   | (with_reducible refine LeO.bind ?_ (fun _=>?_))
   | exact ih0 _ _ _ _ _ _ _
   | exact ih1 _ _ _ _ _ _ _
   | exact ih2 _ _ _ _ _ _ _
   | exact ih3 _ _ _ _ _ _ _
   | exact z0q.mono _ _ _ _ _ _
   | exact z0c.mono _ _ _ _ _ _ _
   | exact LeO.none _
   | refine LeO.ite ?_ ?_
   | refine LeO.bind ?_ (fun _=>?_)
  ·intro y0 y1 y2 y3 y4 y5 y6
   unfold z0b.l0
   repeat' first
   | (with_reducible exact ih0 _ _ _ _ _ _ _)
   | (with_reducible exact ih1 _ _ _ _ _ _ _)
   | (with_reducible exact ih2 _ _ _ _ _ _ _)
   | (with_reducible exact ih3 _ _ _ _ _ _ _)
   | (with_reducible exact z0q.mono _ _ _ _ _ _)
   | (with_reducible exact z0c.mono _ _ _ _ _ _ _)
   | (with_reducible exact LeO.refl _)
   | (with_reducible exact LeO.none _)
   | (with_reducible refine LeO.ite ?_ ?_)
   | (with_reducible refine LeO.bind ?_ (fun _=>?_))
   | exact ih0 _ _ _ _ _ _ _
   | exact ih1 _ _ _ _ _ _ _
   | exact ih2 _ _ _ _ _ _ _
   | exact ih3 _ _ _ _ _ _ _
   | exact z0q.mono _ _ _ _ _ _
   | exact z0c.mono _ _ _ _ _ _ _
   | exact LeO.none _
   | refine LeO.ite ?_ ?_
   | refine LeO.bind ?_ (fun _=>?_)
  ·intro y0 y1 y2 y3 y4 y5 y6
   unfold z0b.j2
   repeat' first
   | (with_reducible exact ih0 _ _ _ _ _ _ _)
   | (with_reducible exact ih1 _ _ _ _ _ _ _)
   | (with_reducible exact ih2 _ _ _ _ _ _ _)
   | (with_reducible exact ih3 _ _ _ _ _ _ _)
   | (with_reducible exact z0q.mono _ _ _ _ _ _)
   | (with_reducible exact z0c.mono _ _ _ _ _ _ _)
   | (with_reducible exact LeO.refl _)
   | (with_reducible exact LeO.none _)
   | (with_reducible refine LeO.ite ?_ ?_)
   | (with_reducible refine LeO.bind ?_ (fun _=>?_))
   | exact ih0 _ _ _ _ _ _ _
   | exact ih1 _ _ _ _ _ _ _
   | exact ih2 _ _ _ _ _ _ _
   | exact ih3 _ _ _ _ _ _ _
   | exact z0q.mono _ _ _ _ _ _
   | exact z0c.mono _ _ _ _ _ _ _
   | exact LeO.none _
   | refine LeO.ite ?_ ?_
   | refine LeO.bind ?_ (fun _=>?_)
  ·intro y0 y1 y2 y3 y4 y5 y6
   unfold z0b.l1
   repeat' first
   | (with_reducible exact ih0 _ _ _ _ _ _ _)
   | (with_reducible exact ih1 _ _ _ _ _ _ _)
   | (with_reducible exact ih2 _ _ _ _ _ _ _)
   | (with_reducible exact ih3 _ _ _ _ _ _ _)
   | (with_reducible exact z0q.mono _ _ _ _ _ _)
   | (with_reducible exact z0c.mono _ _ _ _ _ _ _)
   | (with_reducible exact LeO.refl _)
   | (with_reducible exact LeO.none _)
   | (with_reducible refine LeO.ite ?_ ?_)
   | (with_reducible refine LeO.bind ?_ (fun _=>?_))
   | exact ih0 _ _ _ _ _ _ _
   | exact ih1 _ _ _ _ _ _ _
   | exact ih2 _ _ _ _ _ _ _
   | exact ih3 _ _ _ _ _ _ _
   | exact z0q.mono _ _ _ _ _ _
   | exact z0c.mono _ _ _ _ _ _ _
   | exact LeO.none _
   | refine LeO.ite ?_ ?_
   | refine LeO.bind ?_ (fun _=>?_)
theorem z0b.mono : ∀ a0 a1 a2 a3 a4 a5 k,LeO (z0b.f k a0 a1 a2 a3 a4 a5) (z0b.f (k + 1) a0 a1 a2 a3 a4 a5):=by
 intro a0 a1 a2 a3 a4 a5 k
 obtain ⟨ih0,ih1,ih2,ih3⟩:=z0b.mono_l k
 unfold z0b.f
 repeat' first
   | (with_reducible exact ih0 _ _ _ _ _ _ _)
   | (with_reducible exact ih1 _ _ _ _ _ _ _)
   | (with_reducible exact ih2 _ _ _ _ _ _ _)
   | (with_reducible exact ih3 _ _ _ _ _ _ _)
   | (with_reducible exact z0q.mono _ _ _ _ _ _)
   | (with_reducible exact z0c.mono _ _ _ _ _ _ _)
   | (with_reducible exact LeO.refl _)
   | (with_reducible exact LeO.none _)
   | (with_reducible refine LeO.ite ?_ ?_)
   | (with_reducible refine LeO.bind ?_ (fun _=>?_))
   | exact ih0 _ _ _ _ _ _ _
   | exact ih1 _ _ _ _ _ _ _
   | exact ih2 _ _ _ _ _ _ _
   | exact ih3 _ _ _ _ _ _ _
   | exact z0q.mono _ _ _ _ _ _
   | exact z0c.mono _ _ _ _ _ _ _
   | exact LeO.none _
   | refine LeO.ite ?_ ?_
   | refine LeO.bind ?_ (fun _=>?_)
set_option maxHeartbeats 8000000 in
set_option maxRecDepth 100000 in
theorem z0b.calls (k : Nat) (a0_0 : Int) (a0_1 : Int) (a0_2 : Int) (A0_3 : Option Addr) (c0_3 : Nat) (l0_3 : List Int) (A0_4 : Option Addr) (c0_4 : Nat) (l0_4 : List Int) (A0_5 : Option Addr) (c0_5 : Nat) (l0_5 : List (S45)) (r : Int) (w : World) (hr0_3 : Kd.C (Kd.int .u8) w A0_3 l0_3.length l0_3) (hc0_3 : l0_3.length ≤ c0_3) (hr0_4 : Kd.C (Kd.int .i64) w A0_4 l0_4.length l0_4) (hc0_4 : l0_4.length ≤ c0_4) (hr0_5 : Kd.C k45 w A0_5 l0_5.length l0_5) (hc0_5 : l0_5.length ≤ c0_5) (h : z0b.f k a0_0 a0_1 a0_2 l0_3 l0_4 l0_5 = some r) :
  Calls Try.prog 39 #[.agg #[.int .i64 a0_0,.int .i64 a0_1,.int .i64 a0_2,.slice A0_3 l0_3.length c0_3,.slice A0_4 l0_4.length c0_4,.slice A0_5 l0_5.length c0_5]] w fun e w'=>e = .returned (.int .i64 r) ∧ Below w.heap.size w w':=by
 have hu26:=Try.underlying26
 have hu45:=Try.underlying45
 have HR0_3:=Aside0.mk hr0_3
 have HC0_3:=Aside0.mk hc0_3
 clear hr0_3 hc0_3
 have HR0_4:=Aside0.mk hr0_4
 have HC0_4:=Aside0.mk hc0_4
 clear hr0_4 hc0_4
 have HR0_5:=Aside0.mk hr0_5
 have HC0_5:=Aside0.mk hc0_5
 clear hr0_5 hc0_5
 have HB:=Aside0.mk (Below.refl w.heap.size w)
 have H : ((z0k.f a0_0 0 64).bind fun t231=>(if t231 = true then ((z0k.f a0_1 0 16).bind fun t232=>(if t232 = true then ((z0k.f a0_2 0 16).bind fun t233=>(if t233 = true then (if (l0_3.length : Int) > a0_0 then (z0b.j0 k true a0_0 a0_1 a0_2 l0_3 l0_4 l0_5) else ((z0k.f (l0_4.length : Int) 1 16).bind fun t234=>(z0b.j0 k (!t234) a0_0 a0_1 a0_2 l0_3 l0_4 l0_5))) else (z0b.j0 k true a0_0 a0_1 a0_2 l0_3 l0_4 l0_5))) else (z0b.j0 k true a0_0 a0_1 a0_2 l0_3 l0_4 l0_5))) else (z0b.j0 k true a0_0 a0_1 a0_2 l0_3 l0_4 l0_5))) = some r:=h
 clear h
 have HC2:=Aside0.mk H
 clear H
 go_enter Try.func39,Try.ntmps39
 go_upto_region 1 with (first | ((with_reducible refine z10 (N:=1) rfl ?_); (try (refine gate_guard (by rfl) ?_; dsimp only)); refine box_event ?hg (N:=1) ?hd (cs:=#[.int .i64 a0_0,.int .i64 a0_1,.int .i64 a0_2,.slice A0_3 l0_3.length c0_3,.slice A0_4 l0_4.length c0_4,.slice A0_5 l0_5.length c0_5]) (t:=26) ?hr ?_; (case hd=>rfl); (case hg=>rfl); (case hr=>first | (go_simp; done) | (go_simp; rfl)); intro gb230 hg w3 hbox hb; have n0_:=Aside0.mk (z0s (by repeat (first | (with_reducible first | exact HB.out | apply z04 | apply z03 | apply z05) | exact HB.out)) hb); have n1_:=Aside0.mk (hbox); have n2_:=Aside0.mk ((by rw [hg]; exact (z0l (by repeat (first | (with_reducible first | exact HB.out | apply z04 | apply z03 | apply z05) | exact HB.out))) : w.heap.size ≤ gb230)); have n3_:=Aside0.mk ((by rw [hg]; exact (z0l (by repeat (first | (with_reducible first | exact HB.out | apply z04 | apply z03 | apply z05) | exact HB.out))) : w.heap.size ≤ gb230)); clear HB; have HB:=n0_; have BK230:=n1_; have GW230:=n2_; have GE230:=n3_; clear n0_ n1_ n2_ n3_; clear hb hbox hg))
 repeat (go_quiet (first | ((with_reducible refine z10 (N:=1) rfl ?_); (try (refine gate_guard (by rfl) ?_; dsimp only)); refine box_event ?hg (N:=1) ?hd (cs:=#[.int .i64 a0_0,.int .i64 a0_1,.int .i64 a0_2,.slice A0_3 l0_3.length c0_3,.slice A0_4 l0_4.length c0_4,.slice A0_5 l0_5.length c0_5]) (t:=26) ?hr ?_; (case hd=>rfl); (case hg=>rfl); (case hr=>first | (go_simp; done) | (go_simp; rfl)); intro gb230 hg w3 hbox hb; have n0_:=Aside0.mk (z0s (by repeat (first | (with_reducible first | exact HB.out | apply z04 | apply z03 | apply z05) | exact HB.out)) hb); have n1_:=Aside0.mk (hbox); have n2_:=Aside0.mk ((by rw [hg]; exact (z0l (by repeat (first | (with_reducible first | exact HB.out | apply z04 | apply z03 | apply z05) | exact HB.out))) : w.heap.size ≤ gb230)); have n3_:=Aside0.mk ((by rw [hg]; exact (z0l (by repeat (first | (with_reducible first | exact HB.out | apply z04 | apply z03 | apply z05) | exact HB.out))) : w.heap.size ≤ gb230)); clear HB; have HB:=n0_; have BK230:=n1_; have GW230:=n2_; have GE230:=n3_; clear n0_ n1_ n2_ n3_; clear hb hbox hg)); go_upto_region 1 with (first | ((with_reducible refine z10 (N:=1) rfl ?_); (try (refine gate_guard (by rfl) ?_; dsimp only)); refine box_event ?hg (N:=1) ?hd (cs:=#[.int .i64 a0_0,.int .i64 a0_1,.int .i64 a0_2,.slice A0_3 l0_3.length c0_3,.slice A0_4 l0_4.length c0_4,.slice A0_5 l0_5.length c0_5]) (t:=26) ?hr ?_; (case hd=>rfl); (case hg=>rfl); (case hr=>first | (go_simp; done) | (go_simp; rfl)); intro gb230 hg w3 hbox hb; have n0_:=Aside0.mk (z0s (by repeat (first | (with_reducible first | exact HB.out | apply z04 | apply z03 | apply z05) | exact HB.out)) hb); have n1_:=Aside0.mk (hbox); have n2_:=Aside0.mk ((by rw [hg]; exact (z0l (by repeat (first | (with_reducible first | exact HB.out | apply z04 | apply z03 | apply z05) | exact HB.out))) : w.heap.size ≤ gb230)); have n3_:=Aside0.mk ((by rw [hg]; exact (z0l (by repeat (first | (with_reducible first | exact HB.out | apply z04 | apply z03 | apply z05) | exact HB.out))) : w.heap.size ≤ gb230)); clear HB; have HB:=n0_; have BK230:=n1_; have GW230:=n2_; have GE230:=n3_; clear n0_ n1_ n2_ n3_; clear hb hbox hg)))
 (try simp only [Act.put,zq1,zq2,zq3])
 go_cut [37] (fun v37 wc=>∃ (kq : Nat) (x37_1 : Bool),v37 = .bool x37_1 ∧ Aside0 (z0b.j0 kq x37_1 a0_0 a0_1 a0_2 l0_3 l0_4 l0_5 = some r) ∧ Aside0 (kq ≤ k) ∧ Aside0 (wc.heap[gb230]? = some (.cells #[.int .i64 a0_0,.int .i64 a0_1,.int .i64 a0_2,(.slice A0_3 l0_3.length c0_3),(.slice A0_4 l0_4.length c0_4),(.slice A0_5 l0_5.length c0_5)] 26 (0,0))) ∧ Aside0 (Below w.heap.size w wc))
 case first =>
  have H:=HC2.out
  clear HC2
  replace H:=Option.bind_eq_some_iff.mp H
  obtain ⟨t231,A40,H⟩:=H
  replace H : (if t231 = true then ((z0k.f a0_1 0 16).bind fun t232=>(if t232 = true then ((z0k.f a0_2 0 16).bind fun t233=>(if t233 = true then (if (l0_3.length : Int) > a0_0 then (z0b.j0 k true a0_0 a0_1 a0_2 l0_3 l0_4 l0_5) else ((z0k.f (l0_4.length : Int) 1 16).bind fun t234=>(z0b.j0 k (!t234) a0_0 a0_1 a0_2 l0_3 l0_4 l0_5))) else (z0b.j0 k true a0_0 a0_1 a0_2 l0_3 l0_4 l0_5))) else (z0b.j0 k true a0_0 a0_1 a0_2 l0_3 l0_4 l0_5))) else (z0b.j0 k true a0_0 a0_1 a0_2 l0_3 l0_4 l0_5)) = some r:=H
  have A4:=Aside0.mk A40
  clear A40
  by_cases c5 : t231 = true
  ·subst c5
   have H1 : ((z0k.f a0_1 0 16).bind fun t232=>(if t232 = true then ((z0k.f a0_2 0 16).bind fun t233=>(if t233 = true then (if (l0_3.length : Int) > a0_0 then (z0b.j0 k true a0_0 a0_1 a0_2 l0_3 l0_4 l0_5) else ((z0k.f (l0_4.length : Int) 1 16).bind fun t234=>(z0b.j0 k (!t234) a0_0 a0_1 a0_2 l0_3 l0_4 l0_5))) else (z0b.j0 k true a0_0 a0_1 a0_2 l0_3 l0_4 l0_5))) else (z0b.j0 k true a0_0 a0_1 a0_2 l0_3 l0_4 l0_5))) = some r:=by rw [if_pos rfl] at H; exact H
   clear H
   have H:=H1
   clear H1
   replace H:=Option.bind_eq_some_iff.mp H
   obtain ⟨t232,A60,H⟩:=H
   replace H : (if t232 = true then ((z0k.f a0_2 0 16).bind fun t233=>(if t233 = true then (if (l0_3.length : Int) > a0_0 then (z0b.j0 k true a0_0 a0_1 a0_2 l0_3 l0_4 l0_5) else ((z0k.f (l0_4.length : Int) 1 16).bind fun t234=>(z0b.j0 k (!t234) a0_0 a0_1 a0_2 l0_3 l0_4 l0_5))) else (z0b.j0 k true a0_0 a0_1 a0_2 l0_3 l0_4 l0_5))) else (z0b.j0 k true a0_0 a0_1 a0_2 l0_3 l0_4 l0_5)) = some r:=H
   have A6:=Aside0.mk A60
   clear A60
   by_cases c7 : t232 = true
   ·subst c7
    have H1 : ((z0k.f a0_2 0 16).bind fun t233=>(if t233 = true then (if (l0_3.length : Int) > a0_0 then (z0b.j0 k true a0_0 a0_1 a0_2 l0_3 l0_4 l0_5) else ((z0k.f (l0_4.length : Int) 1 16).bind fun t234=>(z0b.j0 k (!t234) a0_0 a0_1 a0_2 l0_3 l0_4 l0_5))) else (z0b.j0 k true a0_0 a0_1 a0_2 l0_3 l0_4 l0_5))) = some r:=by rw [if_pos rfl] at H; exact H
    clear H
    have H:=H1
    clear H1
    replace H:=Option.bind_eq_some_iff.mp H
    obtain ⟨t233,A80,H⟩:=H
    replace H : (if t233 = true then (if (l0_3.length : Int) > a0_0 then (z0b.j0 k true a0_0 a0_1 a0_2 l0_3 l0_4 l0_5) else ((z0k.f (l0_4.length : Int) 1 16).bind fun t234=>(z0b.j0 k (!t234) a0_0 a0_1 a0_2 l0_3 l0_4 l0_5))) else (z0b.j0 k true a0_0 a0_1 a0_2 l0_3 l0_4 l0_5)) = some r:=H
    have A8:=Aside0.mk A80
    clear A80
    by_cases c9 : t233 = true
    ·subst c9
     have H1 : (if (l0_3.length : Int) > a0_0 then (z0b.j0 k true a0_0 a0_1 a0_2 l0_3 l0_4 l0_5) else ((z0k.f (l0_4.length : Int) 1 16).bind fun t234=>(z0b.j0 k (!t234) a0_0 a0_1 a0_2 l0_3 l0_4 l0_5))) = some r:=by rw [if_pos rfl] at H; exact H
     clear H
     have H:=H1
     clear H1
     by_cases c10 : (l0_3.length : Int) > a0_0
     ·rw [if_pos c10] at H
      have c10b0 : decide (a0_0 < (l0_3.length : Int)) = true:=decide_eq_true c10
      clear c10
      (first | rw [c10b0] | (simp only [i64_w,i32_w]; rw [c10b0]) | skip)
      have H':=Aside0.mk H
      clear H
      have hcz11_0 : w3.cell? ⟨gb230,0,none⟩ = some (.int .i64 a0_0):=(z02 BK230.out 0).trans rfl
      have hcz11_1 : w3.cell? ⟨gb230,1,none⟩ = some (.int .i64 a0_1):=(z02 BK230.out 1).trans rfl
      have hcz11_2 : w3.cell? ⟨gb230,2,none⟩ = some (.int .i64 a0_2):=(z02 BK230.out 2).trans rfl
      have hcz11_3 : w3.cell? ⟨gb230,3,none⟩ = some (.slice A0_3 l0_3.length c0_3):=(z02 BK230.out 3).trans rfl
      have hcz11_4 : w3.cell? ⟨gb230,4,none⟩ = some (.slice A0_4 l0_4.length c0_4):=(z02 BK230.out 4).trans rfl
      have hcz11_5 : w3.cell? ⟨gb230,5,none⟩ = some (.slice A0_5 l0_5.length c0_5):=(z02 BK230.out 5).trans rfl
      have hfz11_0:=z01 BK230.out 0
      have hfz11_1:=z01 BK230.out 1
      have hfz11_2:=z01 BK230.out 2
      have hfz11_3:=z01 BK230.out 3
      have hfz11_4:=z01 BK230.out 4
      have hfz11_5:=z01 BK230.out 5
      go_wp2_with (first | (go_at_call 56; (with_reducible refine (z0k.calls a0_0 0 64 true _ A4.out).mono ?_); rintro e w' ⟨rfl,⟨nd,rfl⟩⟩; (try first | exact ⟨rfl,_,World.drewN_drewN _ _ _⟩ | exact ⟨rfl,_,Eq.trans (World.drewN_drewN _ _ _) (congrArg (World.drewN _) (Nat.add_assoc _ _ _))⟩)) | (go_at_call 56; (with_reducible refine (z0k.calls a0_1 0 16 true _ A6.out).mono ?_); rintro e w' ⟨rfl,⟨nd,rfl⟩⟩; (try first | exact ⟨rfl,_,World.drewN_drewN _ _ _⟩ | exact ⟨rfl,_,Eq.trans (World.drewN_drewN _ _ _) (congrArg (World.drewN _) (Nat.add_assoc _ _ _))⟩)) | (go_at_call 56; (with_reducible refine (z0k.calls a0_2 0 16 true _ A8.out).mono ?_); rintro e w' ⟨rfl,⟨nd,rfl⟩⟩; (try first | exact ⟨rfl,_,World.drewN_drewN _ _ _⟩ | exact ⟨rfl,_,Eq.trans (World.drewN_drewN _ _ _) (congrArg (World.drewN _) (Nat.add_assoc _ _ _))⟩)))
      repeat (go_quiet (first | (go_at_call 56; (with_reducible refine (z0k.calls a0_0 0 64 true _ A4.out).mono ?_); rintro e w' ⟨rfl,⟨nd,rfl⟩⟩; (try first | exact ⟨rfl,_,World.drewN_drewN _ _ _⟩ | exact ⟨rfl,_,Eq.trans (World.drewN_drewN _ _ _) (congrArg (World.drewN _) (Nat.add_assoc _ _ _))⟩)) | (go_at_call 56; (with_reducible refine (z0k.calls a0_1 0 16 true _ A6.out).mono ?_); rintro e w' ⟨rfl,⟨nd,rfl⟩⟩; (try first | exact ⟨rfl,_,World.drewN_drewN _ _ _⟩ | exact ⟨rfl,_,Eq.trans (World.drewN_drewN _ _ _) (congrArg (World.drewN _) (Nat.add_assoc _ _ _))⟩)) | (go_at_call 56; (with_reducible refine (z0k.calls a0_2 0 16 true _ A8.out).mono ?_); rintro e w' ⟨rfl,⟨nd,rfl⟩⟩; (try first | exact ⟨rfl,_,World.drewN_drewN _ _ _⟩ | exact ⟨rfl,_,Eq.trans (World.drewN_drewN _ _ _) (congrArg (World.drewN _) (Nat.add_assoc _ _ _))⟩))); try go_wp2_with (first | (go_at_call 56; (with_reducible refine (z0k.calls a0_0 0 64 true _ A4.out).mono ?_); rintro e w' ⟨rfl,⟨nd,rfl⟩⟩; (try first | exact ⟨rfl,_,World.drewN_drewN _ _ _⟩ | exact ⟨rfl,_,Eq.trans (World.drewN_drewN _ _ _) (congrArg (World.drewN _) (Nat.add_assoc _ _ _))⟩)) | (go_at_call 56; (with_reducible refine (z0k.calls a0_1 0 16 true _ A6.out).mono ?_); rintro e w' ⟨rfl,⟨nd,rfl⟩⟩; (try first | exact ⟨rfl,_,World.drewN_drewN _ _ _⟩ | exact ⟨rfl,_,Eq.trans (World.drewN_drewN _ _ _) (congrArg (World.drewN _) (Nat.add_assoc _ _ _))⟩)) | (go_at_call 56; (with_reducible refine (z0k.calls a0_2 0 16 true _ A8.out).mono ?_); rintro e w' ⟨rfl,⟨nd,rfl⟩⟩; (try first | exact ⟨rfl,_,World.drewN_drewN _ _ _⟩ | exact ⟨rfl,_,Eq.trans (World.drewN_drewN _ _ _) (congrArg (World.drewN _) (Nat.add_assoc _ _ _))⟩))))
      go_meet
      case rel=>exact ⟨_,(true),(by first | rfl | (simp; done) | (simp [*]; done)),H',⟨by first | omega | exact Nat.le_refl _⟩,⟨by (with_reducible repeat (first | refine z08 ?_ _ | refine z09 ?_ | refine z06 ?_ _)); exact BK230.out⟩,⟨by repeat (first | (with_reducible first | exact HB.out | apply z04 | apply z03 | apply z05 | refine z07 ?_ GE230.out) | exact HB.out)⟩⟩
     ·rw [if_neg c10] at H
      have c10b0 : decide (a0_0 < (l0_3.length : Int)) = false:=decide_eq_false c10
      clear c10
      (first | rw [c10b0] | (simp only [i64_w,i32_w]; rw [c10b0]) | skip)
      replace H:=Option.bind_eq_some_iff.mp H
      obtain ⟨t234,A120,H⟩:=H
      replace H : (z0b.j0 k (!t234) a0_0 a0_1 a0_2 l0_3 l0_4 l0_5) = some r:=H
      have A12:=Aside0.mk A120
      clear A120
      have H':=Aside0.mk H
      clear H
      have hcz13_0 : w3.cell? ⟨gb230,0,none⟩ = some (.int .i64 a0_0):=(z02 BK230.out 0).trans rfl
      have hcz13_1 : w3.cell? ⟨gb230,1,none⟩ = some (.int .i64 a0_1):=(z02 BK230.out 1).trans rfl
      have hcz13_2 : w3.cell? ⟨gb230,2,none⟩ = some (.int .i64 a0_2):=(z02 BK230.out 2).trans rfl
      have hcz13_3 : w3.cell? ⟨gb230,3,none⟩ = some (.slice A0_3 l0_3.length c0_3):=(z02 BK230.out 3).trans rfl
      have hcz13_4 : w3.cell? ⟨gb230,4,none⟩ = some (.slice A0_4 l0_4.length c0_4):=(z02 BK230.out 4).trans rfl
      have hcz13_5 : w3.cell? ⟨gb230,5,none⟩ = some (.slice A0_5 l0_5.length c0_5):=(z02 BK230.out 5).trans rfl
      have hfz13_0:=z01 BK230.out 0
      have hfz13_1:=z01 BK230.out 1
      have hfz13_2:=z01 BK230.out 2
      have hfz13_3:=z01 BK230.out 3
      have hfz13_4:=z01 BK230.out 4
      have hfz13_5:=z01 BK230.out 5
      go_wp2_with (first | (go_at_call 56; (with_reducible refine (z0k.calls a0_0 0 64 true _ A4.out).mono ?_); rintro e w' ⟨rfl,⟨nd,rfl⟩⟩; (try first | exact ⟨rfl,_,World.drewN_drewN _ _ _⟩ | exact ⟨rfl,_,Eq.trans (World.drewN_drewN _ _ _) (congrArg (World.drewN _) (Nat.add_assoc _ _ _))⟩)) | (go_at_call 56; (with_reducible refine (z0k.calls a0_1 0 16 true _ A6.out).mono ?_); rintro e w' ⟨rfl,⟨nd,rfl⟩⟩; (try first | exact ⟨rfl,_,World.drewN_drewN _ _ _⟩ | exact ⟨rfl,_,Eq.trans (World.drewN_drewN _ _ _) (congrArg (World.drewN _) (Nat.add_assoc _ _ _))⟩)) | (go_at_call 56; (with_reducible refine (z0k.calls a0_2 0 16 true _ A8.out).mono ?_); rintro e w' ⟨rfl,⟨nd,rfl⟩⟩; (try first | exact ⟨rfl,_,World.drewN_drewN _ _ _⟩ | exact ⟨rfl,_,Eq.trans (World.drewN_drewN _ _ _) (congrArg (World.drewN _) (Nat.add_assoc _ _ _))⟩)) | (go_at_call 56; (with_reducible refine (z0k.calls (l0_4.length : Int) 1 16 t234 _ A12.out).mono ?_); rintro e w' ⟨rfl,⟨nd,rfl⟩⟩; (try first | exact ⟨rfl,_,World.drewN_drewN _ _ _⟩ | exact ⟨rfl,_,Eq.trans (World.drewN_drewN _ _ _) (congrArg (World.drewN _) (Nat.add_assoc _ _ _))⟩)))
      repeat (go_quiet (first | (go_at_call 56; (with_reducible refine (z0k.calls a0_0 0 64 true _ A4.out).mono ?_); rintro e w' ⟨rfl,⟨nd,rfl⟩⟩; (try first | exact ⟨rfl,_,World.drewN_drewN _ _ _⟩ | exact ⟨rfl,_,Eq.trans (World.drewN_drewN _ _ _) (congrArg (World.drewN _) (Nat.add_assoc _ _ _))⟩)) | (go_at_call 56; (with_reducible refine (z0k.calls a0_1 0 16 true _ A6.out).mono ?_); rintro e w' ⟨rfl,⟨nd,rfl⟩⟩; (try first | exact ⟨rfl,_,World.drewN_drewN _ _ _⟩ | exact ⟨rfl,_,Eq.trans (World.drewN_drewN _ _ _) (congrArg (World.drewN _) (Nat.add_assoc _ _ _))⟩)) | (go_at_call 56; (with_reducible refine (z0k.calls a0_2 0 16 true _ A8.out).mono ?_); rintro e w' ⟨rfl,⟨nd,rfl⟩⟩; (try first | exact ⟨rfl,_,World.drewN_drewN _ _ _⟩ | exact ⟨rfl,_,Eq.trans (World.drewN_drewN _ _ _) (congrArg (World.drewN _) (Nat.add_assoc _ _ _))⟩)) | (go_at_call 56; (with_reducible refine (z0k.calls (l0_4.length : Int) 1 16 t234 _ A12.out).mono ?_); rintro e w' ⟨rfl,⟨nd,rfl⟩⟩; (try first | exact ⟨rfl,_,World.drewN_drewN _ _ _⟩ | exact ⟨rfl,_,Eq.trans (World.drewN_drewN _ _ _) (congrArg (World.drewN _) (Nat.add_assoc _ _ _))⟩))); try go_wp2_with (first | (go_at_call 56; (with_reducible refine (z0k.calls a0_0 0 64 true _ A4.out).mono ?_); rintro e w' ⟨rfl,⟨nd,rfl⟩⟩; (try first | exact ⟨rfl,_,World.drewN_drewN _ _ _⟩ | exact ⟨rfl,_,Eq.trans (World.drewN_drewN _ _ _) (congrArg (World.drewN _) (Nat.add_assoc _ _ _))⟩)) | (go_at_call 56; (with_reducible refine (z0k.calls a0_1 0 16 true _ A6.out).mono ?_); rintro e w' ⟨rfl,⟨nd,rfl⟩⟩; (try first | exact ⟨rfl,_,World.drewN_drewN _ _ _⟩ | exact ⟨rfl,_,Eq.trans (World.drewN_drewN _ _ _) (congrArg (World.drewN _) (Nat.add_assoc _ _ _))⟩)) | (go_at_call 56; (with_reducible refine (z0k.calls a0_2 0 16 true _ A8.out).mono ?_); rintro e w' ⟨rfl,⟨nd,rfl⟩⟩; (try first | exact ⟨rfl,_,World.drewN_drewN _ _ _⟩ | exact ⟨rfl,_,Eq.trans (World.drewN_drewN _ _ _) (congrArg (World.drewN _) (Nat.add_assoc _ _ _))⟩)) | (go_at_call 56; (with_reducible refine (z0k.calls (l0_4.length : Int) 1 16 t234 _ A12.out).mono ?_); rintro e w' ⟨rfl,⟨nd,rfl⟩⟩; (try first | exact ⟨rfl,_,World.drewN_drewN _ _ _⟩ | exact ⟨rfl,_,Eq.trans (World.drewN_drewN _ _ _) (congrArg (World.drewN _) (Nat.add_assoc _ _ _))⟩))))
      go_meet
      case rel=>exact ⟨_,(!t234),(by first | rfl | (simp; done) | (simp [*]; done)),H',⟨by first | omega | exact Nat.le_refl _⟩,⟨by (with_reducible repeat (first | refine z08 ?_ _ | refine z09 ?_ | refine z06 ?_ _)); exact BK230.out⟩,⟨by repeat (first | (with_reducible first | exact HB.out | apply z04 | apply z03 | apply z05 | refine z07 ?_ GE230.out) | exact HB.out)⟩⟩
    ·replace c9:=Bool.eq_false_iff.mpr c9
     subst c9
     have H1 : (z0b.j0 k true a0_0 a0_1 a0_2 l0_3 l0_4 l0_5) = some r:=by rw [if_neg (show ¬ (false = true) by decide)] at H; exact H
     clear H
     have H:=H1
     clear H1
     have H':=Aside0.mk H
     clear H
     have hcz14_0 : w3.cell? ⟨gb230,0,none⟩ = some (.int .i64 a0_0):=(z02 BK230.out 0).trans rfl
     have hcz14_1 : w3.cell? ⟨gb230,1,none⟩ = some (.int .i64 a0_1):=(z02 BK230.out 1).trans rfl
     have hcz14_2 : w3.cell? ⟨gb230,2,none⟩ = some (.int .i64 a0_2):=(z02 BK230.out 2).trans rfl
     have hcz14_3 : w3.cell? ⟨gb230,3,none⟩ = some (.slice A0_3 l0_3.length c0_3):=(z02 BK230.out 3).trans rfl
     have hcz14_4 : w3.cell? ⟨gb230,4,none⟩ = some (.slice A0_4 l0_4.length c0_4):=(z02 BK230.out 4).trans rfl
     have hcz14_5 : w3.cell? ⟨gb230,5,none⟩ = some (.slice A0_5 l0_5.length c0_5):=(z02 BK230.out 5).trans rfl
     have hfz14_0:=z01 BK230.out 0
     have hfz14_1:=z01 BK230.out 1
     have hfz14_2:=z01 BK230.out 2
     have hfz14_3:=z01 BK230.out 3
     have hfz14_4:=z01 BK230.out 4
     have hfz14_5:=z01 BK230.out 5
     go_wp2_with (first | (go_at_call 56; (with_reducible refine (z0k.calls a0_0 0 64 true _ A4.out).mono ?_); rintro e w' ⟨rfl,⟨nd,rfl⟩⟩; (try first | exact ⟨rfl,_,World.drewN_drewN _ _ _⟩ | exact ⟨rfl,_,Eq.trans (World.drewN_drewN _ _ _) (congrArg (World.drewN _) (Nat.add_assoc _ _ _))⟩)) | (go_at_call 56; (with_reducible refine (z0k.calls a0_1 0 16 true _ A6.out).mono ?_); rintro e w' ⟨rfl,⟨nd,rfl⟩⟩; (try first | exact ⟨rfl,_,World.drewN_drewN _ _ _⟩ | exact ⟨rfl,_,Eq.trans (World.drewN_drewN _ _ _) (congrArg (World.drewN _) (Nat.add_assoc _ _ _))⟩)) | (go_at_call 56; (with_reducible refine (z0k.calls a0_2 0 16 false _ A8.out).mono ?_); rintro e w' ⟨rfl,⟨nd,rfl⟩⟩; (try first | exact ⟨rfl,_,World.drewN_drewN _ _ _⟩ | exact ⟨rfl,_,Eq.trans (World.drewN_drewN _ _ _) (congrArg (World.drewN _) (Nat.add_assoc _ _ _))⟩)))
     repeat (go_quiet (first | (go_at_call 56; (with_reducible refine (z0k.calls a0_0 0 64 true _ A4.out).mono ?_); rintro e w' ⟨rfl,⟨nd,rfl⟩⟩; (try first | exact ⟨rfl,_,World.drewN_drewN _ _ _⟩ | exact ⟨rfl,_,Eq.trans (World.drewN_drewN _ _ _) (congrArg (World.drewN _) (Nat.add_assoc _ _ _))⟩)) | (go_at_call 56; (with_reducible refine (z0k.calls a0_1 0 16 true _ A6.out).mono ?_); rintro e w' ⟨rfl,⟨nd,rfl⟩⟩; (try first | exact ⟨rfl,_,World.drewN_drewN _ _ _⟩ | exact ⟨rfl,_,Eq.trans (World.drewN_drewN _ _ _) (congrArg (World.drewN _) (Nat.add_assoc _ _ _))⟩)) | (go_at_call 56; (with_reducible refine (z0k.calls a0_2 0 16 false _ A8.out).mono ?_); rintro e w' ⟨rfl,⟨nd,rfl⟩⟩; (try first | exact ⟨rfl,_,World.drewN_drewN _ _ _⟩ | exact ⟨rfl,_,Eq.trans (World.drewN_drewN _ _ _) (congrArg (World.drewN _) (Nat.add_assoc _ _ _))⟩))); try go_wp2_with (first | (go_at_call 56; (with_reducible refine (z0k.calls a0_0 0 64 true _ A4.out).mono ?_); rintro e w' ⟨rfl,⟨nd,rfl⟩⟩; (try first | exact ⟨rfl,_,World.drewN_drewN _ _ _⟩ | exact ⟨rfl,_,Eq.trans (World.drewN_drewN _ _ _) (congrArg (World.drewN _) (Nat.add_assoc _ _ _))⟩)) | (go_at_call 56; (with_reducible refine (z0k.calls a0_1 0 16 true _ A6.out).mono ?_); rintro e w' ⟨rfl,⟨nd,rfl⟩⟩; (try first | exact ⟨rfl,_,World.drewN_drewN _ _ _⟩ | exact ⟨rfl,_,Eq.trans (World.drewN_drewN _ _ _) (congrArg (World.drewN _) (Nat.add_assoc _ _ _))⟩)) | (go_at_call 56; (with_reducible refine (z0k.calls a0_2 0 16 false _ A8.out).mono ?_); rintro e w' ⟨rfl,⟨nd,rfl⟩⟩; (try first | exact ⟨rfl,_,World.drewN_drewN _ _ _⟩ | exact ⟨rfl,_,Eq.trans (World.drewN_drewN _ _ _) (congrArg (World.drewN _) (Nat.add_assoc _ _ _))⟩))))
     go_meet
     case rel=>exact ⟨_,(true),(by first | rfl | (simp; done) | (simp [*]; done)),H',⟨by first | omega | exact Nat.le_refl _⟩,⟨by (with_reducible repeat (first | refine z08 ?_ _ | refine z09 ?_ | refine z06 ?_ _)); exact BK230.out⟩,⟨by repeat (first | (with_reducible first | exact HB.out | apply z04 | apply z03 | apply z05 | refine z07 ?_ GE230.out) | exact HB.out)⟩⟩
   ·replace c7:=Bool.eq_false_iff.mpr c7
    subst c7
    have H1 : (z0b.j0 k true a0_0 a0_1 a0_2 l0_3 l0_4 l0_5) = some r:=by rw [if_neg (show ¬ (false = true) by decide)] at H; exact H
    clear H
    have H:=H1
    clear H1
    have H':=Aside0.mk H
    clear H
    have hcz15_0 : w3.cell? ⟨gb230,0,none⟩ = some (.int .i64 a0_0):=(z02 BK230.out 0).trans rfl
    have hcz15_1 : w3.cell? ⟨gb230,1,none⟩ = some (.int .i64 a0_1):=(z02 BK230.out 1).trans rfl
    have hcz15_2 : w3.cell? ⟨gb230,2,none⟩ = some (.int .i64 a0_2):=(z02 BK230.out 2).trans rfl
    have hcz15_3 : w3.cell? ⟨gb230,3,none⟩ = some (.slice A0_3 l0_3.length c0_3):=(z02 BK230.out 3).trans rfl
    have hcz15_4 : w3.cell? ⟨gb230,4,none⟩ = some (.slice A0_4 l0_4.length c0_4):=(z02 BK230.out 4).trans rfl
    have hcz15_5 : w3.cell? ⟨gb230,5,none⟩ = some (.slice A0_5 l0_5.length c0_5):=(z02 BK230.out 5).trans rfl
    have hfz15_0:=z01 BK230.out 0
    have hfz15_1:=z01 BK230.out 1
    have hfz15_2:=z01 BK230.out 2
    have hfz15_3:=z01 BK230.out 3
    have hfz15_4:=z01 BK230.out 4
    have hfz15_5:=z01 BK230.out 5
    go_wp2_with (first | (go_at_call 56; (with_reducible refine (z0k.calls a0_0 0 64 true _ A4.out).mono ?_); rintro e w' ⟨rfl,⟨nd,rfl⟩⟩; (try first | exact ⟨rfl,_,World.drewN_drewN _ _ _⟩ | exact ⟨rfl,_,Eq.trans (World.drewN_drewN _ _ _) (congrArg (World.drewN _) (Nat.add_assoc _ _ _))⟩)) | (go_at_call 56; (with_reducible refine (z0k.calls a0_1 0 16 false _ A6.out).mono ?_); rintro e w' ⟨rfl,⟨nd,rfl⟩⟩; (try first | exact ⟨rfl,_,World.drewN_drewN _ _ _⟩ | exact ⟨rfl,_,Eq.trans (World.drewN_drewN _ _ _) (congrArg (World.drewN _) (Nat.add_assoc _ _ _))⟩)))
    repeat (go_quiet (first | (go_at_call 56; (with_reducible refine (z0k.calls a0_0 0 64 true _ A4.out).mono ?_); rintro e w' ⟨rfl,⟨nd,rfl⟩⟩; (try first | exact ⟨rfl,_,World.drewN_drewN _ _ _⟩ | exact ⟨rfl,_,Eq.trans (World.drewN_drewN _ _ _) (congrArg (World.drewN _) (Nat.add_assoc _ _ _))⟩)) | (go_at_call 56; (with_reducible refine (z0k.calls a0_1 0 16 false _ A6.out).mono ?_); rintro e w' ⟨rfl,⟨nd,rfl⟩⟩; (try first | exact ⟨rfl,_,World.drewN_drewN _ _ _⟩ | exact ⟨rfl,_,Eq.trans (World.drewN_drewN _ _ _) (congrArg (World.drewN _) (Nat.add_assoc _ _ _))⟩))); try go_wp2_with (first | (go_at_call 56; (with_reducible refine (z0k.calls a0_0 0 64 true _ A4.out).mono ?_); rintro e w' ⟨rfl,⟨nd,rfl⟩⟩; (try first | exact ⟨rfl,_,World.drewN_drewN _ _ _⟩ | exact ⟨rfl,_,Eq.trans (World.drewN_drewN _ _ _) (congrArg (World.drewN _) (Nat.add_assoc _ _ _))⟩)) | (go_at_call 56; (with_reducible refine (z0k.calls a0_1 0 16 false _ A6.out).mono ?_); rintro e w' ⟨rfl,⟨nd,rfl⟩⟩; (try first | exact ⟨rfl,_,World.drewN_drewN _ _ _⟩ | exact ⟨rfl,_,Eq.trans (World.drewN_drewN _ _ _) (congrArg (World.drewN _) (Nat.add_assoc _ _ _))⟩))))
    go_meet
    case rel=>exact ⟨_,(true),(by first | rfl | (simp; done) | (simp [*]; done)),H',⟨by first | omega | exact Nat.le_refl _⟩,⟨by (with_reducible repeat (first | refine z08 ?_ _ | refine z09 ?_ | refine z06 ?_ _)); exact BK230.out⟩,⟨by repeat (first | (with_reducible first | exact HB.out | apply z04 | apply z03 | apply z05 | refine z07 ?_ GE230.out) | exact HB.out)⟩⟩
  ·replace c5:=Bool.eq_false_iff.mpr c5
   subst c5
   have H1 : (z0b.j0 k true a0_0 a0_1 a0_2 l0_3 l0_4 l0_5) = some r:=by rw [if_neg (show ¬ (false = true) by decide)] at H; exact H
   clear H
   have H:=H1
   clear H1
   have H':=Aside0.mk H
   clear H
   have hcz16_0 : w3.cell? ⟨gb230,0,none⟩ = some (.int .i64 a0_0):=(z02 BK230.out 0).trans rfl
   have hcz16_1 : w3.cell? ⟨gb230,1,none⟩ = some (.int .i64 a0_1):=(z02 BK230.out 1).trans rfl
   have hcz16_2 : w3.cell? ⟨gb230,2,none⟩ = some (.int .i64 a0_2):=(z02 BK230.out 2).trans rfl
   have hcz16_3 : w3.cell? ⟨gb230,3,none⟩ = some (.slice A0_3 l0_3.length c0_3):=(z02 BK230.out 3).trans rfl
   have hcz16_4 : w3.cell? ⟨gb230,4,none⟩ = some (.slice A0_4 l0_4.length c0_4):=(z02 BK230.out 4).trans rfl
   have hcz16_5 : w3.cell? ⟨gb230,5,none⟩ = some (.slice A0_5 l0_5.length c0_5):=(z02 BK230.out 5).trans rfl
   have hfz16_0:=z01 BK230.out 0
   have hfz16_1:=z01 BK230.out 1
   have hfz16_2:=z01 BK230.out 2
   have hfz16_3:=z01 BK230.out 3
   have hfz16_4:=z01 BK230.out 4
   have hfz16_5:=z01 BK230.out 5
   go_wp2_with (first | (go_at_call 56; (with_reducible refine (z0k.calls a0_0 0 64 false _ A4.out).mono ?_); rintro e w' ⟨rfl,⟨nd,rfl⟩⟩; (try first | exact ⟨rfl,_,World.drewN_drewN _ _ _⟩ | exact ⟨rfl,_,Eq.trans (World.drewN_drewN _ _ _) (congrArg (World.drewN _) (Nat.add_assoc _ _ _))⟩)))
   repeat (go_quiet (first | (go_at_call 56; (with_reducible refine (z0k.calls a0_0 0 64 false _ A4.out).mono ?_); rintro e w' ⟨rfl,⟨nd,rfl⟩⟩; (try first | exact ⟨rfl,_,World.drewN_drewN _ _ _⟩ | exact ⟨rfl,_,Eq.trans (World.drewN_drewN _ _ _) (congrArg (World.drewN _) (Nat.add_assoc _ _ _))⟩))); try go_wp2_with (first | (go_at_call 56; (with_reducible refine (z0k.calls a0_0 0 64 false _ A4.out).mono ?_); rintro e w' ⟨rfl,⟨nd,rfl⟩⟩; (try first | exact ⟨rfl,_,World.drewN_drewN _ _ _⟩ | exact ⟨rfl,_,Eq.trans (World.drewN_drewN _ _ _) (congrArg (World.drewN _) (Nat.add_assoc _ _ _))⟩))))
   go_meet
   case rel=>exact ⟨_,(true),(by first | rfl | (simp; done) | (simp [*]; done)),H',⟨by first | omega | exact Nat.le_refl _⟩,⟨by (with_reducible repeat (first | refine z08 ?_ _ | refine z09 ?_ | refine z06 ?_ _)); exact BK230.out⟩,⟨by repeat (first | (with_reducible first | exact HB.out | apply z04 | apply z03 | apply z05 | refine z07 ?_ GE230.out) | exact HB.out)⟩⟩
 case rest =>
  clear HC2
  try clear c1
  try clear p2
  try clear c3
  try clear c5
  try clear c7
  try clear c9
  try clear c10
  try clear c10b0
  try clear hcz11_0
  try clear hcz11_1
  try clear hcz11_2
  try clear hcz11_3
  try clear hcz11_4
  try clear hcz11_5
  try clear hcz13_0
  try clear hcz13_1
  try clear hcz13_2
  try clear hcz13_3
  try clear hcz13_4
  try clear hcz13_5
  try clear hcz14_0
  try clear hcz14_1
  try clear hcz14_2
  try clear hcz14_3
  try clear hcz14_4
  try clear hcz14_5
  try clear hcz15_0
  try clear hcz15_1
  try clear hcz15_2
  try clear hcz15_3
  try clear hcz15_4
  try clear hcz15_5
  try clear hcz16_0
  try clear hcz16_1
  try clear hcz16_2
  try clear hcz16_3
  try clear hcz16_4
  try clear hcz16_5
  try clear hfz11_0
  try clear hfz11_1
  try clear hfz11_2
  try clear hfz11_3
  try clear hfz11_4
  try clear hfz11_5
  try clear hfz13_0
  try clear hfz13_1
  try clear hfz13_2
  try clear hfz13_3
  try clear hfz13_4
  try clear hfz13_5
  try clear hfz14_0
  try clear hfz14_1
  try clear hfz14_2
  try clear hfz14_3
  try clear hfz14_4
  try clear hfz14_5
  try clear hfz15_0
  try clear hfz15_1
  try clear hfz15_2
  try clear hfz15_3
  try clear hfz15_4
  try clear hfz15_5
  try clear hfz16_0
  try clear hfz16_1
  try clear hfz16_2
  try clear hfz16_3
  try clear hfz16_4
  try clear hfz16_5
  obtain ⟨kq,x37_1,rfl,HA,HJ1,BK230,HB⟩:=hcut
  cases kq with
  | zero=>exact absurd HA.out (by simp [z0b.j0])
  | succ kj1 =>
   have H:=HA.out
   clear HA
   simp only [z0b.j0] at H
   by_cases c17 : x37_1 = true
   ·subst c17
    have H1 : (some 3) = some r:=by rw [if_pos rfl] at H; exact H
    clear H
    have H:=H1
    clear H1
    obtain rfl:=Option.some.inj H
    go_wp2
    repeat (go_quiet (fail); try go_wp2)
    go_ret
    exact ⟨by first | rfl | (simp [z0i,z0h] <;> rfl) | (simp [*,z0i,z0h] <;> rfl),by repeat (first | (with_reducible first | exact HB.out | apply z04 | apply z03 | apply z05 | refine z07 ?_ GE230.out) | exact HB.out)⟩
   ·replace c17:=Bool.eq_false_iff.mpr c17
    subst c17
    have H1 : (z0b.l0 kj1 0 a0_0 a0_1 a0_2 l0_3 l0_4 l0_5) = some r:=by rw [if_neg (show ¬ (false = true) by decide)] at H; exact H
    clear H
    have H:=H1
    clear H1
    have H':=Aside0.mk H
    clear H
    go_wp2
    repeat (go_quiet (fail); try go_wp2)
    go_loopg [3] kj1 (fun kq v3 w'=>∃ (x3_2 : Int),v3 = .int .i64 x3_2 ∧ Aside0 (z0b.l0 kq x3_2 a0_0 a0_1 a0_2 l0_3 l0_4 l0_5 = some r) ∧ Aside0 (kq ≤ kj1) ∧ Aside0 (w'.heap[gb230]? = some (.cells #[.int .i64 a0_0,.int .i64 a0_1,.int .i64 a0_2,(.slice A0_3 l0_3.length c0_3),(.slice A0_4 l0_4.length c0_4),(.slice A0_5 l0_5.length c0_5)] 26 (0,0))) ∧ Aside0 (Below w.heap.size w w'))
    case atStart=>exact ⟨(0),(by first | rfl | (simp; done) | (simp [*]; done)),H',⟨Nat.le_refl _⟩,⟨by (with_reducible repeat (first | refine z08 ?_ _ | refine z09 ?_ | refine z06 ?_ _)); exact BK230.out⟩,⟨by repeat (first | (with_reducible first | exact HB.out | apply z04 | apply z03 | apply z05 | refine z07 ?_ GE230.out) | exact HB.out)⟩⟩
    case round =>
     clear H'
     try clear c1
     try clear p2
     try clear c3
     try clear c5
     try clear c7
     try clear c9
     try clear c10
     try clear c10b0
     try clear c17
     try clear hcz11_0
     try clear hcz11_1
     try clear hcz11_2
     try clear hcz11_3
     try clear hcz11_4
     try clear hcz11_5
     try clear hcz13_0
     try clear hcz13_1
     try clear hcz13_2
     try clear hcz13_3
     try clear hcz13_4
     try clear hcz13_5
     try clear hcz14_0
     try clear hcz14_1
     try clear hcz14_2
     try clear hcz14_3
     try clear hcz14_4
     try clear hcz14_5
     try clear hcz15_0
     try clear hcz15_1
     try clear hcz15_2
     try clear hcz15_3
     try clear hcz15_4
     try clear hcz15_5
     try clear hcz16_0
     try clear hcz16_1
     try clear hcz16_2
     try clear hcz16_3
     try clear hcz16_4
     try clear hcz16_5
     try clear hfz11_0
     try clear hfz11_1
     try clear hfz11_2
     try clear hfz11_3
     try clear hfz11_4
     try clear hfz11_5
     try clear hfz13_0
     try clear hfz13_1
     try clear hfz13_2
     try clear hfz13_3
     try clear hfz13_4
     try clear hfz13_5
     try clear hfz14_0
     try clear hfz14_1
     try clear hfz14_2
     try clear hfz14_3
     try clear hfz14_4
     try clear hfz14_5
     try clear hfz15_0
     try clear hfz15_1
     try clear hfz15_2
     try clear hfz15_3
     try clear hfz15_4
     try clear hfz15_5
     try clear hfz16_0
     try clear hfz16_1
     try clear hfz16_2
     try clear hfz16_3
     try clear hfz16_4
     try clear hfz16_5
     try clear p2
     obtain ⟨x3_2,rfl,HA,HK2,BK230,HB⟩:=hrel
     cases gk with
     | zero=>exact absurd HA.out (by simp [z0b.l0])
     | succ k2 =>
      have H:=HA.out
      clear HA
      simp only [z0b.l0] at H
      by_cases c18 : x3_2 < (l0_4.length : Int)
      ·rw [if_pos c18] at H
       have c18b0 : decide (x3_2 < (l0_4.length : Int)) = true:=decide_eq_true c18
       clear c18
       by_cases c19 : x3_2 = 0
       ·rw [if_pos c19] at H
        have c19b0 : (x3_2 == 0) = true:=beq_iff_eq.mpr c19
        have c19b1 : (x3_2 != 0) = false:=bne_eq_false_iff_eq.mpr c19
        clear c19
        by_cases c20 : 0 ≤ x3_2
        ·rw [if_pos c20] at H
         have c20b0 : decide (0 ≤ x3_2) = true:=decide_eq_true c20
         clear c20
         by_cases c21 : (rd l0_4 x3_2) = 0
         ·rw [if_pos c21] at H
          have c21b0 : ((rd l0_4 x3_2) == 0) = true:=beq_iff_eq.mpr c21
          have c21b1 : ((rd l0_4 x3_2) != 0) = false:=bne_eq_false_iff_eq.mpr c21
          clear c21
          by_cases c22 : x3_2 > 0
          ·rw [if_pos c22] at H
           have c22b0 : decide (0 < x3_2) = true:=decide_eq_true c22
           clear c22
           obtain ⟨ji23,hji23⟩ : ∃ j_ : Int,(wrap64 (x3_2 - 1)) = j_:=⟨_,rfl⟩
           replace H : (if 0 ≤ (ji23) then (if (ji23) < (l0_4.length : Int) then (if (rd l0_4 x3_2) ≤ (rd l0_4 (ji23)) then (some 3) else (z0b.l0 k2 (wrap64 (x3_2 + 1)) a0_0 a0_1 a0_2 l0_3 l0_4 l0_5)) else (none)) else (none)) = some r:=by first | (rw [hji23] at H; exact H) | (simp only [hji23] at H ⊢; exact H)
           have hji23w : (IntKind.i64.wrap (x3_2 - 1)) = ji23:=(i64_w _).trans hji23
           by_cases c24 : 0 ≤ (ji23)
           ·rw [if_pos c24] at H
            have c24b0 : decide (0 ≤ (ji23)) = true:=decide_eq_true c24
            clear c24
            by_cases c25 : (ji23) < (l0_4.length : Int)
            ·rw [if_pos c25] at H
             have c25b0 : decide ((ji23) < (l0_4.length : Int)) = true:=decide_eq_true c25
             clear c25
             by_cases c26 : (rd l0_4 x3_2) ≤ (rd l0_4 (ji23))
             ·rw [if_pos c26] at H
              have c26b0 : decide ((rd l0_4 x3_2) ≤ (rd l0_4 (ji23))) = true:=decide_eq_true c26
              clear c26
              obtain rfl:=Option.some.inj H
              have hcz27_0 : wr.cell? ⟨gb230,0,none⟩ = some (.int .i64 a0_0):=(z02 BK230.out 0).trans rfl
              have hcz27_1 : wr.cell? ⟨gb230,1,none⟩ = some (.int .i64 a0_1):=(z02 BK230.out 1).trans rfl
              have hcz27_2 : wr.cell? ⟨gb230,2,none⟩ = some (.int .i64 a0_2):=(z02 BK230.out 2).trans rfl
              have hcz27_3 : wr.cell? ⟨gb230,3,none⟩ = some (.slice A0_3 l0_3.length c0_3):=(z02 BK230.out 3).trans rfl
              have hcz27_4 : wr.cell? ⟨gb230,4,none⟩ = some (.slice A0_4 l0_4.length c0_4):=(z02 BK230.out 4).trans rfl
              have hcz27_5 : wr.cell? ⟨gb230,5,none⟩ = some (.slice A0_5 l0_5.length c0_5):=(z02 BK230.out 5).trans rfl
              have hfz27_0:=z01 BK230.out 0
              have hfz27_1:=z01 BK230.out 1
              have hfz27_2:=z01 BK230.out 2
              have hfz27_3:=z01 BK230.out 3
              have hfz27_4:=z01 BK230.out 4
              have hfz27_5:=z01 BK230.out 5
              have p235 : 0 ≤ (x3_2 : Int):=of_decide_eq_true (by assumption)
              have q235 : x3_2 < (l0_4.length : Int):=of_decide_eq_true (by assumption)
              obtain ⟨ad235,e235,hx235_0⟩:=Kd.at_int HR0_4.out x3_2 p235 q235
              cases e235
              replace hx235_0:=(HB.out.cell (World.block_lt_of_cell? w _ hx235_0)).trans hx235_0
              replace p235:=eq_true p235
              replace q235:=eq_true q235
              have p236 : 0 ≤ (x3_2 : Int):=of_decide_eq_true (by assumption)
              have q236 : x3_2 < (l0_4.length : Int):=of_decide_eq_true (by assumption)
              obtain ⟨ad236,e236,hx236_0⟩:=Kd.at_int HR0_4.out x3_2 p236 q236
              obtain rfl : ad235 = ad236:=(by injection e236)
              replace hx236_0:=(HB.out.cell (World.block_lt_of_cell? w _ hx236_0)).trans hx236_0
              replace p236:=eq_true p236
              replace q236:=eq_true q236
              have p237 : 0 ≤ ((ji23) : Int):=of_decide_eq_true (by assumption)
              have q237 : (ji23) < (l0_4.length : Int):=of_decide_eq_true (by assumption)
              obtain ⟨ad237,e237,hx237_0⟩:=Kd.at_int HR0_4.out (ji23) p237 q237
              obtain rfl : ad235 = ad237:=(by injection e237)
              replace hx237_0:=(HB.out.cell (World.block_lt_of_cell? w _ hx237_0)).trans hx237_0
              replace p237:=eq_true p237
              replace q237:=eq_true q237
              go_wp2
              repeat (go_quiet (fail); try go_wp2)
              go_ret
              exact ⟨by first | rfl | (simp [z0i,z0h] <;> rfl) | (simp only [← hji23]; first | rfl | (simp [z0i,z0h] <;> rfl)) | (simp [*,z0i,z0h] <;> rfl),by repeat (first | (with_reducible first | exact HB.out | apply z04 | apply z03 | apply z05 | refine z07 ?_ GE230.out) | exact HB.out)⟩
             ·rw [if_neg c26] at H
              have c26b0 : decide ((rd l0_4 x3_2) ≤ (rd l0_4 (ji23))) = false:=decide_eq_false c26
              clear c26
              have H':=Aside0.mk H
              clear H
              have hcz28_0 : wr.cell? ⟨gb230,0,none⟩ = some (.int .i64 a0_0):=(z02 BK230.out 0).trans rfl
              have hcz28_1 : wr.cell? ⟨gb230,1,none⟩ = some (.int .i64 a0_1):=(z02 BK230.out 1).trans rfl
              have hcz28_2 : wr.cell? ⟨gb230,2,none⟩ = some (.int .i64 a0_2):=(z02 BK230.out 2).trans rfl
              have hcz28_3 : wr.cell? ⟨gb230,3,none⟩ = some (.slice A0_3 l0_3.length c0_3):=(z02 BK230.out 3).trans rfl
              have hcz28_4 : wr.cell? ⟨gb230,4,none⟩ = some (.slice A0_4 l0_4.length c0_4):=(z02 BK230.out 4).trans rfl
              have hcz28_5 : wr.cell? ⟨gb230,5,none⟩ = some (.slice A0_5 l0_5.length c0_5):=(z02 BK230.out 5).trans rfl
              have hfz28_0:=z01 BK230.out 0
              have hfz28_1:=z01 BK230.out 1
              have hfz28_2:=z01 BK230.out 2
              have hfz28_3:=z01 BK230.out 3
              have hfz28_4:=z01 BK230.out 4
              have hfz28_5:=z01 BK230.out 5
              have p235 : 0 ≤ (x3_2 : Int):=of_decide_eq_true (by assumption)
              have q235 : x3_2 < (l0_4.length : Int):=of_decide_eq_true (by assumption)
              obtain ⟨ad235,e235,hx235_0⟩:=Kd.at_int HR0_4.out x3_2 p235 q235
              cases e235
              replace hx235_0:=(HB.out.cell (World.block_lt_of_cell? w _ hx235_0)).trans hx235_0
              replace p235:=eq_true p235
              replace q235:=eq_true q235
              have p236 : 0 ≤ (x3_2 : Int):=of_decide_eq_true (by assumption)
              have q236 : x3_2 < (l0_4.length : Int):=of_decide_eq_true (by assumption)
              obtain ⟨ad236,e236,hx236_0⟩:=Kd.at_int HR0_4.out x3_2 p236 q236
              obtain rfl : ad235 = ad236:=(by injection e236)
              replace hx236_0:=(HB.out.cell (World.block_lt_of_cell? w _ hx236_0)).trans hx236_0
              replace p236:=eq_true p236
              replace q236:=eq_true q236
              have p237 : 0 ≤ ((ji23) : Int):=of_decide_eq_true (by assumption)
              have q237 : (ji23) < (l0_4.length : Int):=of_decide_eq_true (by assumption)
              obtain ⟨ad237,e237,hx237_0⟩:=Kd.at_int HR0_4.out (ji23) p237 q237
              obtain rfl : ad235 = ad237:=(by injection e237)
              replace hx237_0:=(HB.out.cell (World.block_lt_of_cell? w _ hx237_0)).trans hx237_0
              replace p237:=eq_true p237
              replace q237:=eq_true q237
              go_wp2
              repeat (go_quiet (fail); try go_wp2)
              go_roundg k2
              case measure=>have:=HJ1.out; have:=HK2.out; omega
              case rel=>exact ⟨(wrap64 (x3_2 + 1)),(by first | rfl | (simp; done) | (simp [*]; done)),H',⟨by have:=HJ1.out; have:=HK2.out; omega⟩,⟨by (with_reducible repeat (first | refine z08 ?_ _ | refine z09 ?_ | refine z06 ?_ _)); exact BK230.out⟩,⟨by repeat (first | (with_reducible first | exact HB.out | apply z04 | apply z03 | apply z05 | refine z07 ?_ GE230.out) | exact HB.out)⟩⟩
            ·rw [if_neg c25] at H
             exact absurd H (by simp)
           ·rw [if_neg c24] at H
            exact absurd H (by simp)
          ·rw [if_neg c22] at H
           have c22b0 : decide (0 < x3_2) = false:=decide_eq_false c22
           clear c22
           have H':=Aside0.mk H
           clear H
           have hcz29_0 : wr.cell? ⟨gb230,0,none⟩ = some (.int .i64 a0_0):=(z02 BK230.out 0).trans rfl
           have hcz29_1 : wr.cell? ⟨gb230,1,none⟩ = some (.int .i64 a0_1):=(z02 BK230.out 1).trans rfl
           have hcz29_2 : wr.cell? ⟨gb230,2,none⟩ = some (.int .i64 a0_2):=(z02 BK230.out 2).trans rfl
           have hcz29_3 : wr.cell? ⟨gb230,3,none⟩ = some (.slice A0_3 l0_3.length c0_3):=(z02 BK230.out 3).trans rfl
           have hcz29_4 : wr.cell? ⟨gb230,4,none⟩ = some (.slice A0_4 l0_4.length c0_4):=(z02 BK230.out 4).trans rfl
           have hcz29_5 : wr.cell? ⟨gb230,5,none⟩ = some (.slice A0_5 l0_5.length c0_5):=(z02 BK230.out 5).trans rfl
           have hfz29_0:=z01 BK230.out 0
           have hfz29_1:=z01 BK230.out 1
           have hfz29_2:=z01 BK230.out 2
           have hfz29_3:=z01 BK230.out 3
           have hfz29_4:=z01 BK230.out 4
           have hfz29_5:=z01 BK230.out 5
           have p235 : 0 ≤ (x3_2 : Int):=of_decide_eq_true (by assumption)
           have q235 : x3_2 < (l0_4.length : Int):=of_decide_eq_true (by assumption)
           obtain ⟨ad235,e235,hx235_0⟩:=Kd.at_int HR0_4.out x3_2 p235 q235
           cases e235
           replace hx235_0:=(HB.out.cell (World.block_lt_of_cell? w _ hx235_0)).trans hx235_0
           replace p235:=eq_true p235
           replace q235:=eq_true q235
           go_wp2
           repeat (go_quiet (fail); try go_wp2)
           go_roundg k2
           case measure=>have:=HJ1.out; have:=HK2.out; omega
           case rel=>exact ⟨(wrap64 (x3_2 + 1)),(by first | rfl | (simp; done) | (simp [*]; done)),H',⟨by have:=HJ1.out; have:=HK2.out; omega⟩,⟨by (with_reducible repeat (first | refine z08 ?_ _ | refine z09 ?_ | refine z06 ?_ _)); exact BK230.out⟩,⟨by repeat (first | (with_reducible first | exact HB.out | apply z04 | apply z03 | apply z05 | refine z07 ?_ GE230.out) | exact HB.out)⟩⟩
         ·rw [if_neg c21] at H
          have c21b0 : ((rd l0_4 x3_2) == 0) = false:=beq_eq_false_iff_ne.mpr c21
          have c21b1 : ((rd l0_4 x3_2) != 0) = true:=bne_iff_ne.mpr c21
          obtain rfl:=Option.some.inj H
          have hcz30_0 : wr.cell? ⟨gb230,0,none⟩ = some (.int .i64 a0_0):=(z02 BK230.out 0).trans rfl
          have hcz30_1 : wr.cell? ⟨gb230,1,none⟩ = some (.int .i64 a0_1):=(z02 BK230.out 1).trans rfl
          have hcz30_2 : wr.cell? ⟨gb230,2,none⟩ = some (.int .i64 a0_2):=(z02 BK230.out 2).trans rfl
          have hcz30_3 : wr.cell? ⟨gb230,3,none⟩ = some (.slice A0_3 l0_3.length c0_3):=(z02 BK230.out 3).trans rfl
          have hcz30_4 : wr.cell? ⟨gb230,4,none⟩ = some (.slice A0_4 l0_4.length c0_4):=(z02 BK230.out 4).trans rfl
          have hcz30_5 : wr.cell? ⟨gb230,5,none⟩ = some (.slice A0_5 l0_5.length c0_5):=(z02 BK230.out 5).trans rfl
          have hfz30_0:=z01 BK230.out 0
          have hfz30_1:=z01 BK230.out 1
          have hfz30_2:=z01 BK230.out 2
          have hfz30_3:=z01 BK230.out 3
          have hfz30_4:=z01 BK230.out 4
          have hfz30_5:=z01 BK230.out 5
          have p235 : 0 ≤ (x3_2 : Int):=of_decide_eq_true (by assumption)
          have q235 : x3_2 < (l0_4.length : Int):=of_decide_eq_true (by assumption)
          obtain ⟨ad235,e235,hx235_0⟩:=Kd.at_int HR0_4.out x3_2 p235 q235
          cases e235
          replace hx235_0:=(HB.out.cell (World.block_lt_of_cell? w _ hx235_0)).trans hx235_0
          replace p235:=eq_true p235
          replace q235:=eq_true q235
          go_wp2
          repeat (go_quiet (fail); try go_wp2)
          go_ret
          exact ⟨by first | rfl | (simp [z0i,z0h] <;> rfl) | (simp [*,z0i,z0h] <;> rfl),by repeat (first | (with_reducible first | exact HB.out | apply z04 | apply z03 | apply z05 | refine z07 ?_ GE230.out) | exact HB.out)⟩
        ·rw [if_neg c20] at H
         exact absurd H (by simp)
       ·rw [if_neg c19] at H
        have c19b0 : (x3_2 == 0) = false:=beq_eq_false_iff_ne.mpr c19
        have c19b1 : (x3_2 != 0) = true:=bne_iff_ne.mpr c19
        by_cases c31 : x3_2 > 0
        ·rw [if_pos c31] at H
         have c31b0 : decide (0 < x3_2) = true:=decide_eq_true c31
         clear c31
         by_cases c32 : 0 ≤ x3_2
         ·rw [if_pos c32] at H
          have c32b0 : decide (0 ≤ x3_2) = true:=decide_eq_true c32
          clear c32
          obtain ⟨ji33,hji33⟩ : ∃ j_ : Int,(wrap64 (x3_2 - 1)) = j_:=⟨_,rfl⟩
          replace H : (if 0 ≤ (ji33) then (if (ji33) < (l0_4.length : Int) then (if (rd l0_4 x3_2) ≤ (rd l0_4 (ji33)) then (some 3) else (z0b.l0 k2 (wrap64 (x3_2 + 1)) a0_0 a0_1 a0_2 l0_3 l0_4 l0_5)) else (none)) else (none)) = some r:=by first | (rw [hji33] at H; exact H) | (simp only [hji33] at H ⊢; exact H)
          have hji33w : (IntKind.i64.wrap (x3_2 - 1)) = ji33:=(i64_w _).trans hji33
          by_cases c34 : 0 ≤ (ji33)
          ·rw [if_pos c34] at H
           have c34b0 : decide (0 ≤ (ji33)) = true:=decide_eq_true c34
           clear c34
           by_cases c35 : (ji33) < (l0_4.length : Int)
           ·rw [if_pos c35] at H
            have c35b0 : decide ((ji33) < (l0_4.length : Int)) = true:=decide_eq_true c35
            clear c35
            by_cases c36 : (rd l0_4 x3_2) ≤ (rd l0_4 (ji33))
            ·rw [if_pos c36] at H
             have c36b0 : decide ((rd l0_4 x3_2) ≤ (rd l0_4 (ji33))) = true:=decide_eq_true c36
             clear c36
             obtain rfl:=Option.some.inj H
             have hcz37_0 : wr.cell? ⟨gb230,0,none⟩ = some (.int .i64 a0_0):=(z02 BK230.out 0).trans rfl
             have hcz37_1 : wr.cell? ⟨gb230,1,none⟩ = some (.int .i64 a0_1):=(z02 BK230.out 1).trans rfl
             have hcz37_2 : wr.cell? ⟨gb230,2,none⟩ = some (.int .i64 a0_2):=(z02 BK230.out 2).trans rfl
             have hcz37_3 : wr.cell? ⟨gb230,3,none⟩ = some (.slice A0_3 l0_3.length c0_3):=(z02 BK230.out 3).trans rfl
             have hcz37_4 : wr.cell? ⟨gb230,4,none⟩ = some (.slice A0_4 l0_4.length c0_4):=(z02 BK230.out 4).trans rfl
             have hcz37_5 : wr.cell? ⟨gb230,5,none⟩ = some (.slice A0_5 l0_5.length c0_5):=(z02 BK230.out 5).trans rfl
             have hfz37_0:=z01 BK230.out 0
             have hfz37_1:=z01 BK230.out 1
             have hfz37_2:=z01 BK230.out 2
             have hfz37_3:=z01 BK230.out 3
             have hfz37_4:=z01 BK230.out 4
             have hfz37_5:=z01 BK230.out 5
             have p238 : 0 ≤ (x3_2 : Int):=of_decide_eq_true (by assumption)
             have q238 : x3_2 < (l0_4.length : Int):=of_decide_eq_true (by assumption)
             obtain ⟨ad238,e238,hx238_0⟩:=Kd.at_int HR0_4.out x3_2 p238 q238
             cases e238
             replace hx238_0:=(HB.out.cell (World.block_lt_of_cell? w _ hx238_0)).trans hx238_0
             replace p238:=eq_true p238
             replace q238:=eq_true q238
             have p239 : 0 ≤ ((ji33) : Int):=of_decide_eq_true (by assumption)
             have q239 : (ji33) < (l0_4.length : Int):=of_decide_eq_true (by assumption)
             obtain ⟨ad239,e239,hx239_0⟩:=Kd.at_int HR0_4.out (ji33) p239 q239
             obtain rfl : ad238 = ad239:=(by injection e239)
             replace hx239_0:=(HB.out.cell (World.block_lt_of_cell? w _ hx239_0)).trans hx239_0
             replace p239:=eq_true p239
             replace q239:=eq_true q239
             go_wp2
             repeat (go_quiet (fail); try go_wp2)
             go_ret
             exact ⟨by first | rfl | (simp [z0i,z0h] <;> rfl) | (simp only [← hji33]; first | rfl | (simp [z0i,z0h] <;> rfl)) | (simp [*,z0i,z0h] <;> rfl),by repeat (first | (with_reducible first | exact HB.out | apply z04 | apply z03 | apply z05 | refine z07 ?_ GE230.out) | exact HB.out)⟩
            ·rw [if_neg c36] at H
             have c36b0 : decide ((rd l0_4 x3_2) ≤ (rd l0_4 (ji33))) = false:=decide_eq_false c36
             clear c36
             have H':=Aside0.mk H
             clear H
             have hcz38_0 : wr.cell? ⟨gb230,0,none⟩ = some (.int .i64 a0_0):=(z02 BK230.out 0).trans rfl
             have hcz38_1 : wr.cell? ⟨gb230,1,none⟩ = some (.int .i64 a0_1):=(z02 BK230.out 1).trans rfl
             have hcz38_2 : wr.cell? ⟨gb230,2,none⟩ = some (.int .i64 a0_2):=(z02 BK230.out 2).trans rfl
             have hcz38_3 : wr.cell? ⟨gb230,3,none⟩ = some (.slice A0_3 l0_3.length c0_3):=(z02 BK230.out 3).trans rfl
             have hcz38_4 : wr.cell? ⟨gb230,4,none⟩ = some (.slice A0_4 l0_4.length c0_4):=(z02 BK230.out 4).trans rfl
             have hcz38_5 : wr.cell? ⟨gb230,5,none⟩ = some (.slice A0_5 l0_5.length c0_5):=(z02 BK230.out 5).trans rfl
             have hfz38_0:=z01 BK230.out 0
             have hfz38_1:=z01 BK230.out 1
             have hfz38_2:=z01 BK230.out 2
             have hfz38_3:=z01 BK230.out 3
             have hfz38_4:=z01 BK230.out 4
             have hfz38_5:=z01 BK230.out 5
             have p238 : 0 ≤ (x3_2 : Int):=of_decide_eq_true (by assumption)
             have q238 : x3_2 < (l0_4.length : Int):=of_decide_eq_true (by assumption)
             obtain ⟨ad238,e238,hx238_0⟩:=Kd.at_int HR0_4.out x3_2 p238 q238
             cases e238
             replace hx238_0:=(HB.out.cell (World.block_lt_of_cell? w _ hx238_0)).trans hx238_0
             replace p238:=eq_true p238
             replace q238:=eq_true q238
             have p239 : 0 ≤ ((ji33) : Int):=of_decide_eq_true (by assumption)
             have q239 : (ji33) < (l0_4.length : Int):=of_decide_eq_true (by assumption)
             obtain ⟨ad239,e239,hx239_0⟩:=Kd.at_int HR0_4.out (ji33) p239 q239
             obtain rfl : ad238 = ad239:=(by injection e239)
             replace hx239_0:=(HB.out.cell (World.block_lt_of_cell? w _ hx239_0)).trans hx239_0
             replace p239:=eq_true p239
             replace q239:=eq_true q239
             go_wp2
             repeat (go_quiet (fail); try go_wp2)
             go_roundg k2
             case measure=>have:=HJ1.out; have:=HK2.out; omega
             case rel=>exact ⟨(wrap64 (x3_2 + 1)),(by first | rfl | (simp; done) | (simp [*]; done)),H',⟨by have:=HJ1.out; have:=HK2.out; omega⟩,⟨by (with_reducible repeat (first | refine z08 ?_ _ | refine z09 ?_ | refine z06 ?_ _)); exact BK230.out⟩,⟨by repeat (first | (with_reducible first | exact HB.out | apply z04 | apply z03 | apply z05 | refine z07 ?_ GE230.out) | exact HB.out)⟩⟩
           ·rw [if_neg c35] at H
            exact absurd H (by simp)
          ·rw [if_neg c34] at H
           exact absurd H (by simp)
         ·rw [if_neg c32] at H
          exact absurd H (by simp)
        ·rw [if_neg c31] at H
         have c31b0 : decide (0 < x3_2) = false:=decide_eq_false c31
         clear c31
         have H':=Aside0.mk H
         clear H
         have hcz39_0 : wr.cell? ⟨gb230,0,none⟩ = some (.int .i64 a0_0):=(z02 BK230.out 0).trans rfl
         have hcz39_1 : wr.cell? ⟨gb230,1,none⟩ = some (.int .i64 a0_1):=(z02 BK230.out 1).trans rfl
         have hcz39_2 : wr.cell? ⟨gb230,2,none⟩ = some (.int .i64 a0_2):=(z02 BK230.out 2).trans rfl
         have hcz39_3 : wr.cell? ⟨gb230,3,none⟩ = some (.slice A0_3 l0_3.length c0_3):=(z02 BK230.out 3).trans rfl
         have hcz39_4 : wr.cell? ⟨gb230,4,none⟩ = some (.slice A0_4 l0_4.length c0_4):=(z02 BK230.out 4).trans rfl
         have hcz39_5 : wr.cell? ⟨gb230,5,none⟩ = some (.slice A0_5 l0_5.length c0_5):=(z02 BK230.out 5).trans rfl
         have hfz39_0:=z01 BK230.out 0
         have hfz39_1:=z01 BK230.out 1
         have hfz39_2:=z01 BK230.out 2
         have hfz39_3:=z01 BK230.out 3
         have hfz39_4:=z01 BK230.out 4
         have hfz39_5:=z01 BK230.out 5
         go_wp2
         repeat (go_quiet (fail); try go_wp2)
         go_roundg k2
         case measure=>have:=HJ1.out; have:=HK2.out; omega
         case rel=>exact ⟨(wrap64 (x3_2 + 1)),(by first | rfl | (simp; done) | (simp [*]; done)),H',⟨by have:=HJ1.out; have:=HK2.out; omega⟩,⟨by (with_reducible repeat (first | refine z08 ?_ _ | refine z09 ?_ | refine z06 ?_ _)); exact BK230.out⟩,⟨by repeat (first | (with_reducible first | exact HB.out | apply z04 | apply z03 | apply z05 | refine z07 ?_ GE230.out) | exact HB.out)⟩⟩
      ·rw [if_neg c18] at H
       have c18b0 : decide (x3_2 < (l0_4.length : Int)) = false:=decide_eq_false c18
       clear c18
       have HC40:=Aside0.mk H
       clear H
       have hcz41_0 : wr.cell? ⟨gb230,0,none⟩ = some (.int .i64 a0_0):=(z02 BK230.out 0).trans rfl
       have hcz41_1 : wr.cell? ⟨gb230,1,none⟩ = some (.int .i64 a0_1):=(z02 BK230.out 1).trans rfl
       have hcz41_2 : wr.cell? ⟨gb230,2,none⟩ = some (.int .i64 a0_2):=(z02 BK230.out 2).trans rfl
       have hcz41_3 : wr.cell? ⟨gb230,3,none⟩ = some (.slice A0_3 l0_3.length c0_3):=(z02 BK230.out 3).trans rfl
       have hcz41_4 : wr.cell? ⟨gb230,4,none⟩ = some (.slice A0_4 l0_4.length c0_4):=(z02 BK230.out 4).trans rfl
       have hcz41_5 : wr.cell? ⟨gb230,5,none⟩ = some (.slice A0_5 l0_5.length c0_5):=(z02 BK230.out 5).trans rfl
       have hfz41_0:=z01 BK230.out 0
       have hfz41_1:=z01 BK230.out 1
       have hfz41_2:=z01 BK230.out 2
       have hfz41_3:=z01 BK230.out 3
       have hfz41_4:=z01 BK230.out 4
       have hfz41_5:=z01 BK230.out 5
       go_upto_region 8 with (fail)
       repeat (go_quiet (fail); go_upto_region 8 with (fail))
       go_cut [90] (fun v90 wc=>∃ (kq : Nat) (x90_39 : Bool),v90 = .bool x90_39 ∧ Aside0 (z0b.j2 kq x90_39 a0_0 a0_1 a0_2 l0_3 l0_4 l0_5 = some r) ∧ Aside0 (kq ≤ k2) ∧ Aside0 (wc.heap[gb230]? = some (.cells #[.int .i64 a0_0,.int .i64 a0_1,.int .i64 a0_2,(.slice A0_3 l0_3.length c0_3),(.slice A0_4 l0_4.length c0_4),(.slice A0_5 l0_5.length c0_5)] 26 (0,0))) ∧ Aside0 (Below w.heap.size w wc))
       case first =>
        have H:=HC40.out
        clear HC40
        by_cases c42 : (l0_5.length : Int) > 256
        ·rw [if_pos c42] at H
         have c42b0 : decide (256 < (l0_5.length : Int)) = true:=decide_eq_true c42
         have c42b1 : decide (256 < l0_5.length) = true:=decide_eq_true (by omega)
         clear c42
         (first | rw [c42b0] | (simp only [i64_w,i32_w]; rw [c42b0]) | skip)
         have H':=Aside0.mk H
         clear H
         have hcz43_0 : wr.cell? ⟨gb230,0,none⟩ = some (.int .i64 a0_0):=(z02 BK230.out 0).trans rfl
         have hcz43_1 : wr.cell? ⟨gb230,1,none⟩ = some (.int .i64 a0_1):=(z02 BK230.out 1).trans rfl
         have hcz43_2 : wr.cell? ⟨gb230,2,none⟩ = some (.int .i64 a0_2):=(z02 BK230.out 2).trans rfl
         have hcz43_3 : wr.cell? ⟨gb230,3,none⟩ = some (.slice A0_3 l0_3.length c0_3):=(z02 BK230.out 3).trans rfl
         have hcz43_4 : wr.cell? ⟨gb230,4,none⟩ = some (.slice A0_4 l0_4.length c0_4):=(z02 BK230.out 4).trans rfl
         have hcz43_5 : wr.cell? ⟨gb230,5,none⟩ = some (.slice A0_5 l0_5.length c0_5):=(z02 BK230.out 5).trans rfl
         have hfz43_0:=z01 BK230.out 0
         have hfz43_1:=z01 BK230.out 1
         have hfz43_2:=z01 BK230.out 2
         have hfz43_3:=z01 BK230.out 3
         have hfz43_4:=z01 BK230.out 4
         have hfz43_5:=z01 BK230.out 5
         go_wp2
         repeat (go_quiet (fail); try go_wp2)
         go_meet
         case rel=>exact ⟨_,(true),(by first | rfl | (simp; done) | (simp [*]; done)),H',⟨by have:=HJ1.out; have:=HK2.out; first | omega | exact Nat.le_refl _⟩,⟨by (with_reducible repeat (first | refine z08 ?_ _ | refine z09 ?_ | refine z06 ?_ _)); exact BK230.out⟩,⟨by repeat (first | (with_reducible first | exact HB.out | apply z04 | apply z03 | apply z05 | refine z07 ?_ GE230.out) | exact HB.out)⟩⟩
        ·rw [if_neg c42] at H
         have c42b0 : decide (256 < (l0_5.length : Int)) = false:=decide_eq_false c42
         have c42b1 : decide (256 < l0_5.length) = false:=decide_eq_false (by omega)
         clear c42
         (first | rw [c42b0] | (simp only [i64_w,i32_w]; rw [c42b0]) | skip)
         obtain ⟨ji44,hji44⟩ : ∃ j_ : Int,(wrap64 ((l0_4.length : Int) - 1)) = j_:=⟨_,rfl⟩
         replace H : (if 0 ≤ (ji44) then (if (ji44) < (l0_4.length : Int) then (z0b.j2 k2 (decide ((rd l0_4 (ji44)) ≥ (l0_5.length : Int))) a0_0 a0_1 a0_2 l0_3 l0_4 l0_5) else (none)) else (none)) = some r:=by first | (rw [hji44] at H; exact H) | (simp only [hji44] at H ⊢; exact H)
         have hji44w : (IntKind.i64.wrap ((l0_4.length : Int) - 1)) = ji44:=(i64_w _).trans hji44
         by_cases c45 : 0 ≤ (ji44)
         ·rw [if_pos c45] at H
          have c45b0 : decide (0 ≤ (ji44)) = true:=decide_eq_true c45
          clear c45
          by_cases c46 : (ji44) < (l0_4.length : Int)
          ·rw [if_pos c46] at H
           have c46b0 : decide ((ji44) < (l0_4.length : Int)) = true:=decide_eq_true c46
           clear c46
           have H':=Aside0.mk H
           clear H
           have hcz47_0 : wr.cell? ⟨gb230,0,none⟩ = some (.int .i64 a0_0):=(z02 BK230.out 0).trans rfl
           have hcz47_1 : wr.cell? ⟨gb230,1,none⟩ = some (.int .i64 a0_1):=(z02 BK230.out 1).trans rfl
           have hcz47_2 : wr.cell? ⟨gb230,2,none⟩ = some (.int .i64 a0_2):=(z02 BK230.out 2).trans rfl
           have hcz47_3 : wr.cell? ⟨gb230,3,none⟩ = some (.slice A0_3 l0_3.length c0_3):=(z02 BK230.out 3).trans rfl
           have hcz47_4 : wr.cell? ⟨gb230,4,none⟩ = some (.slice A0_4 l0_4.length c0_4):=(z02 BK230.out 4).trans rfl
           have hcz47_5 : wr.cell? ⟨gb230,5,none⟩ = some (.slice A0_5 l0_5.length c0_5):=(z02 BK230.out 5).trans rfl
           have hfz47_0:=z01 BK230.out 0
           have hfz47_1:=z01 BK230.out 1
           have hfz47_2:=z01 BK230.out 2
           have hfz47_3:=z01 BK230.out 3
           have hfz47_4:=z01 BK230.out 4
           have hfz47_5:=z01 BK230.out 5
           have p240 : 0 ≤ ((ji44) : Int):=of_decide_eq_true (by assumption)
           have q240 : (ji44) < (l0_4.length : Int):=of_decide_eq_true (by assumption)
           obtain ⟨ad240,e240,hx240_0⟩:=Kd.at_int HR0_4.out (ji44) p240 q240
           cases e240
           replace hx240_0:=(HB.out.cell (World.block_lt_of_cell? w _ hx240_0)).trans hx240_0
           replace p240:=eq_true p240
           replace q240:=eq_true q240
           go_wp2
           repeat (go_quiet (fail); try go_wp2)
           go_meet
           case rel=>exact ⟨_,(decide ((rd l0_4 (ji44)) ≥ (l0_5.length : Int))),(by first | rfl | (simp; done) | (simp only [← hji44] <;> (first | rfl | simp)) | (simp [*]; done)),H',⟨by have:=HJ1.out; have:=HK2.out; first | omega | exact Nat.le_refl _⟩,⟨by (with_reducible repeat (first | refine z08 ?_ _ | refine z09 ?_ | refine z06 ?_ _)); exact BK230.out⟩,⟨by repeat (first | (with_reducible first | exact HB.out | apply z04 | apply z03 | apply z05 | refine z07 ?_ GE230.out) | exact HB.out)⟩⟩
          ·rw [if_neg c46] at H
           exact absurd H (by simp)
         ·rw [if_neg c45] at H
          exact absurd H (by simp)
       case rest =>
        clear HC40
        try clear c1
        try clear c2
        try clear p2
        try clear q2
        try clear hx2
        try clear c3
        try clear c4
        try clear c5
        try clear p6
        try clear c7
        try clear c9
        try clear c10
        try clear c10b0
        try clear c17
        try clear c18
        try clear c18b0
        try clear c19
        try clear c19b0
        try clear c19b1
        try clear c20
        try clear c20b0
        try clear c21
        try clear c21b0
        try clear c21b1
        try clear c22
        try clear c22b0
        try clear p23
        try clear q23
        try clear hx23
        try clear c24
        try clear c24b0
        try clear p24
        try clear q24
        try clear hx24
        try clear c25
        try clear c25b0
        try clear c26
        try clear c26b0
        try clear c31
        try clear c31b0
        try clear c32
        try clear c32b0
        try clear c34
        try clear c34b0
        try clear c35
        try clear c35b0
        try clear c36
        try clear c36b0
        try clear c42
        try clear c42b0
        try clear c42b1
        try clear c45
        try clear c45b0
        try clear c46
        try clear c46b0
        try clear hcz11_0
        try clear hcz11_1
        try clear hcz11_2
        try clear hcz11_3
        try clear hcz11_4
        try clear hcz11_5
        try clear hcz13_0
        try clear hcz13_1
        try clear hcz13_2
        try clear hcz13_3
        try clear hcz13_4
        try clear hcz13_5
        try clear hcz14_0
        try clear hcz14_1
        try clear hcz14_2
        try clear hcz14_3
        try clear hcz14_4
        try clear hcz14_5
        try clear hcz15_0
        try clear hcz15_1
        try clear hcz15_2
        try clear hcz15_3
        try clear hcz15_4
        try clear hcz15_5
        try clear hcz16_0
        try clear hcz16_1
        try clear hcz16_2
        try clear hcz16_3
        try clear hcz16_4
        try clear hcz16_5
        try clear hcz27_0
        try clear hcz27_1
        try clear hcz27_2
        try clear hcz27_3
        try clear hcz27_4
        try clear hcz27_5
        try clear hcz28_0
        try clear hcz28_1
        try clear hcz28_2
        try clear hcz28_3
        try clear hcz28_4
        try clear hcz28_5
        try clear hcz29_0
        try clear hcz29_1
        try clear hcz29_2
        try clear hcz29_3
        try clear hcz29_4
        try clear hcz29_5
        try clear hcz30_0
        try clear hcz30_1
        try clear hcz30_2
        try clear hcz30_3
        try clear hcz30_4
        try clear hcz30_5
        try clear hcz37_0
        try clear hcz37_1
        try clear hcz37_2
        try clear hcz37_3
        try clear hcz37_4
        try clear hcz37_5
        try clear hcz38_0
        try clear hcz38_1
        try clear hcz38_2
        try clear hcz38_3
        try clear hcz38_4
        try clear hcz38_5
        try clear hcz39_0
        try clear hcz39_1
        try clear hcz39_2
        try clear hcz39_3
        try clear hcz39_4
        try clear hcz39_5
        try clear hcz41_0
        try clear hcz41_1
        try clear hcz41_2
        try clear hcz41_3
        try clear hcz41_4
        try clear hcz41_5
        try clear hcz43_0
        try clear hcz43_1
        try clear hcz43_2
        try clear hcz43_3
        try clear hcz43_4
        try clear hcz43_5
        try clear hcz47_0
        try clear hcz47_1
        try clear hcz47_2
        try clear hcz47_3
        try clear hcz47_4
        try clear hcz47_5
        try clear hfz11_0
        try clear hfz11_1
        try clear hfz11_2
        try clear hfz11_3
        try clear hfz11_4
        try clear hfz11_5
        try clear hfz13_0
        try clear hfz13_1
        try clear hfz13_2
        try clear hfz13_3
        try clear hfz13_4
        try clear hfz13_5
        try clear hfz14_0
        try clear hfz14_1
        try clear hfz14_2
        try clear hfz14_3
        try clear hfz14_4
        try clear hfz14_5
        try clear hfz15_0
        try clear hfz15_1
        try clear hfz15_2
        try clear hfz15_3
        try clear hfz15_4
        try clear hfz15_5
        try clear hfz16_0
        try clear hfz16_1
        try clear hfz16_2
        try clear hfz16_3
        try clear hfz16_4
        try clear hfz16_5
        try clear hfz27_0
        try clear hfz27_1
        try clear hfz27_2
        try clear hfz27_3
        try clear hfz27_4
        try clear hfz27_5
        try clear hfz28_0
        try clear hfz28_1
        try clear hfz28_2
        try clear hfz28_3
        try clear hfz28_4
        try clear hfz28_5
        try clear hfz29_0
        try clear hfz29_1
        try clear hfz29_2
        try clear hfz29_3
        try clear hfz29_4
        try clear hfz29_5
        try clear hfz30_0
        try clear hfz30_1
        try clear hfz30_2
        try clear hfz30_3
        try clear hfz30_4
        try clear hfz30_5
        try clear hfz37_0
        try clear hfz37_1
        try clear hfz37_2
        try clear hfz37_3
        try clear hfz37_4
        try clear hfz37_5
        try clear hfz38_0
        try clear hfz38_1
        try clear hfz38_2
        try clear hfz38_3
        try clear hfz38_4
        try clear hfz38_5
        try clear hfz39_0
        try clear hfz39_1
        try clear hfz39_2
        try clear hfz39_3
        try clear hfz39_4
        try clear hfz39_5
        try clear hfz41_0
        try clear hfz41_1
        try clear hfz41_2
        try clear hfz41_3
        try clear hfz41_4
        try clear hfz41_5
        try clear hfz43_0
        try clear hfz43_1
        try clear hfz43_2
        try clear hfz43_3
        try clear hfz43_4
        try clear hfz43_5
        try clear hfz47_0
        try clear hfz47_1
        try clear hfz47_2
        try clear hfz47_3
        try clear hfz47_4
        try clear hfz47_5
        try clear hx235_0
        try clear hx236_0
        try clear hx237_0
        try clear hx238_0
        try clear hx239_0
        try clear hx240_0
        try clear p2
        try clear p235
        try clear p236
        try clear p237
        try clear p238
        try clear p239
        try clear p240
        try clear q235
        try clear q236
        try clear q237
        try clear q238
        try clear q239
        try clear q240
        obtain ⟨kq,x90_39,rfl,HA,HJ39,BK230,HB⟩:=hcut
        cases kq with
        | zero=>exact absurd HA.out (by simp [z0b.j2])
        | succ kj39 =>
         have H:=HA.out
         clear HA
         simp only [z0b.j2] at H
         by_cases c48 : x90_39 = true
         ·subst c48
          have H1 : (some 3) = some r:=by rw [if_pos rfl] at H; exact H
          clear H
          have H:=H1
          clear H1
          obtain rfl:=Option.some.inj H
          go_wp2
          repeat (go_quiet (fail); try go_wp2)
          go_ret
          exact ⟨by first | rfl | (simp [z0i,z0h] <;> rfl) | (simp [*,z0i,z0h] <;> rfl),by repeat (first | (with_reducible first | exact HB.out | apply z04 | apply z03 | apply z05 | refine z07 ?_ GE230.out) | exact HB.out)⟩
         ·replace c48:=Bool.eq_false_iff.mpr c48
          subst c48
          have H1 : (z0b.l1 kj39 0 a0_0 a0_1 a0_2 l0_3 l0_4 l0_5) = some r:=by rw [if_neg (show ¬ (false = true) by decide)] at H; exact H
          clear H
          have H:=H1
          clear H1
          have H':=Aside0.mk H
          clear H
          go_wp2
          repeat (go_quiet (fail); try go_wp2)
          go_loopg [4] kj39 (fun kq v4 w'=>∃ (x4_4 : Int),v4 = .int .i64 x4_4 ∧ Aside0 (z0b.l1 kq x4_4 a0_0 a0_1 a0_2 l0_3 l0_4 l0_5 = some r) ∧ Aside0 (kq ≤ kj39) ∧ Aside0 (w'.heap[gb230]? = some (.cells #[.int .i64 a0_0,.int .i64 a0_1,.int .i64 a0_2,(.slice A0_3 l0_3.length c0_3),(.slice A0_4 l0_4.length c0_4),(.slice A0_5 l0_5.length c0_5)] 26 (0,0))) ∧ Aside0 (Below w.heap.size w w'))
          case atStart=>exact ⟨(0),(by first | rfl | (simp; done) | (simp [*]; done)),H',⟨Nat.le_refl _⟩,⟨by (with_reducible repeat (first | refine z08 ?_ _ | refine z09 ?_ | refine z06 ?_ _)); exact BK230.out⟩,⟨by repeat (first | (with_reducible first | exact HB.out | apply z04 | apply z03 | apply z05 | refine z07 ?_ GE230.out) | exact HB.out)⟩⟩
          case round =>
           clear H'
           try clear c1
           try clear c2
           try clear p2
           try clear q2
           try clear hx2
           try clear c3
           try clear c4
           try clear c5
           try clear p6
           try clear c7
           try clear c9
           try clear c10
           try clear c10b0
           try clear c17
           try clear c18
           try clear c18b0
           try clear c19
           try clear c19b0
           try clear c19b1
           try clear c20
           try clear c20b0
           try clear c21
           try clear c21b0
           try clear c21b1
           try clear c22
           try clear c22b0
           try clear p23
           try clear q23
           try clear hx23
           try clear c24
           try clear c24b0
           try clear p24
           try clear q24
           try clear hx24
           try clear c25
           try clear c25b0
           try clear c26
           try clear c26b0
           try clear c31
           try clear c31b0
           try clear c32
           try clear c32b0
           try clear c34
           try clear c34b0
           try clear c35
           try clear c35b0
           try clear c36
           try clear c36b0
           try clear c42
           try clear c42b0
           try clear c42b1
           try clear c45
           try clear c45b0
           try clear c46
           try clear c46b0
           try clear c48
           try clear hcz11_0
           try clear hcz11_1
           try clear hcz11_2
           try clear hcz11_3
           try clear hcz11_4
           try clear hcz11_5
           try clear hcz13_0
           try clear hcz13_1
           try clear hcz13_2
           try clear hcz13_3
           try clear hcz13_4
           try clear hcz13_5
           try clear hcz14_0
           try clear hcz14_1
           try clear hcz14_2
           try clear hcz14_3
           try clear hcz14_4
           try clear hcz14_5
           try clear hcz15_0
           try clear hcz15_1
           try clear hcz15_2
           try clear hcz15_3
           try clear hcz15_4
           try clear hcz15_5
           try clear hcz16_0
           try clear hcz16_1
           try clear hcz16_2
           try clear hcz16_3
           try clear hcz16_4
           try clear hcz16_5
           try clear hcz27_0
           try clear hcz27_1
           try clear hcz27_2
           try clear hcz27_3
           try clear hcz27_4
           try clear hcz27_5
           try clear hcz28_0
           try clear hcz28_1
           try clear hcz28_2
           try clear hcz28_3
           try clear hcz28_4
           try clear hcz28_5
           try clear hcz29_0
           try clear hcz29_1
           try clear hcz29_2
           try clear hcz29_3
           try clear hcz29_4
           try clear hcz29_5
           try clear hcz30_0
           try clear hcz30_1
           try clear hcz30_2
           try clear hcz30_3
           try clear hcz30_4
           try clear hcz30_5
           try clear hcz37_0
           try clear hcz37_1
           try clear hcz37_2
           try clear hcz37_3
           try clear hcz37_4
           try clear hcz37_5
           try clear hcz38_0
           try clear hcz38_1
           try clear hcz38_2
           try clear hcz38_3
           try clear hcz38_4
           try clear hcz38_5
           try clear hcz39_0
           try clear hcz39_1
           try clear hcz39_2
           try clear hcz39_3
           try clear hcz39_4
           try clear hcz39_5
           try clear hcz41_0
           try clear hcz41_1
           try clear hcz41_2
           try clear hcz41_3
           try clear hcz41_4
           try clear hcz41_5
           try clear hcz43_0
           try clear hcz43_1
           try clear hcz43_2
           try clear hcz43_3
           try clear hcz43_4
           try clear hcz43_5
           try clear hcz47_0
           try clear hcz47_1
           try clear hcz47_2
           try clear hcz47_3
           try clear hcz47_4
           try clear hcz47_5
           try clear hfz11_0
           try clear hfz11_1
           try clear hfz11_2
           try clear hfz11_3
           try clear hfz11_4
           try clear hfz11_5
           try clear hfz13_0
           try clear hfz13_1
           try clear hfz13_2
           try clear hfz13_3
           try clear hfz13_4
           try clear hfz13_5
           try clear hfz14_0
           try clear hfz14_1
           try clear hfz14_2
           try clear hfz14_3
           try clear hfz14_4
           try clear hfz14_5
           try clear hfz15_0
           try clear hfz15_1
           try clear hfz15_2
           try clear hfz15_3
           try clear hfz15_4
           try clear hfz15_5
           try clear hfz16_0
           try clear hfz16_1
           try clear hfz16_2
           try clear hfz16_3
           try clear hfz16_4
           try clear hfz16_5
           try clear hfz27_0
           try clear hfz27_1
           try clear hfz27_2
           try clear hfz27_3
           try clear hfz27_4
           try clear hfz27_5
           try clear hfz28_0
           try clear hfz28_1
           try clear hfz28_2
           try clear hfz28_3
           try clear hfz28_4
           try clear hfz28_5
           try clear hfz29_0
           try clear hfz29_1
           try clear hfz29_2
           try clear hfz29_3
           try clear hfz29_4
           try clear hfz29_5
           try clear hfz30_0
           try clear hfz30_1
           try clear hfz30_2
           try clear hfz30_3
           try clear hfz30_4
           try clear hfz30_5
           try clear hfz37_0
           try clear hfz37_1
           try clear hfz37_2
           try clear hfz37_3
           try clear hfz37_4
           try clear hfz37_5
           try clear hfz38_0
           try clear hfz38_1
           try clear hfz38_2
           try clear hfz38_3
           try clear hfz38_4
           try clear hfz38_5
           try clear hfz39_0
           try clear hfz39_1
           try clear hfz39_2
           try clear hfz39_3
           try clear hfz39_4
           try clear hfz39_5
           try clear hfz41_0
           try clear hfz41_1
           try clear hfz41_2
           try clear hfz41_3
           try clear hfz41_4
           try clear hfz41_5
           try clear hfz43_0
           try clear hfz43_1
           try clear hfz43_2
           try clear hfz43_3
           try clear hfz43_4
           try clear hfz43_5
           try clear hfz47_0
           try clear hfz47_1
           try clear hfz47_2
           try clear hfz47_3
           try clear hfz47_4
           try clear hfz47_5
           try clear hx235_0
           try clear hx236_0
           try clear hx237_0
           try clear hx238_0
           try clear hx239_0
           try clear hx240_0
           try clear p2
           try clear p23
           try clear p235
           try clear p236
           try clear p237
           try clear p238
           try clear p239
           try clear p24
           try clear p240
           try clear p6
           try clear q2
           try clear q23
           try clear q235
           try clear q236
           try clear q237
           try clear q238
           try clear q239
           try clear q24
           try clear q240
           obtain ⟨x4_4,rfl,HA,HK4,BK230,HB⟩:=hrel
           cases gk with
           | zero=>exact absurd HA.out (by simp [z0b.l1])
           | succ k4 =>
            have H:=HA.out
            clear HA
            simp only [z0b.l1] at H
            by_cases c49 : x4_4 < (l0_5.length : Int)
            ·rw [if_pos c49] at H
             have c49b0 : decide (x4_4 < (l0_5.length : Int)) = true:=decide_eq_true c49
             clear c49
             by_cases c50 : 0 ≤ x4_4
             ·rw [if_pos c50] at H
              have c50b0 : decide (0 ≤ x4_4) = true:=decide_eq_true c50
              clear c50
              replace H:=Option.bind_eq_some_iff.mp H
              obtain ⟨⟨t242,t245⟩,A510,H⟩:=H
              replace H : (if t245 = 0 then (z0b.l1 k4 (wrap64 (x4_4 + 1)) a0_0 a0_1 a0_2 l0_3 l0_4 l0_5) else (some t245)) = some r:=H
              have A51:=Aside0.mk A510
              clear A510
              by_cases c52 : t245 = 0
              ·rw [if_pos c52] at H
               have c52b0 : (t245 == 0) = true:=beq_iff_eq.mpr c52
               have c52b1 : (t245 != 0) = false:=bne_eq_false_iff_eq.mpr c52
               clear c52
               have H':=Aside0.mk H
               clear H
               have hcz53_0 : wr.cell? ⟨gb230,0,none⟩ = some (.int .i64 a0_0):=(z02 BK230.out 0).trans rfl
               have hcz53_1 : wr.cell? ⟨gb230,1,none⟩ = some (.int .i64 a0_1):=(z02 BK230.out 1).trans rfl
               have hcz53_2 : wr.cell? ⟨gb230,2,none⟩ = some (.int .i64 a0_2):=(z02 BK230.out 2).trans rfl
               have hcz53_3 : wr.cell? ⟨gb230,3,none⟩ = some (.slice A0_3 l0_3.length c0_3):=(z02 BK230.out 3).trans rfl
               have hcz53_4 : wr.cell? ⟨gb230,4,none⟩ = some (.slice A0_4 l0_4.length c0_4):=(z02 BK230.out 4).trans rfl
               have hcz53_5 : wr.cell? ⟨gb230,5,none⟩ = some (.slice A0_5 l0_5.length c0_5):=(z02 BK230.out 5).trans rfl
               have hfz53_0:=z01 BK230.out 0
               have hfz53_1:=z01 BK230.out 1
               have hfz53_2:=z01 BK230.out 2
               have hfz53_3:=z01 BK230.out 3
               have hfz53_4:=z01 BK230.out 4
               have hfz53_5:=z01 BK230.out 5
               have p241 : 0 ≤ (x4_4 : Int):=of_decide_eq_true (by assumption)
               have q241 : x4_4 < (l0_5.length : Int):=of_decide_eq_true (by assumption)
               obtain ⟨ad241,e241,hx241_0,hx241_1,hx241_2,hx241_3,hx241_4⟩:=at_T45 HR0_5.out x4_4 p241 q241
               cases e241
               replace hx241_0:=(HB.out.cell (World.block_lt_of_cell? w _ hx241_0)).trans hx241_0
               replace hx241_1:=(HB.out.cell (World.block_lt_of_cell? w _ hx241_1)).trans hx241_1
               replace hx241_2:=(HB.out.cell (World.block_lt_of_cell? w _ hx241_2)).trans hx241_2
               replace hx241_3:=(HB.out.cell (World.block_lt_of_cell? w _ hx241_3)).trans hx241_3
               replace hx241_4:=(HB.out.cell (World.block_lt_of_cell? w _ hx241_4)).trans hx241_4
               replace p241:=eq_true p241
               replace q241:=eq_true q241
               go_wp2_with (first | (go_at_call 57; (with_reducible refine (z0q.calls k4 ((z0a l0_5 x4_4).f0) ((z0a l0_5 x4_4).f1) ((z0a l0_5 x4_4).f2) ((z0a l0_5 x4_4).f3) ((z0a l0_5 x4_4).f4) t242 t245 _ A51.out).mono ?_); rintro e w54 ⟨v243,rfl,ho0,hb⟩; have n0_:=Aside0.mk (Kd.R_lower ho0 (z0l (by repeat (first | (with_reducible first | exact HB.out | apply z04 | apply z03 | apply z05 | refine z07 ?_ GE230.out) | exact HB.out)))); have n1_:=Aside0.mk (z0v (g:=gb230) (o:=.cells #[.int .i64 a0_0,.int .i64 a0_1,.int .i64 a0_2,.slice A0_3 l0_3.length c0_3,.slice A0_4 l0_4.length c0_4,.slice (some ad241) l0_5.length c0_5] 26 (0,0)) (by (with_reducible repeat (first | refine z08 ?_ _ | refine z09 ?_ | refine z06 ?_ _)); exact BK230.out) hb); have n2_:=Aside0.mk (z0s (by repeat (first | (with_reducible first | exact HB.out | apply z04 | apply z03 | apply z05 | refine z07 ?_ GE230.out) | exact HB.out)) hb); clear BK230; clear HB; have HO244:=n0_; have BK230:=n1_; have HB:=n2_; clear n0_ n1_ n2_; (try clear hb); (try clear hb2); (try clear hk); (try clear hi); (try clear ho0)))
               repeat (go_quiet (first | (go_at_call 57; (with_reducible refine (z0q.calls k4 ((z0a l0_5 x4_4).f0) ((z0a l0_5 x4_4).f1) ((z0a l0_5 x4_4).f2) ((z0a l0_5 x4_4).f3) ((z0a l0_5 x4_4).f4) t242 t245 _ A51.out).mono ?_); rintro e w54 ⟨v243,rfl,ho0,hb⟩; have n0_:=Aside0.mk (Kd.R_lower ho0 (z0l (by repeat (first | (with_reducible first | exact HB.out | apply z04 | apply z03 | apply z05 | refine z07 ?_ GE230.out) | exact HB.out)))); have n1_:=Aside0.mk (z0v (g:=gb230) (o:=.cells #[.int .i64 a0_0,.int .i64 a0_1,.int .i64 a0_2,.slice A0_3 l0_3.length c0_3,.slice A0_4 l0_4.length c0_4,.slice (some ad241) l0_5.length c0_5] 26 (0,0)) (by (with_reducible repeat (first | refine z08 ?_ _ | refine z09 ?_ | refine z06 ?_ _)); exact BK230.out) hb); have n2_:=Aside0.mk (z0s (by repeat (first | (with_reducible first | exact HB.out | apply z04 | apply z03 | apply z05 | refine z07 ?_ GE230.out) | exact HB.out)) hb); clear BK230; clear HB; have HO244:=n0_; have BK230:=n1_; have HB:=n2_; clear n0_ n1_ n2_; (try clear hb); (try clear hb2); (try clear hk); (try clear hi); (try clear ho0))); try go_wp2_with (first | (go_at_call 57; (with_reducible refine (z0q.calls k4 ((z0a l0_5 x4_4).f0) ((z0a l0_5 x4_4).f1) ((z0a l0_5 x4_4).f2) ((z0a l0_5 x4_4).f3) ((z0a l0_5 x4_4).f4) t242 t245 _ A51.out).mono ?_); rintro e w54 ⟨v243,rfl,ho0,hb⟩; have n0_:=Aside0.mk (Kd.R_lower ho0 (z0l (by repeat (first | (with_reducible first | exact HB.out | apply z04 | apply z03 | apply z05 | refine z07 ?_ GE230.out) | exact HB.out)))); have n1_:=Aside0.mk (z0v (g:=gb230) (o:=.cells #[.int .i64 a0_0,.int .i64 a0_1,.int .i64 a0_2,.slice A0_3 l0_3.length c0_3,.slice A0_4 l0_4.length c0_4,.slice (some ad241) l0_5.length c0_5] 26 (0,0)) (by (with_reducible repeat (first | refine z08 ?_ _ | refine z09 ?_ | refine z06 ?_ _)); exact BK230.out) hb); have n2_:=Aside0.mk (z0s (by repeat (first | (with_reducible first | exact HB.out | apply z04 | apply z03 | apply z05 | refine z07 ?_ GE230.out) | exact HB.out)) hb); clear BK230; clear HB; have HO244:=n0_; have BK230:=n1_; have HB:=n2_; clear n0_ n1_ n2_; (try clear hb); (try clear hb2); (try clear hk); (try clear hi); (try clear ho0))))
               go_roundg k4
               case measure=>have:=HJ1.out; have:=HK2.out; have:=HJ39.out; have:=HK4.out; omega
               case rel=>exact ⟨(wrap64 (x4_4 + 1)),(by first | rfl | (simp; done) | (simp [*]; done)),H',⟨by have:=HJ1.out; have:=HK2.out; have:=HJ39.out; have:=HK4.out; omega⟩,⟨by (with_reducible repeat (first | refine z08 ?_ _ | refine z09 ?_ | refine z06 ?_ _)); exact BK230.out⟩,⟨by repeat (first | (with_reducible first | exact HB.out | apply z04 | apply z03 | apply z05 | refine z07 ?_ GE230.out) | exact HB.out)⟩⟩
              ·rw [if_neg c52] at H
               have c52b0 : (t245 == 0) = false:=beq_eq_false_iff_ne.mpr c52
               have c52b1 : (t245 != 0) = true:=bne_iff_ne.mpr c52
               obtain rfl:=Option.some.inj H
               have hcz55_0 : wr.cell? ⟨gb230,0,none⟩ = some (.int .i64 a0_0):=(z02 BK230.out 0).trans rfl
               have hcz55_1 : wr.cell? ⟨gb230,1,none⟩ = some (.int .i64 a0_1):=(z02 BK230.out 1).trans rfl
               have hcz55_2 : wr.cell? ⟨gb230,2,none⟩ = some (.int .i64 a0_2):=(z02 BK230.out 2).trans rfl
               have hcz55_3 : wr.cell? ⟨gb230,3,none⟩ = some (.slice A0_3 l0_3.length c0_3):=(z02 BK230.out 3).trans rfl
               have hcz55_4 : wr.cell? ⟨gb230,4,none⟩ = some (.slice A0_4 l0_4.length c0_4):=(z02 BK230.out 4).trans rfl
               have hcz55_5 : wr.cell? ⟨gb230,5,none⟩ = some (.slice A0_5 l0_5.length c0_5):=(z02 BK230.out 5).trans rfl
               have hfz55_0:=z01 BK230.out 0
               have hfz55_1:=z01 BK230.out 1
               have hfz55_2:=z01 BK230.out 2
               have hfz55_3:=z01 BK230.out 3
               have hfz55_4:=z01 BK230.out 4
               have hfz55_5:=z01 BK230.out 5
               have p241 : 0 ≤ (x4_4 : Int):=of_decide_eq_true (by assumption)
               have q241 : x4_4 < (l0_5.length : Int):=of_decide_eq_true (by assumption)
               obtain ⟨ad241,e241,hx241_0,hx241_1,hx241_2,hx241_3,hx241_4⟩:=at_T45 HR0_5.out x4_4 p241 q241
               cases e241
               replace hx241_0:=(HB.out.cell (World.block_lt_of_cell? w _ hx241_0)).trans hx241_0
               replace hx241_1:=(HB.out.cell (World.block_lt_of_cell? w _ hx241_1)).trans hx241_1
               replace hx241_2:=(HB.out.cell (World.block_lt_of_cell? w _ hx241_2)).trans hx241_2
               replace hx241_3:=(HB.out.cell (World.block_lt_of_cell? w _ hx241_3)).trans hx241_3
               replace hx241_4:=(HB.out.cell (World.block_lt_of_cell? w _ hx241_4)).trans hx241_4
               replace p241:=eq_true p241
               replace q241:=eq_true q241
               go_wp2_with (first | (go_at_call 57; (with_reducible refine (z0q.calls k4 ((z0a l0_5 x4_4).f0) ((z0a l0_5 x4_4).f1) ((z0a l0_5 x4_4).f2) ((z0a l0_5 x4_4).f3) ((z0a l0_5 x4_4).f4) t242 t245 _ A51.out).mono ?_); rintro e w56 ⟨v243,rfl,ho0,hb⟩; have n0_:=Aside0.mk (Kd.R_lower ho0 (z0l (by repeat (first | (with_reducible first | exact HB.out | apply z04 | apply z03 | apply z05 | refine z07 ?_ GE230.out) | exact HB.out)))); have n1_:=Aside0.mk (z0v (g:=gb230) (o:=.cells #[.int .i64 a0_0,.int .i64 a0_1,.int .i64 a0_2,.slice A0_3 l0_3.length c0_3,.slice A0_4 l0_4.length c0_4,.slice (some ad241) l0_5.length c0_5] 26 (0,0)) (by (with_reducible repeat (first | refine z08 ?_ _ | refine z09 ?_ | refine z06 ?_ _)); exact BK230.out) hb); have n2_:=Aside0.mk (z0s (by repeat (first | (with_reducible first | exact HB.out | apply z04 | apply z03 | apply z05 | refine z07 ?_ GE230.out) | exact HB.out)) hb); clear BK230; clear HB; have HO244:=n0_; have BK230:=n1_; have HB:=n2_; clear n0_ n1_ n2_; (try clear hb); (try clear hb2); (try clear hk); (try clear hi); (try clear ho0)))
               repeat (go_quiet (first | (go_at_call 57; (with_reducible refine (z0q.calls k4 ((z0a l0_5 x4_4).f0) ((z0a l0_5 x4_4).f1) ((z0a l0_5 x4_4).f2) ((z0a l0_5 x4_4).f3) ((z0a l0_5 x4_4).f4) t242 t245 _ A51.out).mono ?_); rintro e w56 ⟨v243,rfl,ho0,hb⟩; have n0_:=Aside0.mk (Kd.R_lower ho0 (z0l (by repeat (first | (with_reducible first | exact HB.out | apply z04 | apply z03 | apply z05 | refine z07 ?_ GE230.out) | exact HB.out)))); have n1_:=Aside0.mk (z0v (g:=gb230) (o:=.cells #[.int .i64 a0_0,.int .i64 a0_1,.int .i64 a0_2,.slice A0_3 l0_3.length c0_3,.slice A0_4 l0_4.length c0_4,.slice (some ad241) l0_5.length c0_5] 26 (0,0)) (by (with_reducible repeat (first | refine z08 ?_ _ | refine z09 ?_ | refine z06 ?_ _)); exact BK230.out) hb); have n2_:=Aside0.mk (z0s (by repeat (first | (with_reducible first | exact HB.out | apply z04 | apply z03 | apply z05 | refine z07 ?_ GE230.out) | exact HB.out)) hb); clear BK230; clear HB; have HO244:=n0_; have BK230:=n1_; have HB:=n2_; clear n0_ n1_ n2_; (try clear hb); (try clear hb2); (try clear hk); (try clear hi); (try clear ho0))); try go_wp2_with (first | (go_at_call 57; (with_reducible refine (z0q.calls k4 ((z0a l0_5 x4_4).f0) ((z0a l0_5 x4_4).f1) ((z0a l0_5 x4_4).f2) ((z0a l0_5 x4_4).f3) ((z0a l0_5 x4_4).f4) t242 t245 _ A51.out).mono ?_); rintro e w56 ⟨v243,rfl,ho0,hb⟩; have n0_:=Aside0.mk (Kd.R_lower ho0 (z0l (by repeat (first | (with_reducible first | exact HB.out | apply z04 | apply z03 | apply z05 | refine z07 ?_ GE230.out) | exact HB.out)))); have n1_:=Aside0.mk (z0v (g:=gb230) (o:=.cells #[.int .i64 a0_0,.int .i64 a0_1,.int .i64 a0_2,.slice A0_3 l0_3.length c0_3,.slice A0_4 l0_4.length c0_4,.slice (some ad241) l0_5.length c0_5] 26 (0,0)) (by (with_reducible repeat (first | refine z08 ?_ _ | refine z09 ?_ | refine z06 ?_ _)); exact BK230.out) hb); have n2_:=Aside0.mk (z0s (by repeat (first | (with_reducible first | exact HB.out | apply z04 | apply z03 | apply z05 | refine z07 ?_ GE230.out) | exact HB.out)) hb); clear BK230; clear HB; have HO244:=n0_; have BK230:=n1_; have HB:=n2_; clear n0_ n1_ n2_; (try clear hb); (try clear hb2); (try clear hk); (try clear hi); (try clear ho0))))
               go_ret
               exact ⟨by first | rfl | (simp [z0i,z0h] <;> rfl) | (simp [*,z0i,z0h] <;> rfl),by repeat (first | (with_reducible first | exact HB.out | apply z04 | apply z03 | apply z05 | refine z07 ?_ GE230.out) | exact HB.out)⟩
             ·rw [if_neg c50] at H
              exact absurd H (by simp)
            ·rw [if_neg c49] at H
             have c49b0 : decide (x4_4 < (l0_5.length : Int)) = false:=decide_eq_false c49
             clear c49
             replace H:=Option.bind_eq_some_iff.mp H
             obtain ⟨t246,A570,H⟩:=H
             replace H : (if t246 ≥ 0 then (some 7) else (some 0)) = some r:=H
             have A57:=Aside0.mk A570
             clear A570
             by_cases c58 : t246 ≥ 0
             ·rw [if_pos c58] at H
              have c58b0 : decide (0 ≤ t246) = true:=decide_eq_true c58
              clear c58
              obtain rfl:=Option.some.inj H
              have hcz59_0 : wr.cell? ⟨gb230,0,none⟩ = some (.int .i64 a0_0):=(z02 BK230.out 0).trans rfl
              have hcz59_1 : wr.cell? ⟨gb230,1,none⟩ = some (.int .i64 a0_1):=(z02 BK230.out 1).trans rfl
              have hcz59_2 : wr.cell? ⟨gb230,2,none⟩ = some (.int .i64 a0_2):=(z02 BK230.out 2).trans rfl
              have hcz59_3 : wr.cell? ⟨gb230,3,none⟩ = some (.slice A0_3 l0_3.length c0_3):=(z02 BK230.out 3).trans rfl
              have hcz59_4 : wr.cell? ⟨gb230,4,none⟩ = some (.slice A0_4 l0_4.length c0_4):=(z02 BK230.out 4).trans rfl
              have hcz59_5 : wr.cell? ⟨gb230,5,none⟩ = some (.slice A0_5 l0_5.length c0_5):=(z02 BK230.out 5).trans rfl
              have hfz59_0:=z01 BK230.out 0
              have hfz59_1:=z01 BK230.out 1
              have hfz59_2:=z01 BK230.out 2
              have hfz59_3:=z01 BK230.out 3
              have hfz59_4:=z01 BK230.out 4
              have hfz59_5:=z01 BK230.out 5
              go_wp2_with (first | (go_at_call 58; (with_reducible refine (z0c.calls k4 a0_0 a0_1 a0_2 _ _ l0_3 _ _ l0_4 _ _ l0_5 t246 _ ?side1 ?side2 ?side3 ?side4 ?side5 ?side6 A57.out).mono ?_); (case side1=>repeat (first | exact (Kd.C_below HR0_3.out HB.out) | (with_reducible refine Kd.C_alloc ?_ _) | (with_reducible refine Kd.C_drewN ?_ _) | (with_reducible refine Kd.C_drew ?_))); (case side2=>exact HC0_3.out); (case side3=>repeat (first | exact (Kd.C_below HR0_4.out HB.out) | (with_reducible refine Kd.C_alloc ?_ _) | (with_reducible refine Kd.C_drewN ?_ _) | (with_reducible refine Kd.C_drew ?_))); (case side4=>exact HC0_4.out); (case side5=>repeat (first | exact (Kd.C_below HR0_5.out HB.out) | (with_reducible refine Kd.C_alloc ?_ _) | (with_reducible refine Kd.C_drewN ?_ _) | (with_reducible refine Kd.C_drew ?_))); (case side6=>exact HC0_5.out); rintro e w60 ⟨rfl,hb⟩; have n0_:=Aside0.mk (z0v (g:=gb230) (o:=.cells #[.int .i64 a0_0,.int .i64 a0_1,.int .i64 a0_2,.slice A0_3 l0_3.length c0_3,.slice A0_4 l0_4.length c0_4,.slice A0_5 l0_5.length c0_5] 26 (0,0)) (by (with_reducible repeat (first | refine z08 ?_ _ | refine z09 ?_ | refine z06 ?_ _)); exact BK230.out) hb); have n1_:=Aside0.mk (z0s (by repeat (first | (with_reducible first | exact HB.out | apply z04 | apply z03 | apply z05 | refine z07 ?_ GE230.out) | exact HB.out)) hb); clear BK230; clear HB; have BK230:=n0_; have HB:=n1_; clear n0_ n1_; (try clear hb); (try clear hb2); (try clear hk); (try clear hi)))
              repeat (go_quiet (first | (go_at_call 58; (with_reducible refine (z0c.calls k4 a0_0 a0_1 a0_2 _ _ l0_3 _ _ l0_4 _ _ l0_5 t246 _ ?side1 ?side2 ?side3 ?side4 ?side5 ?side6 A57.out).mono ?_); (case side1=>repeat (first | exact (Kd.C_below HR0_3.out HB.out) | (with_reducible refine Kd.C_alloc ?_ _) | (with_reducible refine Kd.C_drewN ?_ _) | (with_reducible refine Kd.C_drew ?_))); (case side2=>exact HC0_3.out); (case side3=>repeat (first | exact (Kd.C_below HR0_4.out HB.out) | (with_reducible refine Kd.C_alloc ?_ _) | (with_reducible refine Kd.C_drewN ?_ _) | (with_reducible refine Kd.C_drew ?_))); (case side4=>exact HC0_4.out); (case side5=>repeat (first | exact (Kd.C_below HR0_5.out HB.out) | (with_reducible refine Kd.C_alloc ?_ _) | (with_reducible refine Kd.C_drewN ?_ _) | (with_reducible refine Kd.C_drew ?_))); (case side6=>exact HC0_5.out); rintro e w60 ⟨rfl,hb⟩; have n0_:=Aside0.mk (z0v (g:=gb230) (o:=.cells #[.int .i64 a0_0,.int .i64 a0_1,.int .i64 a0_2,.slice A0_3 l0_3.length c0_3,.slice A0_4 l0_4.length c0_4,.slice A0_5 l0_5.length c0_5] 26 (0,0)) (by (with_reducible repeat (first | refine z08 ?_ _ | refine z09 ?_ | refine z06 ?_ _)); exact BK230.out) hb); have n1_:=Aside0.mk (z0s (by repeat (first | (with_reducible first | exact HB.out | apply z04 | apply z03 | apply z05 | refine z07 ?_ GE230.out) | exact HB.out)) hb); clear BK230; clear HB; have BK230:=n0_; have HB:=n1_; clear n0_ n1_; (try clear hb); (try clear hb2); (try clear hk); (try clear hi))); try go_wp2_with (first | (go_at_call 58; (with_reducible refine (z0c.calls k4 a0_0 a0_1 a0_2 _ _ l0_3 _ _ l0_4 _ _ l0_5 t246 _ ?side1 ?side2 ?side3 ?side4 ?side5 ?side6 A57.out).mono ?_); (case side1=>repeat (first | exact (Kd.C_below HR0_3.out HB.out) | (with_reducible refine Kd.C_alloc ?_ _) | (with_reducible refine Kd.C_drewN ?_ _) | (with_reducible refine Kd.C_drew ?_))); (case side2=>exact HC0_3.out); (case side3=>repeat (first | exact (Kd.C_below HR0_4.out HB.out) | (with_reducible refine Kd.C_alloc ?_ _) | (with_reducible refine Kd.C_drewN ?_ _) | (with_reducible refine Kd.C_drew ?_))); (case side4=>exact HC0_4.out); (case side5=>repeat (first | exact (Kd.C_below HR0_5.out HB.out) | (with_reducible refine Kd.C_alloc ?_ _) | (with_reducible refine Kd.C_drewN ?_ _) | (with_reducible refine Kd.C_drew ?_))); (case side6=>exact HC0_5.out); rintro e w60 ⟨rfl,hb⟩; have n0_:=Aside0.mk (z0v (g:=gb230) (o:=.cells #[.int .i64 a0_0,.int .i64 a0_1,.int .i64 a0_2,.slice A0_3 l0_3.length c0_3,.slice A0_4 l0_4.length c0_4,.slice A0_5 l0_5.length c0_5] 26 (0,0)) (by (with_reducible repeat (first | refine z08 ?_ _ | refine z09 ?_ | refine z06 ?_ _)); exact BK230.out) hb); have n1_:=Aside0.mk (z0s (by repeat (first | (with_reducible first | exact HB.out | apply z04 | apply z03 | apply z05 | refine z07 ?_ GE230.out) | exact HB.out)) hb); clear BK230; clear HB; have BK230:=n0_; have HB:=n1_; clear n0_ n1_; (try clear hb); (try clear hb2); (try clear hk); (try clear hi))))
              go_ret
              exact ⟨by first | rfl | (simp [z0i,z0h] <;> rfl) | (simp [*,z0i,z0h] <;> rfl),by repeat (first | (with_reducible first | exact HB.out | apply z04 | apply z03 | apply z05 | refine z07 ?_ GE230.out) | exact HB.out)⟩
             ·rw [if_neg c58] at H
              have c58b0 : decide (0 ≤ t246) = false:=decide_eq_false c58
              clear c58
              obtain rfl:=Option.some.inj H
              have hcz61_0 : wr.cell? ⟨gb230,0,none⟩ = some (.int .i64 a0_0):=(z02 BK230.out 0).trans rfl
              have hcz61_1 : wr.cell? ⟨gb230,1,none⟩ = some (.int .i64 a0_1):=(z02 BK230.out 1).trans rfl
              have hcz61_2 : wr.cell? ⟨gb230,2,none⟩ = some (.int .i64 a0_2):=(z02 BK230.out 2).trans rfl
              have hcz61_3 : wr.cell? ⟨gb230,3,none⟩ = some (.slice A0_3 l0_3.length c0_3):=(z02 BK230.out 3).trans rfl
              have hcz61_4 : wr.cell? ⟨gb230,4,none⟩ = some (.slice A0_4 l0_4.length c0_4):=(z02 BK230.out 4).trans rfl
              have hcz61_5 : wr.cell? ⟨gb230,5,none⟩ = some (.slice A0_5 l0_5.length c0_5):=(z02 BK230.out 5).trans rfl
              have hfz61_0:=z01 BK230.out 0
              have hfz61_1:=z01 BK230.out 1
              have hfz61_2:=z01 BK230.out 2
              have hfz61_3:=z01 BK230.out 3
              have hfz61_4:=z01 BK230.out 4
              have hfz61_5:=z01 BK230.out 5
              go_wp2_with (first | (go_at_call 58; (with_reducible refine (z0c.calls k4 a0_0 a0_1 a0_2 _ _ l0_3 _ _ l0_4 _ _ l0_5 t246 _ ?side1 ?side2 ?side3 ?side4 ?side5 ?side6 A57.out).mono ?_); (case side1=>repeat (first | exact (Kd.C_below HR0_3.out HB.out) | (with_reducible refine Kd.C_alloc ?_ _) | (with_reducible refine Kd.C_drewN ?_ _) | (with_reducible refine Kd.C_drew ?_))); (case side2=>exact HC0_3.out); (case side3=>repeat (first | exact (Kd.C_below HR0_4.out HB.out) | (with_reducible refine Kd.C_alloc ?_ _) | (with_reducible refine Kd.C_drewN ?_ _) | (with_reducible refine Kd.C_drew ?_))); (case side4=>exact HC0_4.out); (case side5=>repeat (first | exact (Kd.C_below HR0_5.out HB.out) | (with_reducible refine Kd.C_alloc ?_ _) | (with_reducible refine Kd.C_drewN ?_ _) | (with_reducible refine Kd.C_drew ?_))); (case side6=>exact HC0_5.out); rintro e w62 ⟨rfl,hb⟩; have n0_:=Aside0.mk (z0v (g:=gb230) (o:=.cells #[.int .i64 a0_0,.int .i64 a0_1,.int .i64 a0_2,.slice A0_3 l0_3.length c0_3,.slice A0_4 l0_4.length c0_4,.slice A0_5 l0_5.length c0_5] 26 (0,0)) (by (with_reducible repeat (first | refine z08 ?_ _ | refine z09 ?_ | refine z06 ?_ _)); exact BK230.out) hb); have n1_:=Aside0.mk (z0s (by repeat (first | (with_reducible first | exact HB.out | apply z04 | apply z03 | apply z05 | refine z07 ?_ GE230.out) | exact HB.out)) hb); clear BK230; clear HB; have BK230:=n0_; have HB:=n1_; clear n0_ n1_; (try clear hb); (try clear hb2); (try clear hk); (try clear hi)))
              repeat (go_quiet (first | (go_at_call 58; (with_reducible refine (z0c.calls k4 a0_0 a0_1 a0_2 _ _ l0_3 _ _ l0_4 _ _ l0_5 t246 _ ?side1 ?side2 ?side3 ?side4 ?side5 ?side6 A57.out).mono ?_); (case side1=>repeat (first | exact (Kd.C_below HR0_3.out HB.out) | (with_reducible refine Kd.C_alloc ?_ _) | (with_reducible refine Kd.C_drewN ?_ _) | (with_reducible refine Kd.C_drew ?_))); (case side2=>exact HC0_3.out); (case side3=>repeat (first | exact (Kd.C_below HR0_4.out HB.out) | (with_reducible refine Kd.C_alloc ?_ _) | (with_reducible refine Kd.C_drewN ?_ _) | (with_reducible refine Kd.C_drew ?_))); (case side4=>exact HC0_4.out); (case side5=>repeat (first | exact (Kd.C_below HR0_5.out HB.out) | (with_reducible refine Kd.C_alloc ?_ _) | (with_reducible refine Kd.C_drewN ?_ _) | (with_reducible refine Kd.C_drew ?_))); (case side6=>exact HC0_5.out); rintro e w62 ⟨rfl,hb⟩; have n0_:=Aside0.mk (z0v (g:=gb230) (o:=.cells #[.int .i64 a0_0,.int .i64 a0_1,.int .i64 a0_2,.slice A0_3 l0_3.length c0_3,.slice A0_4 l0_4.length c0_4,.slice A0_5 l0_5.length c0_5] 26 (0,0)) (by (with_reducible repeat (first | refine z08 ?_ _ | refine z09 ?_ | refine z06 ?_ _)); exact BK230.out) hb); have n1_:=Aside0.mk (z0s (by repeat (first | (with_reducible first | exact HB.out | apply z04 | apply z03 | apply z05 | refine z07 ?_ GE230.out) | exact HB.out)) hb); clear BK230; clear HB; have BK230:=n0_; have HB:=n1_; clear n0_ n1_; (try clear hb); (try clear hb2); (try clear hk); (try clear hi))); try go_wp2_with (first | (go_at_call 58; (with_reducible refine (z0c.calls k4 a0_0 a0_1 a0_2 _ _ l0_3 _ _ l0_4 _ _ l0_5 t246 _ ?side1 ?side2 ?side3 ?side4 ?side5 ?side6 A57.out).mono ?_); (case side1=>repeat (first | exact (Kd.C_below HR0_3.out HB.out) | (with_reducible refine Kd.C_alloc ?_ _) | (with_reducible refine Kd.C_drewN ?_ _) | (with_reducible refine Kd.C_drew ?_))); (case side2=>exact HC0_3.out); (case side3=>repeat (first | exact (Kd.C_below HR0_4.out HB.out) | (with_reducible refine Kd.C_alloc ?_ _) | (with_reducible refine Kd.C_drewN ?_ _) | (with_reducible refine Kd.C_drew ?_))); (case side4=>exact HC0_4.out); (case side5=>repeat (first | exact (Kd.C_below HR0_5.out HB.out) | (with_reducible refine Kd.C_alloc ?_ _) | (with_reducible refine Kd.C_drewN ?_ _) | (with_reducible refine Kd.C_drew ?_))); (case side6=>exact HC0_5.out); rintro e w62 ⟨rfl,hb⟩; have n0_:=Aside0.mk (z0v (g:=gb230) (o:=.cells #[.int .i64 a0_0,.int .i64 a0_1,.int .i64 a0_2,.slice A0_3 l0_3.length c0_3,.slice A0_4 l0_4.length c0_4,.slice A0_5 l0_5.length c0_5] 26 (0,0)) (by (with_reducible repeat (first | refine z08 ?_ _ | refine z09 ?_ | refine z06 ?_ _)); exact BK230.out) hb); have n1_:=Aside0.mk (z0s (by repeat (first | (with_reducible first | exact HB.out | apply z04 | apply z03 | apply z05 | refine z07 ?_ GE230.out) | exact HB.out)) hb); clear BK230; clear HB; have BK230:=n0_; have HB:=n1_; clear n0_ n1_; (try clear hb); (try clear hb2); (try clear hk); (try clear hi))))
              go_ret
              exact ⟨by first | rfl | (simp [z0i,z0h] <;> rfl) | (simp [*,z0i,z0h] <;> rfl),by repeat (first | (with_reducible first | exact HB.out | apply z04 | apply z03 | apply z05 | refine z07 ?_ GE230.out) | exact HB.out)⟩
end Go.Proofs.Ytcbnhfnnjkkceaa.X
end
section
namespace Go.Proofs.Ytcbnhfnnjkkceaa.X
open Go.RowKit Go.Proofs.YtcbnhfnnjkkceaaW.PrintWords Go.Proofs.YtcbnhfnnjkkceaaW.PrintLast Go.Proofs.YtcbnhfnnjkkceaaW.PrintMore
attribute [local go_sem] max2_int min2_int max_two min_two max_three min_three max_four min_four
def backreachref03_Right.f (k : Nat) (a0_0 : Int) (a0_1 : Int) (a0_2 : Int) (l0_3 : List Int) (l0_4 : List Int) (l0_5 : List (S45)) : Option (Bool):=(z0b.f k a0_0 a0_1 a0_2 l0_3 l0_4 l0_5).bind fun t248=>(some (t248 == 0))
theorem backreachref03_Right.mono : ∀ a0 a1 a2 a3 a4 a5 k,LeO (backreachref03_Right.f k a0 a1 a2 a3 a4 a5) (backreachref03_Right.f (k + 1) a0 a1 a2 a3 a4 a5):=by
 intro a0 a1 a2 a3 a4 a5 k
 unfold backreachref03_Right.f
 repeat' first
   | (with_reducible exact z0b.mono _ _ _ _ _ _ _)
   | (with_reducible exact LeO.refl _)
   | (with_reducible exact LeO.none _)
   | (with_reducible refine LeO.ite ?_ ?_)
   | (with_reducible refine LeO.bind ?_ (fun _=>?_))
   | exact z0b.mono _ _ _ _ _ _ _
   | exact LeO.none _
   | refine LeO.ite ?_ ?_
   | refine LeO.bind ?_ (fun _=>?_)
set_option maxHeartbeats 8000000 in
set_option maxRecDepth 100000 in
theorem backreachref03_Right.calls (k : Nat) (a0_0 : Int) (a0_1 : Int) (a0_2 : Int) (A0_3 : Option Addr) (c0_3 : Nat) (l0_3 : List Int) (A0_4 : Option Addr) (c0_4 : Nat) (l0_4 : List Int) (A0_5 : Option Addr) (c0_5 : Nat) (l0_5 : List (S45)) (r : Bool) (w : World) (hr0_3 : Kd.C (Kd.int .u8) w A0_3 l0_3.length l0_3) (hc0_3 : l0_3.length ≤ c0_3) (hr0_4 : Kd.C (Kd.int .i64) w A0_4 l0_4.length l0_4) (hc0_4 : l0_4.length ≤ c0_4) (hr0_5 : Kd.C k45 w A0_5 l0_5.length l0_5) (hc0_5 : l0_5.length ≤ c0_5) (h : backreachref03_Right.f k a0_0 a0_1 a0_2 l0_3 l0_4 l0_5 = some r) :
  Calls Try.prog 28 #[.agg #[.int .i64 a0_0,.int .i64 a0_1,.int .i64 a0_2,.slice A0_3 l0_3.length c0_3,.slice A0_4 l0_4.length c0_4,.slice A0_5 l0_5.length c0_5]] w fun e w'=>e = .returned (.bool r) ∧ Below w.heap.size w w':=by
 have hu26:=Try.underlying26
 have HR0_3:=Aside0.mk hr0_3
 have HC0_3:=Aside0.mk hc0_3
 clear hr0_3 hc0_3
 have HR0_4:=Aside0.mk hr0_4
 have HC0_4:=Aside0.mk hc0_4
 clear hr0_4 hc0_4
 have HR0_5:=Aside0.mk hr0_5
 have HC0_5:=Aside0.mk hc0_5
 clear hr0_5 hc0_5
 have HB:=Aside0.mk (Below.refl w.heap.size w)
 have H : ((z0b.f k a0_0 a0_1 a0_2 l0_3 l0_4 l0_5).bind fun t248=>(some (t248 == 0))) = some r:=h
 clear h
 replace H:=Option.bind_eq_some_iff.mp H
 obtain ⟨t248,A20,H⟩:=H
 replace H : (some (t248 == 0)) = some r:=H
 have A2:=Aside0.mk A20
 clear A20
 obtain rfl:=Option.some.inj H
 go_enter Try.func28,Try.ntmps28
 go_wp2_with (first | ((with_reducible refine z10 (N:=1) rfl ?_); refine box_event ?hg (N:=1) ?hd (cs:=#[.int .i64 a0_0,.int .i64 a0_1,.int .i64 a0_2,.slice A0_3 l0_3.length c0_3,.slice A0_4 l0_4.length c0_4,.slice A0_5 l0_5.length c0_5]) (t:=26) ?hr ?_; (case hd=>rfl); (case hg=>rfl); (case hr=>first | (go_simp; done) | (go_simp; rfl)); intro gb247 hg w3 hbox hb; have n0_:=Aside0.mk (z0s (by repeat (first | (with_reducible first | exact HB.out | apply z04 | apply z03 | apply z05) | exact HB.out)) hb); have n1_:=Aside0.mk (hbox); have n2_:=Aside0.mk ((by rw [hg]; exact (z0l (by repeat (first | (with_reducible first | exact HB.out | apply z04 | apply z03 | apply z05) | exact HB.out))) : w.heap.size ≤ gb247)); have n3_:=Aside0.mk ((by rw [hg]; exact (z0l (by repeat (first | (with_reducible first | exact HB.out | apply z04 | apply z03 | apply z05) | exact HB.out))) : w.heap.size ≤ gb247)); clear HB; have HB:=n0_; have BK247:=n1_; have GW247:=n2_; have GE247:=n3_; clear n0_ n1_ n2_ n3_; clear hb hbox hg; have hcz4_0 : w3.cell? ⟨gb247,0,none⟩ = some (.int .i64 a0_0):=(z02 BK247.out 0).trans rfl; have hcz4_1 : w3.cell? ⟨gb247,1,none⟩ = some (.int .i64 a0_1):=(z02 BK247.out 1).trans rfl; have hcz4_2 : w3.cell? ⟨gb247,2,none⟩ = some (.int .i64 a0_2):=(z02 BK247.out 2).trans rfl; have hcz4_3 : w3.cell? ⟨gb247,3,none⟩ = some (.slice A0_3 l0_3.length c0_3):=(z02 BK247.out 3).trans rfl; have hcz4_4 : w3.cell? ⟨gb247,4,none⟩ = some (.slice A0_4 l0_4.length c0_4):=(z02 BK247.out 4).trans rfl; have hcz4_5 : w3.cell? ⟨gb247,5,none⟩ = some (.slice A0_5 l0_5.length c0_5):=(z02 BK247.out 5).trans rfl; have hfz4_0:=z01 BK247.out 0; have hfz4_1:=z01 BK247.out 1; have hfz4_2:=z01 BK247.out 2; have hfz4_3:=z01 BK247.out 3; have hfz4_4:=z01 BK247.out 4; have hfz4_5:=z01 BK247.out 5) | ((with_reducible refine z0t (f:=39) rfl ?_); refine goesL_ (some 4) rfl rfl Try.func39 (by kernel_rfl) rfl #[.agg #[.int .i64 a0_0,.int .i64 a0_1,.int .i64 a0_2,.slice A0_3 l0_3.length c0_3,.slice A0_4 l0_4.length c0_4,.slice A0_5 l0_5.length c0_5]] rfl (by (try simp only [List.map_toArray,List.map_cons,List.map_nil]); first | done | rfl | (simp only [List.length_drop,List.length_take]; rfl)) ?_; (with_reducible refine (z0b.calls k a0_0 a0_1 a0_2 _ _ l0_3 _ _ l0_4 _ _ l0_5 t248 _ ?side1 ?side2 ?side3 ?side4 ?side5 ?side6 A2.out).mono ?_); (case side1=>repeat (first | exact (Kd.C_below HR0_3.out HB.out) | (with_reducible refine Kd.C_alloc ?_ _) | (with_reducible refine Kd.C_drewN ?_ _) | (with_reducible refine Kd.C_drew ?_))); (case side2=>exact HC0_3.out); (case side3=>repeat (first | exact (Kd.C_below HR0_4.out HB.out) | (with_reducible refine Kd.C_alloc ?_ _) | (with_reducible refine Kd.C_drewN ?_ _) | (with_reducible refine Kd.C_drew ?_))); (case side4=>exact HC0_4.out); (case side5=>repeat (first | exact (Kd.C_below HR0_5.out HB.out) | (with_reducible refine Kd.C_alloc ?_ _) | (with_reducible refine Kd.C_drewN ?_ _) | (with_reducible refine Kd.C_drew ?_))); (case side6=>exact HC0_5.out); rintro e w5 ⟨rfl,hb⟩; refine ⟨_,rfl,?_⟩; have n0_:=Aside0.mk (z0v (g:=gb247) (o:=.cells #[.int .i64 a0_0,.int .i64 a0_1,.int .i64 a0_2,.slice A0_3 l0_3.length c0_3,.slice A0_4 l0_4.length c0_4,.slice A0_5 l0_5.length c0_5] 26 (0,0)) (by (with_reducible repeat (first | refine z08 ?_ _ | refine z09 ?_ | refine z06 ?_ _)); exact BK247.out) hb); have n1_:=Aside0.mk (z0s (by repeat (first | (with_reducible first | exact HB.out | apply z04 | apply z03 | apply z05 | refine z07 ?_ GE247.out) | exact HB.out)) hb); clear BK247; clear HB; have BK247:=n0_; have HB:=n1_; clear n0_ n1_; (try clear hb); (try clear hb2); (try clear hk); (try clear hi)))
 go_ret
 exact ⟨by first | rfl | (simp [z0i,z0h] <;> rfl) | (simp [*,z0i,z0h] <;> rfl),by repeat (first | (with_reducible first | exact HB.out | apply z04 | apply z03 | apply z05 | refine z07 ?_ GE247.out) | exact HB.out)⟩
end Go.Proofs.Ytcbnhfnnjkkceaa.X
end
section
namespace Go.Proofs.Ytcbnhfnnjkkceaa.X
open Go.RowKit Go.Proofs.YtcbnhfnnjkkceaaW.PrintWords Go.Proofs.Ytcbnhfnnjkkceaa.Gr
theorem chk_has (k : Nat) (a : Int) : ∃ s,z0e.f (k + 3) a = some s ∧ s.size ≤ 4:=by
 have h2 : ∀ (x : Int) (b : Bool),∃ s,z0e.j2 (k + 1) x b = some s ∧ s.size ≤ 4:=fun x b=>by
  rw [z0e.j2]
  repeat' split
  all_goals exact ⟨_,rfl,by decide⟩
 have h1 : ∀ (x : Int) (b : Bool),∃ s,z0e.j1 (k + 2) x b = some s ∧ s.size ≤ 4:=fun x b=>by
  rw [z0e.j1]
  repeat' split
  all_goals first | exact h2 _ _ | exact ⟨_,rfl,by decide⟩
 have h0 : ∀ (x : Int) (b : Bool),∃ s,z0e.j0 (k + 3) x b = some s ∧ s.size ≤ 4:=fun x b=>by
  rw [z0e.j0]
  repeat' split
  all_goals first | exact h1 _ _ | exact ⟨_,rfl,by decide⟩
 unfold z0e.f
 repeat' split
 all_goals exact h0 _ _
theorem chk_in_l0 (s : ByteArray) (x : Int) (hs : s.size ≤ 4) : ∀ (d k j : Nat),j + d = s.size → d < k → ∃ b,z0f.l0 k s x j = some b
 | 0,k,j,h,hk=>by
  obtain ⟨k,rfl⟩ : ∃ i,k = i + 1:=⟨k - 1,by omega⟩
  rw [z0f.l0,if_neg (by omega)]
  exact ⟨_,rfl⟩
 | d + 1,k,j,h,hk=>by
  obtain ⟨k,rfl⟩ : ∃ i,k = i + 1:=⟨k - 1,by omega⟩
  rw [z0f.l0,if_pos (by omega),if_pos (by omega)]
  split
  ·exact ⟨_,rfl⟩
  ·rw [show wrap64 ((j : Int) + 1) = ((j + 1 : Nat) : Int) by unfold wrap64; omega]
   exact chk_in_l0 s x hs d k (j + 1) (by omega) (by omega)
theorem chk_in {k : Nat} (hk : 5 ≤ k) (s : ByteArray) (x : Int) (hs : s.size ≤ 4) : ∃ b,z0f.f k s x = some b:=by
 unfold z0f.f
 have:=chk_in_l0 s x hs s.size k 0 (by omega) (by omega)
 simpa using this
theorem chk_reg {k : Nat} (hk : 5 ≤ k) (s : ByteArray) (x y : Int) (hs : s.size ≤ 4) : ∃ b,z0g.f k s x y = some b:=by
 unfold z0g.f
 obtain ⟨b,hb⟩:=chk_in hk s x hs
 rw [hb,Option.bind_some]
 repeat' split
 all_goals exact ⟨_,rfl⟩
theorem chk_wrong {k : Nat} (hk : 8 ≤ k) (a b c d e : Int) : ∃ r,z0d.f k a b c d e = some r:=by
 obtain ⟨k,rfl⟩ : ∃ i,k = i + 8:=⟨k - 8,by omega⟩
 have h1 : ∀ (s : ByteArray) (x : Bool),s.size ≤ 4 → ∃ r,z0d.j1 (k + 7) s x a b c d e = some r:=fun s x hs=>by
  rw [z0d.j1]
  obtain ⟨t,ht⟩:=chk_in (k:=k + 6) (by omega) s 105 hs
  rw [ht,Option.bind_some]
  repeat' split
  all_goals exact ⟨_,rfl⟩
 have h0 : ∀ x : Bool,∃ r,z0d.j0 (k + 8) x a b c d e = some r:=fun x=>by
  rw [z0d.j0]
  obtain ⟨s,hs,hsz⟩:=chk_has (k + 4) a
  obtain ⟨t1,ht1⟩:=chk_reg (k:=k + 7) (by omega) s 97 b hsz
  obtain ⟨t2,ht2⟩:=chk_reg (k:=k + 7) (by omega) s 98 c hsz
  obtain ⟨t3,ht3⟩:=chk_in (k:=k + 7) (by omega) s 119 hsz
  obtain ⟨t4,ht4⟩:=chk_reg (k:=k + 7) (by omega) s 99 d hsz
  obtain ⟨t5,ht5⟩:=chk_in (k:=k + 7) (by omega) s 105 hsz
  rw [hs,Option.bind_some,ht1,Option.bind_some,ht2,Option.bind_some,ht3,Option.bind_some,ht4,Option.bind_some,ht5,Option.bind_some]
  repeat' split
  all_goals first | exact h1 _ _ hsz | exact ⟨_,rfl⟩
 unfold z0d.f
 split <;> exact h0 _
theorem chk_put_l0 : ∀ (n k : Nat) (x5 : List Int) (y a b c d e : Int),n ≤ 8 → n < k → x5.length = 8 → ∃ r,z0q.l0 k x5 y ((n : Int) - 1) a b c d e = some r
 | 0,k,x5,y,a,b,c,d,e,hn,hk,hx=>by
  obtain ⟨k,rfl⟩ : ∃ i,k = i + 1:=⟨k - 1,by omega⟩
  rw [z0q.l0,if_neg (by omega),Option.bind_some,if_pos (by simp only [List.length_cons,List.length_nil]; omega)]
  exact ⟨_,rfl⟩
 | n + 1,k,x5,y,a,b,c,d,e,hn,hk,hx=>by
  obtain ⟨k,rfl⟩ : ∃ i,k = i + 1:=⟨k - 1,by omega⟩
  rw [z0q.l0,if_pos (by omega),if_pos (by omega),if_pos (by omega),show wrap64 (((n + 1 : Nat) : Int) - 1 - 1) = (n : Int) - 1 by unfold wrap64; omega]
  exact chk_put_l0 n k _ _ a b c d e (by omega) (by omega) (by rw [List.length_set]; exact hx)
theorem chk_put {k : Nat} (hk : 12 ≤ k) (a b c d e : Int) : ∃ r,z0q.f k a b c d e = some r:=by
 unfold z0q.f
 obtain ⟨t,ht⟩:=chk_wrong (k:=k) (by omega) a b c d e
 rw [ht,Option.bind_some]
 split
 ·exact ⟨_,rfl⟩
 ·split
  ·exact ⟨_,rfl⟩
  ·rw [if_pos (by omega)]
   exact chk_put_l0 8 k _ _ a b c d e (by omega) (by omega) (by simp)
theorem chk_fun_l0 (p : Im) (x : Int) (hl : p.f4.length ≤ 40) : ∀ (d k j : Nat) (r : Int),j + d = p.f4.length → d < k → ∃ r',z0j.l0 k x r j p.f0 p.f1 p.f2 p.f3 p.f4 p.f5 = some r'
 | 0,k,j,r,h,hk=>by
  obtain ⟨k,rfl⟩ : ∃ i,k = i + 1:=⟨k - 1,by omega⟩
  rw [z0j.l0,if_neg (by omega)]
  exact ⟨_,rfl⟩
 | d + 1,k,j,r,h,hk=>by
  obtain ⟨k,rfl⟩ : ∃ i,k = i + 1:=⟨k - 1,by omega⟩
  rw [z0j.l0,if_pos (by omega),if_pos (by omega),show wrap64 ((j : Int) + 1) = ((j + 1 : Nat) : Int) by unfold wrap64; omega]
  split <;> exact chk_fun_l0 p x hl d k (j + 1) _ (by omega) (by omega)
theorem chk_fun (p : Im) (hl : p.f4.length ≤ 40) {k : Nat} (hk : 50 ≤ k) (x : Int) : ∃ r,z0j.f k p.f0 p.f1 p.f2 p.f3 p.f4 p.f5 x = some r:=by
 obtain ⟨k,rfl⟩ : ∃ i,k = i + 1:=⟨k - 1,by omega⟩
 have h0 : ∀ b : Bool,∃ r,z0j.j0 (k + 1) x b p.f0 p.f1 p.f2 p.f3 p.f4 p.f5 = some r:=fun b=>by
  rw [z0j.j0]
  split
  ·exact ⟨_,rfl⟩
  ·have:=chk_fun_l0 p x hl p.f4.length k 0 (-1) (by omega) (by omega)
   simpa using this
 unfold z0j.f
 split <;> exact h0 _
theorem chk_goes (a : Int) : ∃ b,backreachref02_Goes.f a = some b:=by
 unfold backreachref02_Goes.f
 repeat' split
 all_goals exact ⟨_,rfl⟩
theorem chk_stray_l0 (p : Im) (hl : p.f4.length ≤ 40) (hn : p.f5.length ≤ 300) : ∀ (d k x : Nat),x + d = p.f5.length → 4 * d + 60 ≤ k → ∃ r,z0c.l0 k x p.f0 p.f1 p.f2 p.f3 p.f4 p.f5 = some r
 | 0,k,x,h,hk=>by
  obtain ⟨k,rfl⟩ : ∃ i,k = i + 1:=⟨k - 1,by omega⟩
  rw [z0c.l0,if_neg (by omega)]
  exact ⟨_,rfl⟩
 | d + 1,k,x,h,hk=>by
  obtain ⟨k,rfl⟩ : ∃ i,k = i + 4:=⟨k - 4,by omega⟩
  have ih:=fun k' (h' : 4 * d + 60 ≤ k')=>chk_stray_l0 p hl hn d k' (x + 1) (by omega) h'
  have hw : wrap64 ((x : Int) + 1) = ((x + 1 : Nat) : Int):=by unfold wrap64; omega
  have h3 : ∀ (b : Bool) (f0 f1 f2 f3 f4 : Int),∃ r,z0c.j3 (k + 1) x b p.f0 p.f1 p.f2 p.f3 p.f4 p.f5 f0 f1 f2 f3 f4 = some r:=fun b f0 f1 f2 f3 f4=>by
   rw [z0c.j3,hw]
   repeat' split
   all_goals first | exact ⟨_,rfl⟩ | exact ih k (by omega)
  have h2 : ∀ (g : Int) (b : Bool) (f0 f1 f2 f3 f4 : Int),∃ r,z0c.j2 (k + 2) x g b p.f0 p.f1 p.f2 p.f3 p.f4 p.f5 f0 f1 f2 f3 f4 = some r:=fun g b f0 f1 f2 f3 f4=>by
   obtain ⟨t,ht⟩:=chk_fun p hl (k:=k + 1) (by omega) (wrap64 f4)
   rw [z0c.j2,hw,ht,Option.bind_some]
   repeat' split
   all_goals first | exact ⟨_,rfl⟩ | exact ih (k + 1) (by omega) | exact h3 _ _ _ _ _ _
  have h1 : ∀ (g : Int) (b : Bool) (f0 f1 f2 f3 f4 : Int),∃ r,z0c.j1 (k + 3) x g b p.f0 p.f1 p.f2 p.f3 p.f4 p.f5 f0 f1 f2 f3 f4 = some r:=fun g b f0 f1 f2 f3 f4=>by
   rw [z0c.j1]
   repeat' split
   all_goals first | exact ⟨_,rfl⟩ | exact h2 _ _ _ _ _ _ _
  obtain ⟨t,ht⟩:=chk_fun p hl (k:=k + 3) (by omega) (x : Int)
  obtain ⟨u,hu⟩:=chk_fun p hl (k:=k + 3) (by omega) ((x + 1 : Nat) : Int)
  obtain ⟨v,hv⟩:=chk_goes (z0a p.f5 x).f0
  rw [z0c.l0,if_pos (by omega),if_pos (by omega),ht,Option.bind_some,hv,Option.bind_some,hw,hu,Option.bind_some]
  repeat' split
  all_goals exact h1 _ _ _ _ _ _ _
theorem chk_l1 (p : Im) (hl : p.f4.length ≤ 40) (hn : p.f5.length ≤ 300) : ∀ (d k x : Nat),x + d = p.f5.length → d + 1300 ≤ k → ∃ r,z0b.l1 k x p.f0 p.f1 p.f2 p.f3 p.f4 p.f5 = some r
 | 0,k,x,h,hk=>by
  obtain ⟨k,rfl⟩ : ∃ i,k = i + 1:=⟨k - 1,by omega⟩
  obtain ⟨t,ht⟩:=chk_stray_l0 p hl hn p.f5.length k 0 (by omega) (by omega)
  rw [z0b.l1,if_neg (by omega)]
  unfold z0c.f
  have ht : z0c.l0 k 0 p.f0 p.f1 p.f2 p.f3 p.f4 p.f5 = some t:=by simpa using ht
  rw [ht,Option.bind_some]
  split <;> exact ⟨_,rfl⟩
 | d + 1,k,x,h,hk=>by
  obtain ⟨k,rfl⟩ : ∃ i,k = i + 1:=⟨k - 1,by omega⟩
  obtain ⟨t,ht⟩:=chk_put (k:=k) (by omega) (z0a p.f5 x).f0 (z0a p.f5 x).f1 (z0a p.f5 x).f2 (z0a p.f5 x).f3 (z0a p.f5 x).f4
  rw [z0b.l1,if_pos (by omega),if_pos (by omega),ht,Option.bind_some,show wrap64 ((x : Int) + 1) = ((x + 1 : Nat) : Int) by unfold wrap64; omega]
  split
  ·exact chk_l1 p hl hn d k (x + 1) (by omega) (by omega)
  ·exact ⟨_,rfl⟩
theorem chk_l0 (p : Im) (h1 : 1 ≤ p.f4.length) (hl : p.f4.length ≤ 40) (hn : p.f5.length ≤ 300) : ∀ (d k x : Nat),x + d = p.f4.length → d + 1700 ≤ k → ∃ r,z0b.l0 k x p.f0 p.f1 p.f2 p.f3 p.f4 p.f5 = some r ∧ (r = 0 → LastIn p)
 | 0,k,x,h,hk=>by
  obtain ⟨k,rfl⟩ : ∃ i,k = i + 2:=⟨k - 2,by omega⟩
  rw [z0b.l0,if_neg (by omega),show wrap64 ((p.f4.length : Int) - 1) = (p.f4.length : Int) - 1 by unfold wrap64; omega,if_pos (show 0 ≤ (p.f4.length : Int) - 1 by omega),if_pos (show (p.f4.length : Int) - 1 < p.f4.length by omega)]
  split
  ·rw [z0b.j2,if_pos rfl]
   exact ⟨3,rfl,fun h=>by omega⟩
  ·rw [z0b.j2]
   by_cases hc : rd p.f4 ((p.f4.length : Int) - 1) ≥ p.f5.length
   ·rw [if_pos (decide_eq_true hc)]
    exact ⟨3,rfl,fun h=>by omega⟩
   ·rw [if_neg (by simpa using hc)]
    obtain ⟨r,hr⟩:=chk_l1 p hl hn p.f5.length k 0 (by omega) (by omega)
    exact ⟨r,by simpa using hr,fun _=>by unfold LastIn; omega⟩
 | d + 1,k,x,h,hk=>by
  obtain ⟨k,rfl⟩ : ∃ i,k = i + 1:=⟨k - 1,by omega⟩
  have ih:=chk_l0 p h1 hl hn d k (x + 1) (by omega) (by omega)
  rw [z0b.l0,if_pos (by omega),show wrap64 ((x : Int) + 1) = ((x + 1 : Nat) : Int) by unfold wrap64; omega]
  have h3 : ∃ r : Int,some (3 : Int) = some r ∧ (r = 0 → LastIn p):=⟨3,rfl,fun h=>by omega⟩
  by_cases hx : (x : Int) = 0
  ·rw [if_pos hx,if_pos (by omega),if_neg (show ¬ ((x : Int) > 0) by omega)]
   split
   ·exact ih
   ·exact h3
  ·rw [if_neg hx,if_pos (show (x : Int) > 0 by omega),if_pos (show 0 ≤ (x : Int) by omega),show wrap64 ((x : Int) - 1) = (x : Int) - 1 by unfold wrap64; omega,if_pos (show 0 ≤ (x : Int) - 1 by omega),if_pos (show (x : Int) - 1 < p.f4.length by omega)]
   split
   ·exact h3
   ·exact ih
theorem chk_in3 (a lo hi : Int) : z0k.f a lo hi = some (decide (lo ≤ a ∧ a ≤ hi)):=by
 unfold z0k.f
 by_cases h : a ≥ lo
 ·rw [if_pos h]
  simp [h]
 ·rw [if_neg h]
  simp [h]
/-- It answers; where it is 0 the last function begins in the code. -/
theorem chk_f (p : Im) (hl : p.f4.length ≤ 40) (hn : p.f5.length ≤ 300) : ∃ r,z0b.f 1800 p.f0 p.f1 p.f2 p.f3 p.f4 p.f5 = some r ∧ (r = 0 → LastIn p):=by
 have hT : ∃ r,z0b.j0 1800 true p.f0 p.f1 p.f2 p.f3 p.f4 p.f5 = some r ∧ (r = 0 → LastIn p):=by
  rw [z0b.j0,if_pos rfl]
  exact ⟨3,rfl,fun h=>by omega⟩
 unfold z0b.f
 simp only [chk_in3,Option.bind_some]
 split
 ·split
  ·split
   ·split
    ·exact hT
    ·by_cases hc : 1 ≤ (p.f4.length : Int) ∧ (p.f4.length : Int) ≤ 16
     ·rw [decide_eq_true hc]
      show ∃ r,z0b.j0 1800 false p.f0 p.f1 p.f2 p.f3 p.f4 p.f5 = some r ∧ (r = 0 → LastIn p)
      rw [z0b.j0,if_neg (by simp)]
      have:=chk_l0 p (by omega) hl hn p.f4.length 1799 0 (by omega) (by omega)
      simpa using this
     ·rw [decide_eq_false hc]
      exact hT
   ·exact hT
  ·exact hT
 ·exact hT
theorem right_f (p : Im) (hl : p.f4.length ≤ 40) (hn : p.f5.length ≤ 300) : ∃ b,backreachref03_Right.f 1800 p.f0 p.f1 p.f2 p.f3 p.f4 p.f5 = some b ∧ (b = true → LastIn p):=by
 obtain ⟨r,hr,h⟩:=chk_f p hl hn
 unfold backreachref03_Right.f
 rw [hr,Option.bind_some]
 exact ⟨_,rfl,fun e=>h (by simpa using e)⟩
end Go.Proofs.Ytcbnhfnnjkkceaa.X
end
section
namespace Go.Proofs.Ytcbnhfnnjkkceaa.X
open Go.RowKit Go.Proofs.YtcbnhfnnjkkceaaW.PrintWords Go.Proofs.YtcbnhfnnjkkceaaW.PrintLast Go.Proofs.YtcbnhfnnjkkceaaW.PrintMore Go.Proofs.Ytcbnhfnnjkkceaa.Gr
theorem dist3 {nx : Int → List Int} {a b c : Int} {d : List Int} (hd : DistOf 3 nx a d) (ha : 0 ≤ a ∧ a < 3) (hb : 0 ≤ b ∧ b < 3) (hc : 0 ≤ c ∧ c < 3) (hab : a ≠ b) (hac : a ≠ c) (hbc : b ≠ c) (h1 : nx a = [b]) (h2 : nx b = [c]) : rd d a = 0 ∧ rd d b = 1 ∧ rd d c = 2:=by
 have w1 : Way 3 nx a 1 b:=⟨a,rfl,ha,by rw [h1]; simp⟩
 have w2 : Way 3 nx a 2 c:=⟨b,w1,hb,by rw [h2]; simp⟩
 have e0:=hd.least 0 a ha.1 ha.2 rfl
 have e1:=hd.least 1 b hb.1 hb.2 w1
 have e2:=hd.least 2 c hc.1 hc.2 w2
 have v1:=hd.way b hb.1 hb.2 e1.1
 have v2:=hd.way c hc.1 hc.2 e2.1
 have hn0 : ∀ x,Way 3 nx a 0 x → x = a:=fun x h=>h
 have hn1 : ∀ x,Way 3 nx a 1 x → x = b:=fun x h=>by
  obtain ⟨u,hu,_,hx⟩:=h
  have hu : u = a:=hu
  rw [hu,h1] at hx
  simpa using hx
 refine ⟨by omega,?_,?_⟩
 ·rcases Int.lt_or_le (rd d b) 1 with h | h
  ·rw [show (rd d b).toNat = 0 by omega] at v1
   exact absurd (hn0 b v1).symm hab
  ·omega
 ·rcases Int.lt_or_le (rd d c) 1 with h | h
  ·rw [show (rd d c).toNat = 0 by omega] at v2
   exact absurd (hn0 c v2).symm hac
  ·rcases Int.lt_or_le (rd d c) 2 with h' | h'
   ·rw [show (rd d c).toNat = 1 by omega] at v2
    exact absurd (hn1 c v2).symm hbc
   ·omega
theorem list3 {d : List Int} (hl : d.length = 3) : d = [rd d 0,rd d 1,rd d 2]:=by
 match d,hl with
 | [x,y,z],_=>rfl
theorem p20_last : LastIn p20:=by unfold LastIn p20; decide
theorem p20_prev : prevL p20 1 = [2] ∧ prevL p20 2 = [0]:=by decide +kernel
theorem far20 {d : List Int} (h : DistOf p20.f5.length (nextL p20) 0 d) : d = [0,2,1]:=by
 obtain ⟨h0,h1,h2⟩:=dist3 h (a:=0) (b:=2) (c:=1) (by omega) (by omega) (by omega) (by omega) (by omega) (by omega) p20_next.1 p20_next.2.1
 rw [list3 h.len,h0,h1,h2]
theorem to20 {d : List Int} (h : DistOf p20.f5.length (prevL p20) 1 d) : d = [2,0,1]:=by
 obtain ⟨h0,h1,h2⟩:=dist3 h (a:=1) (b:=2) (c:=0) (by omega) (by omega) (by omega) (by omega) (by omega) (by omega) p20_prev.1 p20_prev.2
 rw [list3 h.len,h0,h1,h2]
set_option maxRecDepth 100000 in
set_option maxHeartbeats 8000000 in
theorem awake21_calls (w : World) : Calls Try.prog 17 #[] w fun e w'=>e = .returned (.bool true) ∧ Below w.heap.size w w':=by
 have hb1:=z04 (Below.refl w.heap.size w) (Obj.cells #[.int .i64 0,.int .i64 2] 3)
 have hb2:=z04 hb1 (Obj.cells #[.int .i64 23,.int .i64 0,.int .i64 0,.int .i64 0,.int .u64 1,.int .i64 0,.int .i64 0,.int .i64 0,.int .i64 0,.int .u64 0,.int .i64 24,.int .i64 0,.int .i64 0,.int .i64 0,.int .u64 0] 45)
 have hf:=z06 (blk_new w (Obj.cells #[.int .i64 0,.int .i64 2] 3)) (Obj.cells #[.int .i64 23,.int .i64 0,.int .i64 0,.int .i64 0,.int .u64 1,.int .i64 0,.int .i64 0,.int .i64 0,.int .i64 0,.int .u64 0,.int .i64 24,.int .i64 0,.int .i64 0,.int .i64 0,.int .u64 0] 45)
 have hc:=blk_new (w.alloc (Obj.cells #[.int .i64 0,.int .i64 2] 3)) (Obj.cells #[.int .i64 23,.int .i64 0,.int .i64 0,.int .i64 0,.int .u64 1,.int .i64 0,.int .i64 0,.int .i64 0,.int .i64 0,.int .u64 0,.int .i64 24,.int .i64 0,.int .i64 0,.int .i64 0,.int .u64 0] 45)
 rw [show (w.alloc (Obj.cells #[.int .i64 0,.int .i64 2] 3)).heap.size = w.heap.size + 1 by show (w.heap.push _).size = _; simp] at hc
 have HNEW:=Aside0.mk (new_yes' p20 none 0 (some ⟨w.heap.size,0,none⟩) 2 (some ⟨w.heap.size + 1,0,none⟩) 3 _ (Kd.C_nil (Kd.int .u8) _) (by decide) (ints_lit [0,2] (by decide) hf) (by decide) (code20_lit hc) (by decide) p20_wf p20_enc)
 have HB:=Aside0.mk hb2
 clear hb1 hb2 hf hc
 go_enter Try.func17,Try.ntmps17
 go_wp2_with fail
 refine HNEW.out.mono ?_
 rintro e w0 ⟨g,rfl,hG,hB⟩
 have HG:=Aside0.mk hG
 have HLG : Aside0 (w.heap.size ≤ g):=⟨Nat.le_trans HB.out.size hG.1⟩
 have HBw:=Aside0.mk (below_then HB.out HB.out.size hB)
 obtain ⟨BB,hBB⟩ : ∃ n,(w.alloc (Obj.cells #[.int .i64 0,.int .i64 2] 3)).alloc (Obj.cells #[.int .i64 23,.int .i64 0,.int .i64 0,.int .i64 0,.int .u64 1,.int .i64 0,.int .i64 0,.int .i64 0,.int .i64 0,.int .u64 0,.int .i64 24,.int .i64 0,.int .i64 0,.int .i64 0,.int .u64 0] 45) = n:=⟨_,rfl⟩
 rw [hBB] at HG
 clear hG hB hBB HNEW HB
 have HROW:=Aside0.mk (farFrom p20_rt HG.out (fun v h0 h1=>next_in p20_wf p20_enc p20_last ⟨h0,h1⟩) (by decide) (by decide) (a:=0))
 go_wp2_with fail
 refine HROW.out.mono ?_
 rintro e w1' ⟨v,d,rfl,hR,hd,_,hG,hF⟩
 have HGn:=Aside0.mk hG
 have HBn:=Aside0.mk (fr_below hF HBw.out HBw.out.size HLG.out)
 clear HG HBw HROW
 have HG:=HGn
 have HBw:=HBn
 clear HGn HBn
 rw [far20 (hd (by decide)).1] at hR
 obtain ⟨A,c,rfl⟩:=Kd.R_slice hR
 have HI:=Aside0.mk (ints_calls true (Kd.C_below (Kd.R_reads' hR).2.2 (z04 (Below.refl _ _) (Obj.cells #[.int .i64 0,.int .i64 2,.int .i64 1] 3))) (Kd.R_reads' hR).2.1 (ints_lit [0,2,1] (by decide) (blk_new w1' (Obj.cells #[.int .i64 0,.int .i64 2,.int .i64 1] 3))) (Nat.le_refl 3) (by decide) (by decide))
 clear hR hd hG hF
 go_wp2_with fail
 refine HI.out.mono ?_
 rintro e w' ⟨rfl,nd,rfl⟩
 have HGn:=Aside0.mk (HG.out.below (below_drewN (z04 (Below.refl _ _) (Obj.cells #[.int .i64 0,.int .i64 2,.int .i64 1] 3)) nd))
 have HBn:=Aside0.mk (below_drewN (z04 HBw.out (Obj.cells #[.int .i64 0,.int .i64 2,.int .i64 1] 3)) nd)
 clear HG HBw HI
 have HG:=HGn
 have HBw:=HBn
 generalize (w1'.alloc (Obj.cells #[.int .i64 0,.int .i64 2,.int .i64 1] 3)).drewN nd = w1 at HG HBw ⊢
 clear HGn HBn
 have HROW:=Aside0.mk (farTo p20_rt HG.out (fun v _ _=>prev_in) (by decide) (by decide) (a:=1))
 go_wp2_with fail
 refine HROW.out.mono ?_
 rintro e w2' ⟨v,d,rfl,hR,hd,_,hG,hF⟩
 have HGn:=Aside0.mk hG
 have HBn:=Aside0.mk (fr_below hF HBw.out HBw.out.size HLG.out)
 clear HG HBw HROW
 have HG:=HGn
 have HBw:=HBn
 clear HGn HBn
 rw [to20 (hd (by decide)).1] at hR
 obtain ⟨A,c,rfl⟩:=Kd.R_slice hR
 have HI:=Aside0.mk (ints_calls true (Kd.C_below (Kd.R_reads' hR).2.2 (z04 (Below.refl _ _) (Obj.cells #[.int .i64 2,.int .i64 0,.int .i64 1] 3))) (Kd.R_reads' hR).2.1 (ints_lit [2,0,1] (by decide) (blk_new w2' (Obj.cells #[.int .i64 2,.int .i64 0,.int .i64 1] 3))) (Nat.le_refl 3) (by decide) (by decide))
 clear hR hd hG hF
 go_wp2_with fail
 refine HI.out.mono ?_
 rintro e w' ⟨rfl,nd,rfl⟩
 have HGn:=Aside0.mk (HG.out.below (below_drewN (z04 (Below.refl _ _) (Obj.cells #[.int .i64 2,.int .i64 0,.int .i64 1] 3)) nd))
 have HBn:=Aside0.mk (below_drewN (z04 HBw.out (Obj.cells #[.int .i64 2,.int .i64 0,.int .i64 1] 3)) nd)
 clear HG HBw HI
 have HG:=HGn
 have HBw:=HBn
 generalize (w2'.alloc (Obj.cells #[.int .i64 2,.int .i64 0,.int .i64 1] 3)).drewN nd = w2 at HG HBw ⊢
 clear HGn HBn
 go_wp2
 go_ret
 exact ⟨rfl,HBw.out⟩
/-- What made leaves: nothing, or a graph of an image whose last function begins in its code. -/
def MadePost (w : World) (p : Im) (e : Ending) (w' : World) : Prop :=
 (e = .returned (.tuple #[.pointer none,.bool false]) ∧ Below w.heap.size w w') ∨
 ∃ g B,e = .returned (.tuple #[.pointer (some ⟨g,0,none⟩),.bool true]) ∧ w.heap.size ≤ g ∧ Gr w' g B p ∧ Below w.heap.size w w' ∧ encV p = 0 ∧ LastIn p ∧ p.f3.length ≤ 100 ∧ p.f4.length ≤ 40
set_option maxRecDepth 100000 in
set_option maxHeartbeats 8000000 in
theorem made_calls (p : Im) (A3 : Option Addr) (c3 : Nat) (A4 : Option Addr) (c4 : Nat) (A5 : Option Addr) (c5 : Nat) (w : World)
  (hr3 : Kd.C (Kd.int .u8) w A3 p.f3.length p.f3) (hc3 : p.f3.length ≤ c3) (hr4 : Kd.C (Kd.int .i64) w A4 p.f4.length p.f4) (hc4 : p.f4.length ≤ c4) (hr5 : Kd.C k45 w A5 p.f5.length p.f5) (hc5 : p.f5.length ≤ c5)
  (hw : wfP p) :
  Calls Try.prog 18 #[.agg #[.int .i64 p.f0,.int .i64 p.f1,.int .i64 p.f2,.slice A3 p.f3.length c3,.slice A4 p.f4.length c4,.slice A5 p.f5.length c5]] w (MadePost w p):=by
 have hb1:=z04 (Below.refl w.heap.size w) (Obj.cells #[.int .i64 p.f0,.int .i64 p.f1,.int .i64 p.f2,.slice A3 p.f3.length c3,.slice A4 p.f4.length c4,.slice A5 p.f5.length c5] 26)
 have BX1:=Aside0.mk (blk_new w (Obj.cells #[.int .i64 p.f0,.int .i64 p.f1,.int .i64 p.f2,.slice A3 p.f3.length c3,.slice A4 p.f4.length c4,.slice A5 p.f5.length c5] 26))
 have HS1 : Aside0 ((w.alloc (Obj.cells #[.int .i64 p.f0,.int .i64 p.f1,.int .i64 p.f2,.slice A3 p.f3.length c3,.slice A4 p.f4.length c4,.slice A5 p.f5.length c5] 26)).heap.size = w.heap.size + 1):=⟨by show (w.heap.push _).size = _; simp⟩
 have HC3:=Aside0.mk (Kd.C_below hr3 hb1)
 have HC4:=Aside0.mk (Kd.C_below hr4 hb1)
 have HC5:=Aside0.mk (Kd.C_below hr5 hb1)
 have HB1:=Aside0.mk hb1
 clear hr3 hr4 hr5 hb1
 go_enter Try.func18,Try.ntmps18
 go_upto_region 1 with (fail)
 generalize w.alloc (Obj.cells #[.int .i64 p.f0,.int .i64 p.f1,.int .i64 p.f2,.slice A3 p.f3.length c3,.slice A4 p.f4.length c4,.slice A5 p.f5.length c5] 26) = W1 at BX1 HS1 HC3 HC4 HC5 HB1 ⊢
 have k0:=z02 BX1.out 0
 have k1:=z02 BX1.out 1
 have k2:=z02 BX1.out 2
 have k3:=z02 BX1.out 3
 have k4:=z02 BX1.out 4
 have k5:=z02 BX1.out 5
 by_cases h0 : p.f5.length ≤ 60
 rotate_left
 ·have hd0 : decide ((p.f5.length : Int) > 60) = true:=decide_eq_true (by omega)
  have he0 : decide (60 < (p.f5.length : Int)) = true:=decide_eq_true (by omega)
  clear h0
  go_wp2
  go_ret2
  exact .inl ⟨rfl,HB1.out⟩
 have hd0 : decide ((p.f5.length : Int) > 60) = false:=decide_eq_false (by omega)
 have he0 : decide (60 < (p.f5.length : Int)) = false:=decide_eq_false (by omega)
 by_cases h1 : p.f3.length ≤ 100
 rotate_left
 ·have hd1 : decide ((p.f3.length : Int) > 100) = true:=decide_eq_true (by omega)
  have he1 : decide (100 < (p.f3.length : Int)) = true:=decide_eq_true (by omega)
  clear h1
  go_wp2
  go_ret2
  exact .inl ⟨rfl,HB1.out⟩
 have hd1 : decide ((p.f3.length : Int) > 100) = false:=decide_eq_false (by omega)
 have he1 : decide (100 < (p.f3.length : Int)) = false:=decide_eq_false (by omega)
 by_cases h2 : p.f4.length ≤ 40
 rotate_left
 ·have hd2 : decide ((p.f4.length : Int) > 40) = true:=decide_eq_true (by omega)
  have he2 : decide (40 < (p.f4.length : Int)) = true:=decide_eq_true (by omega)
  clear h2
  go_wp2
  go_ret2
  exact .inl ⟨rfl,HB1.out⟩
 have hd2 : decide ((p.f4.length : Int) > 40) = false:=decide_eq_false (by omega)
 have he2 : decide (40 < (p.f4.length : Int)) = false:=decide_eq_false (by omega)
 obtain ⟨r,hr,hrl⟩:=right_f p h2 (by omega)
 have HR:=Aside0.mk (backreachref03_Right.calls 1800 p.f0 p.f1 p.f2 A3 c3 p.f3 A4 c4 p.f4 A5 c5 p.f5 r W1 HC3.out hc3 HC4.out hc4 HC5.out hc5 hr)
 have HRL:=Aside0.mk hrl
 have HH1:=Aside0.mk h1
 have HH2:=Aside0.mk h2
 clear hr hrl h0 h1 h2
 go_wp2_with fail
 refine HR.out.mono ?_
 rintro e w3 ⟨rfl,hB⟩
 have HC3:=Aside0.mk (Kd.C_below HC3.out hB)
 have HC4:=Aside0.mk (Kd.C_below HC4.out hB)
 have HC5:=Aside0.mk (Kd.C_below HC5.out hB)
 have BX3:=Aside0.mk ((hB.block w.heap.size (by rw [HS1.out]; omega)).trans BX1.out)
 have HBn:=Aside0.mk (below_then HB1.out HB1.out.size hB)
 clear HB1 hB HR k0 k1 k2 k3 k4 k5
 have HB1:=HBn
 clear HBn
 cases r with
 | false =>
  go_wp2
  go_ret2
  exact .inl ⟨rfl,HB1.out⟩
 | true =>
  have k0:=z02 BX3.out 0
  have k1:=z02 BX3.out 1
  have k2:=z02 BX3.out 2
  have k3:=z02 BX3.out 3
  have k4:=z02 BX3.out 4
  have k5:=z02 BX3.out 5
  by_cases h0 : encV p = 0
  rotate_left
  ·have HNEW:=Aside0.mk (new_no' p A3 c3 A4 c4 A5 c5 w3 HC3.out hc3 HC4.out hc4 HC5.out hc5 hw h0)
   have hz : (encV p == 0) = false:=by simpa using h0
   have HBN:=Aside0.mk (fun w' (h : Below w3.heap.size w3 w')=>below_then HB1.out HB1.out.size h)
   clear h0
   go_wp2_with fail
   refine HNEW.out.mono ?_
   rintro e w4 ⟨rfl,hB⟩
   have HBn:=Aside0.mk (HBN.out w4 hB)
   clear hB HNEW
   go_wp2
   go_ret2
   exact .inl ⟨rfl,HBn.out⟩
  ·have HNEW:=Aside0.mk (new_yes' p A3 c3 A4 c4 A5 c5 w3 HC3.out hc3 HC4.out hc4 HC5.out hc5 hw h0)
   have HZ:=Aside0.mk h0
   clear h0
   go_wp2_with fail
   refine HNEW.out.mono ?_
   rintro e w4 ⟨g,rfl,hG,hB⟩
   have HE : Aside0 (MadePost w p (.returned (.tuple #[.pointer (some ⟨g,0,none⟩),.bool true])) w4):=⟨.inr ⟨g,_,rfl,Nat.le_trans HB1.out.size hG.1,hG,below_then HB1.out HB1.out.size hB,HZ.out,HRL.out (by simp),HH1.out,HH2.out⟩⟩
   clear hG hB HNEW
   go_wp2
   go_ret2
   exact HE.out
end Go.Proofs.Ytcbnhfnnjkkceaa.X
end
