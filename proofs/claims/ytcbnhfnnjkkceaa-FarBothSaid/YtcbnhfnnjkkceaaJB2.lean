/- For the statement of the row : what its proof needs of the text B2. -/
import Derived.Lib.SlBytesConst
import Derived.ArgAppend
import Derived.OneCell
import Derived.Test.YtcbnhfnnjkkceaaJB1
set_option linter.unusedSimpArgs false
set_option linter.unusedVariables false

section
namespace Go.Proofs.Ytcbnhfnnjkkceaa.X
open Go.RowKit Go.Proofs.YtcbnhfnnjkkceaaW.PrintWords Go.Proofs.YtcbnhfnnjkkceaaW.PrintLast Go.Proofs.YtcbnhfnnjkkceaaW.PrintMore
attribute [local go_sem] max2_int min2_int max_two min_two max_three min_three max_four min_four
mutual
def z0y.j0 : Nat → Int → Int → Int → Int → Int → Int → Int → Int → Int → Int → Int → Option (Int × Int × Int × Int × Int)
 | 0,_,_,_,_,_,_,_,_,_,_,_=>none
 | k + 1,x1,x116000,x116001,x116002,x116003,x116004,x118000,x118001,x118002,x118003,x118004=>if (Go.bits .and .i64 x1 2) = 0 then (z0y.j1 k x1 x116000 x116001 x116002 x116003 x116004 x118000 x118001 x118002 x118003 x118004) else (z0y.j1 k x1 x116000 x116001 x116002 x116003 x116004 x118000 x118001 x116002 x118003 x118004)
def z0y.j1 : Nat → Int → Int → Int → Int → Int → Int → Int → Int → Int → Int → Int → Option (Int × Int × Int × Int × Int)
 | 0,_,_,_,_,_,_,_,_,_,_,_=>none
 | k + 1,x1,x116000,x116001,x116002,x116003,x116004,x118000,x118001,x118002,x118003,x118004=>if (Go.bits .and .i64 x1 12) = 0 then (if (Go.bits .and .i64 x1 16) = 0 then (some (x118000,x118001,x118002,x118003,x118004)) else (some (x118000,x118001,x118002,x118003,x116004))) else (if (Go.bits .and .i64 x1 16) = 0 then (some (x118000,x118001,x118002,x116003,x118004)) else (some (x118000,x118001,x118002,x116003,x116004)))
end
def z0y.f (k : Nat) (a0_0 : Int) (a0_1 : Int) (a0_2 : Int) (a0_3 : Int) (a0_4 : Int) (a1 : Int) : Option (Int × Int × Int × Int × Int):=if (Go.bits .and .i64 a1 1) = 0 then (z0y.j0 k a1 a0_0 a0_1 a0_2 a0_3 a0_4 a0_0 0 0 0 0) else (z0y.j0 k a1 a0_0 a0_1 a0_2 a0_3 a0_4 a0_0 a0_1 0 0 0)
theorem z0y.mono_l : ∀ k,(∀ y0 y1 y2 y3 y4 y5 y6 y7 y8 y9 y10,LeO (z0y.j0 k y0 y1 y2 y3 y4 y5 y6 y7 y8 y9 y10) (z0y.j0 (k + 1) y0 y1 y2 y3 y4 y5 y6 y7 y8 y9 y10)) ∧ (∀ y0 y1 y2 y3 y4 y5 y6 y7 y8 y9 y10,LeO (z0y.j1 k y0 y1 y2 y3 y4 y5 y6 y7 y8 y9 y10) (z0y.j1 (k + 1) y0 y1 y2 y3 y4 y5 y6 y7 y8 y9 y10))
 | 0=>⟨fun _ _ _ _ _ _ _ _ _ _ _ r h=>by simp [z0y.j0] at h,fun _ _ _ _ _ _ _ _ _ _ _ r h=>by simp [z0y.j1] at h⟩
 | k + 1=>by
  obtain ⟨ih0,ih1⟩:=z0y.mono_l k
  refine ⟨?_,?_⟩
  ·intro y0 y1 y2 y3 y4 y5 y6 y7 y8 y9 y10
   unfold z0y.j0
   repeat' first
   | (with_reducible exact ih0 _ _ _ _ _ _ _ _ _ _ _)
   | (with_reducible exact ih1 _ _ _ _ _ _ _ _ _ _ _)
   | (with_reducible exact LeO.refl _)
   | (with_reducible exact LeO.none _)
   | (with_reducible refine LeO.ite ?_ ?_)
   | (with_reducible refine LeO.bind ?_ (fun _=>?_))
   | exact ih0 _ _ _ _ _ _ _ _ _ _ _
   | exact ih1 _ _ _ _ _ _ _ _ _ _ _
   | exact LeO.none _
   | refine LeO.ite ?_ ?_
   | refine LeO.bind ?_ (fun _=>?_)
  ·intro y0 y1 y2 y3 y4 y5 y6 y7 y8 y9 y10
   unfold z0y.j1
   repeat' first
   | (with_reducible exact ih0 _ _ _ _ _ _ _ _ _ _ _)
   | (with_reducible exact ih1 _ _ _ _ _ _ _ _ _ _ _)
   | (with_reducible exact LeO.refl _)
   | (with_reducible exact LeO.none _)
   | (with_reducible refine LeO.ite ?_ ?_)
   | (with_reducible refine LeO.bind ?_ (fun _=>?_))
   | exact ih0 _ _ _ _ _ _ _ _ _ _ _
   | exact ih1 _ _ _ _ _ _ _ _ _ _ _
   | exact LeO.none _
   | refine LeO.ite ?_ ?_
   | refine LeO.bind ?_ (fun _=>?_)
theorem z0y.mono : ∀ a0 a1 a2 a3 a4 a5 k,LeO (z0y.f k a0 a1 a2 a3 a4 a5) (z0y.f (k + 1) a0 a1 a2 a3 a4 a5):=by
 intro a0 a1 a2 a3 a4 a5 k
 obtain ⟨ih0,ih1⟩:=z0y.mono_l k
 unfold z0y.f
 repeat' first
   | (with_reducible exact ih0 _ _ _ _ _ _ _ _ _ _ _)
   | (with_reducible exact ih1 _ _ _ _ _ _ _ _ _ _ _)
   | (with_reducible exact LeO.refl _)
   | (with_reducible exact LeO.none _)
   | (with_reducible refine LeO.ite ?_ ?_)
   | (with_reducible refine LeO.bind ?_ (fun _=>?_))
   | exact ih0 _ _ _ _ _ _ _ _ _ _ _
   | exact ih1 _ _ _ _ _ _ _ _ _ _ _
   | exact LeO.none _
   | refine LeO.ite ?_ ?_
   | refine LeO.bind ?_ (fun _=>?_)
set_option maxHeartbeats 8000000 in
set_option maxRecDepth 100000 in
theorem z0y.calls (k : Nat) (a0_0 : Int) (a0_1 : Int) (a0_2 : Int) (a0_3 : Int) (a0_4 : Int) (a1 : Int) (r1 : Int) (r2 : Int) (r3 : Int) (r4 : Int) (r5 : Int) (w : World) (h : z0y.f k a0_0 a0_1 a0_2 a0_3 a0_4 a1 = some (r1,r2,r3,r4,r5)) :
  Calls Try.prog 60 #[.agg #[.int .i64 a0_0,.int .i64 a0_1,.int .i64 a0_2,.int .i64 a0_3,.int .u64 a0_4],.int .i64 a1] w fun e w'=>e = .returned (.agg #[.int .i64 r1,.int .i64 r2,.int .i64 r3,.int .i64 r4,.int .u64 r5]) ∧ Below w.heap.size w w':=by
 have hu45:=Try.underlying45
 have HB:=Aside0.mk (Below.refl w.heap.size w)
 have H : (if (Go.bits .and .i64 a1 1) = 0 then (z0y.j0 k a1 a0_0 a0_1 a0_2 a0_3 a0_4 a0_0 0 0 0 0) else (z0y.j0 k a1 a0_0 a0_1 a0_2 a0_3 a0_4 a0_0 a0_1 0 0 0)) = some (r1,r2,r3,r4,r5):=h
 clear h
 have HC3:=Aside0.mk H
 clear H
 go_enter Try.func60,Try.ntmps60
 go_upto_if 11 with (first | ((with_reducible refine z10 (N:=2) rfl ?_); refine box_event ?hg (N:=2) ?hd (cs:=#[.int .i64 a0_0,.int .i64 a0_1,.int .i64 a0_2,.int .i64 a0_3,.int .u64 a0_4]) (t:=45) ?hr ?_; (case hd=>rfl); (case hg=>rfl); (case hr=>first | (go_simp; done) | (go_simp; rfl)); intro gb115 hg w4 hbox hb; have n0_:=Aside0.mk (z0s (by repeat (first | (with_reducible first | exact HB.out | apply z04 | apply z03 | apply z05) | exact HB.out)) hb); have n1_:=Aside0.mk (hbox); have n2_:=Aside0.mk ((by rw [hg]; exact (z0l (by repeat (first | (with_reducible first | exact HB.out | apply z04 | apply z03 | apply z05) | exact HB.out))) : w.heap.size ≤ gb115)); have n3_:=Aside0.mk ((by rw [hg]; exact (z0l (by repeat (first | (with_reducible first | exact HB.out | apply z04 | apply z03 | apply z05) | exact HB.out))) : w.heap.size ≤ gb115)); clear HB; have HB:=n0_; have BK115:=n1_; have GW115:=n2_; have GE115:=n3_; clear n0_ n1_ n2_ n3_; clear hb hbox hg) | ((with_reducible refine z10 (N:=4) rfl ?_); refine box_event ?hg (N:=4) ?hd (cs:=#[.int .i64 0,.int .i64 0,.int .i64 0,.int .i64 0,.int .u64 0]) (t:=45) ?hr ?_; (case hd=>rfl); (case hg=>rfl); (case hr=>first | (go_simp; done) | (go_simp; rfl)); intro gb116 hg w5 hbox hb; have n0_:=Aside0.mk (z0v (g:=gb115) (o:=.cells #[.int .i64 a0_0,.int .i64 a0_1,.int .i64 a0_2,.int .i64 a0_3,.int .u64 a0_4] 45 (0,0)) (by (with_reducible repeat (first | refine z08 ?_ _ | refine z09 ?_ | refine z06 ?_ _)); exact BK115.out) hb); have n1_:=Aside0.mk (z0s (by repeat (first | (with_reducible first | exact HB.out | apply z04 | apply z03 | apply z05 | refine z07 ?_ GE115.out) | exact HB.out)) hb); have n2_:=Aside0.mk (hbox); have n3_:=Aside0.mk ((by rw [hg]; exact (z0l (by repeat (first | (with_reducible first | exact HB.out | apply z04 | apply z03 | apply z05 | refine z07 ?_ GE115.out) | exact HB.out))) : w.heap.size ≤ gb116)); have n4_:=Aside0.mk ((by rw [hg]; exact (z0l (by repeat (first | (with_reducible first | exact HB.out | apply z04 | apply z03 | apply z05 | refine z07 ?_ GE115.out) | exact HB.out))) : w.heap.size ≤ gb116)); have n5_:=Aside0.mk ((by rw [hg]; exact Nat.ne_of_lt (blk_lt (g:=gb115) (o:=.cells #[.int .i64 a0_0,.int .i64 a0_1,.int .i64 a0_2,.int .i64 a0_3,.int .u64 a0_4] 45 (0,0)) (by (with_reducible repeat (first | refine z08 ?_ _ | refine z09 ?_ | refine z06 ?_ _)); exact BK115.out)) : gb115 ≠ gb116)); have n6_:=Aside0.mk ((by rw [hg]; exact Nat.ne_of_gt (blk_lt (g:=gb115) (o:=.cells #[.int .i64 a0_0,.int .i64 a0_1,.int .i64 a0_2,.int .i64 a0_3,.int .u64 a0_4] 45 (0,0)) (by (with_reducible repeat (first | refine z08 ?_ _ | refine z09 ?_ | refine z06 ?_ _)); exact BK115.out)) : gb116 ≠ gb115)); clear BK115; clear HB; have BK115:=n0_; have HB:=n1_; have BK116:=n2_; have GW116:=n3_; have GE116:=n4_; have NB115_116:=n5_; have NB116_115:=n6_; clear n0_ n1_ n2_ n3_ n4_ n5_ n6_; clear hb hbox hg; have hnb6:=NB115_116.out; have hnc6:=NB116_115.out; have hcz7_0 : w5.cell? ⟨gb115,0,none⟩ = some (.int .i64 a0_0):=(z02 BK115.out 0).trans rfl; have hcz7_1 : w5.cell? ⟨gb115,1,none⟩ = some (.int .i64 a0_1):=(z02 BK115.out 1).trans rfl; have hcz7_2 : w5.cell? ⟨gb115,2,none⟩ = some (.int .i64 a0_2):=(z02 BK115.out 2).trans rfl; have hcz7_3 : w5.cell? ⟨gb115,3,none⟩ = some (.int .i64 a0_3):=(z02 BK115.out 3).trans rfl; have hcz7_4 : w5.cell? ⟨gb115,4,none⟩ = some (.int .u64 a0_4):=(z02 BK115.out 4).trans rfl; have hfz7_0:=z01 BK115.out 0; have hfz7_1:=z01 BK115.out 1; have hfz7_2:=z01 BK115.out 2; have hfz7_3:=z01 BK115.out 3; have hfz7_4:=z01 BK115.out 4) | ((with_reducible refine z10 (N:=5) rfl ?_); refine box_event ?hg (N:=5) ?hd (cs:=#[.int .i64 0,.int .i64 0,.int .i64 0,.int .i64 0,.int .u64 0]) (t:=45) ?hr ?_; (case hd=>rfl); (case hg=>rfl); (case hr=>first | (go_simp; done) | (go_simp; rfl)); intro gb117 hg w8 hbox hb; have n0_:=Aside0.mk (z0v (g:=gb115) (o:=.cells #[.int .i64 a0_0,.int .i64 a0_1,.int .i64 a0_2,.int .i64 a0_3,.int .u64 a0_4] 45 (0,0)) (by (with_reducible repeat (first | refine z08 ?_ _ | refine z09 ?_ | refine z06 ?_ _)); exact BK115.out) hb); have n1_:=Aside0.mk (z0v (g:=gb116) (o:=.cells #[.int .i64 0,.int .i64 0,.int .i64 0,.int .i64 0,.int .u64 0] 45 (0,0)) (by (with_reducible repeat (first | refine z08 ?_ _ | refine z09 ?_ | refine z06 ?_ _)); exact BK116.out) hb); have n2_:=Aside0.mk (z0s (by repeat (first | (with_reducible first | exact HB.out | apply z04 | apply z03 | apply z05 | refine z07 ?_ GE115.out | refine z07 ?_ GE116.out) | exact HB.out)) hb); have n3_:=Aside0.mk (hbox); have n4_:=Aside0.mk ((by rw [hg]; exact (z0l (by repeat (first | (with_reducible first | exact HB.out | apply z04 | apply z03 | apply z05 | refine z07 ?_ GE115.out | refine z07 ?_ GE116.out) | exact HB.out))) : w.heap.size ≤ gb117)); have n5_:=Aside0.mk ((by rw [hg]; exact (z0l (by repeat (first | (with_reducible first | exact HB.out | apply z04 | apply z03 | apply z05 | refine z07 ?_ GE115.out | refine z07 ?_ GE116.out) | exact HB.out))) : w.heap.size ≤ gb117)); have n6_:=Aside0.mk ((by rw [hg]; exact Nat.ne_of_lt (blk_lt (g:=gb115) (o:=.cells #[.int .i64 a0_0,.int .i64 a0_1,.int .i64 a0_2,.int .i64 a0_3,.int .u64 a0_4] 45 (0,0)) (by (with_reducible repeat (first | refine z08 ?_ _ | refine z09 ?_ | refine z06 ?_ _)); exact BK115.out)) : gb115 ≠ gb117)); have n7_:=Aside0.mk ((by rw [hg]; exact Nat.ne_of_gt (blk_lt (g:=gb115) (o:=.cells #[.int .i64 a0_0,.int .i64 a0_1,.int .i64 a0_2,.int .i64 a0_3,.int .u64 a0_4] 45 (0,0)) (by (with_reducible repeat (first | refine z08 ?_ _ | refine z09 ?_ | refine z06 ?_ _)); exact BK115.out)) : gb117 ≠ gb115)); have n8_:=Aside0.mk ((by rw [hg]; exact Nat.ne_of_lt (blk_lt (g:=gb116) (o:=.cells #[.int .i64 0,.int .i64 0,.int .i64 0,.int .i64 0,.int .u64 0] 45 (0,0)) (by (with_reducible repeat (first | refine z08 ?_ _ | refine z09 ?_ | refine z06 ?_ _)); exact BK116.out)) : gb116 ≠ gb117)); have n9_:=Aside0.mk ((by rw [hg]; exact Nat.ne_of_gt (blk_lt (g:=gb116) (o:=.cells #[.int .i64 0,.int .i64 0,.int .i64 0,.int .i64 0,.int .u64 0] 45 (0,0)) (by (with_reducible repeat (first | refine z08 ?_ _ | refine z09 ?_ | refine z06 ?_ _)); exact BK116.out)) : gb117 ≠ gb116)); clear BK115; clear BK116; clear HB; have BK115:=n0_; have BK116:=n1_; have HB:=n2_; have BK117:=n3_; have GW117:=n4_; have GE117:=n5_; have NB115_117:=n6_; have NB117_115:=n7_; have NB116_117:=n8_; have NB117_116:=n9_; clear n0_ n1_ n2_ n3_ n4_ n5_ n6_ n7_ n8_ n9_; clear hb hbox hg; have hnb9:=NB117_115.out; have hnc9:=NB115_117.out; have hnb10:=NB117_116.out; have hnc10:=NB116_117.out; have hcz11_0 : w8.cell? ⟨gb117,0,none⟩ = some (.int .i64 0):=(z02 BK117.out 0).trans rfl; have hcz11_1 : w8.cell? ⟨gb117,1,none⟩ = some (.int .i64 0):=(z02 BK117.out 1).trans rfl; have hcz11_2 : w8.cell? ⟨gb117,2,none⟩ = some (.int .i64 0):=(z02 BK117.out 2).trans rfl; have hcz11_3 : w8.cell? ⟨gb117,3,none⟩ = some (.int .i64 0):=(z02 BK117.out 3).trans rfl; have hcz11_4 : w8.cell? ⟨gb117,4,none⟩ = some (.int .u64 0):=(z02 BK117.out 4).trans rfl; have hfz11_0:=z01 BK117.out 0; have hfz11_1:=z01 BK117.out 1; have hfz11_2:=z01 BK117.out 2; have hfz11_3:=z01 BK117.out 3; have hfz11_4:=z01 BK117.out 4))
 (try simp only [Act.put,zq1,zq2,zq3])
 go_cut [] (fun wc=>∃ (kq : Nat) (x118001_2 : Int),Aside0 (z0y.j0 kq a1 a0_0 a0_1 a0_2 a0_3 a0_4 a0_0 x118001_2 0 0 0 = some (r1,r2,r3,r4,r5)) ∧ Aside0 (kq ≤ k) ∧ Aside0 (wc.heap[gb115]? = some (.cells #[.int .i64 a0_0,.int .i64 a0_1,.int .i64 a0_2,.int .i64 a0_3,.int .u64 a0_4] 45 (0,0))) ∧ Aside0 (wc.heap[gb116]? = some (.cells #[.int .i64 0,.int .i64 0,.int .i64 0,.int .i64 0,.int .u64 0] 45 (0,0))) ∧ Aside0 (wc.heap[gb117]? = some (.cells #[.int .i64 a0_0,.int .i64 x118001_2,.int .i64 0,.int .i64 0,.int .u64 0] 45 (0,0))) ∧ Aside0 (Below w.heap.size w wc))
 case first =>
  have H:=HC3.out
  clear HC3
  by_cases c12 : (Go.bits .and .i64 a1 1) = 0
  ·rw [if_pos c12] at H
   have c12b0 : ((Go.bits .and .i64 a1 1) == 0) = true:=beq_iff_eq.mpr c12
   have c12b1 : ((Go.bits .and .i64 a1 1) != 0) = false:=bne_eq_false_iff_eq.mpr c12
   clear c12
   (first | rw [c12b0] | (simp only [i64_w,i32_w]; rw [c12b0]) | skip)
   have H':=Aside0.mk H
   clear H
   go_wp2
   go_meet
   case rel=>exact ⟨_,(0),H',⟨by first | omega | exact Nat.le_refl _⟩,⟨by (with_reducible repeat (first | refine z08 ?_ _ | refine z09 ?_ | refine z06 ?_ _)); refine z0x ?_ NB115_117.out _; (with_reducible repeat (first | refine z08 ?_ _ | refine z09 ?_ | refine z06 ?_ _)); refine z0x ?_ NB115_117.out _; (with_reducible repeat (first | refine z08 ?_ _ | refine z09 ?_ | refine z06 ?_ _)); refine z0x ?_ NB115_117.out _; (with_reducible repeat (first | refine z08 ?_ _ | refine z09 ?_ | refine z06 ?_ _)); refine z0x ?_ NB115_117.out _; (with_reducible repeat (first | refine z08 ?_ _ | refine z09 ?_ | refine z06 ?_ _)); refine z0x ?_ NB115_117.out _; (with_reducible repeat (first | refine z08 ?_ _ | refine z09 ?_ | refine z06 ?_ _)); exact BK115.out⟩,⟨by (with_reducible repeat (first | refine z08 ?_ _ | refine z09 ?_ | refine z06 ?_ _)); refine z0x ?_ NB116_117.out _; (with_reducible repeat (first | refine z08 ?_ _ | refine z09 ?_ | refine z06 ?_ _)); refine z0x ?_ NB116_117.out _; (with_reducible repeat (first | refine z08 ?_ _ | refine z09 ?_ | refine z06 ?_ _)); refine z0x ?_ NB116_117.out _; (with_reducible repeat (first | refine z08 ?_ _ | refine z09 ?_ | refine z06 ?_ _)); refine z0x ?_ NB116_117.out _; (with_reducible repeat (first | refine z08 ?_ _ | refine z09 ?_ | refine z06 ?_ _)); refine z0x ?_ NB116_117.out _; (with_reducible repeat (first | refine z08 ?_ _ | refine z09 ?_ | refine z06 ?_ _)); exact BK116.out⟩,⟨by (with_reducible repeat (first | refine z08 ?_ _ | refine z09 ?_ | refine z06 ?_ _)); refine z0u (cs:=#[.int .i64 a0_0,.int .i64 0,.int .i64 0,.int .i64 0,.int .u64 0]) ?_ 4 _ rfl; (with_reducible repeat (first | refine z08 ?_ _ | refine z09 ?_ | refine z06 ?_ _)); refine z0u (cs:=#[.int .i64 a0_0,.int .i64 0,.int .i64 0,.int .i64 0,.int .u64 0]) ?_ 3 _ rfl; (with_reducible repeat (first | refine z08 ?_ _ | refine z09 ?_ | refine z06 ?_ _)); refine z0u (cs:=#[.int .i64 a0_0,.int .i64 0,.int .i64 0,.int .i64 0,.int .u64 0]) ?_ 2 _ rfl; (with_reducible repeat (first | refine z08 ?_ _ | refine z09 ?_ | refine z06 ?_ _)); refine z0u (cs:=#[.int .i64 a0_0,.int .i64 0,.int .i64 0,.int .i64 0,.int .u64 0]) ?_ 1 _ rfl; (with_reducible repeat (first | refine z08 ?_ _ | refine z09 ?_ | refine z06 ?_ _)); refine z0u (cs:=#[.int .i64 0,.int .i64 0,.int .i64 0,.int .i64 0,.int .u64 0]) ?_ 0 _ rfl; (with_reducible repeat (first | refine z08 ?_ _ | refine z09 ?_ | refine z06 ?_ _)); exact BK117.out⟩,⟨by repeat (first | (with_reducible first | exact HB.out | apply z04 | apply z03 | apply z05 | refine z07 ?_ GE115.out | refine z07 ?_ GE116.out | refine z07 ?_ GE117.out) | exact HB.out)⟩⟩
  ·rw [if_neg c12] at H
   have c12b0 : ((Go.bits .and .i64 a1 1) == 0) = false:=beq_eq_false_iff_ne.mpr c12
   have c12b1 : ((Go.bits .and .i64 a1 1) != 0) = true:=bne_iff_ne.mpr c12
   (first | rw [c12b0] | (simp only [i64_w,i32_w]; rw [c12b0]) | skip)
   have H':=Aside0.mk H
   clear H
   have hnb13:=NB115_116.out
   have hnc13:=NB116_115.out
   have hnb14:=NB115_117.out
   have hnc14:=NB117_115.out
   have hcz15_0 : w8.cell? ⟨gb115,0,none⟩ = some (.int .i64 a0_0):=(z02 BK115.out 0).trans rfl
   have hcz15_1 : w8.cell? ⟨gb115,1,none⟩ = some (.int .i64 a0_1):=(z02 BK115.out 1).trans rfl
   have hcz15_2 : w8.cell? ⟨gb115,2,none⟩ = some (.int .i64 a0_2):=(z02 BK115.out 2).trans rfl
   have hcz15_3 : w8.cell? ⟨gb115,3,none⟩ = some (.int .i64 a0_3):=(z02 BK115.out 3).trans rfl
   have hcz15_4 : w8.cell? ⟨gb115,4,none⟩ = some (.int .u64 a0_4):=(z02 BK115.out 4).trans rfl
   have hfz15_0:=z01 BK115.out 0
   have hfz15_1:=z01 BK115.out 1
   have hfz15_2:=z01 BK115.out 2
   have hfz15_3:=z01 BK115.out 3
   have hfz15_4:=z01 BK115.out 4
   have hnb16:=NB117_116.out
   have hnc16:=NB116_117.out
   have hcz17_0 : w8.cell? ⟨gb117,0,none⟩ = some (.int .i64 0):=(z02 BK117.out 0).trans rfl
   have hcz17_1 : w8.cell? ⟨gb117,1,none⟩ = some (.int .i64 0):=(z02 BK117.out 1).trans rfl
   have hcz17_2 : w8.cell? ⟨gb117,2,none⟩ = some (.int .i64 0):=(z02 BK117.out 2).trans rfl
   have hcz17_3 : w8.cell? ⟨gb117,3,none⟩ = some (.int .i64 0):=(z02 BK117.out 3).trans rfl
   have hcz17_4 : w8.cell? ⟨gb117,4,none⟩ = some (.int .u64 0):=(z02 BK117.out 4).trans rfl
   have hfz17_0:=z01 BK117.out 0
   have hfz17_1:=z01 BK117.out 1
   have hfz17_2:=z01 BK117.out 2
   have hfz17_3:=z01 BK117.out 3
   have hfz17_4:=z01 BK117.out 4
   go_wp2
   go_meet
   case rel=>exact ⟨_,(a0_1),H',⟨by first | omega | exact Nat.le_refl _⟩,⟨by (with_reducible repeat (first | refine z08 ?_ _ | refine z09 ?_ | refine z06 ?_ _)); refine z0x ?_ NB115_117.out _; (with_reducible repeat (first | refine z08 ?_ _ | refine z09 ?_ | refine z06 ?_ _)); refine z0x ?_ NB115_117.out _; (with_reducible repeat (first | refine z08 ?_ _ | refine z09 ?_ | refine z06 ?_ _)); refine z0x ?_ NB115_117.out _; (with_reducible repeat (first | refine z08 ?_ _ | refine z09 ?_ | refine z06 ?_ _)); refine z0x ?_ NB115_117.out _; (with_reducible repeat (first | refine z08 ?_ _ | refine z09 ?_ | refine z06 ?_ _)); refine z0x ?_ NB115_117.out _; (with_reducible repeat (first | refine z08 ?_ _ | refine z09 ?_ | refine z06 ?_ _)); refine z0x ?_ NB115_117.out _; (with_reducible repeat (first | refine z08 ?_ _ | refine z09 ?_ | refine z06 ?_ _)); exact BK115.out⟩,⟨by (with_reducible repeat (first | refine z08 ?_ _ | refine z09 ?_ | refine z06 ?_ _)); refine z0x ?_ NB116_117.out _; (with_reducible repeat (first | refine z08 ?_ _ | refine z09 ?_ | refine z06 ?_ _)); refine z0x ?_ NB116_117.out _; (with_reducible repeat (first | refine z08 ?_ _ | refine z09 ?_ | refine z06 ?_ _)); refine z0x ?_ NB116_117.out _; (with_reducible repeat (first | refine z08 ?_ _ | refine z09 ?_ | refine z06 ?_ _)); refine z0x ?_ NB116_117.out _; (with_reducible repeat (first | refine z08 ?_ _ | refine z09 ?_ | refine z06 ?_ _)); refine z0x ?_ NB116_117.out _; (with_reducible repeat (first | refine z08 ?_ _ | refine z09 ?_ | refine z06 ?_ _)); refine z0x ?_ NB116_117.out _; (with_reducible repeat (first | refine z08 ?_ _ | refine z09 ?_ | refine z06 ?_ _)); exact BK116.out⟩,⟨by (with_reducible repeat (first | refine z08 ?_ _ | refine z09 ?_ | refine z06 ?_ _)); refine z0u (cs:=#[.int .i64 a0_0,.int .i64 0,.int .i64 0,.int .i64 0,.int .u64 0]) ?_ 1 _ rfl; (with_reducible repeat (first | refine z08 ?_ _ | refine z09 ?_ | refine z06 ?_ _)); refine z0u (cs:=#[.int .i64 a0_0,.int .i64 0,.int .i64 0,.int .i64 0,.int .u64 0]) ?_ 4 _ rfl; (with_reducible repeat (first | refine z08 ?_ _ | refine z09 ?_ | refine z06 ?_ _)); refine z0u (cs:=#[.int .i64 a0_0,.int .i64 0,.int .i64 0,.int .i64 0,.int .u64 0]) ?_ 3 _ rfl; (with_reducible repeat (first | refine z08 ?_ _ | refine z09 ?_ | refine z06 ?_ _)); refine z0u (cs:=#[.int .i64 a0_0,.int .i64 0,.int .i64 0,.int .i64 0,.int .u64 0]) ?_ 2 _ rfl; (with_reducible repeat (first | refine z08 ?_ _ | refine z09 ?_ | refine z06 ?_ _)); refine z0u (cs:=#[.int .i64 a0_0,.int .i64 0,.int .i64 0,.int .i64 0,.int .u64 0]) ?_ 1 _ rfl; (with_reducible repeat (first | refine z08 ?_ _ | refine z09 ?_ | refine z06 ?_ _)); refine z0u (cs:=#[.int .i64 0,.int .i64 0,.int .i64 0,.int .i64 0,.int .u64 0]) ?_ 0 _ rfl; (with_reducible repeat (first | refine z08 ?_ _ | refine z09 ?_ | refine z06 ?_ _)); exact BK117.out⟩,⟨by repeat (first | (with_reducible first | exact HB.out | apply z04 | apply z03 | apply z05 | refine z07 ?_ GE115.out | refine z07 ?_ GE116.out | refine z07 ?_ GE117.out) | exact HB.out)⟩⟩
 case rest =>
  clear HC3
  try clear c1
  try clear p2
  try clear c6
  try clear c9
  try clear c10
  try clear c12
  try clear c12b0
  try clear c12b1
  try clear c13
  try clear c14
  try clear c16
  try clear hcz11_0
  try clear hcz11_1
  try clear hcz11_2
  try clear hcz11_3
  try clear hcz11_4
  try clear hcz15_0
  try clear hcz15_1
  try clear hcz15_2
  try clear hcz15_3
  try clear hcz15_4
  try clear hcz17_0
  try clear hcz17_1
  try clear hcz17_2
  try clear hcz17_3
  try clear hcz17_4
  try clear hcz7_0
  try clear hcz7_1
  try clear hcz7_2
  try clear hcz7_3
  try clear hcz7_4
  try clear hfz11_0
  try clear hfz11_1
  try clear hfz11_2
  try clear hfz11_3
  try clear hfz11_4
  try clear hfz15_0
  try clear hfz15_1
  try clear hfz15_2
  try clear hfz15_3
  try clear hfz15_4
  try clear hfz17_0
  try clear hfz17_1
  try clear hfz17_2
  try clear hfz17_3
  try clear hfz17_4
  try clear hfz7_0
  try clear hfz7_1
  try clear hfz7_2
  try clear hfz7_3
  try clear hfz7_4
  obtain ⟨kq,x118001_2,HA,HJ2,BK115,BK116,BK117,HB⟩:=hcut
  cases kq with
  | zero=>exact absurd HA.out (by simp [z0y.j0])
  | succ kj2 =>
   have H:=HA.out
   clear HA
   simp only [z0y.j0] at H
   have HC18:=Aside0.mk H
   clear H
   go_upto_if 17 with (fail)
   go_cut [] (fun wc=>∃ (kq : Nat) (x118002_17 : Int),Aside0 (z0y.j1 kq a1 a0_0 a0_1 a0_2 a0_3 a0_4 a0_0 x118001_2 x118002_17 0 0 = some (r1,r2,r3,r4,r5)) ∧ Aside0 (kq ≤ kj2) ∧ Aside0 (wc.heap[gb115]? = some (.cells #[.int .i64 a0_0,.int .i64 a0_1,.int .i64 a0_2,.int .i64 a0_3,.int .u64 a0_4] 45 (0,0))) ∧ Aside0 (wc.heap[gb116]? = some (.cells #[.int .i64 0,.int .i64 0,.int .i64 0,.int .i64 0,.int .u64 0] 45 (0,0))) ∧ Aside0 (wc.heap[gb117]? = some (.cells #[.int .i64 a0_0,.int .i64 x118001_2,.int .i64 x118002_17,.int .i64 0,.int .u64 0] 45 (0,0))) ∧ Aside0 (Below w.heap.size w wc))
   case first =>
    have H:=HC18.out
    clear HC18
    by_cases c19 : (Go.bits .and .i64 a1 2) = 0
    ·rw [if_pos c19] at H
     have c19b0 : ((Go.bits .and .i64 a1 2) == 0) = true:=beq_iff_eq.mpr c19
     have c19b1 : ((Go.bits .and .i64 a1 2) != 0) = false:=bne_eq_false_iff_eq.mpr c19
     clear c19
     (first | rw [c19b0] | (simp only [i64_w,i32_w]; rw [c19b0]) | skip)
     have H':=Aside0.mk H
     clear H
     go_wp2
     go_meet
     case rel=>exact ⟨_,(0),H',⟨by have:=HJ2.out; first | omega | exact Nat.le_refl _⟩,⟨by (with_reducible repeat (first | refine z08 ?_ _ | refine z09 ?_ | refine z06 ?_ _)); exact BK115.out⟩,⟨by (with_reducible repeat (first | refine z08 ?_ _ | refine z09 ?_ | refine z06 ?_ _)); exact BK116.out⟩,⟨by (with_reducible repeat (first | refine z08 ?_ _ | refine z09 ?_ | refine z06 ?_ _)); exact BK117.out⟩,⟨by repeat (first | (with_reducible first | exact HB.out | apply z04 | apply z03 | apply z05 | refine z07 ?_ GE115.out | refine z07 ?_ GE116.out | refine z07 ?_ GE117.out) | exact HB.out)⟩⟩
    ·rw [if_neg c19] at H
     have c19b0 : ((Go.bits .and .i64 a1 2) == 0) = false:=beq_eq_false_iff_ne.mpr c19
     have c19b1 : ((Go.bits .and .i64 a1 2) != 0) = true:=bne_iff_ne.mpr c19
     (first | rw [c19b0] | (simp only [i64_w,i32_w]; rw [c19b0]) | skip)
     have H':=Aside0.mk H
     clear H
     have hnb20:=NB115_116.out
     have hnc20:=NB116_115.out
     have hnb21:=NB115_117.out
     have hnc21:=NB117_115.out
     have hcz22_0 : wc.cell? ⟨gb115,0,none⟩ = some (.int .i64 a0_0):=(z02 BK115.out 0).trans rfl
     have hcz22_1 : wc.cell? ⟨gb115,1,none⟩ = some (.int .i64 a0_1):=(z02 BK115.out 1).trans rfl
     have hcz22_2 : wc.cell? ⟨gb115,2,none⟩ = some (.int .i64 a0_2):=(z02 BK115.out 2).trans rfl
     have hcz22_3 : wc.cell? ⟨gb115,3,none⟩ = some (.int .i64 a0_3):=(z02 BK115.out 3).trans rfl
     have hcz22_4 : wc.cell? ⟨gb115,4,none⟩ = some (.int .u64 a0_4):=(z02 BK115.out 4).trans rfl
     have hfz22_0:=z01 BK115.out 0
     have hfz22_1:=z01 BK115.out 1
     have hfz22_2:=z01 BK115.out 2
     have hfz22_3:=z01 BK115.out 3
     have hfz22_4:=z01 BK115.out 4
     have hnb23:=NB117_116.out
     have hnc23:=NB116_117.out
     have hcz24_0 : wc.cell? ⟨gb117,0,none⟩ = some (.int .i64 a0_0):=(z02 BK117.out 0).trans rfl
     have hcz24_1 : wc.cell? ⟨gb117,1,none⟩ = some (.int .i64 x118001_2):=(z02 BK117.out 1).trans rfl
     have hcz24_2 : wc.cell? ⟨gb117,2,none⟩ = some (.int .i64 0):=(z02 BK117.out 2).trans rfl
     have hcz24_3 : wc.cell? ⟨gb117,3,none⟩ = some (.int .i64 0):=(z02 BK117.out 3).trans rfl
     have hcz24_4 : wc.cell? ⟨gb117,4,none⟩ = some (.int .u64 0):=(z02 BK117.out 4).trans rfl
     have hfz24_0:=z01 BK117.out 0
     have hfz24_1:=z01 BK117.out 1
     have hfz24_2:=z01 BK117.out 2
     have hfz24_3:=z01 BK117.out 3
     have hfz24_4:=z01 BK117.out 4
     go_wp2
     go_meet
     case rel=>exact ⟨_,(a0_2),H',⟨by have:=HJ2.out; first | omega | exact Nat.le_refl _⟩,⟨by (with_reducible repeat (first | refine z08 ?_ _ | refine z09 ?_ | refine z06 ?_ _)); refine z0x ?_ NB115_117.out _; (with_reducible repeat (first | refine z08 ?_ _ | refine z09 ?_ | refine z06 ?_ _)); exact BK115.out⟩,⟨by (with_reducible repeat (first | refine z08 ?_ _ | refine z09 ?_ | refine z06 ?_ _)); refine z0x ?_ NB116_117.out _; (with_reducible repeat (first | refine z08 ?_ _ | refine z09 ?_ | refine z06 ?_ _)); exact BK116.out⟩,⟨by (with_reducible repeat (first | refine z08 ?_ _ | refine z09 ?_ | refine z06 ?_ _)); refine z0u (cs:=#[.int .i64 a0_0,.int .i64 x118001_2,.int .i64 0,.int .i64 0,.int .u64 0]) ?_ 2 _ rfl; (with_reducible repeat (first | refine z08 ?_ _ | refine z09 ?_ | refine z06 ?_ _)); exact BK117.out⟩,⟨by repeat (first | (with_reducible first | exact HB.out | apply z04 | apply z03 | apply z05 | refine z07 ?_ GE115.out | refine z07 ?_ GE116.out | refine z07 ?_ GE117.out) | exact HB.out)⟩⟩
   case rest =>
    clear HC18
    try clear c1
    try clear c2
    try clear p2
    try clear c6
    try clear c9
    try clear c10
    try clear c12
    try clear c12b0
    try clear c12b1
    try clear c13
    try clear c14
    try clear c16
    try clear c19
    try clear c19b0
    try clear c19b1
    try clear c20
    try clear c21
    try clear c23
    try clear hcz11_0
    try clear hcz11_1
    try clear hcz11_2
    try clear hcz11_3
    try clear hcz11_4
    try clear hcz15_0
    try clear hcz15_1
    try clear hcz15_2
    try clear hcz15_3
    try clear hcz15_4
    try clear hcz17_0
    try clear hcz17_1
    try clear hcz17_2
    try clear hcz17_3
    try clear hcz17_4
    try clear hcz22_0
    try clear hcz22_1
    try clear hcz22_2
    try clear hcz22_3
    try clear hcz22_4
    try clear hcz24_0
    try clear hcz24_1
    try clear hcz24_2
    try clear hcz24_3
    try clear hcz24_4
    try clear hcz7_0
    try clear hcz7_1
    try clear hcz7_2
    try clear hcz7_3
    try clear hcz7_4
    try clear hfz11_0
    try clear hfz11_1
    try clear hfz11_2
    try clear hfz11_3
    try clear hfz11_4
    try clear hfz15_0
    try clear hfz15_1
    try clear hfz15_2
    try clear hfz15_3
    try clear hfz15_4
    try clear hfz17_0
    try clear hfz17_1
    try clear hfz17_2
    try clear hfz17_3
    try clear hfz17_4
    try clear hfz22_0
    try clear hfz22_1
    try clear hfz22_2
    try clear hfz22_3
    try clear hfz22_4
    try clear hfz24_0
    try clear hfz24_1
    try clear hfz24_2
    try clear hfz24_3
    try clear hfz24_4
    try clear hfz7_0
    try clear hfz7_1
    try clear hfz7_2
    try clear hfz7_3
    try clear hfz7_4
    try clear p2
    obtain ⟨kq,x118002_17,HA,HJ17,BK115,BK116,BK117,HB⟩:=hcut
    cases kq with
    | zero=>exact absurd HA.out (by simp [z0y.j1])
    | succ kj17 =>
     have H:=HA.out
     clear HA
     simp only [z0y.j1] at H
     by_cases c25 : (Go.bits .and .i64 a1 12) = 0
     ·rw [if_pos c25] at H
      have c25b0 : ((Go.bits .and .i64 a1 12) == 0) = true:=beq_iff_eq.mpr c25
      have c25b1 : ((Go.bits .and .i64 a1 12) != 0) = false:=bne_eq_false_iff_eq.mpr c25
      clear c25
      by_cases c26 : (Go.bits .and .i64 a1 16) = 0
      ·rw [if_pos c26] at H
       have c26b0 : ((Go.bits .and .i64 a1 16) == 0) = true:=beq_iff_eq.mpr c26
       have c26b1 : ((Go.bits .and .i64 a1 16) != 0) = false:=bne_eq_false_iff_eq.mpr c26
       clear c26
       simp only [Option.some.injEq,Prod.mk.injEq] at H
       obtain ⟨rfl,rfl,rfl,rfl,rfl⟩:=H
       have hnb27:=NB117_115.out
       have hnc27:=NB115_117.out
       have hnb28:=NB117_116.out
       have hnc28:=NB116_117.out
       have hcz29_0 : wc.cell? ⟨gb117,0,none⟩ = some (.int .i64 a0_0):=(z02 BK117.out 0).trans rfl
       have hcz29_1 : wc.cell? ⟨gb117,1,none⟩ = some (.int .i64 x118001_2):=(z02 BK117.out 1).trans rfl
       have hcz29_2 : wc.cell? ⟨gb117,2,none⟩ = some (.int .i64 x118002_17):=(z02 BK117.out 2).trans rfl
       have hcz29_3 : wc.cell? ⟨gb117,3,none⟩ = some (.int .i64 0):=(z02 BK117.out 3).trans rfl
       have hcz29_4 : wc.cell? ⟨gb117,4,none⟩ = some (.int .u64 0):=(z02 BK117.out 4).trans rfl
       have hfz29_0:=z01 BK117.out 0
       have hfz29_1:=z01 BK117.out 1
       have hfz29_2:=z01 BK117.out 2
       have hfz29_3:=z01 BK117.out 3
       have hfz29_4:=z01 BK117.out 4
       have hnb30:=NB116_115.out
       have hnc30:=NB115_116.out
       have hcz31_0 : wc.cell? ⟨gb116,0,none⟩ = some (.int .i64 0):=(z02 BK116.out 0).trans rfl
       have hcz31_1 : wc.cell? ⟨gb116,1,none⟩ = some (.int .i64 0):=(z02 BK116.out 1).trans rfl
       have hcz31_2 : wc.cell? ⟨gb116,2,none⟩ = some (.int .i64 0):=(z02 BK116.out 2).trans rfl
       have hcz31_3 : wc.cell? ⟨gb116,3,none⟩ = some (.int .i64 0):=(z02 BK116.out 3).trans rfl
       have hcz31_4 : wc.cell? ⟨gb116,4,none⟩ = some (.int .u64 0):=(z02 BK116.out 4).trans rfl
       have hfz31_0:=z01 BK116.out 0
       have hfz31_1:=z01 BK116.out 1
       have hfz31_2:=z01 BK116.out 2
       have hfz31_3:=z01 BK116.out 3
       have hfz31_4:=z01 BK116.out 4
       go_wp2
       refine bodyPost_ret (results_cell_row rfl _ _ gb116 45 #[.int .i64 a0_0,.int .i64 x118001_2,.int .i64 x118002_17,.int .i64 0,.int .u64 0] (0,0) _ rfl (by (with_reducible repeat (first | refine z08 ?_ _ | refine z09 ?_ | refine z06 ?_ _)); refine z0u (cs:=#[.int .i64 a0_0,.int .i64 x118001_2,.int .i64 x118002_17,.int .i64 0,.int .u64 0]) ?_ 4 _ rfl; (with_reducible repeat (first | refine z08 ?_ _ | refine z09 ?_ | refine z06 ?_ _)); refine z0u (cs:=#[.int .i64 a0_0,.int .i64 x118001_2,.int .i64 x118002_17,.int .i64 0,.int .u64 0]) ?_ 3 _ rfl; (with_reducible repeat (first | refine z08 ?_ _ | refine z09 ?_ | refine z06 ?_ _)); refine z0u (cs:=#[.int .i64 a0_0,.int .i64 x118001_2,.int .i64 0,.int .i64 0,.int .u64 0]) ?_ 2 _ rfl; (with_reducible repeat (first | refine z08 ?_ _ | refine z09 ?_ | refine z06 ?_ _)); refine z0u (cs:=#[.int .i64 a0_0,.int .i64 0,.int .i64 0,.int .i64 0,.int .u64 0]) ?_ 1 _ rfl; (with_reducible repeat (first | refine z08 ?_ _ | refine z09 ?_ | refine z06 ?_ _)); refine z0u (cs:=#[.int .i64 0,.int .i64 0,.int .i64 0,.int .i64 0,.int .u64 0]) ?_ 0 _ rfl; (with_reducible repeat (first | refine z08 ?_ _ | refine z09 ?_ | refine z06 ?_ _)); exact BK116.out) Try.underlying45 rfl (by kernel_rfl)) rfl ?_
       exact ⟨by first | rfl | (simp [z0i,z0h] <;> rfl) | (simp [*,z0i,z0h] <;> rfl),by repeat (first | (with_reducible first | exact HB.out | apply z04 | apply z03 | apply z05 | refine z07 ?_ GE115.out | refine z07 ?_ GE116.out | refine z07 ?_ GE117.out) | exact HB.out)⟩
      ·rw [if_neg c26] at H
       have c26b0 : ((Go.bits .and .i64 a1 16) == 0) = false:=beq_eq_false_iff_ne.mpr c26
       have c26b1 : ((Go.bits .and .i64 a1 16) != 0) = true:=bne_iff_ne.mpr c26
       simp only [Option.some.injEq,Prod.mk.injEq] at H
       obtain ⟨rfl,rfl,rfl,rfl,rfl⟩:=H
       have hnb32:=NB115_116.out
       have hnc32:=NB116_115.out
       have hnb33:=NB115_117.out
       have hnc33:=NB117_115.out
       have hcz34_0 : wc.cell? ⟨gb115,0,none⟩ = some (.int .i64 a0_0):=(z02 BK115.out 0).trans rfl
       have hcz34_1 : wc.cell? ⟨gb115,1,none⟩ = some (.int .i64 a0_1):=(z02 BK115.out 1).trans rfl
       have hcz34_2 : wc.cell? ⟨gb115,2,none⟩ = some (.int .i64 a0_2):=(z02 BK115.out 2).trans rfl
       have hcz34_3 : wc.cell? ⟨gb115,3,none⟩ = some (.int .i64 a0_3):=(z02 BK115.out 3).trans rfl
       have hcz34_4 : wc.cell? ⟨gb115,4,none⟩ = some (.int .u64 a0_4):=(z02 BK115.out 4).trans rfl
       have hfz34_0:=z01 BK115.out 0
       have hfz34_1:=z01 BK115.out 1
       have hfz34_2:=z01 BK115.out 2
       have hfz34_3:=z01 BK115.out 3
       have hfz34_4:=z01 BK115.out 4
       have hnb35:=NB117_116.out
       have hnc35:=NB116_117.out
       have hcz36_0 : wc.cell? ⟨gb117,0,none⟩ = some (.int .i64 a0_0):=(z02 BK117.out 0).trans rfl
       have hcz36_1 : wc.cell? ⟨gb117,1,none⟩ = some (.int .i64 x118001_2):=(z02 BK117.out 1).trans rfl
       have hcz36_2 : wc.cell? ⟨gb117,2,none⟩ = some (.int .i64 x118002_17):=(z02 BK117.out 2).trans rfl
       have hcz36_3 : wc.cell? ⟨gb117,3,none⟩ = some (.int .i64 0):=(z02 BK117.out 3).trans rfl
       have hcz36_4 : wc.cell? ⟨gb117,4,none⟩ = some (.int .u64 0):=(z02 BK117.out 4).trans rfl
       have hfz36_0:=z01 BK117.out 0
       have hfz36_1:=z01 BK117.out 1
       have hfz36_2:=z01 BK117.out 2
       have hfz36_3:=z01 BK117.out 3
       have hfz36_4:=z01 BK117.out 4
       have hcz37_0 : wc.cell? ⟨gb116,0,none⟩ = some (.int .i64 0):=(z02 BK116.out 0).trans rfl
       have hcz37_1 : wc.cell? ⟨gb116,1,none⟩ = some (.int .i64 0):=(z02 BK116.out 1).trans rfl
       have hcz37_2 : wc.cell? ⟨gb116,2,none⟩ = some (.int .i64 0):=(z02 BK116.out 2).trans rfl
       have hcz37_3 : wc.cell? ⟨gb116,3,none⟩ = some (.int .i64 0):=(z02 BK116.out 3).trans rfl
       have hcz37_4 : wc.cell? ⟨gb116,4,none⟩ = some (.int .u64 0):=(z02 BK116.out 4).trans rfl
       have hfz37_0:=z01 BK116.out 0
       have hfz37_1:=z01 BK116.out 1
       have hfz37_2:=z01 BK116.out 2
       have hfz37_3:=z01 BK116.out 3
       have hfz37_4:=z01 BK116.out 4
       go_wp2
       refine bodyPost_ret (results_cell_row rfl _ _ gb116 45 #[.int .i64 a0_0,.int .i64 x118001_2,.int .i64 x118002_17,.int .i64 0,.int .u64 a0_4] (0,0) _ rfl (by (with_reducible repeat (first | refine z08 ?_ _ | refine z09 ?_ | refine z06 ?_ _)); refine z0u (cs:=#[.int .i64 a0_0,.int .i64 x118001_2,.int .i64 x118002_17,.int .i64 0,.int .u64 0]) ?_ 4 _ rfl; (with_reducible repeat (first | refine z08 ?_ _ | refine z09 ?_ | refine z06 ?_ _)); refine z0u (cs:=#[.int .i64 a0_0,.int .i64 x118001_2,.int .i64 x118002_17,.int .i64 0,.int .u64 0]) ?_ 3 _ rfl; (with_reducible repeat (first | refine z08 ?_ _ | refine z09 ?_ | refine z06 ?_ _)); refine z0u (cs:=#[.int .i64 a0_0,.int .i64 x118001_2,.int .i64 0,.int .i64 0,.int .u64 0]) ?_ 2 _ rfl; (with_reducible repeat (first | refine z08 ?_ _ | refine z09 ?_ | refine z06 ?_ _)); refine z0u (cs:=#[.int .i64 a0_0,.int .i64 0,.int .i64 0,.int .i64 0,.int .u64 0]) ?_ 1 _ rfl; (with_reducible repeat (first | refine z08 ?_ _ | refine z09 ?_ | refine z06 ?_ _)); refine z0u (cs:=#[.int .i64 0,.int .i64 0,.int .i64 0,.int .i64 0,.int .u64 0]) ?_ 0 _ rfl; (with_reducible repeat (first | refine z08 ?_ _ | refine z09 ?_ | refine z06 ?_ _)); refine z0x ?_ NB116_117.out _; (with_reducible repeat (first | refine z08 ?_ _ | refine z09 ?_ | refine z06 ?_ _)); exact BK116.out) Try.underlying45 rfl (by kernel_rfl)) rfl ?_
       exact ⟨by first | rfl | (simp [z0i,z0h] <;> rfl) | (simp [*,z0i,z0h] <;> rfl),by repeat (first | (with_reducible first | exact HB.out | apply z04 | apply z03 | apply z05 | refine z07 ?_ GE115.out | refine z07 ?_ GE116.out | refine z07 ?_ GE117.out) | exact HB.out)⟩
     ·rw [if_neg c25] at H
      have c25b0 : ((Go.bits .and .i64 a1 12) == 0) = false:=beq_eq_false_iff_ne.mpr c25
      have c25b1 : ((Go.bits .and .i64 a1 12) != 0) = true:=bne_iff_ne.mpr c25
      by_cases c38 : (Go.bits .and .i64 a1 16) = 0
      ·rw [if_pos c38] at H
       have c38b0 : ((Go.bits .and .i64 a1 16) == 0) = true:=beq_iff_eq.mpr c38
       have c38b1 : ((Go.bits .and .i64 a1 16) != 0) = false:=bne_eq_false_iff_eq.mpr c38
       clear c38
       simp only [Option.some.injEq,Prod.mk.injEq] at H
       obtain ⟨rfl,rfl,rfl,rfl,rfl⟩:=H
       have hnb39:=NB115_116.out
       have hnc39:=NB116_115.out
       have hnb40:=NB115_117.out
       have hnc40:=NB117_115.out
       have hcz41_0 : wc.cell? ⟨gb115,0,none⟩ = some (.int .i64 a0_0):=(z02 BK115.out 0).trans rfl
       have hcz41_1 : wc.cell? ⟨gb115,1,none⟩ = some (.int .i64 a0_1):=(z02 BK115.out 1).trans rfl
       have hcz41_2 : wc.cell? ⟨gb115,2,none⟩ = some (.int .i64 a0_2):=(z02 BK115.out 2).trans rfl
       have hcz41_3 : wc.cell? ⟨gb115,3,none⟩ = some (.int .i64 a0_3):=(z02 BK115.out 3).trans rfl
       have hcz41_4 : wc.cell? ⟨gb115,4,none⟩ = some (.int .u64 a0_4):=(z02 BK115.out 4).trans rfl
       have hfz41_0:=z01 BK115.out 0
       have hfz41_1:=z01 BK115.out 1
       have hfz41_2:=z01 BK115.out 2
       have hfz41_3:=z01 BK115.out 3
       have hfz41_4:=z01 BK115.out 4
       have hnb42:=NB117_116.out
       have hnc42:=NB116_117.out
       have hcz43_0 : wc.cell? ⟨gb117,0,none⟩ = some (.int .i64 a0_0):=(z02 BK117.out 0).trans rfl
       have hcz43_1 : wc.cell? ⟨gb117,1,none⟩ = some (.int .i64 x118001_2):=(z02 BK117.out 1).trans rfl
       have hcz43_2 : wc.cell? ⟨gb117,2,none⟩ = some (.int .i64 x118002_17):=(z02 BK117.out 2).trans rfl
       have hcz43_3 : wc.cell? ⟨gb117,3,none⟩ = some (.int .i64 0):=(z02 BK117.out 3).trans rfl
       have hcz43_4 : wc.cell? ⟨gb117,4,none⟩ = some (.int .u64 0):=(z02 BK117.out 4).trans rfl
       have hfz43_0:=z01 BK117.out 0
       have hfz43_1:=z01 BK117.out 1
       have hfz43_2:=z01 BK117.out 2
       have hfz43_3:=z01 BK117.out 3
       have hfz43_4:=z01 BK117.out 4
       have hcz44_0 : wc.cell? ⟨gb116,0,none⟩ = some (.int .i64 0):=(z02 BK116.out 0).trans rfl
       have hcz44_1 : wc.cell? ⟨gb116,1,none⟩ = some (.int .i64 0):=(z02 BK116.out 1).trans rfl
       have hcz44_2 : wc.cell? ⟨gb116,2,none⟩ = some (.int .i64 0):=(z02 BK116.out 2).trans rfl
       have hcz44_3 : wc.cell? ⟨gb116,3,none⟩ = some (.int .i64 0):=(z02 BK116.out 3).trans rfl
       have hcz44_4 : wc.cell? ⟨gb116,4,none⟩ = some (.int .u64 0):=(z02 BK116.out 4).trans rfl
       have hfz44_0:=z01 BK116.out 0
       have hfz44_1:=z01 BK116.out 1
       have hfz44_2:=z01 BK116.out 2
       have hfz44_3:=z01 BK116.out 3
       have hfz44_4:=z01 BK116.out 4
       go_wp2
       refine bodyPost_ret (results_cell_row rfl _ _ gb116 45 #[.int .i64 a0_0,.int .i64 x118001_2,.int .i64 x118002_17,.int .i64 a0_3,.int .u64 0] (0,0) _ rfl (by (with_reducible repeat (first | refine z08 ?_ _ | refine z09 ?_ | refine z06 ?_ _)); refine z0u (cs:=#[.int .i64 a0_0,.int .i64 x118001_2,.int .i64 x118002_17,.int .i64 a0_3,.int .u64 0]) ?_ 4 _ rfl; (with_reducible repeat (first | refine z08 ?_ _ | refine z09 ?_ | refine z06 ?_ _)); refine z0u (cs:=#[.int .i64 a0_0,.int .i64 x118001_2,.int .i64 x118002_17,.int .i64 0,.int .u64 0]) ?_ 3 _ rfl; (with_reducible repeat (first | refine z08 ?_ _ | refine z09 ?_ | refine z06 ?_ _)); refine z0u (cs:=#[.int .i64 a0_0,.int .i64 x118001_2,.int .i64 0,.int .i64 0,.int .u64 0]) ?_ 2 _ rfl; (with_reducible repeat (first | refine z08 ?_ _ | refine z09 ?_ | refine z06 ?_ _)); refine z0u (cs:=#[.int .i64 a0_0,.int .i64 0,.int .i64 0,.int .i64 0,.int .u64 0]) ?_ 1 _ rfl; (with_reducible repeat (first | refine z08 ?_ _ | refine z09 ?_ | refine z06 ?_ _)); refine z0u (cs:=#[.int .i64 0,.int .i64 0,.int .i64 0,.int .i64 0,.int .u64 0]) ?_ 0 _ rfl; (with_reducible repeat (first | refine z08 ?_ _ | refine z09 ?_ | refine z06 ?_ _)); refine z0x ?_ NB116_117.out _; (with_reducible repeat (first | refine z08 ?_ _ | refine z09 ?_ | refine z06 ?_ _)); exact BK116.out) Try.underlying45 rfl (by kernel_rfl)) rfl ?_
       exact ⟨by first | rfl | (simp [z0i,z0h] <;> rfl) | (simp [*,z0i,z0h] <;> rfl),by repeat (first | (with_reducible first | exact HB.out | apply z04 | apply z03 | apply z05 | refine z07 ?_ GE115.out | refine z07 ?_ GE116.out | refine z07 ?_ GE117.out) | exact HB.out)⟩
      ·rw [if_neg c38] at H
       have c38b0 : ((Go.bits .and .i64 a1 16) == 0) = false:=beq_eq_false_iff_ne.mpr c38
       have c38b1 : ((Go.bits .and .i64 a1 16) != 0) = true:=bne_iff_ne.mpr c38
       simp only [Option.some.injEq,Prod.mk.injEq] at H
       obtain ⟨rfl,rfl,rfl,rfl,rfl⟩:=H
       have hnb45:=NB115_116.out
       have hnc45:=NB116_115.out
       have hnb46:=NB115_117.out
       have hnc46:=NB117_115.out
       have hcz47_0 : wc.cell? ⟨gb115,0,none⟩ = some (.int .i64 a0_0):=(z02 BK115.out 0).trans rfl
       have hcz47_1 : wc.cell? ⟨gb115,1,none⟩ = some (.int .i64 a0_1):=(z02 BK115.out 1).trans rfl
       have hcz47_2 : wc.cell? ⟨gb115,2,none⟩ = some (.int .i64 a0_2):=(z02 BK115.out 2).trans rfl
       have hcz47_3 : wc.cell? ⟨gb115,3,none⟩ = some (.int .i64 a0_3):=(z02 BK115.out 3).trans rfl
       have hcz47_4 : wc.cell? ⟨gb115,4,none⟩ = some (.int .u64 a0_4):=(z02 BK115.out 4).trans rfl
       have hfz47_0:=z01 BK115.out 0
       have hfz47_1:=z01 BK115.out 1
       have hfz47_2:=z01 BK115.out 2
       have hfz47_3:=z01 BK115.out 3
       have hfz47_4:=z01 BK115.out 4
       have hnb48:=NB117_116.out
       have hnc48:=NB116_117.out
       have hcz49_0 : wc.cell? ⟨gb117,0,none⟩ = some (.int .i64 a0_0):=(z02 BK117.out 0).trans rfl
       have hcz49_1 : wc.cell? ⟨gb117,1,none⟩ = some (.int .i64 x118001_2):=(z02 BK117.out 1).trans rfl
       have hcz49_2 : wc.cell? ⟨gb117,2,none⟩ = some (.int .i64 x118002_17):=(z02 BK117.out 2).trans rfl
       have hcz49_3 : wc.cell? ⟨gb117,3,none⟩ = some (.int .i64 0):=(z02 BK117.out 3).trans rfl
       have hcz49_4 : wc.cell? ⟨gb117,4,none⟩ = some (.int .u64 0):=(z02 BK117.out 4).trans rfl
       have hfz49_0:=z01 BK117.out 0
       have hfz49_1:=z01 BK117.out 1
       have hfz49_2:=z01 BK117.out 2
       have hfz49_3:=z01 BK117.out 3
       have hfz49_4:=z01 BK117.out 4
       have hcz50_0 : wc.cell? ⟨gb116,0,none⟩ = some (.int .i64 0):=(z02 BK116.out 0).trans rfl
       have hcz50_1 : wc.cell? ⟨gb116,1,none⟩ = some (.int .i64 0):=(z02 BK116.out 1).trans rfl
       have hcz50_2 : wc.cell? ⟨gb116,2,none⟩ = some (.int .i64 0):=(z02 BK116.out 2).trans rfl
       have hcz50_3 : wc.cell? ⟨gb116,3,none⟩ = some (.int .i64 0):=(z02 BK116.out 3).trans rfl
       have hcz50_4 : wc.cell? ⟨gb116,4,none⟩ = some (.int .u64 0):=(z02 BK116.out 4).trans rfl
       have hfz50_0:=z01 BK116.out 0
       have hfz50_1:=z01 BK116.out 1
       have hfz50_2:=z01 BK116.out 2
       have hfz50_3:=z01 BK116.out 3
       have hfz50_4:=z01 BK116.out 4
       go_wp2
       refine bodyPost_ret (results_cell_row rfl _ _ gb116 45 #[.int .i64 a0_0,.int .i64 x118001_2,.int .i64 x118002_17,.int .i64 a0_3,.int .u64 a0_4] (0,0) _ rfl (by (with_reducible repeat (first | refine z08 ?_ _ | refine z09 ?_ | refine z06 ?_ _)); refine z0u (cs:=#[.int .i64 a0_0,.int .i64 x118001_2,.int .i64 x118002_17,.int .i64 a0_3,.int .u64 0]) ?_ 4 _ rfl; (with_reducible repeat (first | refine z08 ?_ _ | refine z09 ?_ | refine z06 ?_ _)); refine z0u (cs:=#[.int .i64 a0_0,.int .i64 x118001_2,.int .i64 x118002_17,.int .i64 0,.int .u64 0]) ?_ 3 _ rfl; (with_reducible repeat (first | refine z08 ?_ _ | refine z09 ?_ | refine z06 ?_ _)); refine z0u (cs:=#[.int .i64 a0_0,.int .i64 x118001_2,.int .i64 0,.int .i64 0,.int .u64 0]) ?_ 2 _ rfl; (with_reducible repeat (first | refine z08 ?_ _ | refine z09 ?_ | refine z06 ?_ _)); refine z0u (cs:=#[.int .i64 a0_0,.int .i64 0,.int .i64 0,.int .i64 0,.int .u64 0]) ?_ 1 _ rfl; (with_reducible repeat (first | refine z08 ?_ _ | refine z09 ?_ | refine z06 ?_ _)); refine z0u (cs:=#[.int .i64 0,.int .i64 0,.int .i64 0,.int .i64 0,.int .u64 0]) ?_ 0 _ rfl; (with_reducible repeat (first | refine z08 ?_ _ | refine z09 ?_ | refine z06 ?_ _)); refine z0x ?_ NB116_117.out _; (with_reducible repeat (first | refine z08 ?_ _ | refine z09 ?_ | refine z06 ?_ _)); refine z0x ?_ NB116_117.out _; (with_reducible repeat (first | refine z08 ?_ _ | refine z09 ?_ | refine z06 ?_ _)); exact BK116.out) Try.underlying45 rfl (by kernel_rfl)) rfl ?_
       exact ⟨by first | rfl | (simp [z0i,z0h] <;> rfl) | (simp [*,z0i,z0h] <;> rfl),by repeat (first | (with_reducible first | exact HB.out | apply z04 | apply z03 | apply z05 | refine z07 ?_ GE115.out | refine z07 ?_ GE116.out | refine z07 ?_ GE117.out) | exact HB.out)⟩
def code_register.f (a0 : Int) : Option (Bool):=if a0 ≥ 0 then (some (decide (a0 < 8))) else (some false)
set_option maxHeartbeats 8000000 in
set_option maxRecDepth 100000 in
theorem code_register.calls (a0 : Int) (r : Bool) (w : World) (h : code_register.f a0 = some r) :
  Calls Try.prog 61 #[.int .i64 a0] w fun e w'=>e = .returned (.bool r) ∧ Drawn0 w w':=by
 have H : (if a0 ≥ 0 then (some (decide (a0 < 8))) else (some false)) = some r:=h
 clear h
 by_cases c2 : a0 ≥ 0
 ·rw [if_pos c2] at H
  have c2b0 : decide (0 ≤ a0) = true:=decide_eq_true c2
  clear c2
  obtain rfl:=Option.some.inj H
  go_enter Try.func61,Try.ntmps61
  go_wp2
  go_ret
  exact ⟨by first | rfl | (simp; done) | (simp [*]; done),by repeat (first | exact Drawn0.refl _ | apply Drawn0.step)⟩
 ·rw [if_neg c2] at H
  have c2b0 : decide (0 ≤ a0) = false:=decide_eq_false c2
  clear c2
  obtain rfl:=Option.some.inj H
  go_enter Try.func61,Try.ntmps61
  go_wp2
  go_ret
  exact ⟨by first | rfl | (simp; done) | (simp [*]; done),by repeat (first | exact Drawn0.refl _ | apply Drawn0.step)⟩
end Go.Proofs.Ytcbnhfnnjkkceaa.X
end
section
namespace Go.Proofs.Ytcbnhfnnjkkceaa.X
open Go.RowKit Go.Proofs.YtcbnhfnnjkkceaaW.PrintWords Go.Proofs.YtcbnhfnnjkkceaaW.PrintLast Go.Proofs.YtcbnhfnnjkkceaaW.PrintMore
attribute [local go_sem] max2_int min2_int max_two min_two max_three min_three max_four min_four
attribute [local go_sem high] eqA45
mutual
def z0p.j0 : Nat → Int → Bool → Int → Int → Int → Int → Int → Int → Int → Int → Int → Int → Option (Int)
 | 0,_,_,_,_,_,_,_,_,_,_,_,_=>none
 | k + 1,x3,x5,x119000,x119001,x119002,x119003,x119004,x129000,x129001,x129002,x129003,x129004=>if x119001 = x129001 then ((code_register.f x119001).bind fun t129=>(z0p.j1 k x3 x5 (!t129) x119000 x119001 x119002 x119003 x119004 x129000 x129001 x129002 x129003 x129004)) else (z0p.j1 k x3 x5 true x119000 x119001 x119002 x119003 x119004 x129000 x129001 x129002 x129003 x129004)
def z0p.j1 : Nat → Int → Bool → Bool → Int → Int → Int → Int → Int → Int → Int → Int → Int → Int → Option (Int)
 | 0,_,_,_,_,_,_,_,_,_,_,_,_,_=>none
 | k + 1,x3,x5,x33,x119000,x119001,x119002,x119003,x119004,x129000,x129001,x129002,x129003,x129004=>if x33 = true then (some 1) else (if x119002 = x129002 then ((code_register.f x119002).bind fun t130=>(z0p.j2 k x3 x5 (!t130) x119000 x119001 x119002 x119003 x119004 x129000 x129001 x129002 x129003 x129004)) else (z0p.j2 k x3 x5 true x119000 x119001 x119002 x119003 x119004 x129000 x129001 x129002 x129003 x129004))
def z0p.j2 : Nat → Int → Bool → Bool → Int → Int → Int → Int → Int → Int → Int → Int → Int → Int → Option (Int)
 | 0,_,_,_,_,_,_,_,_,_,_,_,_,_=>none
 | k + 1,x3,x5,x45,x119000,x119001,x119002,x119003,x119004,x129000,x129001,x129002,x129003,x129004=>if x45 = true then (some 2) else (if x119003 = x129003 then (if (Go.bits .and .i64 x3 8) = 0 then ((code_register.f x119003).bind fun t131=>(z0p.j3 k (!t131) x119000 x119001 x119002 x119003 x119004 x129000 x129001 x129002 x129003 x129004)) else (if x5 = true then (z0p.j3 k false x119000 x119001 x119002 x119003 x119004 x129000 x129001 x129002 x129003 x129004) else (z0p.j3 k true x119000 x119001 x119002 x119003 x119004 x129000 x129001 x129002 x129003 x129004))) else (z0p.j3 k true x119000 x119001 x119002 x119003 x119004 x129000 x129001 x129002 x129003 x129004))
def z0p.j3 : Nat → Bool → Int → Int → Int → Int → Int → Int → Int → Int → Int → Int → Option (Int)
 | 0,_,_,_,_,_,_,_,_,_,_,_=>none
 | k + 1,x57,x119000,x119001,x119002,x119003,x119004,x129000,x129001,x129002,x129003,x129004=>if x57 = true then (some 3) else (if (!(x119000 == x129000) || (!(x119001 == x129001) || (!(x119002 == x129002) || (!(x119003 == x129003) || (!(x119004 == x129004)))))) = true then (some 4) else (some 0))
end
def z0p.f (k : Nat) (a0_0 : Int) (a0_1 : Int) (a0_2 : Int) (a0_3 : Int) (a0_4 : Int) : Option (Int):=(code_forms.f).bind fun t119=>(if 0 ≤ a0_0 then (if a0_0 < (t119.length : Int) then ((z0y.f k a0_0 a0_1 a0_2 a0_3 a0_4 ((rd_T90 t119 a0_0).f1)).bind fun bt123=>(if a0_3 = 1 then (z0p.j0 k ((rd_T90 t119 a0_0).f1) true a0_0 a0_1 a0_2 a0_3 a0_4 bt123.1 bt123.2.1 bt123.2.2.1 bt123.2.2.2.1 bt123.2.2.2.2) else (if a0_3 = 2 then (z0p.j0 k ((rd_T90 t119 a0_0).f1) true a0_0 a0_1 a0_2 a0_3 a0_4 bt123.1 bt123.2.1 bt123.2.2.1 bt123.2.2.2.1 bt123.2.2.2.2) else (if a0_3 = 4 then (z0p.j0 k ((rd_T90 t119 a0_0).f1) true a0_0 a0_1 a0_2 a0_3 a0_4 bt123.1 bt123.2.1 bt123.2.2.1 bt123.2.2.2.1 bt123.2.2.2.2) else (z0p.j0 k ((rd_T90 t119 a0_0).f1) (a0_3 == 8) a0_0 a0_1 a0_2 a0_3 a0_4 bt123.1 bt123.2.1 bt123.2.2.1 bt123.2.2.2.1 bt123.2.2.2.2))))) else (none)) else (none))
theorem z0p.mono_l : ∀ k,(∀ y0 y1 y2 y3 y4 y5 y6 y7 y8 y9 y10 y11,LeO (z0p.j0 k y0 y1 y2 y3 y4 y5 y6 y7 y8 y9 y10 y11) (z0p.j0 (k + 1) y0 y1 y2 y3 y4 y5 y6 y7 y8 y9 y10 y11)) ∧ (∀ y0 y1 y2 y3 y4 y5 y6 y7 y8 y9 y10 y11 y12,LeO (z0p.j1 k y0 y1 y2 y3 y4 y5 y6 y7 y8 y9 y10 y11 y12) (z0p.j1 (k + 1) y0 y1 y2 y3 y4 y5 y6 y7 y8 y9 y10 y11 y12)) ∧ (∀ y0 y1 y2 y3 y4 y5 y6 y7 y8 y9 y10 y11 y12,LeO (z0p.j2 k y0 y1 y2 y3 y4 y5 y6 y7 y8 y9 y10 y11 y12) (z0p.j2 (k + 1) y0 y1 y2 y3 y4 y5 y6 y7 y8 y9 y10 y11 y12)) ∧ (∀ y0 y1 y2 y3 y4 y5 y6 y7 y8 y9 y10,LeO (z0p.j3 k y0 y1 y2 y3 y4 y5 y6 y7 y8 y9 y10) (z0p.j3 (k + 1) y0 y1 y2 y3 y4 y5 y6 y7 y8 y9 y10))
 | 0=>⟨fun _ _ _ _ _ _ _ _ _ _ _ _ r h=>by simp [z0p.j0] at h,fun _ _ _ _ _ _ _ _ _ _ _ _ _ r h=>by simp [z0p.j1] at h,fun _ _ _ _ _ _ _ _ _ _ _ _ _ r h=>by simp [z0p.j2] at h,fun _ _ _ _ _ _ _ _ _ _ _ r h=>by simp [z0p.j3] at h⟩
 | k + 1=>by
  obtain ⟨ih0,ih1,ih2,ih3⟩:=z0p.mono_l k
  refine ⟨?_,?_,?_,?_⟩
  ·intro y0 y1 y2 y3 y4 y5 y6 y7 y8 y9 y10 y11
   unfold z0p.j0
   repeat' first
   | (with_reducible exact ih0 _ _ _ _ _ _ _ _ _ _ _ _)
   | (with_reducible exact ih1 _ _ _ _ _ _ _ _ _ _ _ _ _)
   | (with_reducible exact ih2 _ _ _ _ _ _ _ _ _ _ _ _ _)
   | (with_reducible exact ih3 _ _ _ _ _ _ _ _ _ _ _)
   | (with_reducible exact z0y.mono _ _ _ _ _ _ _)
   | (with_reducible exact LeO.refl _)
   | (with_reducible exact LeO.none _)
   | (with_reducible refine LeO.ite ?_ ?_)
   | (with_reducible refine LeO.bind ?_ (fun _=>?_))
   | exact ih0 _ _ _ _ _ _ _ _ _ _ _ _
   | exact ih1 _ _ _ _ _ _ _ _ _ _ _ _ _
   | exact ih2 _ _ _ _ _ _ _ _ _ _ _ _ _
   | exact ih3 _ _ _ _ _ _ _ _ _ _ _
   | exact z0y.mono _ _ _ _ _ _ _
   | exact LeO.none _
   | refine LeO.ite ?_ ?_
   | refine LeO.bind ?_ (fun _=>?_)
  ·intro y0 y1 y2 y3 y4 y5 y6 y7 y8 y9 y10 y11 y12
   unfold z0p.j1
   repeat' first
   | (with_reducible exact ih0 _ _ _ _ _ _ _ _ _ _ _ _)
   | (with_reducible exact ih1 _ _ _ _ _ _ _ _ _ _ _ _ _)
   | (with_reducible exact ih2 _ _ _ _ _ _ _ _ _ _ _ _ _)
   | (with_reducible exact ih3 _ _ _ _ _ _ _ _ _ _ _)
   | (with_reducible exact z0y.mono _ _ _ _ _ _ _)
   | (with_reducible exact LeO.refl _)
   | (with_reducible exact LeO.none _)
   | (with_reducible refine LeO.ite ?_ ?_)
   | (with_reducible refine LeO.bind ?_ (fun _=>?_))
   | exact ih0 _ _ _ _ _ _ _ _ _ _ _ _
   | exact ih1 _ _ _ _ _ _ _ _ _ _ _ _ _
   | exact ih2 _ _ _ _ _ _ _ _ _ _ _ _ _
   | exact ih3 _ _ _ _ _ _ _ _ _ _ _
   | exact z0y.mono _ _ _ _ _ _ _
   | exact LeO.none _
   | refine LeO.ite ?_ ?_
   | refine LeO.bind ?_ (fun _=>?_)
  ·intro y0 y1 y2 y3 y4 y5 y6 y7 y8 y9 y10 y11 y12
   unfold z0p.j2
   repeat' first
   | (with_reducible exact ih0 _ _ _ _ _ _ _ _ _ _ _ _)
   | (with_reducible exact ih1 _ _ _ _ _ _ _ _ _ _ _ _ _)
   | (with_reducible exact ih2 _ _ _ _ _ _ _ _ _ _ _ _ _)
   | (with_reducible exact ih3 _ _ _ _ _ _ _ _ _ _ _)
   | (with_reducible exact z0y.mono _ _ _ _ _ _ _)
   | (with_reducible exact LeO.refl _)
   | (with_reducible exact LeO.none _)
   | (with_reducible refine LeO.ite ?_ ?_)
   | (with_reducible refine LeO.bind ?_ (fun _=>?_))
   | exact ih0 _ _ _ _ _ _ _ _ _ _ _ _
   | exact ih1 _ _ _ _ _ _ _ _ _ _ _ _ _
   | exact ih2 _ _ _ _ _ _ _ _ _ _ _ _ _
   | exact ih3 _ _ _ _ _ _ _ _ _ _ _
   | exact z0y.mono _ _ _ _ _ _ _
   | exact LeO.none _
   | refine LeO.ite ?_ ?_
   | refine LeO.bind ?_ (fun _=>?_)
  ·intro y0 y1 y2 y3 y4 y5 y6 y7 y8 y9 y10
   unfold z0p.j3
   repeat' first
   | (with_reducible exact ih0 _ _ _ _ _ _ _ _ _ _ _ _)
   | (with_reducible exact ih1 _ _ _ _ _ _ _ _ _ _ _ _ _)
   | (with_reducible exact ih2 _ _ _ _ _ _ _ _ _ _ _ _ _)
   | (with_reducible exact ih3 _ _ _ _ _ _ _ _ _ _ _)
   | (with_reducible exact z0y.mono _ _ _ _ _ _ _)
   | (with_reducible exact LeO.refl _)
   | (with_reducible exact LeO.none _)
   | (with_reducible refine LeO.ite ?_ ?_)
   | (with_reducible refine LeO.bind ?_ (fun _=>?_))
   | exact ih0 _ _ _ _ _ _ _ _ _ _ _ _
   | exact ih1 _ _ _ _ _ _ _ _ _ _ _ _ _
   | exact ih2 _ _ _ _ _ _ _ _ _ _ _ _ _
   | exact ih3 _ _ _ _ _ _ _ _ _ _ _
   | exact z0y.mono _ _ _ _ _ _ _
   | exact LeO.none _
   | refine LeO.ite ?_ ?_
   | refine LeO.bind ?_ (fun _=>?_)
theorem z0p.mono : ∀ a0 a1 a2 a3 a4 k,LeO (z0p.f k a0 a1 a2 a3 a4) (z0p.f (k + 1) a0 a1 a2 a3 a4):=by
 intro a0 a1 a2 a3 a4 k
 obtain ⟨ih0,ih1,ih2,ih3⟩:=z0p.mono_l k
 unfold z0p.f
 repeat' first
   | (with_reducible exact ih0 _ _ _ _ _ _ _ _ _ _ _ _)
   | (with_reducible exact ih1 _ _ _ _ _ _ _ _ _ _ _ _ _)
   | (with_reducible exact ih2 _ _ _ _ _ _ _ _ _ _ _ _ _)
   | (with_reducible exact ih3 _ _ _ _ _ _ _ _ _ _ _)
   | (with_reducible exact z0y.mono _ _ _ _ _ _ _)
   | (with_reducible exact LeO.refl _)
   | (with_reducible exact LeO.none _)
   | (with_reducible refine LeO.ite ?_ ?_)
   | (with_reducible refine LeO.bind ?_ (fun _=>?_))
   | exact ih0 _ _ _ _ _ _ _ _ _ _ _ _
   | exact ih1 _ _ _ _ _ _ _ _ _ _ _ _ _
   | exact ih2 _ _ _ _ _ _ _ _ _ _ _ _ _
   | exact ih3 _ _ _ _ _ _ _ _ _ _ _
   | exact z0y.mono _ _ _ _ _ _ _
   | exact LeO.none _
   | refine LeO.ite ?_ ?_
   | refine LeO.bind ?_ (fun _=>?_)
set_option maxHeartbeats 8000000 in
set_option maxRecDepth 100000 in
theorem z0p.calls (k : Nat) (a0_0 : Int) (a0_1 : Int) (a0_2 : Int) (a0_3 : Int) (a0_4 : Int) (r : Int) (w : World) (h : z0p.f k a0_0 a0_1 a0_2 a0_3 a0_4 = some r) :
  Calls Try.prog 44 #[.agg #[.int .i64 a0_0,.int .i64 a0_1,.int .i64 a0_2,.int .i64 a0_3,.int .u64 a0_4]] w fun e w'=>e = .returned (.int .i64 r) ∧ Below w.heap.size w w':=by
 have hu45:=Try.underlying45
 have HB:=Aside0.mk (Below.refl w.heap.size w)
 have H : ((code_forms.f).bind fun t119=>(if 0 ≤ a0_0 then (if a0_0 < (t119.length : Int) then ((z0y.f k a0_0 a0_1 a0_2 a0_3 a0_4 ((rd_T90 t119 a0_0).f1)).bind fun bt123=>(if a0_3 = 1 then (z0p.j0 k ((rd_T90 t119 a0_0).f1) true a0_0 a0_1 a0_2 a0_3 a0_4 bt123.1 bt123.2.1 bt123.2.2.1 bt123.2.2.2.1 bt123.2.2.2.2) else (if a0_3 = 2 then (z0p.j0 k ((rd_T90 t119 a0_0).f1) true a0_0 a0_1 a0_2 a0_3 a0_4 bt123.1 bt123.2.1 bt123.2.2.1 bt123.2.2.2.1 bt123.2.2.2.2) else (if a0_3 = 4 then (z0p.j0 k ((rd_T90 t119 a0_0).f1) true a0_0 a0_1 a0_2 a0_3 a0_4 bt123.1 bt123.2.1 bt123.2.2.1 bt123.2.2.2.1 bt123.2.2.2.2) else (z0p.j0 k ((rd_T90 t119 a0_0).f1) (a0_3 == 8) a0_0 a0_1 a0_2 a0_3 a0_4 bt123.1 bt123.2.1 bt123.2.2.1 bt123.2.2.2.1 bt123.2.2.2.2))))) else (none)) else (none))) = some r:=h
 clear h
 replace H:=Option.bind_eq_some_iff.mp H
 obtain ⟨t119,A20,H⟩:=H
 replace H : (if 0 ≤ a0_0 then (if a0_0 < (t119.length : Int) then ((z0y.f k a0_0 a0_1 a0_2 a0_3 a0_4 ((rd_T90 t119 a0_0).f1)).bind fun bt123=>(if a0_3 = 1 then (z0p.j0 k ((rd_T90 t119 a0_0).f1) true a0_0 a0_1 a0_2 a0_3 a0_4 bt123.1 bt123.2.1 bt123.2.2.1 bt123.2.2.2.1 bt123.2.2.2.2) else (if a0_3 = 2 then (z0p.j0 k ((rd_T90 t119 a0_0).f1) true a0_0 a0_1 a0_2 a0_3 a0_4 bt123.1 bt123.2.1 bt123.2.2.1 bt123.2.2.2.1 bt123.2.2.2.2) else (if a0_3 = 4 then (z0p.j0 k ((rd_T90 t119 a0_0).f1) true a0_0 a0_1 a0_2 a0_3 a0_4 bt123.1 bt123.2.1 bt123.2.2.1 bt123.2.2.2.1 bt123.2.2.2.2) else (z0p.j0 k ((rd_T90 t119 a0_0).f1) (a0_3 == 8) a0_0 a0_1 a0_2 a0_3 a0_4 bt123.1 bt123.2.1 bt123.2.2.1 bt123.2.2.2.1 bt123.2.2.2.2))))) else (none)) else (none)) = some r:=H
 have A2:=Aside0.mk A20
 clear A20
 by_cases c3 : 0 ≤ a0_0
 ·rw [if_pos c3] at H
  have c3b0 : decide (0 ≤ a0_0) = true:=decide_eq_true c3
  clear c3
  by_cases c4 : a0_0 < (t119.length : Int)
  ·rw [if_pos c4] at H
   have c4b0 : decide (a0_0 < (t119.length : Int)) = true:=decide_eq_true c4
   clear c4
   replace H:=Option.bind_eq_some_iff.mp H
   obtain ⟨⟨t123,t124,t125,t126,t127⟩,A50,H⟩:=H
   replace H : (if a0_3 = 1 then (z0p.j0 k ((rd_T90 t119 a0_0).f1) true a0_0 a0_1 a0_2 a0_3 a0_4 t123 t124 t125 t126 t127) else (if a0_3 = 2 then (z0p.j0 k ((rd_T90 t119 a0_0).f1) true a0_0 a0_1 a0_2 a0_3 a0_4 t123 t124 t125 t126 t127) else (if a0_3 = 4 then (z0p.j0 k ((rd_T90 t119 a0_0).f1) true a0_0 a0_1 a0_2 a0_3 a0_4 t123 t124 t125 t126 t127) else (z0p.j0 k ((rd_T90 t119 a0_0).f1) (a0_3 == 8) a0_0 a0_1 a0_2 a0_3 a0_4 t123 t124 t125 t126 t127)))) = some r:=H
   have A5:=Aside0.mk A50
   clear A50
   have HC6:=Aside0.mk H
   clear H
   go_enter Try.func44,Try.ntmps44
   try go_wp2_with (first | ((with_reducible refine z10 (N:=1) rfl ?_); refine box_event ?hg (N:=1) ?hd (cs:=#[.int .i64 a0_0,.int .i64 a0_1,.int .i64 a0_2,.int .i64 a0_3,.int .u64 a0_4]) (t:=45) ?hr ?_; (case hd=>rfl); (case hg=>rfl); (case hr=>first | (go_simp; done) | (go_simp; rfl)); intro gb118 hg w7 hbox hb; have n0_:=Aside0.mk (z0s (by repeat (first | (with_reducible first | exact HB.out | apply z04 | apply z03 | apply z05) | exact HB.out)) hb); have n1_:=Aside0.mk (hbox); have n2_:=Aside0.mk ((by rw [hg]; exact (z0l (by repeat (first | (with_reducible first | exact HB.out | apply z04 | apply z03 | apply z05) | exact HB.out))) : w.heap.size ≤ gb118)); have n3_:=Aside0.mk ((by rw [hg]; exact (z0l (by repeat (first | (with_reducible first | exact HB.out | apply z04 | apply z03 | apply z05) | exact HB.out))) : w.heap.size ≤ gb118)); clear HB; have HB:=n0_; have BK118:=n1_; have GW118:=n2_; have GE118:=n3_; clear n0_ n1_ n2_ n3_; clear hb hbox hg))
   have n0_:=Aside0.mk (z09 BK118.out)
   have n1_:=Aside0.mk (z05 HB.out)
   clear BK118
   clear HB
   have BK118:=n0_
   have HB:=n1_
   clear n0_ n1_
   refine start_ (n:=7) (S:=fun w'=>w'.cell? ⟨gb118,0,none⟩ = some (.int .i64 a0_0) ∧ w'.cell? ⟨gb118,1,none⟩ = some (.int .i64 a0_1) ∧ w'.cell? ⟨gb118,2,none⟩ = some (.int .i64 a0_2) ∧ w'.cell? ⟨gb118,3,none⟩ = some (.int .i64 a0_3) ∧ w'.cell? ⟨gb118,4,none⟩ = some (.int .u64 a0_4)) (ds:=[]) #[false,false,false,false,false,false,false] (by kernel_rfl) rfl rfl ⟨(z02 BK118.out 0).trans rfl,(z02 BK118.out 1).trans rfl,(z02 BK118.out 2).trans rfl,(z02 BK118.out 3).trans rfl,(z02 BK118.out 4).trans rfl⟩ (fun hHeld=>?_)
   generalize w7.drew = w8 at BK118 HB hHeld ⊢
   refine pure_ (i:=1) (N:=some 7) (v:=?_) (a':=?_) #[false,true,false,false,false,false,false] rfl rfl (by kernel_rfl) (fun _ _ _ h=>h) (Or.inl ⟨by rfl,?_⟩) ?_ ?_
   rotate_left
   ·intro w'
    go_simp
    with_reducible rfl
   rotate_left
   ·simp only [Act.put,zq1,zq2,zq3,i64_w,i32_w]
    rfl
   refine take_ (i:=2) (N:=some 8) (v:=?_) (a':=?_) #[false,true,true,false,false,false,false] rfl rfl (by kernel_rfl) (fun _ _ _ h=>h) (Or.inl ⟨by rfl,?_⟩) hHeld ?_ ?_
   rotate_left
   ·rintro w' ⟨s0,s1,s2,s3,s4⟩
    go_simp
    with_reducible rfl
   rotate_left
   ·simp only [Act.put,zq1,zq2,zq3,i64_w,i32_w]
    rfl
   refine one_ (i:=0) (N:=some 6) #[true,true,true,false,false,false,false] rfl rfl (by kernel_rfl) (by decide) (fun K hK=>?_)
   refine goes_ Try.func59 (by kernel_rfl) rfl #[] (by rfl) rfl rfl (by (try simp only [List.map_toArray,List.map_cons,List.map_nil]); first | done | rfl | (simp only [List.length_drop,List.length_take]; rfl)) ?_
   with_reducible refine (code_forms.calls  t119 _ A2.out).mono ?_
   rintro e w9 ⟨v120,rfl,ho0,hb⟩
   refine ⟨_,rfl,?_⟩
   have n0_:=Aside0.mk (Kd.R_lower ho0 (z0l (by repeat (first | (with_reducible first | exact HB.out | apply z04 | apply z03 | apply z05 | refine z07 ?_ GE118.out) | exact HB.out))))
   have n1_:=Aside0.mk (z0v (g:=gb118) (o:=.cells #[.int .i64 a0_0,.int .i64 a0_1,.int .i64 a0_2,.int .i64 a0_3,.int .u64 a0_4] 45 (0,0)) (by (with_reducible repeat (first | refine z08 ?_ _ | refine z09 ?_ | refine z06 ?_ _)); exact BK118.out) hb)
   have n2_:=Aside0.mk (z0s (by repeat (first | (with_reducible first | exact HB.out | apply z04 | apply z03 | apply z05 | refine z07 ?_ GE118.out) | exact HB.out)) hb)
   clear BK118
   clear HB
   have HO121:=n0_
   have BK118:=n1_
   have HB:=n2_
   clear n0_ n1_ n2_
   (try clear hb)
   (try clear hb2)
   (try clear hk)
   (try clear hi)
   (try clear ho0)
   obtain ⟨Ao10,co10,eo10⟩:=Kd.R_slice HO121.out
   (first | subst eo10 | (injection eo10 with f1_ f2_ f3_; have f4_:=f1_.symm; have f5_:=f3_.symm; clear f1_ f2_ f3_; subst f4_; subst f5_))
   have p122 : 0 ≤ (a0_0 : Int):=of_decide_eq_true (by assumption)
   have q122 : a0_0 < (t119.length : Int):=of_decide_eq_true (by assumption)
   obtain ⟨ad122,e122,hx122_0,hx122_1⟩:=at_T90 (Kd.R_reads' HO121.out).2.2 a0_0 p122 q122
   cases e122
   replace p122:=eq_true p122
   replace q122:=eq_true q122
   refine hK.out _ _ ⟨(z02 BK118.out 0).trans rfl,(z02 BK118.out 1).trans rfl,(z02 BK118.out 2).trans rfl,(z02 BK118.out 3).trans rfl,(z02 BK118.out 4).trans rfl⟩ (fun hHeld=>?_)
   clear hK K
   refine norm_ (a':=?_) ?_ ?_
   rotate_left
   ·show Act.put _ (some 6) _ = _
    simp only [Act.put,zq1,zq2,zq3,i64_w,i32_w]
    rfl
   refine pure_ (i:=3) (N:=some 9) (v:=?_) (a':=?_) #[true,true,true,true,false,false,false] rfl rfl (by kernel_rfl) (fun _ _ _ h=>h) (Or.inl ⟨by rfl,?_⟩) ?_ ?_
   rotate_left
   ·intro w'
    go_simp
    with_reducible rfl
   rotate_left
   ·simp only [Act.put,zq1,zq2,zq3,i64_w,i32_w]
    rfl
   refine pure_ (i:=4) (N:=some 10) (v:=?_) (a':=?_) #[true,true,true,true,true,false,false] rfl rfl (by kernel_rfl) (fun _ _ _ h=>h) (Or.inl ⟨by rfl,?_⟩) ?_ ?_
   rotate_left
   ·intro w'
    go_simp
    with_reducible rfl
   rotate_left
   ·simp only [Act.put,zq1,zq2,zq3,i64_w,i32_w]
    rfl
   refine one_ (i:=5) (N:=some 11) #[true,true,true,true,true,true,false] rfl rfl (by kernel_rfl) (by decide) (fun K hK=>?_)
   refine value_ (w1:=?_) (v:=?_) (by rfl) rfl ?_ ?_
   rotate_left 2
   ·go_simp
    constructor
    ·rfl
    ·rfl
   refine hK.out _ _ hHeld (fun hHeld=>?_)
   clear hK K
   refine norm_ (a':=?_) ?_ ?_
   rotate_left
   ·show Act.put _ (some 11) _ = _
    simp only [Act.put,zq1,zq2,zq3,i64_w,i32_w]
    rfl
   refine pure_ (i:=6) (N:=some 3) (v:=?_) (a':=?_) #[true,true,true,true,true,true,true] rfl rfl (by kernel_rfl) (fun _ _ _ h=>h) (Or.inl ⟨by rfl,?_⟩) ?_ ?_
   rotate_left
   ·intro w'
    go_simp
    with_reducible rfl
   rotate_left
   ·simp only [Act.put,zq1,zq2,zq3,i64_w,i32_w]
    rfl
   refine done_ (by kernel_rfl) ?_
   have hcz11_0 : w9.cell? ⟨gb118,0,none⟩ = some (.int .i64 a0_0):=(z02 BK118.out 0).trans rfl
   have hcz11_1 : w9.cell? ⟨gb118,1,none⟩ = some (.int .i64 a0_1):=(z02 BK118.out 1).trans rfl
   have hcz11_2 : w9.cell? ⟨gb118,2,none⟩ = some (.int .i64 a0_2):=(z02 BK118.out 2).trans rfl
   have hcz11_3 : w9.cell? ⟨gb118,3,none⟩ = some (.int .i64 a0_3):=(z02 BK118.out 3).trans rfl
   have hcz11_4 : w9.cell? ⟨gb118,4,none⟩ = some (.int .u64 a0_4):=(z02 BK118.out 4).trans rfl
   have hfz11_0:=z01 BK118.out 0
   have hfz11_1:=z01 BK118.out 1
   have hfz11_2:=z01 BK118.out 2
   have hfz11_3:=z01 BK118.out 3
   have hfz11_4:=z01 BK118.out 4
   go_upto_region 3 with (first | ((with_reducible refine z0t (f:=60) rfl ?_); refine goesL_ (some 14) rfl rfl Try.func60 (by kernel_rfl) rfl #[.agg #[.int .i64 a0_0,.int .i64 a0_1,.int .i64 a0_2,.int .i64 a0_3,.int .u64 a0_4],.int .i64 ((rd_T90 t119 a0_0).f1)] rfl (by (try simp only [List.map_toArray,List.map_cons,List.map_nil]); first | done | rfl | (simp only [List.length_drop,List.length_take]; rfl)) ?_; (with_reducible refine (z0y.calls k a0_0 a0_1 a0_2 a0_3 a0_4 ((rd_T90 t119 a0_0).f1) t123 t124 t125 t126 t127 _ A5.out).mono ?_); rintro e w12 ⟨rfl,hb⟩; refine ⟨_,rfl,?_⟩; have n0_:=Aside0.mk (Kd.R_below (by (with_reducible repeat (first | apply Kd.R_alloc | apply Kd.R_drewN | apply Kd.R_drew)); exact HO121.out) hb); have n1_:=Aside0.mk (z0v (g:=gb118) (o:=.cells #[.int .i64 a0_0,.int .i64 a0_1,.int .i64 a0_2,.int .i64 a0_3,.int .u64 a0_4] 45 (0,0)) (by (with_reducible repeat (first | refine z08 ?_ _ | refine z09 ?_ | refine z06 ?_ _)); exact BK118.out) hb); have n2_:=Aside0.mk (z0s (by repeat (first | (with_reducible first | exact HB.out | apply z04 | apply z03 | apply z05 | refine z07 ?_ GE118.out) | exact HB.out)) hb); clear HO121; clear BK118; clear HB; have HO121:=n0_; have BK118:=n1_; have HB:=n2_; clear n0_ n1_ n2_; (try clear hb); (try clear hb2); (try clear hk); (try clear hi)) | ((with_reducible refine z10 (N:=4) rfl ?_); refine box_event ?hg (N:=4) ?hd (cs:=#[.int .i64 0,.int .i64 0,.int .i64 0,.int .i64 0,.int .u64 0]) (t:=45) ?hr ?_; (case hd=>rfl); (case hg=>rfl); (case hr=>first | (go_simp; done) | (go_simp; rfl)); intro gb128 hg w13 hbox hb; have n0_:=Aside0.mk (Kd.R_below (by (with_reducible repeat (first | apply Kd.R_alloc | apply Kd.R_drewN | apply Kd.R_drew)); exact HO121.out) hb); have n1_:=Aside0.mk (z0v (g:=gb118) (o:=.cells #[.int .i64 a0_0,.int .i64 a0_1,.int .i64 a0_2,.int .i64 a0_3,.int .u64 a0_4] 45 (0,0)) (by (with_reducible repeat (first | refine z08 ?_ _ | refine z09 ?_ | refine z06 ?_ _)); exact BK118.out) hb); have n2_:=Aside0.mk (z0s (by repeat (first | (with_reducible first | exact HB.out | apply z04 | apply z03 | apply z05 | refine z07 ?_ GE118.out) | exact HB.out)) hb); have n3_:=Aside0.mk (hbox); have n4_:=Aside0.mk ((by rw [hg]; exact (z0l (by repeat (first | (with_reducible first | exact HB.out | apply z04 | apply z03 | apply z05 | refine z07 ?_ GE118.out) | exact HB.out))) : w.heap.size ≤ gb128)); have n5_:=Aside0.mk ((by rw [hg]; exact (z0l (by repeat (first | (with_reducible first | exact HB.out | apply z04 | apply z03 | apply z05 | refine z07 ?_ GE118.out) | exact HB.out))) : w.heap.size ≤ gb128)); have n6_:=Aside0.mk ((by rw [hg]; exact Nat.ne_of_lt (blk_lt (g:=gb118) (o:=.cells #[.int .i64 a0_0,.int .i64 a0_1,.int .i64 a0_2,.int .i64 a0_3,.int .u64 a0_4] 45 (0,0)) (by (with_reducible repeat (first | refine z08 ?_ _ | refine z09 ?_ | refine z06 ?_ _)); exact BK118.out)) : gb118 ≠ gb128)); have n7_:=Aside0.mk ((by rw [hg]; exact Nat.ne_of_gt (blk_lt (g:=gb118) (o:=.cells #[.int .i64 a0_0,.int .i64 a0_1,.int .i64 a0_2,.int .i64 a0_3,.int .u64 a0_4] 45 (0,0)) (by (with_reducible repeat (first | refine z08 ?_ _ | refine z09 ?_ | refine z06 ?_ _)); exact BK118.out)) : gb128 ≠ gb118)); clear HO121; clear BK118; clear HB; have HO121:=n0_; have BK118:=n1_; have HB:=n2_; have BK128:=n3_; have GW128:=n4_; have GE128:=n5_; have NB118_128:=n6_; have NB128_118:=n7_; clear n0_ n1_ n2_ n3_ n4_ n5_ n6_ n7_; clear hb hbox hg; have hnb14:=NB128_118.out; have hnc14:=NB118_128.out; have hcz15_0 : w13.cell? ⟨gb128,0,none⟩ = some (.int .i64 0):=(z02 BK128.out 0).trans rfl; have hcz15_1 : w13.cell? ⟨gb128,1,none⟩ = some (.int .i64 0):=(z02 BK128.out 1).trans rfl; have hcz15_2 : w13.cell? ⟨gb128,2,none⟩ = some (.int .i64 0):=(z02 BK128.out 2).trans rfl; have hcz15_3 : w13.cell? ⟨gb128,3,none⟩ = some (.int .i64 0):=(z02 BK128.out 3).trans rfl; have hcz15_4 : w13.cell? ⟨gb128,4,none⟩ = some (.int .u64 0):=(z02 BK128.out 4).trans rfl; have hfz15_0:=z01 BK128.out 0; have hfz15_1:=z01 BK128.out 1; have hfz15_2:=z01 BK128.out 2; have hfz15_3:=z01 BK128.out 3; have hfz15_4:=z01 BK128.out 4))
   (try simp only [Act.put,zq1,zq2,zq3])
   go_cut [5] (fun v5 wc=>∃ (kq : Nat) (x5_5 : Bool),v5 = .bool x5_5 ∧ Aside0 (z0p.j0 kq ((rd_T90 t119 a0_0).f1) x5_5 a0_0 a0_1 a0_2 a0_3 a0_4 t123 t124 t125 t126 t127 = some r) ∧ Aside0 (kq ≤ k) ∧ Aside0 (wc.heap[gb118]? = some (.cells #[.int .i64 a0_0,.int .i64 a0_1,.int .i64 a0_2,.int .i64 a0_3,.int .u64 a0_4] 45 (0,0))) ∧ Aside0 (wc.heap[gb128]? = some (.cells #[.int .i64 t123,.int .i64 t124,.int .i64 t125,.int .i64 t126,.int .u64 t127] 45 (0,0))) ∧ Aside0 (Below w.heap.size w wc))
   case first =>
    have H:=HC6.out
    clear HC6
    by_cases c16 : a0_3 = 1
    ·rw [if_pos c16] at H
     have c16b0 : (a0_3 == 1) = true:=beq_iff_eq.mpr c16
     have c16b1 : (a0_3 != 1) = false:=bne_eq_false_iff_eq.mpr c16
     clear c16
     (first | rw [c16b0] | (simp only [i64_w,i32_w]; rw [c16b0]) | skip)
     have H':=Aside0.mk H
     clear H
     have hnb17:=NB118_128.out
     have hnc17:=NB128_118.out
     have hcz18_0 : w13.cell? ⟨gb118,0,none⟩ = some (.int .i64 a0_0):=(z02 BK118.out 0).trans rfl
     have hcz18_1 : w13.cell? ⟨gb118,1,none⟩ = some (.int .i64 a0_1):=(z02 BK118.out 1).trans rfl
     have hcz18_2 : w13.cell? ⟨gb118,2,none⟩ = some (.int .i64 a0_2):=(z02 BK118.out 2).trans rfl
     have hcz18_3 : w13.cell? ⟨gb118,3,none⟩ = some (.int .i64 a0_3):=(z02 BK118.out 3).trans rfl
     have hcz18_4 : w13.cell? ⟨gb118,4,none⟩ = some (.int .u64 a0_4):=(z02 BK118.out 4).trans rfl
     have hfz18_0:=z01 BK118.out 0
     have hfz18_1:=z01 BK118.out 1
     have hfz18_2:=z01 BK118.out 2
     have hfz18_3:=z01 BK118.out 3
     have hfz18_4:=z01 BK118.out 4
     go_wp2
     go_meet
     case rel=>exact ⟨_,(true),(by first | rfl | (simp; done) | (simp [*]; done)),H',⟨by first | omega | exact Nat.le_refl _⟩,⟨by (with_reducible repeat (first | refine z08 ?_ _ | refine z09 ?_ | refine z06 ?_ _)); refine z0x ?_ NB118_128.out _; (with_reducible repeat (first | refine z08 ?_ _ | refine z09 ?_ | refine z06 ?_ _)); refine z0x ?_ NB118_128.out _; (with_reducible repeat (first | refine z08 ?_ _ | refine z09 ?_ | refine z06 ?_ _)); refine z0x ?_ NB118_128.out _; (with_reducible repeat (first | refine z08 ?_ _ | refine z09 ?_ | refine z06 ?_ _)); refine z0x ?_ NB118_128.out _; (with_reducible repeat (first | refine z08 ?_ _ | refine z09 ?_ | refine z06 ?_ _)); refine z0x ?_ NB118_128.out _; (with_reducible repeat (first | refine z08 ?_ _ | refine z09 ?_ | refine z06 ?_ _)); exact BK118.out⟩,⟨by (with_reducible repeat (first | refine z08 ?_ _ | refine z09 ?_ | refine z06 ?_ _)); refine z0u (cs:=#[.int .i64 t123,.int .i64 t124,.int .i64 t125,.int .i64 t126,.int .u64 0]) ?_ 4 _ rfl; (with_reducible repeat (first | refine z08 ?_ _ | refine z09 ?_ | refine z06 ?_ _)); refine z0u (cs:=#[.int .i64 t123,.int .i64 t124,.int .i64 t125,.int .i64 0,.int .u64 0]) ?_ 3 _ rfl; (with_reducible repeat (first | refine z08 ?_ _ | refine z09 ?_ | refine z06 ?_ _)); refine z0u (cs:=#[.int .i64 t123,.int .i64 t124,.int .i64 0,.int .i64 0,.int .u64 0]) ?_ 2 _ rfl; (with_reducible repeat (first | refine z08 ?_ _ | refine z09 ?_ | refine z06 ?_ _)); refine z0u (cs:=#[.int .i64 t123,.int .i64 0,.int .i64 0,.int .i64 0,.int .u64 0]) ?_ 1 _ rfl; (with_reducible repeat (first | refine z08 ?_ _ | refine z09 ?_ | refine z06 ?_ _)); refine z0u (cs:=#[.int .i64 0,.int .i64 0,.int .i64 0,.int .i64 0,.int .u64 0]) ?_ 0 _ rfl; (with_reducible repeat (first | refine z08 ?_ _ | refine z09 ?_ | refine z06 ?_ _)); exact BK128.out⟩,⟨by repeat (first | (with_reducible first | exact HB.out | apply z04 | apply z03 | apply z05 | refine z07 ?_ GE118.out | refine z07 ?_ GE128.out) | exact HB.out)⟩⟩
    ·rw [if_neg c16] at H
     have c16b0 : (a0_3 == 1) = false:=beq_eq_false_iff_ne.mpr c16
     have c16b1 : (a0_3 != 1) = true:=bne_iff_ne.mpr c16
     (first | rw [c16b0] | (simp only [i64_w,i32_w]; rw [c16b0]) | skip)
     by_cases c19 : a0_3 = 2
     ·rw [if_pos c19] at H
      have c19b0 : (a0_3 == 2) = true:=beq_iff_eq.mpr c19
      have c19b1 : (a0_3 != 2) = false:=bne_eq_false_iff_eq.mpr c19
      clear c19
      have H':=Aside0.mk H
      clear H
      have hnb20:=NB118_128.out
      have hnc20:=NB128_118.out
      have hcz21_0 : w13.cell? ⟨gb118,0,none⟩ = some (.int .i64 a0_0):=(z02 BK118.out 0).trans rfl
      have hcz21_1 : w13.cell? ⟨gb118,1,none⟩ = some (.int .i64 a0_1):=(z02 BK118.out 1).trans rfl
      have hcz21_2 : w13.cell? ⟨gb118,2,none⟩ = some (.int .i64 a0_2):=(z02 BK118.out 2).trans rfl
      have hcz21_3 : w13.cell? ⟨gb118,3,none⟩ = some (.int .i64 a0_3):=(z02 BK118.out 3).trans rfl
      have hcz21_4 : w13.cell? ⟨gb118,4,none⟩ = some (.int .u64 a0_4):=(z02 BK118.out 4).trans rfl
      have hfz21_0:=z01 BK118.out 0
      have hfz21_1:=z01 BK118.out 1
      have hfz21_2:=z01 BK118.out 2
      have hfz21_3:=z01 BK118.out 3
      have hfz21_4:=z01 BK118.out 4
      go_wp2
      go_meet
      case rel=>exact ⟨_,(true),(by first | rfl | (simp; done) | (simp [*]; done)),H',⟨by first | omega | exact Nat.le_refl _⟩,⟨by (with_reducible repeat (first | refine z08 ?_ _ | refine z09 ?_ | refine z06 ?_ _)); refine z0x ?_ NB118_128.out _; (with_reducible repeat (first | refine z08 ?_ _ | refine z09 ?_ | refine z06 ?_ _)); refine z0x ?_ NB118_128.out _; (with_reducible repeat (first | refine z08 ?_ _ | refine z09 ?_ | refine z06 ?_ _)); refine z0x ?_ NB118_128.out _; (with_reducible repeat (first | refine z08 ?_ _ | refine z09 ?_ | refine z06 ?_ _)); refine z0x ?_ NB118_128.out _; (with_reducible repeat (first | refine z08 ?_ _ | refine z09 ?_ | refine z06 ?_ _)); refine z0x ?_ NB118_128.out _; (with_reducible repeat (first | refine z08 ?_ _ | refine z09 ?_ | refine z06 ?_ _)); exact BK118.out⟩,⟨by (with_reducible repeat (first | refine z08 ?_ _ | refine z09 ?_ | refine z06 ?_ _)); refine z0u (cs:=#[.int .i64 t123,.int .i64 t124,.int .i64 t125,.int .i64 t126,.int .u64 0]) ?_ 4 _ rfl; (with_reducible repeat (first | refine z08 ?_ _ | refine z09 ?_ | refine z06 ?_ _)); refine z0u (cs:=#[.int .i64 t123,.int .i64 t124,.int .i64 t125,.int .i64 0,.int .u64 0]) ?_ 3 _ rfl; (with_reducible repeat (first | refine z08 ?_ _ | refine z09 ?_ | refine z06 ?_ _)); refine z0u (cs:=#[.int .i64 t123,.int .i64 t124,.int .i64 0,.int .i64 0,.int .u64 0]) ?_ 2 _ rfl; (with_reducible repeat (first | refine z08 ?_ _ | refine z09 ?_ | refine z06 ?_ _)); refine z0u (cs:=#[.int .i64 t123,.int .i64 0,.int .i64 0,.int .i64 0,.int .u64 0]) ?_ 1 _ rfl; (with_reducible repeat (first | refine z08 ?_ _ | refine z09 ?_ | refine z06 ?_ _)); refine z0u (cs:=#[.int .i64 0,.int .i64 0,.int .i64 0,.int .i64 0,.int .u64 0]) ?_ 0 _ rfl; (with_reducible repeat (first | refine z08 ?_ _ | refine z09 ?_ | refine z06 ?_ _)); exact BK128.out⟩,⟨by repeat (first | (with_reducible first | exact HB.out | apply z04 | apply z03 | apply z05 | refine z07 ?_ GE118.out | refine z07 ?_ GE128.out) | exact HB.out)⟩⟩
     ·rw [if_neg c19] at H
      have c19b0 : (a0_3 == 2) = false:=beq_eq_false_iff_ne.mpr c19
      have c19b1 : (a0_3 != 2) = true:=bne_iff_ne.mpr c19
      by_cases c22 : a0_3 = 4
      ·rw [if_pos c22] at H
       have c22b0 : (a0_3 == 4) = true:=beq_iff_eq.mpr c22
       have c22b1 : (a0_3 != 4) = false:=bne_eq_false_iff_eq.mpr c22
       clear c22
       have H':=Aside0.mk H
       clear H
       have hnb23:=NB118_128.out
       have hnc23:=NB128_118.out
       have hcz24_0 : w13.cell? ⟨gb118,0,none⟩ = some (.int .i64 a0_0):=(z02 BK118.out 0).trans rfl
       have hcz24_1 : w13.cell? ⟨gb118,1,none⟩ = some (.int .i64 a0_1):=(z02 BK118.out 1).trans rfl
       have hcz24_2 : w13.cell? ⟨gb118,2,none⟩ = some (.int .i64 a0_2):=(z02 BK118.out 2).trans rfl
       have hcz24_3 : w13.cell? ⟨gb118,3,none⟩ = some (.int .i64 a0_3):=(z02 BK118.out 3).trans rfl
       have hcz24_4 : w13.cell? ⟨gb118,4,none⟩ = some (.int .u64 a0_4):=(z02 BK118.out 4).trans rfl
       have hfz24_0:=z01 BK118.out 0
       have hfz24_1:=z01 BK118.out 1
       have hfz24_2:=z01 BK118.out 2
       have hfz24_3:=z01 BK118.out 3
       have hfz24_4:=z01 BK118.out 4
       go_wp2
       go_meet
       case rel=>exact ⟨_,(true),(by first | rfl | (simp; done) | (simp [*]; done)),H',⟨by first | omega | exact Nat.le_refl _⟩,⟨by (with_reducible repeat (first | refine z08 ?_ _ | refine z09 ?_ | refine z06 ?_ _)); refine z0x ?_ NB118_128.out _; (with_reducible repeat (first | refine z08 ?_ _ | refine z09 ?_ | refine z06 ?_ _)); refine z0x ?_ NB118_128.out _; (with_reducible repeat (first | refine z08 ?_ _ | refine z09 ?_ | refine z06 ?_ _)); refine z0x ?_ NB118_128.out _; (with_reducible repeat (first | refine z08 ?_ _ | refine z09 ?_ | refine z06 ?_ _)); refine z0x ?_ NB118_128.out _; (with_reducible repeat (first | refine z08 ?_ _ | refine z09 ?_ | refine z06 ?_ _)); refine z0x ?_ NB118_128.out _; (with_reducible repeat (first | refine z08 ?_ _ | refine z09 ?_ | refine z06 ?_ _)); exact BK118.out⟩,⟨by (with_reducible repeat (first | refine z08 ?_ _ | refine z09 ?_ | refine z06 ?_ _)); refine z0u (cs:=#[.int .i64 t123,.int .i64 t124,.int .i64 t125,.int .i64 t126,.int .u64 0]) ?_ 4 _ rfl; (with_reducible repeat (first | refine z08 ?_ _ | refine z09 ?_ | refine z06 ?_ _)); refine z0u (cs:=#[.int .i64 t123,.int .i64 t124,.int .i64 t125,.int .i64 0,.int .u64 0]) ?_ 3 _ rfl; (with_reducible repeat (first | refine z08 ?_ _ | refine z09 ?_ | refine z06 ?_ _)); refine z0u (cs:=#[.int .i64 t123,.int .i64 t124,.int .i64 0,.int .i64 0,.int .u64 0]) ?_ 2 _ rfl; (with_reducible repeat (first | refine z08 ?_ _ | refine z09 ?_ | refine z06 ?_ _)); refine z0u (cs:=#[.int .i64 t123,.int .i64 0,.int .i64 0,.int .i64 0,.int .u64 0]) ?_ 1 _ rfl; (with_reducible repeat (first | refine z08 ?_ _ | refine z09 ?_ | refine z06 ?_ _)); refine z0u (cs:=#[.int .i64 0,.int .i64 0,.int .i64 0,.int .i64 0,.int .u64 0]) ?_ 0 _ rfl; (with_reducible repeat (first | refine z08 ?_ _ | refine z09 ?_ | refine z06 ?_ _)); exact BK128.out⟩,⟨by repeat (first | (with_reducible first | exact HB.out | apply z04 | apply z03 | apply z05 | refine z07 ?_ GE118.out | refine z07 ?_ GE128.out) | exact HB.out)⟩⟩
      ·rw [if_neg c22] at H
       have c22b0 : (a0_3 == 4) = false:=beq_eq_false_iff_ne.mpr c22
       have c22b1 : (a0_3 != 4) = true:=bne_iff_ne.mpr c22
       have H':=Aside0.mk H
       clear H
       have hnb25:=NB118_128.out
       have hnc25:=NB128_118.out
       have hcz26_0 : w13.cell? ⟨gb118,0,none⟩ = some (.int .i64 a0_0):=(z02 BK118.out 0).trans rfl
       have hcz26_1 : w13.cell? ⟨gb118,1,none⟩ = some (.int .i64 a0_1):=(z02 BK118.out 1).trans rfl
       have hcz26_2 : w13.cell? ⟨gb118,2,none⟩ = some (.int .i64 a0_2):=(z02 BK118.out 2).trans rfl
       have hcz26_3 : w13.cell? ⟨gb118,3,none⟩ = some (.int .i64 a0_3):=(z02 BK118.out 3).trans rfl
       have hcz26_4 : w13.cell? ⟨gb118,4,none⟩ = some (.int .u64 a0_4):=(z02 BK118.out 4).trans rfl
       have hfz26_0:=z01 BK118.out 0
       have hfz26_1:=z01 BK118.out 1
       have hfz26_2:=z01 BK118.out 2
       have hfz26_3:=z01 BK118.out 3
       have hfz26_4:=z01 BK118.out 4
       go_wp2
       go_meet
       case rel=>exact ⟨_,((a0_3 == 8)),(by first | rfl | (simp; done) | (simp [*]; done)),H',⟨by first | omega | exact Nat.le_refl _⟩,⟨by (with_reducible repeat (first | refine z08 ?_ _ | refine z09 ?_ | refine z06 ?_ _)); refine z0x ?_ NB118_128.out _; (with_reducible repeat (first | refine z08 ?_ _ | refine z09 ?_ | refine z06 ?_ _)); refine z0x ?_ NB118_128.out _; (with_reducible repeat (first | refine z08 ?_ _ | refine z09 ?_ | refine z06 ?_ _)); refine z0x ?_ NB118_128.out _; (with_reducible repeat (first | refine z08 ?_ _ | refine z09 ?_ | refine z06 ?_ _)); refine z0x ?_ NB118_128.out _; (with_reducible repeat (first | refine z08 ?_ _ | refine z09 ?_ | refine z06 ?_ _)); refine z0x ?_ NB118_128.out _; (with_reducible repeat (first | refine z08 ?_ _ | refine z09 ?_ | refine z06 ?_ _)); exact BK118.out⟩,⟨by (with_reducible repeat (first | refine z08 ?_ _ | refine z09 ?_ | refine z06 ?_ _)); refine z0u (cs:=#[.int .i64 t123,.int .i64 t124,.int .i64 t125,.int .i64 t126,.int .u64 0]) ?_ 4 _ rfl; (with_reducible repeat (first | refine z08 ?_ _ | refine z09 ?_ | refine z06 ?_ _)); refine z0u (cs:=#[.int .i64 t123,.int .i64 t124,.int .i64 t125,.int .i64 0,.int .u64 0]) ?_ 3 _ rfl; (with_reducible repeat (first | refine z08 ?_ _ | refine z09 ?_ | refine z06 ?_ _)); refine z0u (cs:=#[.int .i64 t123,.int .i64 t124,.int .i64 0,.int .i64 0,.int .u64 0]) ?_ 2 _ rfl; (with_reducible repeat (first | refine z08 ?_ _ | refine z09 ?_ | refine z06 ?_ _)); refine z0u (cs:=#[.int .i64 t123,.int .i64 0,.int .i64 0,.int .i64 0,.int .u64 0]) ?_ 1 _ rfl; (with_reducible repeat (first | refine z08 ?_ _ | refine z09 ?_ | refine z06 ?_ _)); refine z0u (cs:=#[.int .i64 0,.int .i64 0,.int .i64 0,.int .i64 0,.int .u64 0]) ?_ 0 _ rfl; (with_reducible repeat (first | refine z08 ?_ _ | refine z09 ?_ | refine z06 ?_ _)); exact BK128.out⟩,⟨by repeat (first | (with_reducible first | exact HB.out | apply z04 | apply z03 | apply z05 | refine z07 ?_ GE118.out | refine z07 ?_ GE128.out) | exact HB.out)⟩⟩
   case rest =>
    clear HC6
    try clear c1
    try clear p1
    try clear q1
    try clear hx1
    try clear c2
    try clear p2
    try clear c3
    try clear c3b0
    try clear c4
    try clear c4b0
    try clear c5
    try clear c6
    try clear p12
    try clear q12
    try clear hx12
    try clear c14
    try clear c16
    try clear c16b0
    try clear c16b1
    try clear c17
    try clear c19
    try clear c19b0
    try clear c19b1
    try clear c20
    try clear c22
    try clear c22b0
    try clear c22b1
    try clear c23
    try clear c25
    try clear hcz11_0
    try clear hcz11_1
    try clear hcz11_2
    try clear hcz11_3
    try clear hcz11_4
    try clear hcz15_0
    try clear hcz15_1
    try clear hcz15_2
    try clear hcz15_3
    try clear hcz15_4
    try clear hcz18_0
    try clear hcz18_1
    try clear hcz18_2
    try clear hcz18_3
    try clear hcz18_4
    try clear hcz21_0
    try clear hcz21_1
    try clear hcz21_2
    try clear hcz21_3
    try clear hcz21_4
    try clear hcz24_0
    try clear hcz24_1
    try clear hcz24_2
    try clear hcz24_3
    try clear hcz24_4
    try clear hcz26_0
    try clear hcz26_1
    try clear hcz26_2
    try clear hcz26_3
    try clear hcz26_4
    try clear hfz11_0
    try clear hfz11_1
    try clear hfz11_2
    try clear hfz11_3
    try clear hfz11_4
    try clear hfz15_0
    try clear hfz15_1
    try clear hfz15_2
    try clear hfz15_3
    try clear hfz15_4
    try clear hfz18_0
    try clear hfz18_1
    try clear hfz18_2
    try clear hfz18_3
    try clear hfz18_4
    try clear hfz21_0
    try clear hfz21_1
    try clear hfz21_2
    try clear hfz21_3
    try clear hfz21_4
    try clear hfz24_0
    try clear hfz24_1
    try clear hfz24_2
    try clear hfz24_3
    try clear hfz24_4
    try clear hfz26_0
    try clear hfz26_1
    try clear hfz26_2
    try clear hfz26_3
    try clear hfz26_4
    try clear hx122_0
    try clear hx122_1
    try clear p122
    try clear q122
    obtain ⟨kq,x5_5,rfl,HA,HJ5,BK118,BK128,HB⟩:=hcut
    cases kq with
    | zero=>exact absurd HA.out (by simp [z0p.j0])
    | succ kj5 =>
     have H:=HA.out
     clear HA
     simp only [z0p.j0] at H
     have HC27:=Aside0.mk H
     clear H
     go_upto_region 4 with (fail)
     go_cut [33] (fun v33 wc=>∃ (kq : Nat) (x33_26 : Bool),v33 = .bool x33_26 ∧ Aside0 (z0p.j1 kq ((rd_T90 t119 a0_0).f1) x5_5 x33_26 a0_0 a0_1 a0_2 a0_3 a0_4 t123 t124 t125 t126 t127 = some r) ∧ Aside0 (kq ≤ kj5) ∧ Aside0 (wc.heap[gb118]? = some (.cells #[.int .i64 a0_0,.int .i64 a0_1,.int .i64 a0_2,.int .i64 a0_3,.int .u64 a0_4] 45 (0,0))) ∧ Aside0 (wc.heap[gb128]? = some (.cells #[.int .i64 t123,.int .i64 t124,.int .i64 t125,.int .i64 t126,.int .u64 t127] 45 (0,0))) ∧ Aside0 (Below w.heap.size w wc))
     case first =>
      have H:=HC27.out
      clear HC27
      by_cases c28 : a0_1 = t124
      ·rw [if_pos c28] at H
       have c28b0 : (a0_1 == t124) = true:=beq_iff_eq.mpr c28
       have c28b1 : (a0_1 != t124) = false:=bne_eq_false_iff_eq.mpr c28
       clear c28
       (first | rw [c28b0] | (simp only [i64_w,i32_w]; rw [c28b0]) | skip)
       replace H:=Option.bind_eq_some_iff.mp H
       obtain ⟨t129,A290,H⟩:=H
       replace H : (z0p.j1 kj5 ((rd_T90 t119 a0_0).f1) x5_5 (!t129) a0_0 a0_1 a0_2 a0_3 a0_4 t123 t124 t125 t126 t127) = some r:=H
       have A29:=Aside0.mk A290
       clear A290
       have H':=Aside0.mk H
       clear H
       have hnb30:=NB118_128.out
       have hnc30:=NB128_118.out
       have hcz31_0 : wc.cell? ⟨gb118,0,none⟩ = some (.int .i64 a0_0):=(z02 BK118.out 0).trans rfl
       have hcz31_1 : wc.cell? ⟨gb118,1,none⟩ = some (.int .i64 a0_1):=(z02 BK118.out 1).trans rfl
       have hcz31_2 : wc.cell? ⟨gb118,2,none⟩ = some (.int .i64 a0_2):=(z02 BK118.out 2).trans rfl
       have hcz31_3 : wc.cell? ⟨gb118,3,none⟩ = some (.int .i64 a0_3):=(z02 BK118.out 3).trans rfl
       have hcz31_4 : wc.cell? ⟨gb118,4,none⟩ = some (.int .u64 a0_4):=(z02 BK118.out 4).trans rfl
       have hfz31_0:=z01 BK118.out 0
       have hfz31_1:=z01 BK118.out 1
       have hfz31_2:=z01 BK118.out 2
       have hfz31_3:=z01 BK118.out 3
       have hfz31_4:=z01 BK118.out 4
       have hcz32_0 : wc.cell? ⟨gb128,0,none⟩ = some (.int .i64 t123):=(z02 BK128.out 0).trans rfl
       have hcz32_1 : wc.cell? ⟨gb128,1,none⟩ = some (.int .i64 t124):=(z02 BK128.out 1).trans rfl
       have hcz32_2 : wc.cell? ⟨gb128,2,none⟩ = some (.int .i64 t125):=(z02 BK128.out 2).trans rfl
       have hcz32_3 : wc.cell? ⟨gb128,3,none⟩ = some (.int .i64 t126):=(z02 BK128.out 3).trans rfl
       have hcz32_4 : wc.cell? ⟨gb128,4,none⟩ = some (.int .u64 t127):=(z02 BK128.out 4).trans rfl
       have hfz32_0:=z01 BK128.out 0
       have hfz32_1:=z01 BK128.out 1
       have hfz32_2:=z01 BK128.out 2
       have hfz32_3:=z01 BK128.out 3
       have hfz32_4:=z01 BK128.out 4
       go_wp2_with (first | (go_at_call 61; (with_reducible refine (code_register.calls a0_1 t129 _ A29.out).mono ?_); rintro e w' ⟨rfl,⟨nd,rfl⟩⟩))
       go_meet
       case rel=>exact ⟨_,(!t129),(by first | rfl | (simp; done) | (simp [*]; done)),H',⟨by have:=HJ5.out; first | omega | exact Nat.le_refl _⟩,⟨by (with_reducible repeat (first | refine z08 ?_ _ | refine z09 ?_ | refine z06 ?_ _)); exact BK118.out⟩,⟨by (with_reducible repeat (first | refine z08 ?_ _ | refine z09 ?_ | refine z06 ?_ _)); exact BK128.out⟩,⟨by repeat (first | (with_reducible first | exact HB.out | apply z04 | apply z03 | apply z05 | refine z07 ?_ GE118.out | refine z07 ?_ GE128.out) | exact HB.out)⟩⟩
      ·rw [if_neg c28] at H
       have c28b0 : (a0_1 == t124) = false:=beq_eq_false_iff_ne.mpr c28
       have c28b1 : (a0_1 != t124) = true:=bne_iff_ne.mpr c28
       (first | rw [c28b0] | (simp only [i64_w,i32_w]; rw [c28b0]) | skip)
       have H':=Aside0.mk H
       clear H
       have hnb33:=NB118_128.out
       have hnc33:=NB128_118.out
       have hcz34_0 : wc.cell? ⟨gb118,0,none⟩ = some (.int .i64 a0_0):=(z02 BK118.out 0).trans rfl
       have hcz34_1 : wc.cell? ⟨gb118,1,none⟩ = some (.int .i64 a0_1):=(z02 BK118.out 1).trans rfl
       have hcz34_2 : wc.cell? ⟨gb118,2,none⟩ = some (.int .i64 a0_2):=(z02 BK118.out 2).trans rfl
       have hcz34_3 : wc.cell? ⟨gb118,3,none⟩ = some (.int .i64 a0_3):=(z02 BK118.out 3).trans rfl
       have hcz34_4 : wc.cell? ⟨gb118,4,none⟩ = some (.int .u64 a0_4):=(z02 BK118.out 4).trans rfl
       have hfz34_0:=z01 BK118.out 0
       have hfz34_1:=z01 BK118.out 1
       have hfz34_2:=z01 BK118.out 2
       have hfz34_3:=z01 BK118.out 3
       have hfz34_4:=z01 BK118.out 4
       have hcz35_0 : wc.cell? ⟨gb128,0,none⟩ = some (.int .i64 t123):=(z02 BK128.out 0).trans rfl
       have hcz35_1 : wc.cell? ⟨gb128,1,none⟩ = some (.int .i64 t124):=(z02 BK128.out 1).trans rfl
       have hcz35_2 : wc.cell? ⟨gb128,2,none⟩ = some (.int .i64 t125):=(z02 BK128.out 2).trans rfl
       have hcz35_3 : wc.cell? ⟨gb128,3,none⟩ = some (.int .i64 t126):=(z02 BK128.out 3).trans rfl
       have hcz35_4 : wc.cell? ⟨gb128,4,none⟩ = some (.int .u64 t127):=(z02 BK128.out 4).trans rfl
       have hfz35_0:=z01 BK128.out 0
       have hfz35_1:=z01 BK128.out 1
       have hfz35_2:=z01 BK128.out 2
       have hfz35_3:=z01 BK128.out 3
       have hfz35_4:=z01 BK128.out 4
       go_wp2
       go_meet
       case rel=>exact ⟨_,(true),(by first | rfl | (simp; done) | (simp [*]; done)),H',⟨by have:=HJ5.out; first | omega | exact Nat.le_refl _⟩,⟨by (with_reducible repeat (first | refine z08 ?_ _ | refine z09 ?_ | refine z06 ?_ _)); exact BK118.out⟩,⟨by (with_reducible repeat (first | refine z08 ?_ _ | refine z09 ?_ | refine z06 ?_ _)); exact BK128.out⟩,⟨by repeat (first | (with_reducible first | exact HB.out | apply z04 | apply z03 | apply z05 | refine z07 ?_ GE118.out | refine z07 ?_ GE128.out) | exact HB.out)⟩⟩
     case rest =>
      clear HC27
      try clear c1
      try clear p1
      try clear q1
      try clear hx1
      try clear c2
      try clear p2
      try clear c3
      try clear c3b0
      try clear c4
      try clear c4b0
      try clear c5
      try clear c6
      try clear p12
      try clear q12
      try clear hx12
      try clear c14
      try clear c16
      try clear c16b0
      try clear c16b1
      try clear c17
      try clear c19
      try clear c19b0
      try clear c19b1
      try clear c20
      try clear c22
      try clear c22b0
      try clear c22b1
      try clear c23
      try clear c25
      try clear c28
      try clear c28b0
      try clear c28b1
      try clear c30
      try clear c33
      try clear hcz11_0
      try clear hcz11_1
      try clear hcz11_2
      try clear hcz11_3
      try clear hcz11_4
      try clear hcz15_0
      try clear hcz15_1
      try clear hcz15_2
      try clear hcz15_3
      try clear hcz15_4
      try clear hcz18_0
      try clear hcz18_1
      try clear hcz18_2
      try clear hcz18_3
      try clear hcz18_4
      try clear hcz21_0
      try clear hcz21_1
      try clear hcz21_2
      try clear hcz21_3
      try clear hcz21_4
      try clear hcz24_0
      try clear hcz24_1
      try clear hcz24_2
      try clear hcz24_3
      try clear hcz24_4
      try clear hcz26_0
      try clear hcz26_1
      try clear hcz26_2
      try clear hcz26_3
      try clear hcz26_4
      try clear hcz31_0
      try clear hcz31_1
      try clear hcz31_2
      try clear hcz31_3
      try clear hcz31_4
      try clear hcz32_0
      try clear hcz32_1
      try clear hcz32_2
      try clear hcz32_3
      try clear hcz32_4
      try clear hcz34_0
      try clear hcz34_1
      try clear hcz34_2
      try clear hcz34_3
      try clear hcz34_4
      try clear hcz35_0
      try clear hcz35_1
      try clear hcz35_2
      try clear hcz35_3
      try clear hcz35_4
      try clear hfz11_0
      try clear hfz11_1
      try clear hfz11_2
      try clear hfz11_3
      try clear hfz11_4
      try clear hfz15_0
      try clear hfz15_1
      try clear hfz15_2
      try clear hfz15_3
      try clear hfz15_4
      try clear hfz18_0
      try clear hfz18_1
      try clear hfz18_2
      try clear hfz18_3
      try clear hfz18_4
      try clear hfz21_0
      try clear hfz21_1
      try clear hfz21_2
      try clear hfz21_3
      try clear hfz21_4
      try clear hfz24_0
      try clear hfz24_1
      try clear hfz24_2
      try clear hfz24_3
      try clear hfz24_4
      try clear hfz26_0
      try clear hfz26_1
      try clear hfz26_2
      try clear hfz26_3
      try clear hfz26_4
      try clear hfz31_0
      try clear hfz31_1
      try clear hfz31_2
      try clear hfz31_3
      try clear hfz31_4
      try clear hfz32_0
      try clear hfz32_1
      try clear hfz32_2
      try clear hfz32_3
      try clear hfz32_4
      try clear hfz34_0
      try clear hfz34_1
      try clear hfz34_2
      try clear hfz34_3
      try clear hfz34_4
      try clear hfz35_0
      try clear hfz35_1
      try clear hfz35_2
      try clear hfz35_3
      try clear hfz35_4
      try clear hx122_0
      try clear hx122_1
      try clear p1
      try clear p12
      try clear p122
      try clear p2
      try clear q1
      try clear q12
      try clear q122
      obtain ⟨kq,x33_26,rfl,HA,HJ26,BK118,BK128,HB⟩:=hcut
      cases kq with
      | zero=>exact absurd HA.out (by simp [z0p.j1])
      | succ kj26 =>
       have H:=HA.out
       clear HA
       simp only [z0p.j1] at H
       by_cases c36 : x33_26 = true
       ·subst c36
        have H1 : (some 1) = some r:=by rw [if_pos rfl] at H; exact H
        clear H
        have H:=H1
        clear H1
        obtain rfl:=Option.some.inj H
        go_wp2
        go_ret
        exact ⟨by first | rfl | (simp [z0i,z0h] <;> rfl) | (simp [*,z0i,z0h] <;> rfl),by repeat (first | (with_reducible first | exact HB.out | apply z04 | apply z03 | apply z05 | refine z07 ?_ GE118.out | refine z07 ?_ GE128.out) | exact HB.out)⟩
       ·replace c36:=Bool.eq_false_iff.mpr c36
        subst c36
        have H1 : (if a0_2 = t125 then ((code_register.f a0_2).bind fun t130=>(z0p.j2 kj26 ((rd_T90 t119 a0_0).f1) x5_5 (!t130) a0_0 a0_1 a0_2 a0_3 a0_4 t123 t124 t125 t126 t127)) else (z0p.j2 kj26 ((rd_T90 t119 a0_0).f1) x5_5 true a0_0 a0_1 a0_2 a0_3 a0_4 t123 t124 t125 t126 t127)) = some r:=by rw [if_neg (show ¬ (false = true) by decide)] at H; exact H
        clear H
        have H:=H1
        clear H1
        have HC37:=Aside0.mk H
        clear H
        go_upto_region 6 with (fail)
        go_cut [45] (fun v45 wc=>∃ (kq : Nat) (x45_36 : Bool),v45 = .bool x45_36 ∧ Aside0 (z0p.j2 kq ((rd_T90 t119 a0_0).f1) x5_5 x45_36 a0_0 a0_1 a0_2 a0_3 a0_4 t123 t124 t125 t126 t127 = some r) ∧ Aside0 (kq ≤ kj26) ∧ Aside0 (wc.heap[gb118]? = some (.cells #[.int .i64 a0_0,.int .i64 a0_1,.int .i64 a0_2,.int .i64 a0_3,.int .u64 a0_4] 45 (0,0))) ∧ Aside0 (wc.heap[gb128]? = some (.cells #[.int .i64 t123,.int .i64 t124,.int .i64 t125,.int .i64 t126,.int .u64 t127] 45 (0,0))) ∧ Aside0 (Below w.heap.size w wc))
        case first =>
         have H:=HC37.out
         clear HC37
         by_cases c38 : a0_2 = t125
         ·rw [if_pos c38] at H
          have c38b0 : (a0_2 == t125) = true:=beq_iff_eq.mpr c38
          have c38b1 : (a0_2 != t125) = false:=bne_eq_false_iff_eq.mpr c38
          clear c38
          (first | rw [c38b0] | (simp only [i64_w,i32_w]; rw [c38b0]) | skip)
          replace H:=Option.bind_eq_some_iff.mp H
          obtain ⟨t130,A390,H⟩:=H
          replace H : (z0p.j2 kj26 ((rd_T90 t119 a0_0).f1) x5_5 (!t130) a0_0 a0_1 a0_2 a0_3 a0_4 t123 t124 t125 t126 t127) = some r:=H
          have A39:=Aside0.mk A390
          clear A390
          have H':=Aside0.mk H
          clear H
          have hnb40:=NB118_128.out
          have hnc40:=NB128_118.out
          have hcz41_0 : wc.cell? ⟨gb118,0,none⟩ = some (.int .i64 a0_0):=(z02 BK118.out 0).trans rfl
          have hcz41_1 : wc.cell? ⟨gb118,1,none⟩ = some (.int .i64 a0_1):=(z02 BK118.out 1).trans rfl
          have hcz41_2 : wc.cell? ⟨gb118,2,none⟩ = some (.int .i64 a0_2):=(z02 BK118.out 2).trans rfl
          have hcz41_3 : wc.cell? ⟨gb118,3,none⟩ = some (.int .i64 a0_3):=(z02 BK118.out 3).trans rfl
          have hcz41_4 : wc.cell? ⟨gb118,4,none⟩ = some (.int .u64 a0_4):=(z02 BK118.out 4).trans rfl
          have hfz41_0:=z01 BK118.out 0
          have hfz41_1:=z01 BK118.out 1
          have hfz41_2:=z01 BK118.out 2
          have hfz41_3:=z01 BK118.out 3
          have hfz41_4:=z01 BK118.out 4
          have hcz42_0 : wc.cell? ⟨gb128,0,none⟩ = some (.int .i64 t123):=(z02 BK128.out 0).trans rfl
          have hcz42_1 : wc.cell? ⟨gb128,1,none⟩ = some (.int .i64 t124):=(z02 BK128.out 1).trans rfl
          have hcz42_2 : wc.cell? ⟨gb128,2,none⟩ = some (.int .i64 t125):=(z02 BK128.out 2).trans rfl
          have hcz42_3 : wc.cell? ⟨gb128,3,none⟩ = some (.int .i64 t126):=(z02 BK128.out 3).trans rfl
          have hcz42_4 : wc.cell? ⟨gb128,4,none⟩ = some (.int .u64 t127):=(z02 BK128.out 4).trans rfl
          have hfz42_0:=z01 BK128.out 0
          have hfz42_1:=z01 BK128.out 1
          have hfz42_2:=z01 BK128.out 2
          have hfz42_3:=z01 BK128.out 3
          have hfz42_4:=z01 BK128.out 4
          go_wp2_with (first | (go_at_call 61; (with_reducible refine (code_register.calls a0_2 t130 _ A39.out).mono ?_); rintro e w' ⟨rfl,⟨nd,rfl⟩⟩))
          go_meet
          case rel=>exact ⟨_,(!t130),(by first | rfl | (simp; done) | (simp [*]; done)),H',⟨by have:=HJ5.out; have:=HJ26.out; first | omega | exact Nat.le_refl _⟩,⟨by (with_reducible repeat (first | refine z08 ?_ _ | refine z09 ?_ | refine z06 ?_ _)); exact BK118.out⟩,⟨by (with_reducible repeat (first | refine z08 ?_ _ | refine z09 ?_ | refine z06 ?_ _)); exact BK128.out⟩,⟨by repeat (first | (with_reducible first | exact HB.out | apply z04 | apply z03 | apply z05 | refine z07 ?_ GE118.out | refine z07 ?_ GE128.out) | exact HB.out)⟩⟩
         ·rw [if_neg c38] at H
          have c38b0 : (a0_2 == t125) = false:=beq_eq_false_iff_ne.mpr c38
          have c38b1 : (a0_2 != t125) = true:=bne_iff_ne.mpr c38
          (first | rw [c38b0] | (simp only [i64_w,i32_w]; rw [c38b0]) | skip)
          have H':=Aside0.mk H
          clear H
          have hnb43:=NB118_128.out
          have hnc43:=NB128_118.out
          have hcz44_0 : wc.cell? ⟨gb118,0,none⟩ = some (.int .i64 a0_0):=(z02 BK118.out 0).trans rfl
          have hcz44_1 : wc.cell? ⟨gb118,1,none⟩ = some (.int .i64 a0_1):=(z02 BK118.out 1).trans rfl
          have hcz44_2 : wc.cell? ⟨gb118,2,none⟩ = some (.int .i64 a0_2):=(z02 BK118.out 2).trans rfl
          have hcz44_3 : wc.cell? ⟨gb118,3,none⟩ = some (.int .i64 a0_3):=(z02 BK118.out 3).trans rfl
          have hcz44_4 : wc.cell? ⟨gb118,4,none⟩ = some (.int .u64 a0_4):=(z02 BK118.out 4).trans rfl
          have hfz44_0:=z01 BK118.out 0
          have hfz44_1:=z01 BK118.out 1
          have hfz44_2:=z01 BK118.out 2
          have hfz44_3:=z01 BK118.out 3
          have hfz44_4:=z01 BK118.out 4
          have hcz45_0 : wc.cell? ⟨gb128,0,none⟩ = some (.int .i64 t123):=(z02 BK128.out 0).trans rfl
          have hcz45_1 : wc.cell? ⟨gb128,1,none⟩ = some (.int .i64 t124):=(z02 BK128.out 1).trans rfl
          have hcz45_2 : wc.cell? ⟨gb128,2,none⟩ = some (.int .i64 t125):=(z02 BK128.out 2).trans rfl
          have hcz45_3 : wc.cell? ⟨gb128,3,none⟩ = some (.int .i64 t126):=(z02 BK128.out 3).trans rfl
          have hcz45_4 : wc.cell? ⟨gb128,4,none⟩ = some (.int .u64 t127):=(z02 BK128.out 4).trans rfl
          have hfz45_0:=z01 BK128.out 0
          have hfz45_1:=z01 BK128.out 1
          have hfz45_2:=z01 BK128.out 2
          have hfz45_3:=z01 BK128.out 3
          have hfz45_4:=z01 BK128.out 4
          go_wp2
          go_meet
          case rel=>exact ⟨_,(true),(by first | rfl | (simp; done) | (simp [*]; done)),H',⟨by have:=HJ5.out; have:=HJ26.out; first | omega | exact Nat.le_refl _⟩,⟨by (with_reducible repeat (first | refine z08 ?_ _ | refine z09 ?_ | refine z06 ?_ _)); exact BK118.out⟩,⟨by (with_reducible repeat (first | refine z08 ?_ _ | refine z09 ?_ | refine z06 ?_ _)); exact BK128.out⟩,⟨by repeat (first | (with_reducible first | exact HB.out | apply z04 | apply z03 | apply z05 | refine z07 ?_ GE118.out | refine z07 ?_ GE128.out) | exact HB.out)⟩⟩
        case rest =>
         clear HC37
         try clear c1
         try clear p1
         try clear q1
         try clear hx1
         try clear c2
         try clear p2
         try clear c3
         try clear c3b0
         try clear c4
         try clear c4b0
         try clear c5
         try clear c6
         try clear p12
         try clear q12
         try clear hx12
         try clear c14
         try clear c16
         try clear c16b0
         try clear c16b1
         try clear c17
         try clear c19
         try clear c19b0
         try clear c19b1
         try clear c20
         try clear c22
         try clear c22b0
         try clear c22b1
         try clear c23
         try clear c25
         try clear c28
         try clear c28b0
         try clear c28b1
         try clear c30
         try clear c33
         try clear c36
         try clear c38
         try clear c38b0
         try clear c38b1
         try clear c40
         try clear c43
         try clear hcz11_0
         try clear hcz11_1
         try clear hcz11_2
         try clear hcz11_3
         try clear hcz11_4
         try clear hcz15_0
         try clear hcz15_1
         try clear hcz15_2
         try clear hcz15_3
         try clear hcz15_4
         try clear hcz18_0
         try clear hcz18_1
         try clear hcz18_2
         try clear hcz18_3
         try clear hcz18_4
         try clear hcz21_0
         try clear hcz21_1
         try clear hcz21_2
         try clear hcz21_3
         try clear hcz21_4
         try clear hcz24_0
         try clear hcz24_1
         try clear hcz24_2
         try clear hcz24_3
         try clear hcz24_4
         try clear hcz26_0
         try clear hcz26_1
         try clear hcz26_2
         try clear hcz26_3
         try clear hcz26_4
         try clear hcz31_0
         try clear hcz31_1
         try clear hcz31_2
         try clear hcz31_3
         try clear hcz31_4
         try clear hcz32_0
         try clear hcz32_1
         try clear hcz32_2
         try clear hcz32_3
         try clear hcz32_4
         try clear hcz34_0
         try clear hcz34_1
         try clear hcz34_2
         try clear hcz34_3
         try clear hcz34_4
         try clear hcz35_0
         try clear hcz35_1
         try clear hcz35_2
         try clear hcz35_3
         try clear hcz35_4
         try clear hcz41_0
         try clear hcz41_1
         try clear hcz41_2
         try clear hcz41_3
         try clear hcz41_4
         try clear hcz42_0
         try clear hcz42_1
         try clear hcz42_2
         try clear hcz42_3
         try clear hcz42_4
         try clear hcz44_0
         try clear hcz44_1
         try clear hcz44_2
         try clear hcz44_3
         try clear hcz44_4
         try clear hcz45_0
         try clear hcz45_1
         try clear hcz45_2
         try clear hcz45_3
         try clear hcz45_4
         try clear hfz11_0
         try clear hfz11_1
         try clear hfz11_2
         try clear hfz11_3
         try clear hfz11_4
         try clear hfz15_0
         try clear hfz15_1
         try clear hfz15_2
         try clear hfz15_3
         try clear hfz15_4
         try clear hfz18_0
         try clear hfz18_1
         try clear hfz18_2
         try clear hfz18_3
         try clear hfz18_4
         try clear hfz21_0
         try clear hfz21_1
         try clear hfz21_2
         try clear hfz21_3
         try clear hfz21_4
         try clear hfz24_0
         try clear hfz24_1
         try clear hfz24_2
         try clear hfz24_3
         try clear hfz24_4
         try clear hfz26_0
         try clear hfz26_1
         try clear hfz26_2
         try clear hfz26_3
         try clear hfz26_4
         try clear hfz31_0
         try clear hfz31_1
         try clear hfz31_2
         try clear hfz31_3
         try clear hfz31_4
         try clear hfz32_0
         try clear hfz32_1
         try clear hfz32_2
         try clear hfz32_3
         try clear hfz32_4
         try clear hfz34_0
         try clear hfz34_1
         try clear hfz34_2
         try clear hfz34_3
         try clear hfz34_4
         try clear hfz35_0
         try clear hfz35_1
         try clear hfz35_2
         try clear hfz35_3
         try clear hfz35_4
         try clear hfz41_0
         try clear hfz41_1
         try clear hfz41_2
         try clear hfz41_3
         try clear hfz41_4
         try clear hfz42_0
         try clear hfz42_1
         try clear hfz42_2
         try clear hfz42_3
         try clear hfz42_4
         try clear hfz44_0
         try clear hfz44_1
         try clear hfz44_2
         try clear hfz44_3
         try clear hfz44_4
         try clear hfz45_0
         try clear hfz45_1
         try clear hfz45_2
         try clear hfz45_3
         try clear hfz45_4
         try clear hx122_0
         try clear hx122_1
         try clear p1
         try clear p12
         try clear p122
         try clear p2
         try clear q1
         try clear q12
         try clear q122
         obtain ⟨kq,x45_36,rfl,HA,HJ36,BK118,BK128,HB⟩:=hcut
         cases kq with
         | zero=>exact absurd HA.out (by simp [z0p.j2])
         | succ kj36 =>
          have H:=HA.out
          clear HA
          simp only [z0p.j2] at H
          by_cases c46 : x45_36 = true
          ·subst c46
           have H1 : (some 2) = some r:=by rw [if_pos rfl] at H; exact H
           clear H
           have H:=H1
           clear H1
           obtain rfl:=Option.some.inj H
           go_wp2
           go_ret
           exact ⟨by first | rfl | (simp [z0i,z0h] <;> rfl) | (simp [*,z0i,z0h] <;> rfl),by repeat (first | (with_reducible first | exact HB.out | apply z04 | apply z03 | apply z05 | refine z07 ?_ GE118.out | refine z07 ?_ GE128.out) | exact HB.out)⟩
          ·replace c46:=Bool.eq_false_iff.mpr c46
           subst c46
           have H1 : (if a0_3 = t126 then (if (Go.bits .and .i64 ((rd_T90 t119 a0_0).f1) 8) = 0 then ((code_register.f a0_3).bind fun t131=>(z0p.j3 kj36 (!t131) a0_0 a0_1 a0_2 a0_3 a0_4 t123 t124 t125 t126 t127)) else (if x5_5 = true then (z0p.j3 kj36 false a0_0 a0_1 a0_2 a0_3 a0_4 t123 t124 t125 t126 t127) else (z0p.j3 kj36 true a0_0 a0_1 a0_2 a0_3 a0_4 t123 t124 t125 t126 t127))) else (z0p.j3 kj36 true a0_0 a0_1 a0_2 a0_3 a0_4 t123 t124 t125 t126 t127)) = some r:=by rw [if_neg (show ¬ (false = true) by decide)] at H; exact H
           clear H
           have H:=H1
           clear H1
           have HC47:=Aside0.mk H
           clear H
           go_upto_region 8 with (fail)
           go_cut [57] (fun v57 wc=>∃ (kq : Nat) (x57_46 : Bool),v57 = .bool x57_46 ∧ Aside0 (z0p.j3 kq x57_46 a0_0 a0_1 a0_2 a0_3 a0_4 t123 t124 t125 t126 t127 = some r) ∧ Aside0 (kq ≤ kj36) ∧ Aside0 (wc.heap[gb118]? = some (.cells #[.int .i64 a0_0,.int .i64 a0_1,.int .i64 a0_2,.int .i64 a0_3,.int .u64 a0_4] 45 (0,0))) ∧ Aside0 (wc.heap[gb128]? = some (.cells #[.int .i64 t123,.int .i64 t124,.int .i64 t125,.int .i64 t126,.int .u64 t127] 45 (0,0))) ∧ Aside0 (Below w.heap.size w wc))
           case first =>
            have H:=HC47.out
            clear HC47
            by_cases c48 : a0_3 = t126
            ·rw [if_pos c48] at H
             have c48b0 : (a0_3 == t126) = true:=beq_iff_eq.mpr c48
             have c48b1 : (a0_3 != t126) = false:=bne_eq_false_iff_eq.mpr c48
             clear c48
             (first | rw [c48b0] | (simp only [i64_w,i32_w]; rw [c48b0]) | skip)
             by_cases c49 : (Go.bits .and .i64 ((rd_T90 t119 a0_0).f1) 8) = 0
             ·rw [if_pos c49] at H
              have c49b0 : ((Go.bits .and .i64 ((rd_T90 t119 a0_0).f1) 8) == 0) = true:=beq_iff_eq.mpr c49
              have c49b1 : ((Go.bits .and .i64 ((rd_T90 t119 a0_0).f1) 8) != 0) = false:=bne_eq_false_iff_eq.mpr c49
              clear c49
              replace H:=Option.bind_eq_some_iff.mp H
              obtain ⟨t131,A500,H⟩:=H
              replace H : (z0p.j3 kj36 (!t131) a0_0 a0_1 a0_2 a0_3 a0_4 t123 t124 t125 t126 t127) = some r:=H
              have A50:=Aside0.mk A500
              clear A500
              have H':=Aside0.mk H
              clear H
              have hnb51:=NB118_128.out
              have hnc51:=NB128_118.out
              have hcz52_0 : wc.cell? ⟨gb118,0,none⟩ = some (.int .i64 a0_0):=(z02 BK118.out 0).trans rfl
              have hcz52_1 : wc.cell? ⟨gb118,1,none⟩ = some (.int .i64 a0_1):=(z02 BK118.out 1).trans rfl
              have hcz52_2 : wc.cell? ⟨gb118,2,none⟩ = some (.int .i64 a0_2):=(z02 BK118.out 2).trans rfl
              have hcz52_3 : wc.cell? ⟨gb118,3,none⟩ = some (.int .i64 a0_3):=(z02 BK118.out 3).trans rfl
              have hcz52_4 : wc.cell? ⟨gb118,4,none⟩ = some (.int .u64 a0_4):=(z02 BK118.out 4).trans rfl
              have hfz52_0:=z01 BK118.out 0
              have hfz52_1:=z01 BK118.out 1
              have hfz52_2:=z01 BK118.out 2
              have hfz52_3:=z01 BK118.out 3
              have hfz52_4:=z01 BK118.out 4
              have hcz53_0 : wc.cell? ⟨gb128,0,none⟩ = some (.int .i64 t123):=(z02 BK128.out 0).trans rfl
              have hcz53_1 : wc.cell? ⟨gb128,1,none⟩ = some (.int .i64 t124):=(z02 BK128.out 1).trans rfl
              have hcz53_2 : wc.cell? ⟨gb128,2,none⟩ = some (.int .i64 t125):=(z02 BK128.out 2).trans rfl
              have hcz53_3 : wc.cell? ⟨gb128,3,none⟩ = some (.int .i64 t126):=(z02 BK128.out 3).trans rfl
              have hcz53_4 : wc.cell? ⟨gb128,4,none⟩ = some (.int .u64 t127):=(z02 BK128.out 4).trans rfl
              have hfz53_0:=z01 BK128.out 0
              have hfz53_1:=z01 BK128.out 1
              have hfz53_2:=z01 BK128.out 2
              have hfz53_3:=z01 BK128.out 3
              have hfz53_4:=z01 BK128.out 4
              go_wp2_with (first | (go_at_call 61; (with_reducible refine (code_register.calls a0_3 t131 _ A50.out).mono ?_); rintro e w' ⟨rfl,⟨nd,rfl⟩⟩))
              go_meet
              case rel=>exact ⟨_,(!t131),(by first | rfl | (simp; done) | (simp [*]; done)),H',⟨by have:=HJ5.out; have:=HJ26.out; have:=HJ36.out; first | omega | exact Nat.le_refl _⟩,⟨by (with_reducible repeat (first | refine z08 ?_ _ | refine z09 ?_ | refine z06 ?_ _)); exact BK118.out⟩,⟨by (with_reducible repeat (first | refine z08 ?_ _ | refine z09 ?_ | refine z06 ?_ _)); exact BK128.out⟩,⟨by repeat (first | (with_reducible first | exact HB.out | apply z04 | apply z03 | apply z05 | refine z07 ?_ GE118.out | refine z07 ?_ GE128.out) | exact HB.out)⟩⟩
             ·rw [if_neg c49] at H
              have c49b0 : ((Go.bits .and .i64 ((rd_T90 t119 a0_0).f1) 8) == 0) = false:=beq_eq_false_iff_ne.mpr c49
              have c49b1 : ((Go.bits .and .i64 ((rd_T90 t119 a0_0).f1) 8) != 0) = true:=bne_iff_ne.mpr c49
              by_cases c54 : x5_5 = true
              ·subst c54
               have H1 : (z0p.j3 kj36 false a0_0 a0_1 a0_2 a0_3 a0_4 t123 t124 t125 t126 t127) = some r:=by rw [if_pos rfl] at H; exact H
               clear H
               have H:=H1
               clear H1
               have H':=Aside0.mk H
               clear H
               have hnb55:=NB118_128.out
               have hnc55:=NB128_118.out
               have hcz56_0 : wc.cell? ⟨gb118,0,none⟩ = some (.int .i64 a0_0):=(z02 BK118.out 0).trans rfl
               have hcz56_1 : wc.cell? ⟨gb118,1,none⟩ = some (.int .i64 a0_1):=(z02 BK118.out 1).trans rfl
               have hcz56_2 : wc.cell? ⟨gb118,2,none⟩ = some (.int .i64 a0_2):=(z02 BK118.out 2).trans rfl
               have hcz56_3 : wc.cell? ⟨gb118,3,none⟩ = some (.int .i64 a0_3):=(z02 BK118.out 3).trans rfl
               have hcz56_4 : wc.cell? ⟨gb118,4,none⟩ = some (.int .u64 a0_4):=(z02 BK118.out 4).trans rfl
               have hfz56_0:=z01 BK118.out 0
               have hfz56_1:=z01 BK118.out 1
               have hfz56_2:=z01 BK118.out 2
               have hfz56_3:=z01 BK118.out 3
               have hfz56_4:=z01 BK118.out 4
               have hcz57_0 : wc.cell? ⟨gb128,0,none⟩ = some (.int .i64 t123):=(z02 BK128.out 0).trans rfl
               have hcz57_1 : wc.cell? ⟨gb128,1,none⟩ = some (.int .i64 t124):=(z02 BK128.out 1).trans rfl
               have hcz57_2 : wc.cell? ⟨gb128,2,none⟩ = some (.int .i64 t125):=(z02 BK128.out 2).trans rfl
               have hcz57_3 : wc.cell? ⟨gb128,3,none⟩ = some (.int .i64 t126):=(z02 BK128.out 3).trans rfl
               have hcz57_4 : wc.cell? ⟨gb128,4,none⟩ = some (.int .u64 t127):=(z02 BK128.out 4).trans rfl
               have hfz57_0:=z01 BK128.out 0
               have hfz57_1:=z01 BK128.out 1
               have hfz57_2:=z01 BK128.out 2
               have hfz57_3:=z01 BK128.out 3
               have hfz57_4:=z01 BK128.out 4
               go_wp2
               go_meet
               case rel=>exact ⟨_,(false),(by first | rfl | (simp; done) | (simp [*]; done)),H',⟨by have:=HJ5.out; have:=HJ26.out; have:=HJ36.out; first | omega | exact Nat.le_refl _⟩,⟨by (with_reducible repeat (first | refine z08 ?_ _ | refine z09 ?_ | refine z06 ?_ _)); exact BK118.out⟩,⟨by (with_reducible repeat (first | refine z08 ?_ _ | refine z09 ?_ | refine z06 ?_ _)); exact BK128.out⟩,⟨by repeat (first | (with_reducible first | exact HB.out | apply z04 | apply z03 | apply z05 | refine z07 ?_ GE118.out | refine z07 ?_ GE128.out) | exact HB.out)⟩⟩
              ·replace c54:=Bool.eq_false_iff.mpr c54
               subst c54
               have H1 : (z0p.j3 kj36 true a0_0 a0_1 a0_2 a0_3 a0_4 t123 t124 t125 t126 t127) = some r:=by rw [if_neg (show ¬ (false = true) by decide)] at H; exact H
               clear H
               have H:=H1
               clear H1
               have H':=Aside0.mk H
               clear H
               have hnb58:=NB118_128.out
               have hnc58:=NB128_118.out
               have hcz59_0 : wc.cell? ⟨gb118,0,none⟩ = some (.int .i64 a0_0):=(z02 BK118.out 0).trans rfl
               have hcz59_1 : wc.cell? ⟨gb118,1,none⟩ = some (.int .i64 a0_1):=(z02 BK118.out 1).trans rfl
               have hcz59_2 : wc.cell? ⟨gb118,2,none⟩ = some (.int .i64 a0_2):=(z02 BK118.out 2).trans rfl
               have hcz59_3 : wc.cell? ⟨gb118,3,none⟩ = some (.int .i64 a0_3):=(z02 BK118.out 3).trans rfl
               have hcz59_4 : wc.cell? ⟨gb118,4,none⟩ = some (.int .u64 a0_4):=(z02 BK118.out 4).trans rfl
               have hfz59_0:=z01 BK118.out 0
               have hfz59_1:=z01 BK118.out 1
               have hfz59_2:=z01 BK118.out 2
               have hfz59_3:=z01 BK118.out 3
               have hfz59_4:=z01 BK118.out 4
               have hcz60_0 : wc.cell? ⟨gb128,0,none⟩ = some (.int .i64 t123):=(z02 BK128.out 0).trans rfl
               have hcz60_1 : wc.cell? ⟨gb128,1,none⟩ = some (.int .i64 t124):=(z02 BK128.out 1).trans rfl
               have hcz60_2 : wc.cell? ⟨gb128,2,none⟩ = some (.int .i64 t125):=(z02 BK128.out 2).trans rfl
               have hcz60_3 : wc.cell? ⟨gb128,3,none⟩ = some (.int .i64 t126):=(z02 BK128.out 3).trans rfl
               have hcz60_4 : wc.cell? ⟨gb128,4,none⟩ = some (.int .u64 t127):=(z02 BK128.out 4).trans rfl
               have hfz60_0:=z01 BK128.out 0
               have hfz60_1:=z01 BK128.out 1
               have hfz60_2:=z01 BK128.out 2
               have hfz60_3:=z01 BK128.out 3
               have hfz60_4:=z01 BK128.out 4
               go_wp2
               go_meet
               case rel=>exact ⟨_,(true),(by first | rfl | (simp; done) | (simp [*]; done)),H',⟨by have:=HJ5.out; have:=HJ26.out; have:=HJ36.out; first | omega | exact Nat.le_refl _⟩,⟨by (with_reducible repeat (first | refine z08 ?_ _ | refine z09 ?_ | refine z06 ?_ _)); exact BK118.out⟩,⟨by (with_reducible repeat (first | refine z08 ?_ _ | refine z09 ?_ | refine z06 ?_ _)); exact BK128.out⟩,⟨by repeat (first | (with_reducible first | exact HB.out | apply z04 | apply z03 | apply z05 | refine z07 ?_ GE118.out | refine z07 ?_ GE128.out) | exact HB.out)⟩⟩
            ·rw [if_neg c48] at H
             have c48b0 : (a0_3 == t126) = false:=beq_eq_false_iff_ne.mpr c48
             have c48b1 : (a0_3 != t126) = true:=bne_iff_ne.mpr c48
             (first | rw [c48b0] | (simp only [i64_w,i32_w]; rw [c48b0]) | skip)
             have H':=Aside0.mk H
             clear H
             have hnb61:=NB118_128.out
             have hnc61:=NB128_118.out
             have hcz62_0 : wc.cell? ⟨gb118,0,none⟩ = some (.int .i64 a0_0):=(z02 BK118.out 0).trans rfl
             have hcz62_1 : wc.cell? ⟨gb118,1,none⟩ = some (.int .i64 a0_1):=(z02 BK118.out 1).trans rfl
             have hcz62_2 : wc.cell? ⟨gb118,2,none⟩ = some (.int .i64 a0_2):=(z02 BK118.out 2).trans rfl
             have hcz62_3 : wc.cell? ⟨gb118,3,none⟩ = some (.int .i64 a0_3):=(z02 BK118.out 3).trans rfl
             have hcz62_4 : wc.cell? ⟨gb118,4,none⟩ = some (.int .u64 a0_4):=(z02 BK118.out 4).trans rfl
             have hfz62_0:=z01 BK118.out 0
             have hfz62_1:=z01 BK118.out 1
             have hfz62_2:=z01 BK118.out 2
             have hfz62_3:=z01 BK118.out 3
             have hfz62_4:=z01 BK118.out 4
             have hcz63_0 : wc.cell? ⟨gb128,0,none⟩ = some (.int .i64 t123):=(z02 BK128.out 0).trans rfl
             have hcz63_1 : wc.cell? ⟨gb128,1,none⟩ = some (.int .i64 t124):=(z02 BK128.out 1).trans rfl
             have hcz63_2 : wc.cell? ⟨gb128,2,none⟩ = some (.int .i64 t125):=(z02 BK128.out 2).trans rfl
             have hcz63_3 : wc.cell? ⟨gb128,3,none⟩ = some (.int .i64 t126):=(z02 BK128.out 3).trans rfl
             have hcz63_4 : wc.cell? ⟨gb128,4,none⟩ = some (.int .u64 t127):=(z02 BK128.out 4).trans rfl
             have hfz63_0:=z01 BK128.out 0
             have hfz63_1:=z01 BK128.out 1
             have hfz63_2:=z01 BK128.out 2
             have hfz63_3:=z01 BK128.out 3
             have hfz63_4:=z01 BK128.out 4
             go_wp2
             go_meet
             case rel=>exact ⟨_,(true),(by first | rfl | (simp; done) | (simp [*]; done)),H',⟨by have:=HJ5.out; have:=HJ26.out; have:=HJ36.out; first | omega | exact Nat.le_refl _⟩,⟨by (with_reducible repeat (first | refine z08 ?_ _ | refine z09 ?_ | refine z06 ?_ _)); exact BK118.out⟩,⟨by (with_reducible repeat (first | refine z08 ?_ _ | refine z09 ?_ | refine z06 ?_ _)); exact BK128.out⟩,⟨by repeat (first | (with_reducible first | exact HB.out | apply z04 | apply z03 | apply z05 | refine z07 ?_ GE118.out | refine z07 ?_ GE128.out) | exact HB.out)⟩⟩
           case rest =>
            clear HC47
            try clear c1
            try clear p1
            try clear q1
            try clear hx1
            try clear c2
            try clear p2
            try clear c3
            try clear c3b0
            try clear c4
            try clear c4b0
            try clear c5
            try clear c6
            try clear p12
            try clear q12
            try clear hx12
            try clear c14
            try clear c16
            try clear c16b0
            try clear c16b1
            try clear c17
            try clear c19
            try clear c19b0
            try clear c19b1
            try clear c20
            try clear c22
            try clear c22b0
            try clear c22b1
            try clear c23
            try clear c25
            try clear c28
            try clear c28b0
            try clear c28b1
            try clear c30
            try clear c33
            try clear c36
            try clear c38
            try clear c38b0
            try clear c38b1
            try clear c40
            try clear c43
            try clear c46
            try clear c48
            try clear c48b0
            try clear c48b1
            try clear c49
            try clear c49b0
            try clear c49b1
            try clear c51
            try clear c54
            try clear c55
            try clear c58
            try clear c61
            try clear hcz11_0
            try clear hcz11_1
            try clear hcz11_2
            try clear hcz11_3
            try clear hcz11_4
            try clear hcz15_0
            try clear hcz15_1
            try clear hcz15_2
            try clear hcz15_3
            try clear hcz15_4
            try clear hcz18_0
            try clear hcz18_1
            try clear hcz18_2
            try clear hcz18_3
            try clear hcz18_4
            try clear hcz21_0
            try clear hcz21_1
            try clear hcz21_2
            try clear hcz21_3
            try clear hcz21_4
            try clear hcz24_0
            try clear hcz24_1
            try clear hcz24_2
            try clear hcz24_3
            try clear hcz24_4
            try clear hcz26_0
            try clear hcz26_1
            try clear hcz26_2
            try clear hcz26_3
            try clear hcz26_4
            try clear hcz31_0
            try clear hcz31_1
            try clear hcz31_2
            try clear hcz31_3
            try clear hcz31_4
            try clear hcz32_0
            try clear hcz32_1
            try clear hcz32_2
            try clear hcz32_3
            try clear hcz32_4
            try clear hcz34_0
            try clear hcz34_1
            try clear hcz34_2
            try clear hcz34_3
            try clear hcz34_4
            try clear hcz35_0
            try clear hcz35_1
            try clear hcz35_2
            try clear hcz35_3
            try clear hcz35_4
            try clear hcz41_0
            try clear hcz41_1
            try clear hcz41_2
            try clear hcz41_3
            try clear hcz41_4
            try clear hcz42_0
            try clear hcz42_1
            try clear hcz42_2
            try clear hcz42_3
            try clear hcz42_4
            try clear hcz44_0
            try clear hcz44_1
            try clear hcz44_2
            try clear hcz44_3
            try clear hcz44_4
            try clear hcz45_0
            try clear hcz45_1
            try clear hcz45_2
            try clear hcz45_3
            try clear hcz45_4
            try clear hcz52_0
            try clear hcz52_1
            try clear hcz52_2
            try clear hcz52_3
            try clear hcz52_4
            try clear hcz53_0
            try clear hcz53_1
            try clear hcz53_2
            try clear hcz53_3
            try clear hcz53_4
            try clear hcz56_0
            try clear hcz56_1
            try clear hcz56_2
            try clear hcz56_3
            try clear hcz56_4
            try clear hcz57_0
            try clear hcz57_1
            try clear hcz57_2
            try clear hcz57_3
            try clear hcz57_4
            try clear hcz59_0
            try clear hcz59_1
            try clear hcz59_2
            try clear hcz59_3
            try clear hcz59_4
            try clear hcz60_0
            try clear hcz60_1
            try clear hcz60_2
            try clear hcz60_3
            try clear hcz60_4
            try clear hcz62_0
            try clear hcz62_1
            try clear hcz62_2
            try clear hcz62_3
            try clear hcz62_4
            try clear hcz63_0
            try clear hcz63_1
            try clear hcz63_2
            try clear hcz63_3
            try clear hcz63_4
            try clear hfz11_0
            try clear hfz11_1
            try clear hfz11_2
            try clear hfz11_3
            try clear hfz11_4
            try clear hfz15_0
            try clear hfz15_1
            try clear hfz15_2
            try clear hfz15_3
            try clear hfz15_4
            try clear hfz18_0
            try clear hfz18_1
            try clear hfz18_2
            try clear hfz18_3
            try clear hfz18_4
            try clear hfz21_0
            try clear hfz21_1
            try clear hfz21_2
            try clear hfz21_3
            try clear hfz21_4
            try clear hfz24_0
            try clear hfz24_1
            try clear hfz24_2
            try clear hfz24_3
            try clear hfz24_4
            try clear hfz26_0
            try clear hfz26_1
            try clear hfz26_2
            try clear hfz26_3
            try clear hfz26_4
            try clear hfz31_0
            try clear hfz31_1
            try clear hfz31_2
            try clear hfz31_3
            try clear hfz31_4
            try clear hfz32_0
            try clear hfz32_1
            try clear hfz32_2
            try clear hfz32_3
            try clear hfz32_4
            try clear hfz34_0
            try clear hfz34_1
            try clear hfz34_2
            try clear hfz34_3
            try clear hfz34_4
            try clear hfz35_0
            try clear hfz35_1
            try clear hfz35_2
            try clear hfz35_3
            try clear hfz35_4
            try clear hfz41_0
            try clear hfz41_1
            try clear hfz41_2
            try clear hfz41_3
            try clear hfz41_4
            try clear hfz42_0
            try clear hfz42_1
            try clear hfz42_2
            try clear hfz42_3
            try clear hfz42_4
            try clear hfz44_0
            try clear hfz44_1
            try clear hfz44_2
            try clear hfz44_3
            try clear hfz44_4
            try clear hfz45_0
            try clear hfz45_1
            try clear hfz45_2
            try clear hfz45_3
            try clear hfz45_4
            try clear hfz52_0
            try clear hfz52_1
            try clear hfz52_2
            try clear hfz52_3
            try clear hfz52_4
            try clear hfz53_0
            try clear hfz53_1
            try clear hfz53_2
            try clear hfz53_3
            try clear hfz53_4
            try clear hfz56_0
            try clear hfz56_1
            try clear hfz56_2
            try clear hfz56_3
            try clear hfz56_4
            try clear hfz57_0
            try clear hfz57_1
            try clear hfz57_2
            try clear hfz57_3
            try clear hfz57_4
            try clear hfz59_0
            try clear hfz59_1
            try clear hfz59_2
            try clear hfz59_3
            try clear hfz59_4
            try clear hfz60_0
            try clear hfz60_1
            try clear hfz60_2
            try clear hfz60_3
            try clear hfz60_4
            try clear hfz62_0
            try clear hfz62_1
            try clear hfz62_2
            try clear hfz62_3
            try clear hfz62_4
            try clear hfz63_0
            try clear hfz63_1
            try clear hfz63_2
            try clear hfz63_3
            try clear hfz63_4
            try clear hx122_0
            try clear hx122_1
            try clear p1
            try clear p12
            try clear p122
            try clear p2
            try clear q1
            try clear q12
            try clear q122
            obtain ⟨kq,x57_46,rfl,HA,HJ46,BK118,BK128,HB⟩:=hcut
            cases kq with
            | zero=>exact absurd HA.out (by simp [z0p.j3])
            | succ kj46 =>
             have H:=HA.out
             clear HA
             simp only [z0p.j3] at H
             by_cases c64 : x57_46 = true
             ·subst c64
              have H1 : (some 3) = some r:=by rw [if_pos rfl] at H; exact H
              clear H
              have H:=H1
              clear H1
              obtain rfl:=Option.some.inj H
              go_wp2
              go_ret
              exact ⟨by first | rfl | (simp [z0i,z0h] <;> rfl) | (simp [*,z0i,z0h] <;> rfl),by repeat (first | (with_reducible first | exact HB.out | apply z04 | apply z03 | apply z05 | refine z07 ?_ GE118.out | refine z07 ?_ GE128.out) | exact HB.out)⟩
             ·replace c64:=Bool.eq_false_iff.mpr c64
              subst c64
              have H1 : (if (!(a0_0 == t123) || (!(a0_1 == t124) || (!(a0_2 == t125) || (!(a0_3 == t126) || (!(a0_4 == t127)))))) = true then (some 4) else (some 0)) = some r:=by rw [if_neg (show ¬ (false = true) by decide)] at H; exact H
              clear H
              have H:=H1
              clear H1
              by_cases c65 : (!(a0_0 == t123) || (!(a0_1 == t124) || (!(a0_2 == t125) || (!(a0_3 == t126) || (!(a0_4 == t127)))))) = true
              ·rw [if_pos c65] at H
               have c65b0 : (!(a0_0 == t123) || (!(a0_1 == t124) || (!(a0_2 == t125) || (!(a0_3 == t126) || (!(a0_4 == t127)))))) = true:=c65
               clear c65
               obtain rfl:=Option.some.inj H
               have hnb66:=NB118_128.out
               have hnc66:=NB128_118.out
               have hcz67_0 : wc.cell? ⟨gb118,0,none⟩ = some (.int .i64 a0_0):=(z02 BK118.out 0).trans rfl
               have hcz67_1 : wc.cell? ⟨gb118,1,none⟩ = some (.int .i64 a0_1):=(z02 BK118.out 1).trans rfl
               have hcz67_2 : wc.cell? ⟨gb118,2,none⟩ = some (.int .i64 a0_2):=(z02 BK118.out 2).trans rfl
               have hcz67_3 : wc.cell? ⟨gb118,3,none⟩ = some (.int .i64 a0_3):=(z02 BK118.out 3).trans rfl
               have hcz67_4 : wc.cell? ⟨gb118,4,none⟩ = some (.int .u64 a0_4):=(z02 BK118.out 4).trans rfl
               have hfz67_0:=z01 BK118.out 0
               have hfz67_1:=z01 BK118.out 1
               have hfz67_2:=z01 BK118.out 2
               have hfz67_3:=z01 BK118.out 3
               have hfz67_4:=z01 BK118.out 4
               have hcz68_0 : wc.cell? ⟨gb128,0,none⟩ = some (.int .i64 t123):=(z02 BK128.out 0).trans rfl
               have hcz68_1 : wc.cell? ⟨gb128,1,none⟩ = some (.int .i64 t124):=(z02 BK128.out 1).trans rfl
               have hcz68_2 : wc.cell? ⟨gb128,2,none⟩ = some (.int .i64 t125):=(z02 BK128.out 2).trans rfl
               have hcz68_3 : wc.cell? ⟨gb128,3,none⟩ = some (.int .i64 t126):=(z02 BK128.out 3).trans rfl
               have hcz68_4 : wc.cell? ⟨gb128,4,none⟩ = some (.int .u64 t127):=(z02 BK128.out 4).trans rfl
               have hfz68_0:=z01 BK128.out 0
               have hfz68_1:=z01 BK128.out 1
               have hfz68_2:=z01 BK128.out 2
               have hfz68_3:=z01 BK128.out 3
               have hfz68_4:=z01 BK128.out 4
               go_wp2
               go_ret
               exact ⟨by first | rfl | (simp [z0i,z0h] <;> rfl) | (simp [*,z0i,z0h] <;> rfl),by repeat (first | (with_reducible first | exact HB.out | apply z04 | apply z03 | apply z05 | refine z07 ?_ GE118.out | refine z07 ?_ GE128.out) | exact HB.out)⟩
              ·rw [if_neg c65] at H
               have c65b0 : (!(a0_0 == t123) || (!(a0_1 == t124) || (!(a0_2 == t125) || (!(a0_3 == t126) || (!(a0_4 == t127)))))) = false:=by simpa using c65
               clear c65
               obtain rfl:=Option.some.inj H
               have hnb69:=NB118_128.out
               have hnc69:=NB128_118.out
               have hcz70_0 : wc.cell? ⟨gb118,0,none⟩ = some (.int .i64 a0_0):=(z02 BK118.out 0).trans rfl
               have hcz70_1 : wc.cell? ⟨gb118,1,none⟩ = some (.int .i64 a0_1):=(z02 BK118.out 1).trans rfl
               have hcz70_2 : wc.cell? ⟨gb118,2,none⟩ = some (.int .i64 a0_2):=(z02 BK118.out 2).trans rfl
               have hcz70_3 : wc.cell? ⟨gb118,3,none⟩ = some (.int .i64 a0_3):=(z02 BK118.out 3).trans rfl
               have hcz70_4 : wc.cell? ⟨gb118,4,none⟩ = some (.int .u64 a0_4):=(z02 BK118.out 4).trans rfl
               have hfz70_0:=z01 BK118.out 0
               have hfz70_1:=z01 BK118.out 1
               have hfz70_2:=z01 BK118.out 2
               have hfz70_3:=z01 BK118.out 3
               have hfz70_4:=z01 BK118.out 4
               have hcz71_0 : wc.cell? ⟨gb128,0,none⟩ = some (.int .i64 t123):=(z02 BK128.out 0).trans rfl
               have hcz71_1 : wc.cell? ⟨gb128,1,none⟩ = some (.int .i64 t124):=(z02 BK128.out 1).trans rfl
               have hcz71_2 : wc.cell? ⟨gb128,2,none⟩ = some (.int .i64 t125):=(z02 BK128.out 2).trans rfl
               have hcz71_3 : wc.cell? ⟨gb128,3,none⟩ = some (.int .i64 t126):=(z02 BK128.out 3).trans rfl
               have hcz71_4 : wc.cell? ⟨gb128,4,none⟩ = some (.int .u64 t127):=(z02 BK128.out 4).trans rfl
               have hfz71_0:=z01 BK128.out 0
               have hfz71_1:=z01 BK128.out 1
               have hfz71_2:=z01 BK128.out 2
               have hfz71_3:=z01 BK128.out 3
               have hfz71_4:=z01 BK128.out 4
               go_wp2
               go_ret
               exact ⟨by first | rfl | (simp [z0i,z0h] <;> rfl) | (simp [*,z0i,z0h] <;> rfl),by repeat (first | (with_reducible first | exact HB.out | apply z04 | apply z03 | apply z05 | refine z07 ?_ GE118.out | refine z07 ?_ GE128.out) | exact HB.out)⟩
  ·rw [if_neg c4] at H
   exact absurd H (by simp)
 ·rw [if_neg c3] at H
  exact absurd H (by simp)
end Go.Proofs.Ytcbnhfnnjkkceaa.X
end
section
namespace Go.Proofs.Ytcbnhfnnjkkceaa.X
open Go.RowKit Go.Proofs.YtcbnhfnnjkkceaaW.PrintWords Go.Proofs.YtcbnhfnnjkkceaaW.PrintLast Go.Proofs.YtcbnhfnnjkkceaaW.PrintMore
attribute [local go_sem] max2_int min2_int max_two min_two max_three min_three max_four min_four
def code_Put.l0 : Nat → List Int → Int → Int → Int → Int → Int → Int → Option (List Int × Int)
 | 0,_,_,_,_,_,_,_=>none
 | k + 1,x4,x5,x133000,x133001,x133002,x133003,x133004=>if x5 ≥ 0 then (if 0 ≤ x5 then (if x4.length < 140737488355328 then (code_Put.l0 k (x4 ++ [(shr .u64 x133004 x5) % 256]) (wrap64 (x5 - 8)) x133000 x133001 x133002 x133003 x133004) else (none)) else (none)) else (some (x4,0))
def code_Put.f (k : Nat) (a0_0 : Int) (a0_1 : Int) (a0_2 : Int) (a0_3 : Int) (a0_4 : Int) : Option (List Int × Int):=(code_known.f a0_0).bind fun t133=>(if t133 = true then ((z0p.f k a0_0 a0_1 a0_2 a0_3 a0_4).bind fun t134=>(if t134 = 0 then (code_Put.l0 k (([(a0_0) % 256,(a0_1) % 256,(a0_2) % 256,(a0_3) % 256] : List Int)) 56 a0_0 a0_1 a0_2 a0_3 a0_4) else (some (([] : List Int),5)))) else (some (([] : List Int),4)))
theorem code_Put.mono_l : ∀ k,(∀ y0 y1 y2 y3 y4 y5 y6,LeO (code_Put.l0 k y0 y1 y2 y3 y4 y5 y6) (code_Put.l0 (k + 1) y0 y1 y2 y3 y4 y5 y6))
 | 0=>fun _ _ _ _ _ _ _ r h=>by simp [code_Put.l0] at h
 | k + 1=>by
  have ih0:=code_Put.mono_l k
  ·intro y0 y1 y2 y3 y4 y5 y6
   unfold code_Put.l0
   repeat' first
   | (with_reducible exact ih0 _ _ _ _ _ _ _)
   | (with_reducible exact z0p.mono _ _ _ _ _ _)
   | (with_reducible exact LeO.refl _)
   | (with_reducible exact LeO.none _)
   | (with_reducible refine LeO.ite ?_ ?_)
   | (with_reducible refine LeO.bind ?_ (fun _=>?_))
   | exact ih0 _ _ _ _ _ _ _
   | exact z0p.mono _ _ _ _ _ _
   | exact LeO.none _
   | refine LeO.ite ?_ ?_
   | refine LeO.bind ?_ (fun _=>?_)
theorem code_Put.mono : ∀ a0 a1 a2 a3 a4 k,LeO (code_Put.f k a0 a1 a2 a3 a4) (code_Put.f (k + 1) a0 a1 a2 a3 a4):=by
 intro a0 a1 a2 a3 a4 k
 have ih0:=code_Put.mono_l k
 unfold code_Put.f
 repeat' first
   | (with_reducible exact ih0 _ _ _ _ _ _ _)
   | (with_reducible exact z0p.mono _ _ _ _ _ _)
   | (with_reducible exact LeO.refl _)
   | (with_reducible exact LeO.none _)
   | (with_reducible refine LeO.ite ?_ ?_)
   | (with_reducible refine LeO.bind ?_ (fun _=>?_))
   | exact ih0 _ _ _ _ _ _ _
   | exact z0p.mono _ _ _ _ _ _
   | exact LeO.none _
   | refine LeO.ite ?_ ?_
   | refine LeO.bind ?_ (fun _=>?_)
set_option maxHeartbeats 8000000 in
set_option maxRecDepth 100000 in
theorem code_Put.calls (k : Nat) (a0_0 : Int) (a0_1 : Int) (a0_2 : Int) (a0_3 : Int) (a0_4 : Int) (r1 : List Int) (r2 : Int) (w : World) (h : code_Put.f k a0_0 a0_1 a0_2 a0_3 a0_4 = some (r1,r2)) :
  Calls Try.prog 32 #[.agg #[.int .i64 a0_0,.int .i64 a0_1,.int .i64 a0_2,.int .i64 a0_3,.int .u64 a0_4]] w fun e w'=>∃ v0_ : Value,e = .returned (.tuple #[v0_,.int .i64 r2]) ∧ Kd.R (Kd.int .u8) 5 w' w.heap.size (fun _=>True) v0_ r1 ∧ Below w.heap.size w w':=by
 have hu45:=Try.underlying45
 have HB:=Aside0.mk (Below.refl w.heap.size w)
 have H : ((code_known.f a0_0).bind fun t133=>(if t133 = true then ((z0p.f k a0_0 a0_1 a0_2 a0_3 a0_4).bind fun t134=>(if t134 = 0 then (code_Put.l0 k (([(a0_0) % 256,(a0_1) % 256,(a0_2) % 256,(a0_3) % 256] : List Int)) 56 a0_0 a0_1 a0_2 a0_3 a0_4) else (some (([] : List Int),5)))) else (some (([] : List Int),4)))) = some (r1,r2):=h
 clear h
 replace H:=Option.bind_eq_some_iff.mp H
 obtain ⟨t133,A20,H⟩:=H
 replace H : (if t133 = true then ((z0p.f k a0_0 a0_1 a0_2 a0_3 a0_4).bind fun t134=>(if t134 = 0 then (code_Put.l0 k (([(a0_0) % 256,(a0_1) % 256,(a0_2) % 256,(a0_3) % 256] : List Int)) 56 a0_0 a0_1 a0_2 a0_3 a0_4) else (some (([] : List Int),5)))) else (some (([] : List Int),4))) = some (r1,r2):=H
 have A2:=Aside0.mk A20
 clear A20
 by_cases c3 : t133 = true
 ·subst c3
  have H1 : ((z0p.f k a0_0 a0_1 a0_2 a0_3 a0_4).bind fun t134=>(if t134 = 0 then (code_Put.l0 k (([(a0_0) % 256,(a0_1) % 256,(a0_2) % 256,(a0_3) % 256] : List Int)) 56 a0_0 a0_1 a0_2 a0_3 a0_4) else (some (([] : List Int),5)))) = some (r1,r2):=by rw [if_pos rfl] at H; exact H
  clear H
  have H:=H1
  clear H1
  replace H:=Option.bind_eq_some_iff.mp H
  obtain ⟨t134,A40,H⟩:=H
  replace H : (if t134 = 0 then (code_Put.l0 k (([(a0_0) % 256,(a0_1) % 256,(a0_2) % 256,(a0_3) % 256] : List Int)) 56 a0_0 a0_1 a0_2 a0_3 a0_4) else (some (([] : List Int),5))) = some (r1,r2):=H
  have A4:=Aside0.mk A40
  clear A40
  by_cases c5 : t134 = 0
  ·rw [if_pos c5] at H
   have c5b0 : (t134 == 0) = true:=beq_iff_eq.mpr c5
   have c5b1 : (t134 != 0) = false:=bne_eq_false_iff_eq.mpr c5
   clear c5
   obtain ⟨y135,hy135⟩ : ∃ y_ : List Int,y_ = (([(a0_0) % 256,(a0_1) % 256,(a0_2) % 256,(a0_3) % 256] : List Int)):=⟨_,rfl⟩
   replace H : (code_Put.l0 k y135 56 a0_0 a0_1 a0_2 a0_3 a0_4) = some (r1,r2):=by first | (rw [hy135]; with_reducible exact H) | (have H2_:=(Option.bind_some _ _).symm.trans H; rw [hy135]; with_reducible exact H2_) | (have H2_:=(Option.bind_some _ _).symm.trans H; with_reducible exact H2_) | with_reducible exact H | (rw [hy135]; exact H) | exact H
   have Ny135:=Aside0.mk hy135
   clear hy135
   have H':=Aside0.mk H
   clear H
   go_enter Try.func32,Try.ntmps32
   go_wp2_with (first | ((with_reducible refine z10 (N:=1) rfl ?_); refine box_event ?hg (N:=1) ?hd (cs:=#[.int .i64 a0_0,.int .i64 a0_1,.int .i64 a0_2,.int .i64 a0_3,.int .u64 a0_4]) (t:=45) ?hr ?_; (case hd=>rfl); (case hg=>rfl); (case hr=>first | (go_simp; done) | (go_simp; rfl)); intro gb132 hg w6 hbox hb; have n0_:=Aside0.mk (z0s (by repeat (first | (with_reducible first | exact HB.out | apply z04 | apply z03 | apply z05) | exact HB.out)) hb); have n1_:=Aside0.mk (hbox); have n2_:=Aside0.mk ((by rw [hg]; exact (z0l (by repeat (first | (with_reducible first | exact HB.out | apply z04 | apply z03 | apply z05) | exact HB.out))) : w.heap.size ≤ gb132)); have n3_:=Aside0.mk ((by rw [hg]; exact (z0l (by repeat (first | (with_reducible first | exact HB.out | apply z04 | apply z03 | apply z05) | exact HB.out))) : w.heap.size ≤ gb132)); clear HB; have HB:=n0_; have BK132:=n1_; have GW132:=n2_; have GE132:=n3_; clear n0_ n1_ n2_ n3_; clear hb hbox hg; have hcz7_0 : w6.cell? ⟨gb132,0,none⟩ = some (.int .i64 a0_0):=(z02 BK132.out 0).trans rfl; have hcz7_1 : w6.cell? ⟨gb132,1,none⟩ = some (.int .i64 a0_1):=(z02 BK132.out 1).trans rfl; have hcz7_2 : w6.cell? ⟨gb132,2,none⟩ = some (.int .i64 a0_2):=(z02 BK132.out 2).trans rfl; have hcz7_3 : w6.cell? ⟨gb132,3,none⟩ = some (.int .i64 a0_3):=(z02 BK132.out 3).trans rfl; have hcz7_4 : w6.cell? ⟨gb132,4,none⟩ = some (.int .u64 a0_4):=(z02 BK132.out 4).trans rfl; have hfz7_0:=z01 BK132.out 0; have hfz7_1:=z01 BK132.out 1; have hfz7_2:=z01 BK132.out 2; have hfz7_3:=z01 BK132.out 3; have hfz7_4:=z01 BK132.out 4) | ((with_reducible refine z0t (f:=43) rfl ?_); refine goesL_ (some 8) rfl rfl Try.func43 (by kernel_rfl) rfl #[.int .i64 a0_0] rfl (by (try simp only [List.map_toArray,List.map_cons,List.map_nil]); first | done | rfl | (simp only [List.length_drop,List.length_take]; rfl)) ?_; (with_reducible refine (code_known.calls a0_0 true _ A2.out).mono ?_); rintro e w' ⟨rfl,⟨nd,rfl⟩⟩; refine ⟨_,rfl,?_⟩) | ((with_reducible refine z0t (f:=44) rfl ?_); refine goesL_ (some 11) rfl rfl Try.func44 (by kernel_rfl) rfl #[.agg #[.int .i64 a0_0,.int .i64 a0_1,.int .i64 a0_2,.int .i64 a0_3,.int .u64 a0_4]] rfl (by (try simp only [List.map_toArray,List.map_cons,List.map_nil]); first | done | rfl | (simp only [List.length_drop,List.length_take]; rfl)) ?_; (with_reducible refine (z0p.calls k a0_0 a0_1 a0_2 a0_3 a0_4 t134 _ A4.out).mono ?_); rintro e w8 ⟨rfl,hb⟩; refine ⟨_,rfl,?_⟩; have n0_:=Aside0.mk (z0v (g:=gb132) (o:=.cells #[.int .i64 a0_0,.int .i64 a0_1,.int .i64 a0_2,.int .i64 a0_3,.int .u64 a0_4] 45 (0,0)) (by (with_reducible repeat (first | refine z08 ?_ _ | refine z09 ?_ | refine z06 ?_ _)); exact BK132.out) hb); have n1_:=Aside0.mk (z0s (by repeat (first | (with_reducible first | exact HB.out | apply z04 | apply z03 | apply z05 | refine z07 ?_ GE132.out) | exact HB.out)) hb); clear BK132; clear HB; have BK132:=n0_; have HB:=n1_; clear n0_ n1_; (try clear hb); (try clear hb2); (try clear hk); (try clear hi); have hcz9_0 : w8.cell? ⟨gb132,0,none⟩ = some (.int .i64 a0_0):=(z02 BK132.out 0).trans rfl; have hcz9_1 : w8.cell? ⟨gb132,1,none⟩ = some (.int .i64 a0_1):=(z02 BK132.out 1).trans rfl; have hcz9_2 : w8.cell? ⟨gb132,2,none⟩ = some (.int .i64 a0_2):=(z02 BK132.out 2).trans rfl; have hcz9_3 : w8.cell? ⟨gb132,3,none⟩ = some (.int .i64 a0_3):=(z02 BK132.out 3).trans rfl; have hcz9_4 : w8.cell? ⟨gb132,4,none⟩ = some (.int .u64 a0_4):=(z02 BK132.out 4).trans rfl; have hfz9_0:=z01 BK132.out 0; have hfz9_1:=z01 BK132.out 1; have hfz9_2:=z01 BK132.out 2; have hfz9_3:=z01 BK132.out 3; have hfz9_4:=z01 BK132.out 4) | ((with_reducible refine z10 (N:=25) rfl ?_); refine Kd.R_lit (Kd.int .u8) _ 5 ?hg (N:=25) ?hd (xs:=([(a0_0) % 256,(a0_1) % 256,(a0_2) % 256,(a0_3) % 256] : List Int)) (inner:=[.int .u8 ((a0_0) % 256),.int .u8 ((a0_1) % 256),.int .u8 ((a0_2) % 256),.int .u8 ((a0_3) % 256)]) (ok:=fun _=>True) (okp:=fun _=>True) ?hr ?hp (fun _ hk=>hk) trivial (Below.refl _ _) (Nat.le_refl _) (by simp) ?_; (case hd=>rfl); (case hg=>rfl); (case hr=>first | (go_simp; done) | (go_simp; rfl)); (case hp=>exact (Reps.one (show Kd.M (Kd.int .u8) _ _ _ ((a0_0) % 256) [.int .u8 ((a0_0) % 256)] from rfl) (Reps.one (show Kd.M (Kd.int .u8) _ _ _ ((a0_1) % 256) [.int .u8 ((a0_1) % 256)] from rfl) (Reps.one (show Kd.M (Kd.int .u8) _ _ _ ((a0_2) % 256) [.int .u8 ((a0_2) % 256)] from rfl) (Reps.one (show Kd.M (Kd.int .u8) _ _ _ ((a0_3) % 256) [.int .u8 ((a0_3) % 256)] from rfl) (Reps.none _ _)))))); intro v136 w10 ho11 hb hg_ hnew_; clear hg_ hnew_; (first | rw [← Ny135.out] at ho11 | (simp only [Int.reduceToNat] at ho11; rw [← Ny135.out] at ho11)); have n0_:=Aside0.mk (Kd.R_lower ho11 (z0l (by repeat (first | (with_reducible first | exact HB.out | apply z04 | apply z03 | apply z05 | refine z07 ?_ GE132.out) | exact HB.out)))); have n1_:=Aside0.mk (z0v (g:=gb132) (o:=.cells #[.int .i64 a0_0,.int .i64 a0_1,.int .i64 a0_2,.int .i64 a0_3,.int .u64 a0_4] 45 (0,0)) (by (with_reducible repeat (first | refine z08 ?_ _ | refine z09 ?_ | refine z06 ?_ _)); exact BK132.out) hb); have n2_:=Aside0.mk (z0s (by repeat (first | (with_reducible first | exact HB.out | apply z04 | apply z03 | apply z05 | refine z07 ?_ GE132.out) | exact HB.out)) hb); clear BK132; clear HB; have HO137:=n0_; have BK132:=n1_; have HB:=n2_; clear n0_ n1_ n2_; clear hb ho11))
   go_loopg [4,5] k (fun kq v4 v5 w'=>∃ (x4_1 : List Int) (x5_1 : Int),v5 = .int .i64 x5_1 ∧ Aside0 (code_Put.l0 kq x4_1 x5_1 a0_0 a0_1 a0_2 a0_3 a0_4 = some (r1,r2)) ∧ Aside0 (kq ≤ k) ∧ Aside0 (Kd.R (Kd.int .u8) 5 w' w.heap.size (fun _=>True) v4 x4_1) ∧ Aside0 (w'.heap[gb132]? = some (.cells #[.int .i64 a0_0,.int .i64 a0_1,.int .i64 a0_2,.int .i64 a0_3,.int .u64 a0_4] 45 (0,0))) ∧ Aside0 (Below w.heap.size w w'))
   case atStart=>exact ⟨(y135),(56),(by first | rfl | (simp; done) | (simp [*]; done)),H',⟨Nat.le_refl _⟩,⟨by (with_reducible repeat (first | apply Kd.R_alloc | apply Kd.R_drewN | apply Kd.R_drew)); exact HO137.out⟩,⟨by (with_reducible repeat (first | refine z08 ?_ _ | refine z09 ?_ | refine z06 ?_ _)); exact BK132.out⟩,⟨by repeat (first | (with_reducible first | exact HB.out | apply z04 | apply z03 | apply z05 | refine z07 ?_ GE132.out) | exact HB.out)⟩⟩
   case round =>
    clear H'
    try clear p2
    try clear c3
    try clear c4
    try clear c5
    try clear c5b0
    try clear c5b1
    try clear hcz7_0
    try clear hcz7_1
    try clear hcz7_2
    try clear hcz7_3
    try clear hcz7_4
    try clear hcz9_0
    try clear hcz9_1
    try clear hcz9_2
    try clear hcz9_3
    try clear hcz9_4
    try clear hfz7_0
    try clear hfz7_1
    try clear hfz7_2
    try clear hfz7_3
    try clear hfz7_4
    try clear hfz9_0
    try clear hfz9_1
    try clear hfz9_2
    try clear hfz9_3
    try clear hfz9_4
    obtain ⟨x4_1,x5_1,rfl,HA,HK1,HO_4,BK132,HB⟩:=hrel
    cases gk with
    | zero=>exact absurd HA.out (by simp [code_Put.l0])
    | succ k1 =>
     have H:=HA.out
     clear HA
     simp only [code_Put.l0] at H
     by_cases c12 : x5_1 ≥ 0
     ·rw [if_pos c12] at H
      have c12b0 : decide (0 ≤ x5_1) = true:=decide_eq_true c12
      clear c12
      by_cases c13 : 0 ≤ x5_1
      ·rw [if_pos c13] at H
       have c13b0:=eq_true c13
       have c13b1 : decide (0 ≤ x5_1) = true:=decide_eq_true c13
       clear c13
       obtain ⟨ji14,hji14⟩ : ∃ j_ : Int,(shr .u64 a0_4 x5_1) = j_:=⟨_,rfl⟩
       replace H : (if x4_1.length < 140737488355328 then (code_Put.l0 k1 (x4_1 ++ [(ji14) % 256]) (wrap64 (x5_1 - 8)) a0_0 a0_1 a0_2 a0_3 a0_4) else (none)) = some (r1,r2):=by first | (rw [hji14] at H; exact H) | (simp only [hji14] at H ⊢; exact H)
       have hji14_ : (a0_4 / 2 ^ min x5_1.toNat 64) = ji14:=hji14
       have hji14z : x5_1 ≤ 64 → (a0_4 / 2 ^ x5_1.toNat) = ji14:=shr_small hji14
       by_cases c15 : x4_1.length < 140737488355328
       ·rw [if_pos c15] at H
        have LMc15:=Aside0.mk c15
        clear c15
        obtain ⟨y138,hy138⟩ : ∃ y_ : List Int,y_ = (x4_1 ++ [(ji14) % 256]):=⟨_,rfl⟩
        replace H : (code_Put.l0 k1 y138 (wrap64 (x5_1 - 8)) a0_0 a0_1 a0_2 a0_3 a0_4) = some (r1,r2):=by first | (rw [hy138]; with_reducible exact H) | (have H2_:=(Option.bind_some _ _).symm.trans H; rw [hy138]; with_reducible exact H2_) | (have H2_:=(Option.bind_some _ _).symm.trans H; with_reducible exact H2_) | with_reducible exact H | (rw [hy138]; exact H) | exact H
        have Ny138:=Aside0.mk hy138
        clear hy138
        have H':=Aside0.mk H
        clear H
        have hcz16_0 : wr.cell? ⟨gb132,0,none⟩ = some (.int .i64 a0_0):=(z02 BK132.out 0).trans rfl
        have hcz16_1 : wr.cell? ⟨gb132,1,none⟩ = some (.int .i64 a0_1):=(z02 BK132.out 1).trans rfl
        have hcz16_2 : wr.cell? ⟨gb132,2,none⟩ = some (.int .i64 a0_2):=(z02 BK132.out 2).trans rfl
        have hcz16_3 : wr.cell? ⟨gb132,3,none⟩ = some (.int .i64 a0_3):=(z02 BK132.out 3).trans rfl
        have hcz16_4 : wr.cell? ⟨gb132,4,none⟩ = some (.int .u64 a0_4):=(z02 BK132.out 4).trans rfl
        have hfz16_0:=z01 BK132.out 0
        have hfz16_1:=z01 BK132.out 1
        have hfz16_2:=z01 BK132.out 2
        have hfz16_3:=z01 BK132.out 3
        have hfz16_4:=z01 BK132.out 4
        go_wp2_with (first | ((with_reducible refine gate_builtin (b:=.append) (xs:=#[.tmp 30,.tmp 36]) rfl ?_); at_builtin; refine Kd.R_append (Kd.int .u8) (w0:=w) w.heap.size rfl (.tmp 30) (.tmp 36) 22 5 (.int .u8 0) 1 rfl Try.underlying22 info5 rfl (by decide) (by omega) u4 x4_1 ((ji14) % 256) [.int .u8 ((ji14) % 256)] (fun _=>True) (fun _=>False) rfl rfl ?aP (fun _ hk=>hk.elim) ?aF ?aO ?aB ?aS ?aL ?_; (case aP=>exact rfl); (case aB=>exact (by repeat (first | (with_reducible first | exact HB.out | apply z04 | apply z03 | apply z05 | refine z07 ?_ GE132.out) | exact HB.out))); (case aF=>exact (fun _ _=>trivial)); (case aO=>exact (by (with_reducible repeat (first | apply Kd.R_alloc | apply Kd.R_drewN | apply Kd.R_drew)); exact HO_4.out)); (case aS=>exact (z0l (by repeat (first | (with_reducible first | exact HB.out | apply z04 | apply z03 | apply z05 | refine z07 ?_ GE132.out) | exact HB.out)))); (case aL=>have:=LMc15.out; omega); intro v139 w17 ho hb hg hat; rw [← Ny138.out] at ho; have n0_:=Aside0.mk (blk_grown (g:=gb132) (o:=.cells #[.int .i64 a0_0,.int .i64 a0_1,.int .i64 a0_2,.int .i64 a0_3,.int .u64 a0_4] 45 (0,0)) (by (with_reducible repeat (first | refine z08 ?_ _ | refine z09 ?_ | refine z06 ?_ _)); exact BK132.out) hg (Kd.R_ne HO_4.out BK132.out (by decide))); have n1_:=Aside0.mk (hb); have n2_:=Aside0.mk (ho); clear BK132; clear HB; clear HO_4; have BK132:=n0_; have HB:=n1_; have HO140:=n2_; clear n0_ n1_ n2_; clear ho hb hg hat))
        go_roundg k1
        case measure=>have:=HK1.out; omega
        case rel=>exact ⟨(y138),(wrap64 (x5_1 - 8)),(by first | rfl | (simp; done) | (simp [*]; done)),H',⟨by have:=HK1.out; omega⟩,⟨by (with_reducible repeat (first | apply Kd.R_alloc | apply Kd.R_drewN | apply Kd.R_drew)); exact HO140.out⟩,⟨by (with_reducible repeat (first | refine z08 ?_ _ | refine z09 ?_ | refine z06 ?_ _)); exact BK132.out⟩,⟨by repeat (first | (with_reducible first | exact HB.out | apply z04 | apply z03 | apply z05 | refine z07 ?_ GE132.out) | exact HB.out)⟩⟩
       ·rw [if_neg c15] at H
        exact absurd H (by simp)
      ·rw [if_neg c13] at H
       exact absurd H (by simp)
     ·rw [if_neg c12] at H
      have c12b0 : decide (0 ≤ x5_1) = false:=decide_eq_false c12
      clear c12
      simp only [Option.some.injEq,Prod.mk.injEq] at H
      obtain ⟨rfl,rfl⟩:=H
      go_wp2
      go_ret2
      exact ⟨_,by first | rfl | (simp [z0i,z0h] <;> rfl) | (simp [*,z0i,z0h] <;> rfl),by (with_reducible repeat (first | apply Kd.R_alloc | apply Kd.R_drewN | apply Kd.R_drew)); exact HO_4.out,by repeat (first | (with_reducible first | exact HB.out | apply z04 | apply z03 | apply z05 | refine z07 ?_ GE132.out) | exact HB.out)⟩
  ·rw [if_neg c5] at H
   have c5b0 : (t134 == 0) = false:=beq_eq_false_iff_ne.mpr c5
   have c5b1 : (t134 != 0) = true:=bne_iff_ne.mpr c5
   simp only [Option.some.injEq,Prod.mk.injEq] at H
   obtain ⟨rfl,rfl⟩:=H
   go_enter Try.func32,Try.ntmps32
   go_wp2_with (first | ((with_reducible refine z10 (N:=1) rfl ?_); refine box_event ?hg (N:=1) ?hd (cs:=#[.int .i64 a0_0,.int .i64 a0_1,.int .i64 a0_2,.int .i64 a0_3,.int .u64 a0_4]) (t:=45) ?hr ?_; (case hd=>rfl); (case hg=>rfl); (case hr=>first | (go_simp; done) | (go_simp; rfl)); intro gb132 hg w18 hbox hb; have n0_:=Aside0.mk (z0s (by repeat (first | (with_reducible first | exact HB.out | apply z04 | apply z03 | apply z05) | exact HB.out)) hb); have n1_:=Aside0.mk (hbox); have n2_:=Aside0.mk ((by rw [hg]; exact (z0l (by repeat (first | (with_reducible first | exact HB.out | apply z04 | apply z03 | apply z05) | exact HB.out))) : w.heap.size ≤ gb132)); have n3_:=Aside0.mk ((by rw [hg]; exact (z0l (by repeat (first | (with_reducible first | exact HB.out | apply z04 | apply z03 | apply z05) | exact HB.out))) : w.heap.size ≤ gb132)); clear HB; have HB:=n0_; have BK132:=n1_; have GW132:=n2_; have GE132:=n3_; clear n0_ n1_ n2_ n3_; clear hb hbox hg; have hcz19_0 : w18.cell? ⟨gb132,0,none⟩ = some (.int .i64 a0_0):=(z02 BK132.out 0).trans rfl; have hcz19_1 : w18.cell? ⟨gb132,1,none⟩ = some (.int .i64 a0_1):=(z02 BK132.out 1).trans rfl; have hcz19_2 : w18.cell? ⟨gb132,2,none⟩ = some (.int .i64 a0_2):=(z02 BK132.out 2).trans rfl; have hcz19_3 : w18.cell? ⟨gb132,3,none⟩ = some (.int .i64 a0_3):=(z02 BK132.out 3).trans rfl; have hcz19_4 : w18.cell? ⟨gb132,4,none⟩ = some (.int .u64 a0_4):=(z02 BK132.out 4).trans rfl; have hfz19_0:=z01 BK132.out 0; have hfz19_1:=z01 BK132.out 1; have hfz19_2:=z01 BK132.out 2; have hfz19_3:=z01 BK132.out 3; have hfz19_4:=z01 BK132.out 4) | ((with_reducible refine z0t (f:=43) rfl ?_); refine goesL_ (some 8) rfl rfl Try.func43 (by kernel_rfl) rfl #[.int .i64 a0_0] rfl (by (try simp only [List.map_toArray,List.map_cons,List.map_nil]); first | done | rfl | (simp only [List.length_drop,List.length_take]; rfl)) ?_; (with_reducible refine (code_known.calls a0_0 true _ A2.out).mono ?_); rintro e w' ⟨rfl,⟨nd,rfl⟩⟩; refine ⟨_,rfl,?_⟩) | ((with_reducible refine z0t (f:=44) rfl ?_); refine goesL_ (some 11) rfl rfl Try.func44 (by kernel_rfl) rfl #[.agg #[.int .i64 a0_0,.int .i64 a0_1,.int .i64 a0_2,.int .i64 a0_3,.int .u64 a0_4]] rfl (by (try simp only [List.map_toArray,List.map_cons,List.map_nil]); first | done | rfl | (simp only [List.length_drop,List.length_take]; rfl)) ?_; (with_reducible refine (z0p.calls k a0_0 a0_1 a0_2 a0_3 a0_4 t134 _ A4.out).mono ?_); rintro e w20 ⟨rfl,hb⟩; refine ⟨_,rfl,?_⟩; have n0_:=Aside0.mk (z0v (g:=gb132) (o:=.cells #[.int .i64 a0_0,.int .i64 a0_1,.int .i64 a0_2,.int .i64 a0_3,.int .u64 a0_4] 45 (0,0)) (by (with_reducible repeat (first | refine z08 ?_ _ | refine z09 ?_ | refine z06 ?_ _)); exact BK132.out) hb); have n1_:=Aside0.mk (z0s (by repeat (first | (with_reducible first | exact HB.out | apply z04 | apply z03 | apply z05 | refine z07 ?_ GE132.out) | exact HB.out)) hb); clear BK132; clear HB; have BK132:=n0_; have HB:=n1_; clear n0_ n1_; (try clear hb); (try clear hb2); (try clear hk); (try clear hi)))
   go_ret2
   exact ⟨_,by first | rfl | (simp [z0i,z0h] <;> rfl) | (simp [*,z0i,z0h] <;> rfl),by first | exact Kd.R_nil _ _ _ _ _ | exact Kd.N_nil _ _ _ _ _ | exact Kd.V_nil _ _ _ _ _ | exact Kd.Q_nil _ _ _ _ _ | exact Kd.S_nil _ _ _ _ _,by repeat (first | (with_reducible first | exact HB.out | apply z04 | apply z03 | apply z05 | refine z07 ?_ GE132.out) | exact HB.out)⟩
 ·replace c3:=Bool.eq_false_iff.mpr c3
  subst c3
  have H1 : (some (([] : List Int),4)) = some (r1,r2):=by rw [if_neg (show ¬ (false = true) by decide)] at H; exact H
  clear H
  have H:=H1
  clear H1
  simp only [Option.some.injEq,Prod.mk.injEq] at H
  obtain ⟨rfl,rfl⟩:=H
  go_enter Try.func32,Try.ntmps32
  go_wp2_with (first | ((with_reducible refine z10 (N:=1) rfl ?_); refine box_event ?hg (N:=1) ?hd (cs:=#[.int .i64 a0_0,.int .i64 a0_1,.int .i64 a0_2,.int .i64 a0_3,.int .u64 a0_4]) (t:=45) ?hr ?_; (case hd=>rfl); (case hg=>rfl); (case hr=>first | (go_simp; done) | (go_simp; rfl)); intro gb132 hg w21 hbox hb; have n0_:=Aside0.mk (z0s (by repeat (first | (with_reducible first | exact HB.out | apply z04 | apply z03 | apply z05) | exact HB.out)) hb); have n1_:=Aside0.mk (hbox); have n2_:=Aside0.mk ((by rw [hg]; exact (z0l (by repeat (first | (with_reducible first | exact HB.out | apply z04 | apply z03 | apply z05) | exact HB.out))) : w.heap.size ≤ gb132)); have n3_:=Aside0.mk ((by rw [hg]; exact (z0l (by repeat (first | (with_reducible first | exact HB.out | apply z04 | apply z03 | apply z05) | exact HB.out))) : w.heap.size ≤ gb132)); clear HB; have HB:=n0_; have BK132:=n1_; have GW132:=n2_; have GE132:=n3_; clear n0_ n1_ n2_ n3_; clear hb hbox hg; have hcz22_0 : w21.cell? ⟨gb132,0,none⟩ = some (.int .i64 a0_0):=(z02 BK132.out 0).trans rfl; have hcz22_1 : w21.cell? ⟨gb132,1,none⟩ = some (.int .i64 a0_1):=(z02 BK132.out 1).trans rfl; have hcz22_2 : w21.cell? ⟨gb132,2,none⟩ = some (.int .i64 a0_2):=(z02 BK132.out 2).trans rfl; have hcz22_3 : w21.cell? ⟨gb132,3,none⟩ = some (.int .i64 a0_3):=(z02 BK132.out 3).trans rfl; have hcz22_4 : w21.cell? ⟨gb132,4,none⟩ = some (.int .u64 a0_4):=(z02 BK132.out 4).trans rfl; have hfz22_0:=z01 BK132.out 0; have hfz22_1:=z01 BK132.out 1; have hfz22_2:=z01 BK132.out 2; have hfz22_3:=z01 BK132.out 3; have hfz22_4:=z01 BK132.out 4) | ((with_reducible refine z0t (f:=43) rfl ?_); refine goesL_ (some 8) rfl rfl Try.func43 (by kernel_rfl) rfl #[.int .i64 a0_0] rfl (by (try simp only [List.map_toArray,List.map_cons,List.map_nil]); first | done | rfl | (simp only [List.length_drop,List.length_take]; rfl)) ?_; (with_reducible refine (code_known.calls a0_0 false _ A2.out).mono ?_); rintro e w' ⟨rfl,⟨nd,rfl⟩⟩; refine ⟨_,rfl,?_⟩))
  go_ret2
  exact ⟨_,by first | rfl | (simp [z0i,z0h] <;> rfl) | (simp [*,z0i,z0h] <;> rfl),by first | exact Kd.R_nil _ _ _ _ _ | exact Kd.N_nil _ _ _ _ _ | exact Kd.V_nil _ _ _ _ _ | exact Kd.Q_nil _ _ _ _ _ | exact Kd.S_nil _ _ _ _ _,by repeat (first | (with_reducible first | exact HB.out | apply z04 | apply z03 | apply z05 | refine z07 ?_ GE132.out) | exact HB.out)⟩
def z13.l0 : Nat → List Int → Int → Int → Option (List Int)
 | 0,_,_,_=>none
 | k + 1,x3,x10,x11=>if x11 < x10 then (if 0 ≤ x11 then (if x11 < (x3.length : Int) then (z13.l0 k (x3.set (x11 : Int).toNat x11) x10 (wrap64 (x11 + 1))) else (none)) else (none)) else (some x3)
def z13.f (k : Nat) (a0_0 : Int) (a0_1 : Int) (a0_2 : Int) (l0_3 : List Int) (l0_4 : List Int) (l0_5 : List (S45)) : Option (List Int):=if 0 ≤ (l0_5.length : Int) then (if ((l0_5.length : Int) : Int).toNat ≤ 35184372088832 then ((some (List.replicate ((l0_5.length : Int) : Int).toNat 0 : List Int)).bind fun y142=>(z13.l0 k y142 (y142.length : Int) 0)) else (none)) else (none)
theorem z13.mono_l : ∀ k,(∀ y0 y1 y2,LeO (z13.l0 k y0 y1 y2) (z13.l0 (k + 1) y0 y1 y2))
 | 0=>fun _ _ _ r h=>by simp [z13.l0] at h
 | k + 1=>by
  have ih0:=z13.mono_l k
  ·intro y0 y1 y2
   unfold z13.l0
   repeat' first
   | (with_reducible exact ih0 _ _ _)
   | (with_reducible exact LeO.refl _)
   | (with_reducible exact LeO.none _)
   | (with_reducible refine LeO.ite ?_ ?_)
   | (with_reducible refine LeO.bind ?_ (fun _=>?_))
   | exact ih0 _ _ _
   | exact LeO.none _
   | refine LeO.ite ?_ ?_
   | refine LeO.bind ?_ (fun _=>?_)
theorem z13.mono : ∀ a0 a1 a2 a3 a4 a5 k,LeO (z13.f k a0 a1 a2 a3 a4 a5) (z13.f (k + 1) a0 a1 a2 a3 a4 a5):=by
 intro a0 a1 a2 a3 a4 a5 k
 have ih0:=z13.mono_l k
 unfold z13.f
 repeat' first
   | (with_reducible exact ih0 _ _ _)
   | (with_reducible exact LeO.refl _)
   | (with_reducible exact LeO.none _)
   | (with_reducible refine LeO.ite ?_ ?_)
   | (with_reducible refine LeO.bind ?_ (fun _=>?_))
   | exact ih0 _ _ _
   | exact LeO.none _
   | refine LeO.ite ?_ ?_
   | refine LeO.bind ?_ (fun _=>?_)
set_option maxHeartbeats 8000000 in
set_option maxRecDepth 100000 in
theorem z13.calls (k : Nat) (a0_0 : Int) (a0_1 : Int) (a0_2 : Int) (A0_3 : Option Addr) (c0_3 : Nat) (l0_3 : List Int) (A0_4 : Option Addr) (c0_4 : Nat) (l0_4 : List Int) (A0_5 : Option Addr) (c0_5 : Nat) (l0_5 : List (S45)) (r : List Int) (w : World) (hr0_3 : Kd.C (Kd.int .u8) w A0_3 l0_3.length l0_3) (hc0_3 : l0_3.length ≤ c0_3) (hr0_4 : Kd.C (Kd.int .i64) w A0_4 l0_4.length l0_4) (hc0_4 : l0_4.length ≤ c0_4) (hr0_5 : Kd.C k45 w A0_5 l0_5.length l0_5) (hc0_5 : l0_5.length ≤ c0_5) (h : z13.f k a0_0 a0_1 a0_2 l0_3 l0_4 l0_5 = some r) :
  Calls Try.prog 46 #[.agg #[.int .i64 a0_0,.int .i64 a0_1,.int .i64 a0_2,.slice A0_3 l0_3.length c0_3,.slice A0_4 l0_4.length c0_4,.slice A0_5 l0_5.length c0_5]] w fun e w'=>∃ v0_ : Value,e = .returned (v0_) ∧ Kd.R (Kd.int .i64) 3 w' w.heap.size (fun _=>True) v0_ r ∧ Below w.heap.size w w':=by
 have hu26:=Try.underlying26
 have HR0_3:=Aside0.mk hr0_3
 have HC0_3:=Aside0.mk hc0_3
 clear hr0_3 hc0_3
 have HR0_4:=Aside0.mk hr0_4
 have HC0_4:=Aside0.mk hc0_4
 clear hr0_4 hc0_4
 have HR0_5:=Aside0.mk hr0_5
 have HC0_5:=Aside0.mk hc0_5
 clear hr0_5 hc0_5
 have HB:=Aside0.mk (Below.refl w.heap.size w)
 have H : (if 0 ≤ (l0_5.length : Int) then (if ((l0_5.length : Int) : Int).toNat ≤ 35184372088832 then ((some (List.replicate ((l0_5.length : Int) : Int).toNat 0 : List Int)).bind fun y142=>(z13.l0 k y142 (y142.length : Int) 0)) else (none)) else (none)) = some r:=h
 clear h
 by_cases c2 : 0 ≤ (l0_5.length : Int)
 ·rw [if_pos c2] at H
  have c2b0:=eq_true c2
  have c2b1 : decide (0 ≤ (l0_5.length : Int)) = true:=decide_eq_true c2
  clear c2
  by_cases c3 : ((l0_5.length : Int) : Int).toNat ≤ 35184372088832
  ·rw [if_pos c3] at H
   have c3b0:=eq_true c3
   have c3b1 : decide (((l0_5.length : Int) : Int).toNat ≤ 35184372088832) = true:=decide_eq_true c3
   clear c3
   obtain ⟨y142,hy142⟩ : ∃ y_ : List Int,y_ = (List.replicate ((l0_5.length : Int) : Int).toNat 0):=⟨_,rfl⟩
   replace H : (z13.l0 k y142 (y142.length : Int) 0) = some r:=by first | (rw [hy142]; with_reducible exact H) | (have H2_:=(Option.bind_some _ _).symm.trans H; rw [hy142]; with_reducible exact H2_) | (have H2_:=(Option.bind_some _ _).symm.trans H; with_reducible exact H2_) | with_reducible exact H | (rw [hy142]; exact H) | exact H
   have Ny142:=Aside0.mk hy142
   clear hy142
   have H':=Aside0.mk H
   clear H
   go_enter Try.func46,Try.ntmps46
   go_wp2_with (first | ((with_reducible refine z10 (N:=1) rfl ?_); refine box_event ?hg (N:=1) ?hd (cs:=#[.int .i64 a0_0,.int .i64 a0_1,.int .i64 a0_2,.slice A0_3 l0_3.length c0_3,.slice A0_4 l0_4.length c0_4,.slice A0_5 l0_5.length c0_5]) (t:=26) ?hr ?_; (case hd=>rfl); (case hg=>rfl); (case hr=>first | (go_simp; done) | (go_simp; rfl)); intro gb141 hg w4 hbox hb; have n0_:=Aside0.mk (z0s (by repeat (first | (with_reducible first | exact HB.out | apply z04 | apply z03 | apply z05) | exact HB.out)) hb); have n1_:=Aside0.mk (hbox); have n2_:=Aside0.mk ((by rw [hg]; exact (z0l (by repeat (first | (with_reducible first | exact HB.out | apply z04 | apply z03 | apply z05) | exact HB.out))) : w.heap.size ≤ gb141)); have n3_:=Aside0.mk ((by rw [hg]; exact (z0l (by repeat (first | (with_reducible first | exact HB.out | apply z04 | apply z03 | apply z05) | exact HB.out))) : w.heap.size ≤ gb141)); clear HB; have HB:=n0_; have BK141:=n1_; have GW141:=n2_; have GE141:=n3_; clear n0_ n1_ n2_ n3_; clear hb hbox hg; have hcz5_0 : w4.cell? ⟨gb141,0,none⟩ = some (.int .i64 a0_0):=(z02 BK141.out 0).trans rfl; have hcz5_1 : w4.cell? ⟨gb141,1,none⟩ = some (.int .i64 a0_1):=(z02 BK141.out 1).trans rfl; have hcz5_2 : w4.cell? ⟨gb141,2,none⟩ = some (.int .i64 a0_2):=(z02 BK141.out 2).trans rfl; have hcz5_3 : w4.cell? ⟨gb141,3,none⟩ = some (.slice A0_3 l0_3.length c0_3):=(z02 BK141.out 3).trans rfl; have hcz5_4 : w4.cell? ⟨gb141,4,none⟩ = some (.slice A0_4 l0_4.length c0_4):=(z02 BK141.out 4).trans rfl; have hcz5_5 : w4.cell? ⟨gb141,5,none⟩ = some (.slice A0_5 l0_5.length c0_5):=(z02 BK141.out 5).trans rfl; have hfz5_0:=z01 BK141.out 0; have hfz5_1:=z01 BK141.out 1; have hfz5_2:=z01 BK141.out 2; have hfz5_3:=z01 BK141.out 3; have hfz5_4:=z01 BK141.out 4; have hfz5_5:=z01 BK141.out 5) | ((with_reducible refine z10 (N:=8) rfl ?_); refine Kd.R_make (Kd.int .i64) _ 3 rfl (N:=8) rfl 23 _ _ rfl (l0_5.length : Int) rfl rfl Try.underlying23 (.int .i64 0) 8 info3 rfl (by decide) (by omega) 0 (ok:=fun _=>True) (okp:=fun _=>True) rfl (fun _ hk=>hk) trivial (of_decide_eq_true (by assumption)) (Nat.le_trans (Nat.mul_le_mul_right _ (of_decide_eq_true (by assumption) : (l0_5.length : Int).toNat ≤ 35184372088832)) (by omega)) (Below.refl _ _) (Nat.le_refl _) ?_; intro v143 w6 ho7 hb hg_ hnew_; clear hg_ hnew_; (first | rw [← Ny142.out] at ho7 | (simp only [Int.reduceToNat] at ho7; rw [← Ny142.out] at ho7)); have n0_:=Aside0.mk (Kd.R_lower ho7 (z0l (by repeat (first | (with_reducible first | exact HB.out | apply z04 | apply z03 | apply z05 | refine z07 ?_ GE141.out) | exact HB.out)))); have n1_:=Aside0.mk (z0v (g:=gb141) (o:=.cells #[.int .i64 a0_0,.int .i64 a0_1,.int .i64 a0_2,.slice A0_3 l0_3.length c0_3,.slice A0_4 l0_4.length c0_4,.slice A0_5 l0_5.length c0_5] 26 (0,0)) (by (with_reducible repeat (first | refine z08 ?_ _ | refine z09 ?_ | refine z06 ?_ _)); exact BK141.out) hb); have n2_:=Aside0.mk (z0s (by repeat (first | (with_reducible first | exact HB.out | apply z04 | apply z03 | apply z05 | refine z07 ?_ GE141.out) | exact HB.out)) hb); clear BK141; clear HB; have HO144:=n0_; have BK141:=n1_; have HB:=n2_; clear n0_ n1_ n2_; clear hb ho7; obtain ⟨Ao8,co8,eo8⟩:=Kd.R_slice HO144.out; subst eo8))
   go_loopg [11] k (fun kq v11 w'=>∃ (x3_1 : List Int) (x11_1 : Int),v11 = .int .i64 x11_1 ∧ Aside0 (z13.l0 kq x3_1 (y142.length : Int) x11_1 = some r) ∧ Aside0 (kq ≤ k) ∧ Aside0 (Kd.R (Kd.int .i64) 3 w' w.heap.size (fun _=>True) (.slice Ao8 y142.length co8) x3_1) ∧ Aside0 (w'.heap[gb141]? = some (.cells #[.int .i64 a0_0,.int .i64 a0_1,.int .i64 a0_2,(.slice A0_3 l0_3.length c0_3),(.slice A0_4 l0_4.length c0_4),(.slice A0_5 l0_5.length c0_5)] 26 (0,0))) ∧ Aside0 (Below w.heap.size w w'))
   case atStart=>exact ⟨(y142),(0),(by first | rfl | (simp; done) | (simp [*]; done)),H',⟨Nat.le_refl _⟩,⟨by (with_reducible repeat (first | apply Kd.R_alloc | apply Kd.R_drewN | apply Kd.R_drew)); exact HO144.out⟩,⟨by (with_reducible repeat (first | refine z08 ?_ _ | refine z09 ?_ | refine z06 ?_ _)); exact BK141.out⟩,⟨by repeat (first | (with_reducible first | exact HB.out | apply z04 | apply z03 | apply z05 | refine z07 ?_ GE141.out) | exact HB.out)⟩⟩
   case round =>
    clear H'
    try clear c2
    try clear c2b0
    try clear c2b1
    try clear p2
    try clear c3
    try clear c3b0
    try clear c3b1
    try clear c4
    try clear hcz5_0
    try clear hcz5_1
    try clear hcz5_2
    try clear hcz5_3
    try clear hcz5_4
    try clear hcz5_5
    try clear hfz5_0
    try clear hfz5_1
    try clear hfz5_2
    try clear hfz5_3
    try clear hfz5_4
    try clear hfz5_5
    obtain ⟨x3_1,x11_1,rfl,HA,HK1,HO_3,BK141,HB⟩:=hrel
    have hl3_1:=(Kd.R_reads' HO_3.out).1
    rw [hl3_1] at HO_3
    (try simp only [hl3_1])
    (try simp only [hl3_1] at BK141)
    cases gk with
    | zero=>exact absurd HA.out (by simp [z13.l0])
    | succ k1 =>
     have H:=HA.out
     clear HA
     simp only [z13.l0] at H
     by_cases c9 : x11_1 < (y142.length : Int)
     ·rw [if_pos c9] at H
      have c9b0 : decide (x11_1 < (y142.length : Int)) = true:=decide_eq_true c9
      clear c9
      by_cases c10 : 0 ≤ x11_1
      ·rw [if_pos c10] at H
       have c10b0 : decide (0 ≤ x11_1) = true:=decide_eq_true c10
       clear c10
       by_cases c11 : x11_1 < (x3_1.length : Int)
       ·rw [if_pos c11] at H
        have c11b0 : decide (x11_1 < (x3_1.length : Int)) = true:=decide_eq_true c11
        clear c11
        obtain ⟨y145,hy145⟩ : ∃ y_ : List Int,y_ = (x3_1.set (x11_1 : Int).toNat x11_1):=⟨_,rfl⟩
        replace H : (z13.l0 k1 y145 (y142.length : Int) (wrap64 (x11_1 + 1))) = some r:=by first | (rw [hy145]; with_reducible exact H) | (have H2_:=(Option.bind_some _ _).symm.trans H; rw [hy145]; with_reducible exact H2_) | (have H2_:=(Option.bind_some _ _).symm.trans H; with_reducible exact H2_) | with_reducible exact H | (rw [hy145]; exact H) | exact H
        have Ny145:=Aside0.mk hy145
        clear hy145
        have H':=Aside0.mk H
        clear H
        have p12 : 0 ≤ (x11_1 : Int):=of_decide_eq_true (by assumption)
        have q12 : (x11_1 : Int) < ((x3_1.length : Int) : Int):=of_decide_eq_true (by assumption)
        obtain ⟨go12,co12,eo12,gb12,gl12,cl12,HG12⟩:=Kd.R_form HO_3.out (by omega)
        (first | cases eo12 | (injection eo12 with ea_ en_ ec_; (first | subst ea_ | (injection ea_ with ea_; subst ea_)); subst ec_; clear en_))
        have GB12:=Aside0.mk gb12
        have GG12:=Aside0.mk HG12
        clear gb12 gl12 HG12
        obtain ⟨hx12_0,hf12_0⟩:=Kd.R_celln 0 HO_3.out (x11_1 : Int) p12 q12
        replace p12:=eq_true p12
        replace q12:=eq_true q12
        have HP13:=Kd.R_putg HO_3.out (x11_1 : Int) x11_1
        go_wp2_with (first | ((with_reducible refine gate_store (t:=3) (p:=17) rfl ?_); refine store_event (t:=3) (p:=17) (v:=?vo_w14) (w1:=(wr.setCell ⟨go12,(x11_1 : Int).toNat,none⟩ (.int .i64 x11_1))) ?hg ?ho ?hn ?hr ?_; (case ho=>rfl); (case hg=>rfl); (case hn=>rfl); (case hr=>first | (go_simp; done) | (go_simp; rfl)); intro w14 hw; have hg : wr.grownBy w14 (some go12):=(by rw [hw]; exact HP13.2); have hp_ : Kd.R (Kd.int .i64) 3 w14 w.heap.size (fun _=>True) (.slice (some ⟨go12,0,none⟩) x3_1.length co8) y145:=(by rw [hw,Ny145.out]; exact HP13.1); clear HP13; have n0_:=Aside0.mk (hp_); have n1_:=Aside0.mk (blk_grown (g:=gb141) (o:=.cells #[.int .i64 a0_0,.int .i64 a0_1,.int .i64 a0_2,.slice A0_3 l0_3.length c0_3,.slice A0_4 l0_4.length c0_4,.slice A0_5 l0_5.length c0_5] 26 (0,0)) (by (with_reducible repeat (first | refine z08 ?_ _ | refine z09 ?_ | refine z06 ?_ _)); exact BK141.out) hg (Kd.R_ne HO_3.out BK141.out (by decide))); have n2_:=Aside0.mk ((by rw [hw]; exact z07 (HB.out) GB12.out : Below w.heap.size w w14)); clear HO_3; clear BK141; clear HB; have HO_3:=n0_; have BK141:=n1_; have HB:=n2_; clear n0_ n1_ n2_; clear hg hw hp_))
        (try simp only [← hl3_1])
        go_roundg k1
        case measure=>have:=HK1.out; omega
        case rel=>exact ⟨(y145),(wrap64 (x11_1 + 1)),(by first | rfl | (simp; done) | (simp [*]; done)),H',⟨by have:=HK1.out; omega⟩,⟨by (try simp only [hl3_1]); (with_reducible repeat (first | apply Kd.R_alloc | apply Kd.R_drewN | apply Kd.R_drew)); exact HO_3.out⟩,⟨by (try simp only [hl3_1]); (with_reducible repeat (first | refine z08 ?_ _ | refine z09 ?_ | refine z06 ?_ _)); exact BK141.out⟩,⟨by repeat (first | (with_reducible first | exact HB.out | apply z04 | apply z03 | apply z05 | refine z07 ?_ GE141.out) | exact HB.out)⟩⟩
       ·rw [if_neg c11] at H
        exact absurd H (by simp)
      ·rw [if_neg c10] at H
       exact absurd H (by simp)
     ·rw [if_neg c9] at H
      have c9b0 : decide (x11_1 < (y142.length : Int)) = false:=decide_eq_false c9
      have c9b0z : decide (x11_1 < (x3_1.length : Int)) = false:=by first | (rw [← hl3_1]; exact c9b0) | (rw [hl3_1]; exact c9b0)
      clear c9
      obtain rfl:=Option.some.inj H
      go_wp2
      go_ret
      exact ⟨_,by first | rfl | (simp [z0i,z0h] <;> rfl) | (simp [*,z0i,z0h] <;> rfl),by (with_reducible repeat (first | apply Kd.R_alloc | apply Kd.R_drewN | apply Kd.R_drew)); exact HO_3.out,by repeat (first | (with_reducible first | exact HB.out | apply z04 | apply z03 | apply z05 | refine z07 ?_ GE141.out) | exact HB.out)⟩
  ·rw [if_neg c3] at H
   exact absurd H (by simp)
 ·rw [if_neg c2] at H
  exact absurd H (by simp)
end Go.Proofs.Ytcbnhfnnjkkceaa.X
end
section
namespace Go.Proofs.Ytcbnhfnnjkkceaa.X
open Go.RowKit Go.Proofs.YtcbnhfnnjkkceaaW.PrintWords Go.Proofs.YtcbnhfnnjkkceaaW.PrintLast Go.Proofs.YtcbnhfnnjkkceaaW.PrintMore
/-- Where the first one stands for which something is told. -/
def firstP {α : Type} (p : α → Bool) : List α → Int
 | []=>-1
 | c :: r=>if p c then 0 else if firstP p r < 0 then -1 else firstP p r + 1
theorem firstP_range {α : Type} (p : α → Bool) : ∀ l,-1 ≤ firstP p l ∧ firstP p l < l.length ∨ (l = [] ∧ firstP p l = -1)
 | []=>.inr ⟨rfl,rfl⟩
 | c :: r=>by
  refine .inl ?_
  unfold firstP
  have:=firstP_range p r
  simp only [List.length_cons]
  split
  ·omega
  ·split
   ·omega
   ·rcases this with h | ⟨_,h⟩ <;> omega
theorem firstP_step {α : Type} (p : α → Bool) {l : List α} : ∀ {i : Nat},i ≤ l.length → (∀ j,(h : j < i) → ∀ h2 : j < l.length,p l[j] = false) → firstP p l = if firstP p (l.drop i) < 0 then -1 else firstP p (l.drop i) + i
 | 0,_,_=>by
  have:=firstP_range p l
  simp only [List.drop_zero]
  split
  ·rcases this with h | ⟨_,h⟩ <;> omega
  ·simp
 | i + 1,hi,h=>by
  cases l with
  | nil=>simp at hi
  | cons c r =>
   have hc:=h 0 (by omega) (by simp)
   simp only [List.getElem_cons_zero] at hc
   have ih:=firstP_step p (l:=r) (i:=i) (by simpa using hi) (fun j hj h2=>by
    have:=h (j + 1) (by omega) (by simpa using h2)
    simpa using this)
   have e : firstP p (c :: r) = if firstP p r < 0 then -1 else firstP p r + 1:=by
    rw [firstP,hc]
    simp
   rw [e,List.drop_succ_cons,ih]
   have hr:=firstP_range p (r.drop i)
   by_cases h0 : firstP p (r.drop i) < 0
   ·rw [if_pos h0,if_pos h0,if_pos (by decide)]
   ·rw [if_neg h0,if_neg (by omega)]
    push_cast
    omega
theorem rdAt {xs : List Int} {i : Nat} (h : i < xs.length) : rd xs (i : Int) = xs[i]:=by
 unfold rd
 rw [Int.toNat_natCast,List.getD_eq_getElem?_getD,List.getElem?_eq_getElem h]
 rfl
set_option maxRecDepth 100000 in
set_option maxHeartbeats 2000000 in
theorem indexF_calls (A : Option Addr) (cap : Nat) (l : List Int) (p : Int → Bool) (b : Nat) (w : World) (hI : (Kd.int .i64).C w A l.length l) (hcap : l.length ≤ cap)
  (hp : ∀ W1,Below w.heap.size w W1 → ∀ x ∈ l,Calls Try.prog 47 #[.int .i64 x,.pointer (some ⟨b,0,none⟩)] W1 fun e w'=>e = .returned (.bool (p x)) ∧ Below W1.heap.size W1 w') :
  Calls Try.prog 45 #[.slice A l.length cap,.func (.func 47) #[] #[.pointer (some ⟨b,0,none⟩)]] w fun e w'=>e = .returned (.int .i64 (firstP p l)) ∧ Below w.heap.size w w':=by
 have HI:=Aside0.mk hI
 have HP:=Aside0.mk hp
 have hlen : l.length ≤ 9223372036854775807:=by have h1:=hI.1; have h2:=hI.2.1; omega
 clear hI hp
 go_enter Try.func45,Try.ntmps45
 go_wp2
 go_loopw [8] (fun v8 wr=>∃ i : Nat,v8 = .int .i64 i ∧ Aside0 (i ≤ l.length) ∧ Aside0 (∀ j,(h : j < i) → ∀ h2 : j < l.length,p l[j] = false) ∧ Aside0 (Below w.heap.size w wr)) (fun i _=>l.length - (intOf i).toNat)
 case atStart=>exact ⟨0,rfl,⟨Nat.zero_le _⟩,⟨fun j h=>by omega⟩,⟨Below.refl _ _⟩⟩
 case round =>
  obtain ⟨i,rfl,hi,hno,hb⟩:=hrel
  have hi:=hi.out
  have hst:=Lib.hid (firstP_step p hi hno.out)
  by_cases hlt : i < l.length
  ·obtain ⟨ad,e,hcell⟩:=Kd.at_int (Kd.C_below HI.out hb.out) (i : Int) (by omega) (by omega)
   cases e
   rw [rdAt hlt,Int.toNat_natCast] at hcell
   have hd : l.drop i = l[i] :: l.drop (i + 1):=List.drop_eq_getElem_cons hlt
   have HE:=Lib.hid (HP.out _ hb.out l[i] (List.getElem_mem hlt))
   cases hb1 : p l[i] with
   | true =>
    have hres : firstP p l = (i : Int):=by
     rw [hst.out,hd]
     simp only [firstP,hb1,if_true]
     omega
    have hE:=HE.out
    rw [hb1] at hE
    have HE2:=Lib.hid hE
    have HF:=Lib.hid hres
    generalize l[i] = x at hcell HE HE2 hd hb1
    clear hE hb1 hd hres
    go_wp2_with (go_at_call 47; refine HE2.out.mono ?_; rintro e w' ⟨rfl,hb'⟩; have HB':=Aside0.mk hb'; clear hb')
    go_ret
    exact ⟨by rw [HF.out]; rfl,below_then hb.out hb.out.size HB'.out⟩
   | false =>
    have hE:=HE.out
    rw [hb1] at hE
    have HE2:=Lib.hid hE
    have HNO : Aside0 (∀ j,(h : j < i + 1) → ∀ h2 : j < l.length,p l[j] = false):=⟨fun j h h2=>by
     rcases Nat.lt_or_ge j i with h3 | h3
     ·exact hno.out j h3 h2
     ·obtain rfl : j = i:=by omega
      exact hb1⟩
    generalize l[i] = x at hcell HE HE2 hd hb1
    clear hE hb1 hd
    go_wp2_with (go_at_call 47; refine HE2.out.mono ?_; rintro e w' ⟨rfl,hb'⟩; have HB':=Aside0.mk hb'; clear hb')
    go_roundw
    case rel=>exact ⟨i + 1,by go_num,⟨hlt⟩,HNO,⟨below_then hb.out hb.out.size HB'.out⟩⟩
    case measure=>simp [intOf]; omega
  ·have ei : i = l.length:=by omega
   subst ei
   have hfin : firstP p l = -1:=by
    rw [hst.out,List.drop_length]
    simp [firstP]
   have HF:=Lib.hid hfin
   clear hfin
   go_wp2
   go_ret
   exact ⟨by rw [HF.out]; rfl,hb.out⟩
def funUp (funs : List Int) (x : Int) : Nat → Int
 | 0=>-1
 | n + 1=>if rd funs n ≤ x then n else funUp funs x n
theorem funUp_range (funs : List Int) (x : Int) : ∀ n,-1 ≤ funUp funs x n ∧ funUp funs x n < n
 | 0=>by simp [funUp]
 | n + 1=>by
  have:=funUp_range funs x n
  unfold funUp
  split <;> omega
theorem funUp_pos (funs : List Int) (x : Int) (h : rd funs 0 ≤ x) : ∀ n,0 < n → 0 ≤ funUp funs x n
 | 0,h0=>by omega
 | 1,_=>by
  unfold funUp
  rw [if_pos (by simpa using h)]
  omega
 | n + 2,_=>by
  have:=funUp_pos funs x h (n + 1) (by omega)
  unfold funUp
  split
  ·omega
  ·exact this
/-- The function that has a place of so many. -/
def funP (funs : List Int) (n : Nat) (x : Int) : Int:=if x < 0 ∨ (n : Int) ≤ x then -1 else funUp funs x funs.length
theorem imageFun_l0 (m s i : Int) (data funs : List Int) (code : List S45) (x : Int) (hl : funs.length < 4611686018427387904) : ∀ (n k : Nat),n ≤ funs.length → n < k → z11.l0 k x ((n : Int) - 1) m s i data funs code = some (funUp funs x n)
 | 0,k,_,hk=>by
  obtain ⟨k,rfl⟩ : ∃ j,k = j + 1:=⟨k - 1,by omega⟩
  rw [z11.l0,if_neg (by simp)]
  rfl
 | n + 1,k,hn,hk=>by
  obtain ⟨k,rfl⟩ : ∃ j,k = j + 1:=⟨k - 1,by omega⟩
  have e : ((n + 1 : Nat) : Int) - 1 = (n : Int):=by omega
  rw [e,z11.l0,if_pos (by omega),if_pos (by omega),if_pos (by omega)]
  unfold funUp
  by_cases h : rd funs n ≤ x
  ·rw [if_neg (by omega),if_pos h]
  ·rw [if_pos (by omega),if_neg h,show wrap64 ((n : Int) - 1) = (n : Int) - 1 by unfold wrap64; omega]
   exact imageFun_l0 m s i data funs code x hl n k (by omega) (by omega)
theorem imageFun_f (m s i : Int) (data funs : List Int) (code : List S45) (x : Int) (hl : funs.length < 4611686018427387904) {k : Nat} (hk : funs.length + 1 < k) : z11.f k m s i data funs code x = some (funP funs code.length x):=by
 obtain ⟨k,rfl⟩ : ∃ j,k = j + 1:=⟨k - 1,by omega⟩
 unfold z11.f funP
 by_cases h : x < 0
 ·rw [if_pos h,if_pos (.inl h),z11.j0]
  rfl
 ·rw [if_neg h,z11.j0]
  by_cases h2 : (code.length : Int) ≤ x
  ·rw [if_pos (decide_eq_true h2),if_pos (.inr h2)]
  ·rw [if_neg (by simpa using h2),if_neg (by simp [h,h2])]
   rw [show wrap64 ((funs.length : Int) - 1) = (funs.length : Int) - 1 by unfold wrap64; omega]
   exact imageFun_l0 m s i data funs code x hl funs.length k (Nat.le_refl _) (by omega)
/-- Where the function at f begins and ends. -/
def loP (funs : List Int) (f : Int) : Int:=rd funs f
def hiP (funs : List Int) (n : Nat) (f : Int) : Int:=if f + 1 < (funs.length : Int) then rd funs (f + 1) else n
theorem imageEnds_f (m s i : Int) (data funs : List Int) (code : List S45) {f : Int} (h0 : 0 ≤ f) (h1 : f < funs.length) (hl : funs.length < 4611686018427387904) : image_ends.f m s i data funs code f = some (loP funs f,hiP funs code.length f):=by
 unfold image_ends.f loP hiP
 rw [show wrap64 (f + 1) = f + 1 by unfold wrap64; omega]
 by_cases h : f + 1 < (funs.length : Int)
 ·rw [if_pos h,if_pos h0,if_pos h1,if_pos (by omega),if_pos h]
 ·rw [if_neg h,if_pos h0,if_pos h1,if_neg h]
/-- All places, of so many. -/
def placesL (n : Nat) : List Int:=(List.range n).map Int.ofNat
theorem placesL_length (n : Nat) : (placesL n).length = n:=by simp [placesL]
theorem mem_placesL {n : Nat} {x : Int} : x ∈ placesL n ↔ 0 ≤ x ∧ x < n:=by
 unfold placesL
 rw [List.mem_map]
 constructor
 ·rintro ⟨a,ha,rfl⟩
  rw [List.mem_range] at ha
  exact ⟨Int.natCast_nonneg _,by simpa using ha⟩
 ·rintro ⟨h0,h1⟩
  exact ⟨x.toNat,by rw [List.mem_range]; omega,by simp; omega⟩
theorem imagePlaces_l0 (n : Nat) (hn : n < 4611686018427387904) : ∀ (d x k : Nat),x + d = n → d < k → z13.l0 k (placesL x ++ List.replicate d 0) n x = some (placesL n)
 | 0,x,k,hx,hk=>by
  obtain ⟨k,rfl⟩ : ∃ j,k = j + 1:=⟨k - 1,by omega⟩
  obtain rfl : x = n:=by omega
  rw [z13.l0,if_neg (by omega)]
  simp
 | d + 1,x,k,hx,hk=>by
  obtain ⟨k,rfl⟩ : ∃ j,k = j + 1:=⟨k - 1,by omega⟩
  have hl : (placesL x ++ List.replicate (d + 1) (0 : Int)).length = n:=by rw [List.length_append,placesL_length,List.length_replicate]; omega
  rw [z13.l0,if_pos (by omega),if_pos (by omega),if_pos (by rw [hl]; omega),show wrap64 ((x : Int) + 1) = ((x + 1 : Nat) : Int) by unfold wrap64; omega]
  have e : (placesL x ++ List.replicate (d + 1) (0 : Int)).set ((x : Int)).toNat (x : Int) = placesL (x + 1) ++ List.replicate d 0:=by
   rw [Int.toNat_natCast,List.set_append_right _ _ (by rw [placesL_length]; omega),placesL_length,Nat.sub_self,List.replicate_succ,zq2]
   unfold placesL
   rw [List.range_succ,List.map_append]
   simp
  rw [e]
  exact imagePlaces_l0 n hn d (x + 1) k (by omega) (by omega)
theorem imagePlaces_f (m s i : Int) (data funs : List Int) (code : List S45) (hn : code.length ≤ 256) {k : Nat} (hk : code.length < k) : z13.f k m s i data funs code = some (placesL code.length):=by
 unfold z13.f
 rw [if_pos (by omega),if_pos (by omega),Option.bind_some,List.length_replicate,Int.toNat_natCast]
 have:=imagePlaces_l0 code.length (by omega) code.length 0 k (by omega) hk
 simpa [placesL] using this
/-- Is the instruction at a place one by which an image doesn't flow? -/
def strayAt (funs : List Int) (code : List S45) (x : Int) : Bool :=
 let f:=funP funs code.length x
 strayI (z0a code x) funs.length (loP funs f) (hiP funs code.length f) x.toNat
/-- Are the functions' beginnings and the number of instructions such that each place has a function? -/
def Fits (funs : List Int) (n : Nat) : Prop:=1 ≤ funs.length ∧ funs.length ≤ 16 ∧ n ≤ 256 ∧ rd funs 0 = 0 ∧ ∀ j : Nat,j < funs.length → 0 ≤ rd funs j ∧ rd funs j ≤ 9223372036854775807
instance (funs : List Int) (n : Nat) : Decidable (Fits funs n):=by unfold Fits; exact inferInstance
def image_stray.f (m s i : Int) (data funs : List Int) (code : List S45) : Option Int:=if Fits funs code.length then some (firstP (strayAt funs code) (placesL code.length)) else none
theorem funP_in {funs : List Int} {n : Nat} (hf : Fits funs n) {x : Int} (h0 : 0 ≤ x) (h1 : x < n) : 0 ≤ funP funs n x ∧ funP funs n x < funs.length:=by
 unfold funP
 rw [if_neg (by omega)]
 have:=funUp_range funs x funs.length
 have:=funUp_pos funs x (by rw [hf.2.2.2.1]; exact h0) funs.length (by have:=hf.1; omega)
 omega
theorem rd_fits {funs : List Int} {n : Nat} (hf : Fits funs n) {f : Int} (h0 : 0 ≤ f) (h1 : f < funs.length) : 0 ≤ rd funs f ∧ rd funs f ≤ 9223372036854775807:=by
 have:=hf.2.2.2.2 f.toNat (by omega)
 rw [show ((f.toNat : Nat) : Int) = f by omega] at this
 exact this
theorem hiP_fits {funs : List Int} {n : Nat} (hf : Fits funs n) {f : Int} (h0 : 0 ≤ f) : 0 ≤ hiP funs n f ∧ hiP funs n f ≤ 9223372036854775807:=by
 unfold hiP
 split
 ·exact rd_fits hf (by omega) (by omega)
 ·have:=hf.2.2.1
  omega
set_option maxRecDepth 100000 in
set_option maxHeartbeats 4000000 in
theorem image_stray.calls (m s i : Int) (A3 : Option Addr) (c3 : Nat) (data : List Int) (A4 : Option Addr) (c4 : Nat) (funs : List Int) (A5 : Option Addr) (c5 : Nat) (code : List S45) (r : Int) (w : World)
  (hr3 : Kd.C (Kd.int .u8) w A3 data.length data) (hc3 : data.length ≤ c3) (hr4 : Kd.C (Kd.int .i64) w A4 funs.length funs) (hc4 : funs.length ≤ c4) (hr5 : Kd.C k45 w A5 code.length code) (hc5 : code.length ≤ c5) (h : image_stray.f m s i data funs code = some r) :
  Calls Try.prog 33 #[.agg #[.int .i64 m,.int .i64 s,.int .i64 i,.slice A3 data.length c3,.slice A4 funs.length c4,.slice A5 code.length c5]] w fun e w'=>e = .returned (.int .i64 r) ∧ Below w.heap.size w w':=by
 unfold image_stray.f at h
 split at h
 ·rename_i hf
  obtain rfl:=Option.some.inj h
  have hsz:=hf.1
  have hcl : code.length ≤ 256:=hf.2.2.1
  have hpl:=fun W1 (hB : Below w.heap.size w W1)=>z13.calls (code.length + 1) m s i A3 c3 data A4 c4 funs A5 c5 code (placesL code.length) W1 (Kd.C_below hr3 hB) hc3 (Kd.C_below hr4 hB) hc4 (Kd.C_below hr5 hB) hc5 (imagePlaces_f m s i data funs code hcl (by omega))
  have hst : ∀ (b : Nat) (W1 : World) (hB : Below w.heap.size w W1) (hb : W1.heap[b]? = some (.cells #[.int .i64 m,.int .i64 s,.int .i64 i,.slice A3 data.length c3,.slice A4 funs.length c4,.slice A5 code.length c5] 26 (0,0))) (x : Int) (hx : x ∈ placesL code.length),
    Calls Try.prog 47 #[.int .i64 x,.pointer (some ⟨b,0,none⟩)] W1 (fun e w'=>e = .returned (.bool (strayAt funs code x)) ∧ Below W1.heap.size W1 w'):=fun b W1 hB hb x hx=>by
   obtain ⟨h0,h1⟩:=mem_placesL.1 hx
   obtain ⟨n,rfl⟩ : ∃ n : Nat,x = n:=⟨x.toNat,by omega⟩
   have hfp:=funP_in hf h0 h1
   have:=stray1_calls (funs.length + 2) m s i A3 c3 data A4 c4 funs A5 c5 code b n (funP funs code.length n) (loP funs (funP funs code.length n)) (hiP funs code.length (funP funs code.length n)) W1 hb (Kd.C_below hr3 hB) hc3 (Kd.C_below hr4 hB) hc4 (Kd.C_below hr5 hB) hc5 (by omega) hcl hf.2.1
    (imageFun_f m s i data funs code n (by have:=hf.2.1; omega) (by omega)) (imageEnds_f m s i data funs code hfp.1 hfp.2 (by have:=hf.2.1; omega)) (rd_fits hf hfp.1 hfp.2) (hiP_fits hf hfp.1)
   exact (show Calls Try.prog 47 #[.int .i64 (n : Int),.pointer (some ⟨b,0,none⟩)] W1 (fun e w'=>e = .returned (.bool (strayAt funs code n)) ∧ Below W1.heap.size W1 w') from this)
  have HPL:=Aside0.mk hpl
  have HST:=Aside0.mk hst
  clear hpl hst hr3 hr4 hr5 hf h
  have hmf : ∀ (fn : Fn) (first cap : Array Value) (w : World),(Instr.makeFunc fn first cap).run Try.prog w = .ok (.func fn first cap) w:=fun _ _ _ _=>rfl
  go_enter Try.func33,Try.ntmps33
  go_wp2_with fail
  refine (HPL.out _ (z04 (Below.refl _ _) _)).mono ?_
  rintro e w5 ⟨v,rfl,hR,hB⟩
  obtain ⟨Ap,cp,rfl,hle,hC⟩:=Kd.R_reads hR
  have hb5 : w5.heap[w.heap.size]? = some (.cells #[.int .i64 m,.int .i64 s,.int .i64 i,.slice A3 data.length c3,.slice A4 funs.length c4,.slice A5 code.length c5] 26 (0,0)):=(hB.block _ (by show _ < (w.heap.push _).size; simp)).trans (heap_new_ w _)
  have HB5 : Aside0 (Below w.heap.size w w5):=⟨below_then (z04 (Below.refl _ _) _) (by show _ ≤ (w.heap.push _).size; simp) hB⟩
  have HLT : Aside0 (w.heap.size < w5.heap.size):=⟨Nat.lt_of_lt_of_le (by show _ < (w.heap.push _).size; simp) hB.size⟩
  have HIX:=Lib.hid (indexF_calls Ap cp (placesL code.length) (strayAt funs code) w.heap.size w5 hC hle (fun W1 hB1 x hx=>HST.out _ W1 (below_then HB5.out HB5.out.size hB1) ((hB1.block _ HLT.out).trans hb5) x hx))
  clear hR hB hC hle hb5
  go_wp2_with fail
  refine HIX.out.mono ?_
  rintro e w6 ⟨rfl,hB6⟩
  have HB6:=Aside0.mk hB6
  clear hB6
  go_wp2
  go_ret
  exact ⟨rfl,below_then HB5.out HB5.out.size HB6.out⟩
 ·cases h
end Go.Proofs.Ytcbnhfnnjkkceaa.X
end
section
namespace Go.Proofs.Ytcbnhfnnjkkceaa.X
open Go.RowKit Go.Proofs.YtcbnhfnnjkkceaaW.PrintWords Go.Proofs.YtcbnhfnnjkkceaaW.PrintLast Go.Proofs.YtcbnhfnnjkkceaaW.PrintMore
section
variable {P : Program} {ops : Array Oper} {rest : List Oper} {o : Oper} {a : Act} {Q : Exit → Act → World → Prop}
theorem conv_event {W : World} (hgd : o.guard = none) {N : Tmp} (_hd : o.dst = some N) {C : Array Value} {e : TypeId} {fr : Nat × Nat} {n c : Nat}
  (hrun : (execOp a.eval o).run P (W.alloc (.cells C e)) = .ok (.value (.slice (some ⟨W.heap.size,0,none⟩) n c)) (W.alloc (.cells C e fr)))
  (h : ∀ g,g = W.heap.size → ∀ w1,w1.heap[g]? = some (.cells C e fr) → Below W.heap.size W w1 → wpList P ops Q rest (a.put o.dst (.slice (some ⟨g,0,none⟩) n c)) w1) : wpList P ops Q (o :: rest) a (W.alloc (.cells C e)) :=
 Kd.event_run hgd hrun (h _ rfl _ (blk_new W _) (z04 (Below.refl _ _) _))
theorem onto_event {w W : World} (hgd : o.guard = none) (s x : Operand) (t e : TypeId) (hop : o.op = .call { callee:=.builtin .append,args:=#[s,x],argTypes:=#[t,t] })
  (ht : P.underlying t = some (.slice e)) (hinfo : (P.info? e).map (fun i=>(i.zero,i.size,i.bytes)) = some (some (.int .u8 0),1,1)) {g : Nat} {A : Option Addr} {cp : Nat} {xs ys : List Int} {fr : Nat × Nat}
  (hs : a.eval s = .slice (some ⟨g,0,none⟩) xs.length xs.length) (hx : a.eval x = .slice A ys.length cp) (hb : W.heap[g]? = some (.cells (xs.map (Value.int .u8)).toArray e fr)) (hy : 0 < ys.length)
  (hR : Kd.R (Kd.int .u8) e W w.heap.size (fun _=>True) (.slice A ys.length cp) ys) (hB : Below w.heap.size w W) (hl : xs.length + ys.length < 140737488355328)
  (h : ∀ v1 w1,Kd.R (Kd.int .u8) e w1 w.heap.size (fun k=>some k ≠ (Value.slice A ys.length cp).ownBlock) v1 (xs ++ ys) → Kd.R (Kd.int .u8) e w1 w.heap.size (fun k=>True ∧ some k ≠ v1.ownBlock) (.slice A ys.length cp) ys →
   W.grownBy w1 none → Below w.heap.size w w1 → wpList P ops Q rest (a.put o.dst v1) w1) : wpList P ops Q (o :: rest) a W:=by
 obtain ⟨i,hi,hz,h4,h5⟩:=info_parts hinfo
 have hC:=(Kd.R_reads' hR).2.2
 obtain ⟨ad,rfl,_⟩:=hC.2.2 hy
 refine wpList_append_grows W hgd s x t hop e i (.int .u8 0) 1 1 ht hi hz h4 h5 rfl (by decide) (some ⟨g,0,none⟩) xs.length xs.length (xs.map (Value.int .u8)) hs (by simp) (by simp) (fun b hb' j u hj=>?_) ad ys.length cp (ys.map (Value.int .u8)) hx (by simp) (fun j u hj=>?_) (by simp [Value.oneCell']) (by omega) (by unfold maxLen; omega) (by omega) ?_
 ·cases hb'
  rw [add_plain,cell_of_row W g j _ e fr hb]
  simpa using hj
 ·have hjl : j < ys.length:=by have:=(List.getElem?_eq_some_iff.1 hj).1; simpa using this
  obtain ⟨ad',e',hc⟩:=Kd.at_int hC (j : Int) (by omega) (by omega)
  cases e'
  rw [Int.toNat_natCast,rdAt hjl] at hc
  rw [hc]
  have : u = .int .u8 ys[j]:=by
   rw [List.getElem?_map,List.getElem?_eq_getElem hjl] at hj
   simpa using hj.symm
  rw [this]
 ·intro v1 w1 hown hgr
  have hbl : Below W.heap.size W w1:=pw_below_grown (Below.refl _ _) none (Nat.le_refl _) hgr (by simp)
  have hbase : ∀ k,v1.ownBlock = some k → W.heap.size ≤ k:=fun k hk=>(hown.lt k hk).1
  refine h v1 w1 (Kd.R_lower (Kd.R_of_own (h1:=fun _=>rfl) (by simpa [encs] using hown) (fun k hk e1=>?_)) hB.size) (Kd.R_elder' hR hbase hbl) hgr (below_then hB hB.size hbl)
  have h1:=hbase k hk
  have h2:=Kd.R_lt hR k e1.symm
  omega
end
end Go.Proofs.Ytcbnhfnnjkkceaa.X
end
section
namespace Go.Proofs.Ytcbnhfnnjkkceaa.X
open Go.RowKit Go.Proofs.YtcbnhfnnjkkceaaW.PrintWords Go.Proofs.YtcbnhfnnjkkceaaW.PrintLast Go.Proofs.YtcbnhfnnjkkceaaW.PrintMore
/-- A flat row of the call's own hangs on its own block alone. -/
theorem R_other {α : Type} {d : Kd α} {e base : Nat} {ok : Nat → Prop} {w w1 : World} {v : Value} {xs : List α} (hE : d.E = []) (h : d.R e w base ok v xs) (hk : ∀ k,v.ownBlock = some k → w1.heap[k]? = w.heap[k]?) : d.R e w1 base ok v xs :=
 Kd.R_reok hE (Kd.R_step (Kd.R_tight hE h) (fun k hk1 _=>hk k hk1.symm)) h.1
theorem R_set {α : Type} {d : Kd α} {e t base : Nat} {ok : Nat → Prop} {w : World} {v : Value} {xs : List α} (hE : d.E = []) (h : d.R e w base ok v xs) {g : Nat} {cs : Array Value} (hg : w.heap[g]? = some (.cells cs t (0,0))) (ht : e ≠ t) (j : Nat) (u : Value) : d.R e (w.setCell ⟨g,j,none⟩ u) base ok v xs :=
 R_other hE h fun k hk=>Below.heap_setCell w ⟨g,j,none⟩ u k fun e1=>by
  have e1 : k = g:=e1
  obtain ⟨c,hc⟩:=Kd.R_typed h k hk
  rw [e1,hg] at hc
  cases hc
  exact ht rfl
set_option maxRecDepth 100000 in
set_option maxHeartbeats 8000000 in
theorem copied_calls (m s i : Int) (A3 : Option Addr) (c3 : Nat) (data : List Int) (A4 : Option Addr) (c4 : Nat) (funs : List Int) (A5 : Option Addr) (c5 : Nat) (code : List S45) (w : World)
  (hr3 : Kd.C (Kd.int .u8) w A3 data.length data) (hc3 : data.length ≤ c3) (hr4 : Kd.C (Kd.int .i64) w A4 funs.length funs) (hc4 : funs.length ≤ c4) (hr5 : Kd.C k45 w A5 code.length code) (hc5 : code.length ≤ c5)
  (hl3 : data.length ≤ 100) (hl4 : funs.length ≤ 40) (hl5 : code.length ≤ 300) :
  Calls Try.prog 22 #[.agg #[.int .i64 m,.int .i64 s,.int .i64 i,.slice A3 data.length c3,.slice A4 funs.length c4,.slice A5 code.length c5]] w fun e w'=>∃ v3 v4 v5,e = .returned (.agg #[.int .i64 m,.int .i64 s,.int .i64 i,v3,v4,v5]) ∧
   Kd.R (Kd.int .u8) 5 w' w.heap.size (fun _=>True) v3 data ∧ Kd.R (Kd.int .i64) 3 w' w.heap.size (fun _=>True) v4 funs ∧ Kd.R k45 45 w' w.heap.size (fun _=>True) v5 code ∧ Below w.heap.size w w':=by
 have H3:=Aside0.mk (fun W1 (hB : Below w.heap.size w W1)=>clone_byte A3 c3 data W1 (Kd.C_below hr3 hB) hc3 (by omega))
 have H4:=Aside0.mk (fun W1 (hB : Below w.heap.size w W1)=>clone_int A4 c4 funs W1 (Kd.C_below hr4 hB) hc4 (by omega))
 have H5:=Aside0.mk (fun W1 (hB : Below w.heap.size w W1)=>clone_ins A5 c5 code W1 (Kd.C_below hr5 hB) hc5 (by omega))
 clear hr3 hr4 hr5
 go_enter Try.func22,Try.ntmps22
 go_upto_region 1 with (fail)
 obtain ⟨W1,hW1⟩ : ∃ W1,(w.alloc (Obj.cells #[.int .i64 m,.int .i64 s,.int .i64 i,.slice A3 data.length c3,.slice A4 funs.length c4,.slice A5 code.length c5] 26)).alloc (Obj.cells #[.int .i64 0,.int .i64 0,.int .i64 0,.slice none 0 0,.slice none 0 0,.slice none 0 0] 26) = W1:=⟨_,rfl⟩
 have e0 : (w.alloc (Obj.cells #[.int .i64 m,.int .i64 s,.int .i64 i,.slice A3 data.length c3,.slice A4 funs.length c4,.slice A5 code.length c5] 26)).heap.size = w.heap.size + 1:=by show (w.heap.push _).size = _; simp
 have HB1 : Aside0 (Below w.heap.size w W1):=⟨by rw [← hW1]; exact z04 (z04 (Below.refl _ _) _) _⟩
 have BK1 : Aside0 (W1.heap[w.heap.size]? = some (.cells #[.int .i64 m,.int .i64 s,.int .i64 i,.slice A3 data.length c3,.slice A4 funs.length c4,.slice A5 code.length c5] 26 (0,0))):=⟨by rw [← hW1]; exact z06 (blk_new w _) _⟩
 have BZ1 : Aside0 (W1.heap[w.heap.size + 1]? = some (.cells #[.int .i64 0,.int .i64 0,.int .i64 0,.slice none 0 0,.slice none 0 0,.slice none 0 0] 26 (0,0))):=⟨by rw [← hW1]; have h:=blk_new (w.alloc (Obj.cells #[.int .i64 m,.int .i64 s,.int .i64 i,.slice A3 data.length c3,.slice A4 funs.length c4,.slice A5 code.length c5] 26)) (Obj.cells #[.int .i64 0,.int .i64 0,.int .i64 0,.slice none 0 0,.slice none 0 0,.slice none 0 0] 26); rw [e0] at h; exact h⟩
 simp only [hW1]
 clear hW1 e0
 refine start_ (n:=15) (S:=fun w'=>w'.cell? ⟨w.heap.size,3,none⟩ = some (.slice A3 data.length c3) ∧ w'.cell? ⟨w.heap.size,4,none⟩ = some (.slice A4 funs.length c4) ∧ w'.cell? ⟨w.heap.size,5,none⟩ = some (.slice A5 code.length c5)) (ds:=[10,12,14]) #[false,false,false,false,false,false,false,false,false,false,false,false,false,false,false] (by kernel_rfl) rfl rfl ⟨z02 BK1.out 3,z02 BK1.out 4,z02 BK1.out 5⟩ (fun hHeld=>?_)
 refine pure_ (i:=0) (N:=some 3) (v:=?_) (a':=?_) #[true,false,false,false,false,false,false,false,false,false,false,false,false,false,false] rfl rfl (by kernel_rfl) (fun _ _ _ h=>h) (Or.inl ⟨by rfl,?_⟩) ?_ ?_
 rotate_left
 ·intro w'
  go_simp
  with_reducible rfl
 rotate_left
 ·simp only [Act.put,zq1,zq2,zq3,i64_w,i32_w]
  rfl
 refine pure_ (i:=3) (N:=some 6) (v:=?_) (a':=?_) #[true,false,false,true,false,false,false,false,false,false,false,false,false,false,false] rfl rfl (by kernel_rfl) (fun _ _ _ h=>h) (Or.inl ⟨by rfl,?_⟩) ?_ ?_
 rotate_left
 ·intro w'
  go_simp
  with_reducible rfl
 rotate_left
 ·simp only [Act.put,zq1,zq2,zq3,i64_w,i32_w]
  rfl
 refine pure_ (i:=6) (N:=some 9) (v:=?_) (a':=?_) #[true,false,false,true,false,false,true,false,false,false,false,false,false,false,false] rfl rfl (by kernel_rfl) (fun _ _ _ h=>h) (Or.inl ⟨by rfl,?_⟩) ?_ ?_
 rotate_left
 ·intro w'
  go_simp
  with_reducible rfl
 rotate_left
 ·simp only [Act.put,zq1,zq2,zq3,i64_w,i32_w]
  rfl
 refine take_ (i:=1) (N:=some 4) (v:=?_) (a':=?_) #[true,true,false,true,false,false,true,false,false,false,false,false,false,false,false] rfl rfl (by kernel_rfl) (fun _ _ _ h=>h) (Or.inl ⟨by rfl,?_⟩) hHeld ?_ ?_
 rotate_left
 ·rintro w' ⟨s0,s1,s2⟩
  go_simp
  with_reducible rfl
 rotate_left
 ·simp only [Act.put,zq1,zq2,zq3,i64_w,i32_w]
  rfl
 refine take_ (i:=4) (N:=some 7) (v:=?_) (a':=?_) #[true,true,false,true,true,false,true,false,false,false,false,false,false,false,false] rfl rfl (by kernel_rfl) (fun _ _ _ h=>h) (Or.inl ⟨by rfl,?_⟩) hHeld ?_ ?_
 rotate_left
 ·rintro w' ⟨s0,s1,s2⟩
  go_simp
  with_reducible rfl
 rotate_left
 ·simp only [Act.put,zq1,zq2,zq3,i64_w,i32_w]
  rfl
 refine take_ (i:=7) (N:=some 10) (v:=?_) (a':=?_) #[true,true,false,true,true,false,true,true,false,false,false,false,false,false,false] rfl rfl (by kernel_rfl) (fun _ _ _ h=>h) (Or.inl ⟨by rfl,?_⟩) hHeld ?_ ?_
 rotate_left
 ·rintro w' ⟨s0,s1,s2⟩
  go_simp
  with_reducible rfl
 rotate_left
 ·simp only [Act.put,zq1,zq2,zq3,i64_w,i32_w]
  rfl
 refine one_ (i:=2) (N:=some 5) #[true,true,true,true,true,false,true,true,false,false,false,false,false,false,false] rfl rfl (by kernel_rfl) (by decide) (fun K hK=>?_)
 refine goes_ Try.func34 (by kernel_rfl) rfl #[.slice A3 data.length c3] (by rfl) rfl rfl (by simp only [List.map_toArray,List.map_cons,List.map_nil]; rfl) ?_
 refine (H3.out _ (below_drew HB1.out)).mono ?_
 rintro e w2 ⟨v3,rfl,hr,hb⟩
 refine ⟨_,rfl,?_⟩
 have HR3:=Aside0.mk hr
 have HB2:=Aside0.mk (below_then (below_drew HB1.out) (below_drew HB1.out).size hb)
 have BK2:=Aside0.mk (z0v (z09 BK1.out) hb)
 have BZ2:=Aside0.mk (z0v (z09 BZ1.out) hb)
 clear hr hb
 refine hK.out _ _ ⟨z02 BK2.out 3,z02 BK2.out 4,z02 BK2.out 5⟩ (fun hHeld=>?_)
 clear hK K
 refine norm_ (a':=?_) ?_ ?_
 rotate_left
 ·show Act.put _ (some 5) _ = _
  simp only [Act.put,zq1,zq2,zq3,i64_w,i32_w]
  rfl
 refine pure_ (i:=9) (N:=some 12) (v:=?_) (a':=?_) #[true,true,true,true,true,false,true,true,false,true,false,false,false,false,false] rfl rfl (by kernel_rfl) (fun _ _ _ h=>h) (Or.inl ⟨by rfl,?_⟩) ?_ ?_
 rotate_left
 ·intro w'
  go_simp
  with_reducible rfl
 rotate_left
 ·simp only [Act.put,zq1,zq2,zq3,i64_w,i32_w]
  rfl
 refine one_ (i:=5) (N:=some 8) #[true,true,true,true,true,true,true,true,false,true,false,false,false,false,false] rfl rfl (by kernel_rfl) (by decide) (fun K hK=>?_)
 refine goes_ Try.func35 (by kernel_rfl) rfl #[.slice A4 funs.length c4] (by rfl) rfl rfl (by simp only [List.map_toArray,List.map_cons,List.map_nil]; rfl) ?_
 refine (H4.out _ HB2.out).mono ?_
 rintro e w3 ⟨v4,rfl,hr,hb⟩
 refine ⟨_,rfl,?_⟩
 have HR4:=Aside0.mk hr
 have HR3b:=Aside0.mk (Kd.R_below (Kd.R_lower HR3.out (below_drew HB1.out).size) hb)
 have HB3:=Aside0.mk (below_then HB2.out HB2.out.size hb)
 have BK3:=Aside0.mk (z0v BK2.out hb)
 have BZ3:=Aside0.mk (z0v BZ2.out hb)
 clear hr hb
 refine hK.out _ _ ⟨z02 BK3.out 3,z02 BK3.out 4,z02 BK3.out 5⟩ (fun hHeld=>?_)
 clear hK K
 refine norm_ (a':=?_) ?_ ?_
 rotate_left
 ·show Act.put _ (some 8) _ = _
  simp only [Act.put,zq1,zq2,zq3,i64_w,i32_w]
  rfl
 refine one_ (i:=8) (N:=some 11) #[true,true,true,true,true,true,true,true,true,true,false,false,false,false,false] rfl rfl (by kernel_rfl) (by decide) (fun K hK=>?_)
 refine goes_ Try.func36 (by kernel_rfl) rfl #[.slice A5 code.length c5] (by rfl) rfl rfl (by simp only [List.map_toArray,List.map_cons,List.map_nil]; rfl) ?_
 refine (H5.out _ HB3.out).mono ?_
 rintro e w4 ⟨v5,rfl,hr,hb⟩
 refine ⟨_,rfl,?_⟩
 have HR5:=Aside0.mk (Kd.R_lower hr HB3.out.size)
 have HR3c:=Aside0.mk (Kd.R_below HR3b.out hb)
 have HR4c:=Aside0.mk (Kd.R_below (Kd.R_lower HR4.out HB2.out.size) hb)
 have HB4:=Aside0.mk (below_then HB3.out HB3.out.size hb)
 have BK4:=Aside0.mk (z0v BK3.out hb)
 have BZ4:=Aside0.mk (z0v BZ3.out hb)
 obtain ⟨A3',n3',c3',e3⟩ : ∃ A n c,v3 = .slice A n c:=by obtain ⟨A,c,h⟩:=Kd.R_slice HR3c.out; exact ⟨_,_,_,h⟩
 obtain ⟨A4',n4',c4',e4⟩ : ∃ A n c,v4 = .slice A n c:=by obtain ⟨A,c,h⟩:=Kd.R_slice HR4c.out; exact ⟨_,_,_,h⟩
 obtain ⟨A5',n5',c5',e5⟩ : ∃ A n c,v5 = .slice A n c:=by obtain ⟨A,c,h⟩:=Kd.R_slice HR5.out; exact ⟨_,_,_,h⟩
 subst e3
 subst e4
 subst e5
 clear hr hb
 have hk3:=z02 BK4.out 3
 have hk4:=z02 BK4.out 4
 have hk5:=z02 BK4.out 5
 have hf3:=z01 BK4.out 3
 have hf4:=z01 BK4.out 4
 have hf5:=z01 BK4.out 5
 refine hK.out _ _ ⟨z02 BK4.out 3,z02 BK4.out 4,z02 BK4.out 5⟩ (fun hHeld=>?_)
 clear hK K
 refine norm_ (a':=?_) ?_ ?_
 rotate_left
 ·show Act.put _ (some 11) _ = _
  simp only [Act.put,zq1,zq2,zq3,i64_w,i32_w]
  rfl
 refine last_ (i:=10) (N:=none) #[true,true,true,true,true,true,true,true,true,true,true,false,false,false,false] rfl rfl (by kernel_rfl) (by decide) (fun K hK=>?_)
 refine skip_ (w1:=?_) (by rfl) rfl ?_ ?_
 rotate_left
 ·go_simp
  rfl
 refine hK.out _ _ ?_
 clear hK K
 refine pure_ (i:=11) (N:=some 13) (v:=?_) (a':=?_) #[true,true,true,true,true,true,true,true,true,true,true,true,false,false,false] rfl rfl (by kernel_rfl) (fun _ _ _ h=>h) (Or.inl ⟨by rfl,?_⟩) ?_ ?_
 rotate_left
 ·intro w'
  go_simp
  with_reducible rfl
 rotate_left
 ·simp only [Act.put,zq1,zq2,zq3,i64_w,i32_w]
  rfl
 refine last_ (i:=12) (N:=none) #[true,true,true,true,true,true,true,true,true,true,true,true,true,false,false] rfl rfl (by kernel_rfl) (by decide) (fun K hK=>?_)
 refine skip_ (w1:=?_) (by rfl) rfl ?_ ?_
 rotate_left
 ·go_simp
  rfl
 refine hK.out _ _ ?_
 clear hK K
 refine pure_ (i:=13) (N:=some 14) (v:=?_) (a':=?_) #[true,true,true,true,true,true,true,true,true,true,true,true,true,true,false] rfl rfl (by kernel_rfl) (fun _ _ _ h=>h) (Or.inl ⟨by rfl,?_⟩) ?_ ?_
 rotate_left
 ·intro w'
  go_simp
  with_reducible rfl
 rotate_left
 ·simp only [Act.put,zq1,zq2,zq3,i64_w,i32_w]
  rfl
 refine last_ (i:=14) (N:=none) #[true,true,true,true,true,true,true,true,true,true,true,true,true,true,true] rfl rfl (by kernel_rfl) (by decide) (fun K hK=>?_)
 refine skip_ (w1:=?_) (by rfl) rfl ?_ ?_
 rotate_left
 ·go_simp
  rfl
 refine hK.out _ _ ?_
 clear hK K
 refine done_ (by kernel_rfl) ?_
 have q0 : w.heap.size ≠ w.heap.size + 1:=by omega
 have b1:=z0u BK4.out 3 (.slice A3' n3' c3') (cs':=#[.int .i64 m,.int .i64 s,.int .i64 i,.slice A3' n3' c3',.slice A4 funs.length c4,.slice A5 code.length c5]) rfl
 have b2:=z0u b1 4 (.slice A4' n4' c4') (cs':=#[.int .i64 m,.int .i64 s,.int .i64 i,.slice A3' n3' c3',.slice A4' n4' c4',.slice A5 code.length c5]) rfl
 have BK5:=Aside0.mk (z0u b2 5 (.slice A5' n5' c5') (cs':=#[.int .i64 m,.int .i64 s,.int .i64 i,.slice A3' n3' c3',.slice A4' n4' c4',.slice A5' n5' c5']) rfl)
 have BZ5:=Aside0.mk (z0x (z0x (z0x BZ4.out (p:=⟨w.heap.size,3,none⟩) (Ne.symm q0) (.slice A3' n3' c3')) (p:=⟨w.heap.size,4,none⟩) (Ne.symm q0) (.slice A4' n4' c4')) (p:=⟨w.heap.size,5,none⟩) (Ne.symm q0) (.slice A5' n5' c5'))
 have HB5:=Aside0.mk (z07 (z07 (z07 HB4.out (Nat.le_refl w.heap.size) (j:=3) (v:=.slice A3' n3' c3')) (Nat.le_refl w.heap.size) (j:=4) (v:=.slice A4' n4' c4')) (Nat.le_refl w.heap.size) (j:=5) (v:=.slice A5' n5' c5'))
 have HR3d:=Aside0.mk (R_set rfl (R_set rfl (R_set rfl HR3c.out BK4.out (by decide) 3 (.slice A3' n3' c3')) b1 (by decide) 4 (.slice A4' n4' c4')) b2 (by decide) 5 (.slice A5' n5' c5'))
 have HR4d:=Aside0.mk (R_set rfl (R_set rfl (R_set rfl HR4c.out BK4.out (by decide) 3 (.slice A3' n3' c3')) b1 (by decide) 4 (.slice A4' n4' c4')) b2 (by decide) 5 (.slice A5' n5' c5'))
 have HR5d:=Aside0.mk (R_set rfl (R_set rfl (R_set rfl HR5.out BK4.out (by decide) 3 (.slice A3' n3' c3')) b1 (by decide) 4 (.slice A4' n4' c4')) b2 (by decide) 5 (.slice A5' n5' c5'))
 generalize ((w4.setCell ⟨w.heap.size,3,none⟩ (.slice A3' n3' c3')).setCell ⟨w.heap.size,4,none⟩ (.slice A4' n4' c4')).setCell ⟨w.heap.size,5,none⟩ (.slice A5' n5' c5') = w5 at BK5 BZ5 HB5 HR3d HR4d HR5d ⊢
 clear hHeld b1 b2 hk3 hk4 hk5 hf3 hf4 hf5 H3 H4 H5
 have k0:=z02 BK5.out 0
 have k1:=z02 BK5.out 1
 have k2:=z02 BK5.out 2
 have k3:=z02 BK5.out 3
 have k4:=z02 BK5.out 4
 have k5:=z02 BK5.out 5
 have z0:=z02 BZ5.out 0
 have z1:=z02 BZ5.out 1
 have z2:=z02 BZ5.out 2
 have z3:=z02 BZ5.out 3
 have z4:=z02 BZ5.out 4
 have z5:=z02 BZ5.out 5
 have f0:=z01 BZ5.out 0
 have f1:=z01 BZ5.out 1
 have f2:=z01 BZ5.out 2
 have f3:=z01 BZ5.out 3
 have f4:=z01 BZ5.out 4
 have f5:=z01 BZ5.out 5
 go_wp2
 have y0:=BZ5.out
 have y1:=z0u y0 0 (.int .i64 m) (cs':=#[.int .i64 m,.int .i64 0,.int .i64 0,.slice none 0 0,.slice none 0 0,.slice none 0 0]) rfl
 have y2:=z0u y1 1 (.int .i64 s) (cs':=#[.int .i64 m,.int .i64 s,.int .i64 0,.slice none 0 0,.slice none 0 0,.slice none 0 0]) rfl
 have y3:=z0u y2 2 (.int .i64 i) (cs':=#[.int .i64 m,.int .i64 s,.int .i64 i,.slice none 0 0,.slice none 0 0,.slice none 0 0]) rfl
 have y4:=z0u y3 3 (.slice A3' n3' c3') (cs':=#[.int .i64 m,.int .i64 s,.int .i64 i,.slice A3' n3' c3',.slice none 0 0,.slice none 0 0]) rfl
 have y5:=z0u y4 4 (.slice A4' n4' c4') (cs':=#[.int .i64 m,.int .i64 s,.int .i64 i,.slice A3' n3' c3',.slice A4' n4' c4',.slice none 0 0]) rfl
 have y6:=z0u y5 5 (.slice A5' n5' c5') (cs':=#[.int .i64 m,.int .i64 s,.int .i64 i,.slice A3' n3' c3',.slice A4' n4' c4',.slice A5' n5' c5']) rfl
 have HR3df:=Aside0.mk (R_set rfl (R_set rfl (R_set rfl (R_set rfl (R_set rfl (R_set rfl (HR3d.out) y0 (by decide) 0 (.int .i64 m)) y1 (by decide) 1 (.int .i64 s)) y2 (by decide) 2 (.int .i64 i)) y3 (by decide) 3 (.slice A3' n3' c3')) y4 (by decide) 4 (.slice A4' n4' c4')) y5 (by decide) 5 (.slice A5' n5' c5'))
 have HR4df:=Aside0.mk (R_set rfl (R_set rfl (R_set rfl (R_set rfl (R_set rfl (R_set rfl (HR4d.out) y0 (by decide) 0 (.int .i64 m)) y1 (by decide) 1 (.int .i64 s)) y2 (by decide) 2 (.int .i64 i)) y3 (by decide) 3 (.slice A3' n3' c3')) y4 (by decide) 4 (.slice A4' n4' c4')) y5 (by decide) 5 (.slice A5' n5' c5'))
 have HR5df:=Aside0.mk (R_set rfl (R_set rfl (R_set rfl (R_set rfl (R_set rfl (R_set rfl (HR5d.out) y0 (by decide) 0 (.int .i64 m)) y1 (by decide) 1 (.int .i64 s)) y2 (by decide) 2 (.int .i64 i)) y3 (by decide) 3 (.slice A3' n3' c3')) y4 (by decide) 4 (.slice A4' n4' c4')) y5 (by decide) 5 (.slice A5' n5' c5'))
 have HB6:=Aside0.mk (z07 (z07 (z07 (z07 (z07 (z07 (HB5.out) (Nat.le_succ w.heap.size) (j:=0) (v:=.int .i64 m)) (Nat.le_succ w.heap.size) (j:=1) (v:=.int .i64 s)) (Nat.le_succ w.heap.size) (j:=2) (v:=.int .i64 i)) (Nat.le_succ w.heap.size) (j:=3) (v:=.slice A3' n3' c3')) (Nat.le_succ w.heap.size) (j:=4) (v:=.slice A4' n4' c4')) (Nat.le_succ w.heap.size) (j:=5) (v:=.slice A5' n5' c5'))
 have BZ6:=Aside0.mk y6
 generalize ((((((w5.setCell ⟨w.heap.size + 1,0,none⟩ (.int .i64 m)).setCell ⟨w.heap.size + 1,1,none⟩ (.int .i64 s)).setCell ⟨w.heap.size + 1,2,none⟩ (.int .i64 i)).setCell ⟨w.heap.size + 1,3,none⟩ (.slice A3' n3' c3')).setCell ⟨w.heap.size + 1,4,none⟩ (.slice A4' n4' c4')).setCell ⟨w.heap.size + 1,5,none⟩ (.slice A5' n5' c5')) = w6 at BZ6 HB6 HR3df HR4df HR5df ⊢
 have x0:=z02 BZ6.out 0
 have x1:=z02 BZ6.out 1
 have x2:=z02 BZ6.out 2
 have x3:=z02 BZ6.out 3
 have x4:=z02 BZ6.out 4
 have x5:=z02 BZ6.out 5
 simp only [List.getElem?_toArray,List.getElem?_cons_zero,List.getElem?_cons_succ] at x0 x1 x2 x3 x4 x5
 exact bodyPost_ret (v:=.agg #[.int .i64 m,.int .i64 s,.int .i64 i,.slice A3' n3' c3',.slice A4' n4' c4',.slice A5' n5' c5']) (by simp [results,Try.results22,go_sem,x0,x1,x2,x3,x4,x5]) rfl ⟨_,_,_,rfl,HR3df.out,HR4df.out,HR5df.out,HB6.out⟩
end Go.Proofs.Ytcbnhfnnjkkceaa.X
end
