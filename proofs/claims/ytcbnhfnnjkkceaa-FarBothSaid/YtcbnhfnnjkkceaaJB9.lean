/- For the statement of the row : what its proof needs of the text B9. -/
import Derived.Test.YtcbnhfnnjkkceaaRows
import Derived.WalkKit
import Derived.ProofKit
import Derived.OpenShut
import Derived.ShutString
import Derived.ChangeOld
import Derived.Below
import Derived.SizedLaws
import Derived.Test.YtcbnhfnnjkkceaaJB1
import Derived.Test.YtcbnhfnnjkkceaaJB2
import Derived.Test.YtcbnhfnnjkkceaaJB3
import Derived.Test.YtcbnhfnnjkkceaaJB4
import Derived.Test.YtcbnhfnnjkkceaaJB5
import Derived.Test.YtcbnhfnnjkkceaaJB6
import Derived.Test.YtcbnhfnnjkkceaaJB7
import Derived.Test.YtcbnhfnnjkkceaaJB8
set_option linter.unusedSimpArgs false
set_option linter.unusedVariables false

section
namespace Go.Proofs.Ytcbnhfnnjkkceaa.X
open Go.RowKit Go.Proofs.YtcbnhfnnjkkceaaW.PrintWords Go.Proofs.YtcbnhfnnjkkceaaW.PrintLast Go.Proofs.YtcbnhfnnjkkceaaW.PrintMore Go.Proofs.Ytcbnhfnnjkkceaa.Gr
set_option maxRecDepth 100000 in
set_option maxHeartbeats 8000000 in
theorem farBoth_law (p : Im) (A3 : Option Addr) (c3 : Nat) (A4 : Option Addr) (c4 : Nat) (A5 : Option Addr) (c5 : Nat) (a b c : Int) (w : World)
  (hr3 : Kd.C (Kd.int .u8) w A3 p.f3.length p.f3) (hc3 : p.f3.length ≤ c3) (hr4 : Kd.C (Kd.int .i64) w A4 p.f4.length p.f4) (hc4 : p.f4.length ≤ c4) (hr5 : Kd.C k45 w A5 p.f5.length p.f5) (hc5 : p.f5.length ≤ c5)
  (hw : wfP p) (hwa : Gr.wfI a) (hwb : Gr.wfI b) (hwc : Gr.wfI c) :
  Calls Try.prog 7 #[.agg #[.int .i64 p.f0,.int .i64 p.f1,.int .i64 p.f2,.slice A3 p.f3.length c3,.slice A4 p.f4.length c4,.slice A5 p.f5.length c5],.int .i64 a,.int .i64 b,.int .i64 c] w fun e w'=>e = .returned (.bool true) ∧ Below w.heap.size w w':=by
 have hb1:=z04 (Below.refl w.heap.size w) (Obj.cells #[.int .i64 p.f0,.int .i64 p.f1,.int .i64 p.f2,.slice A3 p.f3.length c3,.slice A4 p.f4.length c4,.slice A5 p.f5.length c5] 26)
 have BX1:=Aside0.mk (blk_new w (Obj.cells #[.int .i64 p.f0,.int .i64 p.f1,.int .i64 p.f2,.slice A3 p.f3.length c3,.slice A4 p.f4.length c4,.slice A5 p.f5.length c5] 26))
 have HS1 : Aside0 ((w.alloc (Obj.cells #[.int .i64 p.f0,.int .i64 p.f1,.int .i64 p.f2,.slice A3 p.f3.length c3,.slice A4 p.f4.length c4,.slice A5 p.f5.length c5] 26)).heap.size = w.heap.size + 1):=⟨by show (w.heap.push _).size = _; simp⟩
 have HC3:=Aside0.mk (Kd.C_below hr3 hb1)
 have HC4:=Aside0.mk (Kd.C_below hr4 hb1)
 have HC5:=Aside0.mk (Kd.C_below hr5 hb1)
 have HB1:=Aside0.mk hb1
 clear hr3 hr4 hr5 hb1
 have HAW:=Aside0.mk (awake21_calls (w.alloc (Obj.cells #[.int .i64 p.f0,.int .i64 p.f1,.int .i64 p.f2,.slice A3 p.f3.length c3,.slice A4 p.f4.length c4,.slice A5 p.f5.length c5] 26)))
 go_enter Try.func7,Try.ntmps7
 go_wp2_with fail
 generalize w.alloc (Obj.cells #[.int .i64 p.f0,.int .i64 p.f1,.int .i64 p.f2,.slice A3 p.f3.length c3,.slice A4 p.f4.length c4,.slice A5 p.f5.length c5] 26) = W1 at BX1 HS1 HC3 HC4 HC5 HB1 HAW ⊢
 refine HAW.out.mono ?_
 rintro e w2 ⟨rfl,hB⟩
 rw [HS1.out] at hB
 have HBw:=Aside0.mk hB
 have hbk:=(hB.block w.heap.size (by omega)).trans BX1.out
 have HC3:=Aside0.mk (Kd.C_below HC3.out (by rw [HS1.out]; exact hB))
 have HC4:=Aside0.mk (Kd.C_below HC4.out (by rw [HS1.out]; exact hB))
 have HC5:=Aside0.mk (Kd.C_below HC5.out (by rw [HS1.out]; exact hB))
 have k0:=z02 hbk 0
 have k1:=z02 hbk 1
 have k2:=z02 hbk 2
 have k3:=z02 hbk 3
 have k4:=z02 hbk 4
 have k5:=z02 hbk 5
 have HMD:=Aside0.mk (made_calls p A3 c3 A4 c4 A5 c5 w2 HC3.out hc3 HC4.out hc4 HC5.out hc5 hw)
 have HSW : Aside0 (w.heap.size + 1 ≤ w2.heap.size):=⟨by rw [← HS1.out]; exact hB.size⟩
 clear hB hbk HAW
 go_wp2_with fail
 refine HMD.out.mono ?_
 rintro e w3 (⟨rfl,hB⟩ | ⟨g,BB,rfl,hg0,hG,hB,h0,hla,h3,h4⟩)
 ·have HBn:=Aside0.mk (below_then HBw.out (by rw [← HS1.out]; exact HBw.out.size) hB)
  clear HBw hB HMD k0 k1 k2 k3 k4 k5
  have hbx : w3.cell? ⟨w.heap.size,5,none⟩ = some (.slice A5 p.f5.length c5):=(z02 ((HBn.out.block w.heap.size (Nat.lt_succ_self _)).trans BX1.out) 5).trans rfl
  go_wp2
  go_ret
  exact ⟨rfl,below_then HB1.out HB1.out.size (by rw [HS1.out]; exact HBn.out)⟩
 have HLG : Aside0 (w.heap.size + 1 ≤ g):=⟨Nat.le_trans HSW.out hg0⟩
 have HBn:=Aside0.mk (below_then HBw.out (by rw [← HS1.out]; exact HBw.out.size) hB)
 have HG:=Aside0.mk hG
 have hrt:=encV_rt hw h0
 have HRT:=Aside0.mk hrt
 have HNX : Aside0 (∀ v : Int,0 ≤ v → v < p.f5.length → ∀ u ∈ nextL p v,0 ≤ u ∧ u < p.f5.length):=⟨fun v a b=>next_in hw h0 hla ⟨a,b⟩⟩
 have H3:=Aside0.mk h3
 have H4:=Aside0.mk h4
 have H256:=Aside0.mk hrt.fits.2.2.1
 clear HBw hB hG hg0 h0 hla h3 h4 hrt HMD k0 k1 k2 k3 k4 k5
 have HBw:=HBn
 clear HBn
 have HEND : Aside0 (∀ w',Below (w.heap.size + 1) W1 w' → Below w.heap.size w w'):=⟨fun w' h=>below_then HB1.out HB1.out.size (by rw [HS1.out]; exact h)⟩
 have hbx : w3.cell? ⟨w.heap.size,5,none⟩ = some (.slice A5 p.f5.length c5):=(z02 ((HBw.out.block w.heap.size (Nat.lt_succ_self _)).trans BX1.out) 5).trans rfl
 obtain ⟨n,hn⟩ : ∃ n,p.f5.length = n:=⟨_,rfl⟩
 rw [hn] at hbx H256
 have HN:=Lib.hid hn
 clear hn HC3 HC4 HC5 HB1
 by_cases hg0 : 0 ≤ a
 rotate_left
 ·have hd0 : decide (a < 0) = true:=decide_eq_true (by omega)
  clear hg0
  go_wp2
  go_ret
  exact ⟨rfl,HEND.out _ HBw.out⟩
 have hd0 : decide (a < 0) = false:=decide_eq_false (by omega)
 by_cases hg1 : a < n
 rotate_left
 ·have hd1 : decide (a ≥ (n : Int)) = true:=decide_eq_true (by omega)
  have he1 : decide ((n : Int) ≤ a) = true:=decide_eq_true (by omega)
  clear hg0 hg1
  go_wp2
  go_ret
  exact ⟨rfl,HEND.out _ HBw.out⟩
 have hd1 : decide (a ≥ (n : Int)) = false:=decide_eq_false (by omega)
 have he1 : decide ((n : Int) ≤ a) = false:=decide_eq_false (by omega)
 by_cases hg2 : 0 ≤ b
 rotate_left
 ·have hd2 : decide (b < 0) = true:=decide_eq_true (by omega)
  clear hg0 hg1 hg2
  go_wp2
  go_ret
  exact ⟨rfl,HEND.out _ HBw.out⟩
 have hd2 : decide (b < 0) = false:=decide_eq_false (by omega)
 by_cases hg3 : b < n
 rotate_left
 ·have hd3 : decide (b ≥ (n : Int)) = true:=decide_eq_true (by omega)
  have he3 : decide ((n : Int) ≤ b) = true:=decide_eq_true (by omega)
  clear hg0 hg1 hg2 hg3
  go_wp2
  go_ret
  exact ⟨rfl,HEND.out _ HBw.out⟩
 have hd3 : decide (b ≥ (n : Int)) = false:=decide_eq_false (by omega)
 have he3 : decide ((n : Int) ≤ b) = false:=decide_eq_false (by omega)
 by_cases hg4 : 0 ≤ c
 rotate_left
 ·have hd4 : decide (c < 0) = true:=decide_eq_true (by omega)
  clear hg0 hg1 hg2 hg3 hg4
  go_wp2
  go_ret
  exact ⟨rfl,HEND.out _ HBw.out⟩
 have hd4 : decide (c < 0) = false:=decide_eq_false (by omega)
 by_cases hg5 : c < n
 rotate_left
 ·have hd5 : decide (c ≥ (n : Int)) = true:=decide_eq_true (by omega)
  have he5 : decide ((n : Int) ≤ c) = true:=decide_eq_true (by omega)
  clear hg0 hg1 hg2 hg3 hg4 hg5
  go_wp2
  go_ret
  exact ⟨rfl,HEND.out _ HBw.out⟩
 have hd5 : decide (c ≥ (n : Int)) = false:=decide_eq_false (by omega)
 have he5 : decide ((n : Int) ≤ c) = false:=decide_eq_false (by omega)
 have HFR:=Aside0.mk (farFrom HRT.out HG.out HNX.out H3.out H4.out (a:=a))
 go_wp2_with fail
 refine HFR.out.mono ?_
 rintro e w4 ⟨v,d1,rfl,hR,hd,_,hG,hF⟩
 obtain ⟨A1_,cd1,rfl⟩:=Kd.R_slice hR
 have HR1:=Aside0.mk (Kd.R_lower hR (Nat.zero_le _))
 have HGn:=Aside0.mk hG
 have HBn:=Aside0.mk (fr_below hF HBw.out (by rw [← HS1.out]; exact HBw.out.size) HLG.out)
 have hd:=hd (by rw [HN.out]; exact ⟨hg0,hg1⟩)
 have HD1:=Aside0.mk hd.1
 have HBD1:=Aside0.mk hd.2
 have hlen:=hd.1.len
 rw [HN.out] at hlen HD1 HBD1
 rw [hlen] at HR1 ⊢
 have HLEN1:=Lib.hid hlen
 clear HG HBw HFR hR hd hG hF hlen
 have HG:=HGn
 have HBw:=HBn
 clear HGn HBn
 have HFR:=Aside0.mk (farTo HRT.out HG.out (fun v _ _=>prev_in) H3.out H4.out (a:=b))
 go_wp2_with fail
 refine HFR.out.mono ?_
 rintro e w5 ⟨v,d2,rfl,hR,hd,_,hG,hF⟩
 obtain ⟨A2_,cd2,rfl⟩:=Kd.R_slice hR
 have HR2:=Aside0.mk (Kd.R_lower hR (Nat.zero_le _))
 have HR1n:=Aside0.mk (r_gr HR1.out HG.out hF)
 have HGn:=Aside0.mk hG
 have HBn:=Aside0.mk (fr_below hF HBw.out (by rw [← HS1.out]; exact HBw.out.size) HLG.out)
 have hd:=hd (by rw [HN.out]; exact ⟨hg2,hg3⟩)
 have HD2:=Aside0.mk hd.1
 have HBD2:=Aside0.mk hd.2
 have hlen:=hd.1.len
 rw [HN.out] at hlen HD2 HBD2
 rw [hlen] at HR2 ⊢
 have HLEN2:=Lib.hid hlen
 clear HG HBw HFR hR hd hG hF hlen HR1
 have HR1:=HR1n
 have HG:=HGn
 have HBw:=HBn
 clear HGn HBn HR1n
 have HFR:=Aside0.mk (farFrom HRT.out HG.out HNX.out H3.out H4.out (a:=c))
 go_wp2_with fail
 refine HFR.out.mono ?_
 rintro e w6 ⟨v,d3,rfl,hR,hd,_,hG,hF⟩
 obtain ⟨A3_,cd3,rfl⟩:=Kd.R_slice hR
 have HR3:=Aside0.mk (Kd.R_lower hR (Nat.zero_le _))
 have HR1n:=Aside0.mk (r_gr HR1.out HG.out hF)
 have HR2n:=Aside0.mk (r_gr HR2.out HG.out hF)
 have HGn:=Aside0.mk hG
 have HBn:=Aside0.mk (fr_below hF HBw.out (by rw [← HS1.out]; exact HBw.out.size) HLG.out)
 have hd:=hd (by rw [HN.out]; exact ⟨hg4,hg5⟩)
 have HD3:=Aside0.mk hd.1
 have HBD3:=Aside0.mk hd.2
 have hlen:=hd.1.len
 rw [HN.out] at hlen HD3 HBD3
 rw [hlen] at HR3 ⊢
 have HLEN3:=Lib.hid hlen
 clear HG HBw HFR hR hd hG hF hlen HR1 HR2
 have HR1:=HR1n
 have HR2:=HR2n
 have HG:=HGn
 have HBw:=HBn
 clear HGn HBn HR1n HR2n
 have hbo:=dist_both (fun u v hu hv=>by rw [← HN.out] at hu; exact far_next_prev u v hu) ⟨hg0,hg1⟩ ⟨hg2,hg3⟩ HD1.out HD2.out
 have htr:=dist_tri ⟨hg2,hg3⟩ ⟨hg4,hg5⟩ HD1.out HD3.out
 obtain ⟨af,ea,hxf⟩:=Kd.at_int (Kd.R_reads' HR1.out).2.2 b hg2 (by rw [HLEN1.out]; exact hg3)
 cases ea
 obtain ⟨_,ea,hxc⟩:=Kd.at_int (Kd.R_reads' HR1.out).2.2 c hg4 (by rw [HLEN1.out]; exact hg5)
 cases ea
 obtain ⟨at_,ea,hxt⟩:=Kd.at_int (Kd.R_reads' HR2.out).2.2 a hg0 (by rw [HLEN2.out]; exact hg1)
 cases ea
 obtain ⟨am,ea,hxm⟩:=Kd.at_int (Kd.R_reads' HR3.out).2.2 b hg2 (by rw [HLEN3.out]; exact hg3)
 cases ea
 have hbx:=HBD1.out c hg4 hg5
 have hby:=HBD3.out b hg2 hg3
 have hlx:=HD1.out.low c hg4 hg5
 have hly:=HD3.out.low b hg2 hg3
 obtain ⟨x,hx⟩ : ∃ x,rd d1 c = x:=⟨_,rfl⟩
 obtain ⟨y,hy⟩ : ∃ y,rd d3 b = y:=⟨_,rfl⟩
 obtain ⟨z,hz⟩ : ∃ z,rd d1 b = z:=⟨_,rfl⟩
 rw [← hbo,hz] at hxt
 rw [hz] at hxf htr
 rw [hx] at hxc htr hbx hlx
 rw [hy] at hxm htr hby hly
 have h256:=H256.out
 have HTR:=Aside0.mk htr
 have HXY:=Aside0.mk (And.intro (And.intro hbx hby) (And.intro (And.intro hlx hly) h256))
 have hp0 : (0 ≤ a) = True:=eq_true hg0
 have hp1 : (a < (n : Int)) = True:=eq_true hg1
 have hp2 : (0 ≤ b) = True:=eq_true hg2
 have hp3 : (b < (n : Int)) = True:=eq_true hg3
 have hp4 : (0 ≤ c) = True:=eq_true hg4
 have hp5 : (c < (n : Int)) = True:=eq_true hg5
 have hne : ((n : Int) != (n : Int)) = false:=by simp
 have hnz : (z != z) = false:=by simp
 clear hbo htr hbx hby hlx hly hx hy hz h256 hg0 hg1 hg2 hg3 hg4 hg5 hd0 hd1 hd2 hd3 hd4 hd5 he1 he3 he5 HR1 HR2 HR3
 go_upto_region 8 with (fail)
 refine start_ (n:=27) (S:=fun w'=>w'.cell? (af.add b.toNat) = some (.int .i64 z) ∧ w'.cell? (at_.add a.toNat) = some (.int .i64 z)) (ds:=[]) #[false,false,false,false,false,false,false,false,false,false,false,false,false,false,false,false,false,false,false,false,false,false,false,false,false,false,false] (by kernel_rfl) rfl rfl ⟨hxf,hxt⟩ (fun hHeld=>?_)
 refine pure_ (i:=0) (N:=some 63) (v:=?_) (a':=?_) #[true,false,false,false,false,false,false,false,false,false,false,false,false,false,false,false,false,false,false,false,false,false,false,false,false,false,false] rfl rfl (by kernel_rfl) (fun _ _ _ h=>h) (Or.inl ⟨by rfl,?_⟩) ?_ ?_
 rotate_left
 ·intro w'
  go_simp
  with_reducible rfl
 rotate_left
 ·simp only [Act.put,zq1,zq2,zq3,i64_w,i32_w]
  rfl
 refine pure_ (i:=1) (N:=some 64) (v:=?_) (a':=?_) #[true,true,false,false,false,false,false,false,false,false,false,false,false,false,false,false,false,false,false,false,false,false,false,false,false,false,false] rfl rfl (by kernel_rfl) (fun _ _ _ h=>h) (Or.inl ⟨by rfl,?_⟩) ?_ ?_
 rotate_left
 ·intro w'
  go_simp
  with_reducible rfl
 rotate_left
 ·simp only [Act.put,zq1,zq2,zq3,i64_w,i32_w]
  rfl
 refine pure_ (i:=2) (N:=some 65) (v:=?_) (a':=?_) #[true,true,true,false,false,false,false,false,false,false,false,false,false,false,false,false,false,false,false,false,false,false,false,false,false,false,false] rfl rfl (by kernel_rfl) (fun _ _ _ h=>h) (Or.inl ⟨by rfl,?_⟩) ?_ ?_
 rotate_left
 ·intro w'
  go_simp
  with_reducible rfl
 rotate_left
 ·simp only [Act.put,zq1,zq2,zq3,i64_w,i32_w]
  rfl
 refine pure_ (i:=3) (N:=some 66) (v:=?_) (a':=?_) #[true,true,true,true,false,false,false,false,false,false,false,false,false,false,false,false,false,false,false,false,false,false,false,false,false,false,false] rfl rfl (by kernel_rfl) (fun _ _ _ h=>h) (Or.inl ⟨by rfl,?_⟩) ?_ ?_
 rotate_left
 ·intro w'
  go_simp
  with_reducible rfl
 rotate_left
 ·simp only [Act.put,zq1,zq2,zq3,i64_w,i32_w]
  rfl
 refine pure_ (i:=4) (N:=some 67) (v:=?_) (a':=?_) #[true,true,true,true,true,false,false,false,false,false,false,false,false,false,false,false,false,false,false,false,false,false,false,false,false,false,false] rfl rfl (by kernel_rfl) (fun _ _ _ h=>h) (Or.inl ⟨by rfl,?_⟩) ?_ ?_
 rotate_left
 ·intro w'
  go_simp
  with_reducible rfl
 rotate_left
 ·simp only [Act.put,zq1,zq2,zq3,i64_w,i32_w]
  rfl
 refine pure_ (i:=5) (N:=some 68) (v:=?_) (a':=?_) #[true,true,true,true,true,true,false,false,false,false,false,false,false,false,false,false,false,false,false,false,false,false,false,false,false,false,false] rfl rfl (by kernel_rfl) (fun _ _ _ h=>h) (Or.inl ⟨by rfl,?_⟩) ?_ ?_
 rotate_left
 ·intro w'
  go_simp
  with_reducible rfl
 rotate_left
 ·simp only [Act.put,zq1,zq2,zq3,i64_w,i32_w]
  rfl
 refine pure_ (i:=6) (N:=some 69) (v:=?_) (a':=?_) #[true,true,true,true,true,true,true,false,false,false,false,false,false,false,false,false,false,false,false,false,false,false,false,false,false,false,false] rfl rfl (by kernel_rfl) (fun _ _ _ h=>h) (Or.inl ⟨by rfl,?_⟩) ?_ ?_
 rotate_left
 ·intro w'
  go_simp
  with_reducible rfl
 rotate_left
 ·simp only [Act.put,zq1,zq2,zq3,i64_w,i32_w]
  rfl
 refine pure_ (i:=7) (N:=some 70) (v:=?_) (a':=?_) #[true,true,true,true,true,true,true,true,false,false,false,false,false,false,false,false,false,false,false,false,false,false,false,false,false,false,false] rfl rfl (by kernel_rfl) (fun _ _ _ h=>h) (Or.inl ⟨by rfl,?_⟩) ?_ ?_
 rotate_left
 ·intro w'
  go_simp
  with_reducible rfl
 rotate_left
 ·simp only [Act.put,zq1,zq2,zq3,i64_w,i32_w]
  rfl
 refine pure_ (i:=8) (N:=some 71) (v:=?_) (a':=?_) #[true,true,true,true,true,true,true,true,true,false,false,false,false,false,false,false,false,false,false,false,false,false,false,false,false,false,false] rfl rfl (by kernel_rfl) (fun _ _ _ h=>h) (Or.inl ⟨by rfl,?_⟩) ?_ ?_
 rotate_left
 ·intro w'
  go_simp
  with_reducible rfl
 rotate_left
 ·simp only [Act.put,zq1,zq2,zq3,i64_w,i32_w]
  rfl
 refine pure_ (i:=9) (N:=some 72) (v:=?_) (a':=?_) #[true,true,true,true,true,true,true,true,true,true,false,false,false,false,false,false,false,false,false,false,false,false,false,false,false,false,false] rfl rfl (by kernel_rfl) (fun _ _ _ h=>h) (Or.inl ⟨by rfl,?_⟩) ?_ ?_
 rotate_left
 ·intro w'
  go_simp
  with_reducible rfl
 rotate_left
 ·simp only [Act.put,zq1,zq2,zq3,i64_w,i32_w]
  rfl
 refine pure_ (i:=10) (N:=some 73) (v:=?_) (a':=?_) #[true,true,true,true,true,true,true,true,true,true,true,false,false,false,false,false,false,false,false,false,false,false,false,false,false,false,false] rfl rfl (by kernel_rfl) (fun _ _ _ h=>h) (Or.inl ⟨by rfl,?_⟩) ?_ ?_
 rotate_left
 ·intro w'
  go_simp
  with_reducible rfl
 rotate_left
 ·simp only [Act.put,zq1,zq2,zq3,i64_w,i32_w]
  rfl
 refine pure_ (i:=11) (N:=some 74) (v:=?_) (a':=?_) #[true,true,true,true,true,true,true,true,true,true,true,true,false,false,false,false,false,false,false,false,false,false,false,false,false,false,false] rfl rfl (by kernel_rfl) (fun _ _ _ h=>h) (Or.inl ⟨by rfl,?_⟩) ?_ ?_
 rotate_left
 ·intro w'
  go_simp
  with_reducible rfl
 rotate_left
 ·simp only [Act.put,zq1,zq2,zq3,i64_w,i32_w]
  rfl
 refine pure_ (i:=12) (N:=some 75) (v:=?_) (a':=?_) #[true,true,true,true,true,true,true,true,true,true,true,true,true,false,false,false,false,false,false,false,false,false,false,false,false,false,false] rfl rfl (by kernel_rfl) (fun _ _ _ h=>h) (Or.inl ⟨by rfl,?_⟩) ?_ ?_
 rotate_left
 ·intro w'
  go_simp
  with_reducible rfl
 rotate_left
 ·simp only [Act.put,zq1,zq2,zq3,i64_w,i32_w]
  rfl
 refine pure_ (i:=13) (N:=some 76) (v:=?_) (a':=?_) #[true,true,true,true,true,true,true,true,true,true,true,true,true,true,false,false,false,false,false,false,false,false,false,false,false,false,false] rfl rfl (by kernel_rfl) (fun _ _ _ h=>h) (Or.inl ⟨by rfl,?_⟩) ?_ ?_
 rotate_left
 ·intro w'
  go_simp
  with_reducible rfl
 rotate_left
 ·simp only [Act.put,zq1,zq2,zq3,i64_w,i32_w]
  rfl
 refine pure_ (i:=14) (N:=some 77) (v:=?_) (a':=?_) #[true,true,true,true,true,true,true,true,true,true,true,true,true,true,true,false,false,false,false,false,false,false,false,false,false,false,false] rfl rfl (by kernel_rfl) (fun _ _ _ h=>h) (Or.inl ⟨by rfl,?_⟩) ?_ ?_
 rotate_left
 ·intro w'
  go_simp
  with_reducible rfl
 rotate_left
 ·simp only [Act.put,zq1,zq2,zq3,i64_w,i32_w]
  rfl
 refine pure_ (i:=15) (N:=some 78) (v:=?_) (a':=?_) #[true,true,true,true,true,true,true,true,true,true,true,true,true,true,true,true,false,false,false,false,false,false,false,false,false,false,false] rfl rfl (by kernel_rfl) (fun _ _ _ h=>h) (Or.inl ⟨by rfl,?_⟩) ?_ ?_
 rotate_left
 ·intro w'
  go_simp
  with_reducible rfl
 rotate_left
 ·simp only [Act.put,zq1,zq2,zq3,i64_w,i32_w]
  rfl
 refine pure_ (i:=16) (N:=some 79) (v:=?_) (a':=?_) #[true,true,true,true,true,true,true,true,true,true,true,true,true,true,true,true,true,false,false,false,false,false,false,false,false,false,false] rfl rfl (by kernel_rfl) (fun _ _ _ h=>h) (Or.inl ⟨by rfl,?_⟩) ?_ ?_
 rotate_left
 ·intro w'
  go_simp
  with_reducible rfl
 rotate_left
 ·simp only [Act.put,zq1,zq2,zq3,i64_w,i32_w]
  rfl
 refine pure_ (i:=17) (N:=some 80) (v:=?_) (a':=?_) #[true,true,true,true,true,true,true,true,true,true,true,true,true,true,true,true,true,true,false,false,false,false,false,false,false,false,false] rfl rfl (by kernel_rfl) (fun _ _ _ h=>h) (Or.inl ⟨by rfl,?_⟩) ?_ ?_
 rotate_left
 ·intro w'
  go_simp
  with_reducible rfl
 rotate_left
 ·simp only [Act.put,zq1,zq2,zq3,i64_w,i32_w]
  rfl
 refine pure_ (i:=18) (N:=some 81) (v:=?_) (a':=?_) #[true,true,true,true,true,true,true,true,true,true,true,true,true,true,true,true,true,true,true,false,false,false,false,false,false,false,false] rfl rfl (by kernel_rfl) (fun _ _ _ h=>h) (Or.inl ⟨by rfl,?_⟩) ?_ ?_
 rotate_left
 ·intro w'
  go_simp
  with_reducible rfl
 rotate_left
 ·simp only [Act.put,zq1,zq2,zq3,i64_w,i32_w]
  rfl
 refine pure_ (i:=19) (N:=some 82) (v:=?_) (a':=?_) #[true,true,true,true,true,true,true,true,true,true,true,true,true,true,true,true,true,true,true,true,false,false,false,false,false,false,false] rfl rfl (by kernel_rfl) (fun _ _ _ h=>h) (Or.inl ⟨by rfl,?_⟩) ?_ ?_
 rotate_left
 ·intro w'
  go_simp
  with_reducible rfl
 rotate_left
 ·simp only [Act.put,zq1,zq2,zq3,i64_w,i32_w]
  rfl
 refine pure_ (i:=21) (N:=some 84) (v:=?_) (a':=?_) #[true,true,true,true,true,true,true,true,true,true,true,true,true,true,true,true,true,true,true,true,false,true,false,false,false,false,false] rfl rfl (by kernel_rfl) (fun _ _ _ h=>h) (Or.inl ⟨by rfl,?_⟩) ?_ ?_
 rotate_left
 ·intro w'
  go_simp
  with_reducible rfl
 rotate_left
 ·simp only [Act.put,zq1,zq2,zq3,i64_w,i32_w]
  rfl
 refine pure_ (i:=22) (N:=some 85) (v:=?_) (a':=?_) #[true,true,true,true,true,true,true,true,true,true,true,true,true,true,true,true,true,true,true,true,false,true,true,false,false,false,false] rfl rfl (by kernel_rfl) (fun _ _ _ h=>h) (Or.inl ⟨by rfl,?_⟩) ?_ ?_
 rotate_left
 ·intro w'
  go_simp
  with_reducible rfl
 rotate_left
 ·simp only [Act.put,zq1,zq2,zq3,i64_w,i32_w]
  rfl
 refine pure_ (i:=23) (N:=some 86) (v:=?_) (a':=?_) #[true,true,true,true,true,true,true,true,true,true,true,true,true,true,true,true,true,true,true,true,false,true,true,true,false,false,false] rfl rfl (by kernel_rfl) (fun _ _ _ h=>h) (Or.inl ⟨by rfl,?_⟩) ?_ ?_
 rotate_left
 ·intro w'
  go_simp
  with_reducible rfl
 rotate_left
 ·simp only [Act.put,zq1,zq2,zq3,i64_w,i32_w]
  rfl
 refine take_ (i:=20) (N:=some 83) (v:=?_) (a':=?_) #[true,true,true,true,true,true,true,true,true,true,true,true,true,true,true,true,true,true,true,true,true,true,true,true,false,false,false] rfl rfl (by kernel_rfl) (fun _ _ _ h=>h) (Or.inl ⟨by rfl,?_⟩) hHeld ?_ ?_
 rotate_left
 ·rintro w' ⟨s0,s1⟩
  go_simp
  with_reducible rfl
 rotate_left
 ·simp only [Act.put,zq1,zq2,zq3,i64_w,i32_w]
  rfl
 refine take_ (i:=24) (N:=some 87) (v:=?_) (a':=?_) #[true,true,true,true,true,true,true,true,true,true,true,true,true,true,true,true,true,true,true,true,true,true,true,true,true,false,false] rfl rfl (by kernel_rfl) (fun _ _ _ h=>h) (Or.inl ⟨by rfl,?_⟩) hHeld ?_ ?_
 rotate_left
 ·rintro w' ⟨s0,s1⟩
  go_simp
  with_reducible rfl
 rotate_left
 ·simp only [Act.put,zq1,zq2,zq3,i64_w,i32_w]
  rfl
 refine pure_ (i:=25) (N:=some 88) (v:=?_) (a':=?_) #[true,true,true,true,true,true,true,true,true,true,true,true,true,true,true,true,true,true,true,true,true,true,true,true,true,true,false] rfl rfl (by kernel_rfl) (fun _ _ _ h=>h) (Or.inl ⟨by rfl,?_⟩) ?_ ?_
 rotate_left
 ·intro w'
  go_simp
  with_reducible rfl
 rotate_left
 ·simp only [Act.put,zq1,zq2,zq3,i64_w,i32_w]
  rfl
 refine pure_ (i:=26) (N:=some 89) (v:=?_) (a':=?_) #[true,true,true,true,true,true,true,true,true,true,true,true,true,true,true,true,true,true,true,true,true,true,true,true,true,true,true] rfl rfl (by kernel_rfl) (fun _ _ _ h=>h) (Or.inl ⟨by rfl,?_⟩) ?_ ?_
 rotate_left
 ·intro w'
  go_simp
  with_reducible rfl
 rotate_left
 ·simp only [Act.put,zq1,zq2,zq3,i64_w,i32_w]
  rfl
 refine done_ (by kernel_rfl) ?_
 by_cases hx0 : x < 0
 ·have hc0 : decide (x < 0) = true:=decide_eq_true hx0
  clear hx0
  go_upto_region 10 with (fail)
  refine start_ (n:=36) (S:=fun w'=>w'.cell? (af.add c.toNat) = some (.int .i64 x)) (ds:=[]) #[false,false,false,false,false,false,false,false,false,false,false,false,false,false,false,false,false,false,false,false,false,false,false,false,false,false,false,false,false,false,false,false,false,false,false,false] (by kernel_rfl) rfl rfl (hxc) (fun hHeld=>?_)
  refine pure_ (i:=0) (N:=some 90) (v:=?_) (a':=?_) #[true,false,false,false,false,false,false,false,false,false,false,false,false,false,false,false,false,false,false,false,false,false,false,false,false,false,false,false,false,false,false,false,false,false,false,false] rfl rfl (by kernel_rfl) (fun _ _ _ h=>h) (Or.inl ⟨by rfl,?_⟩) ?_ ?_
  rotate_left
  ·intro w'
   go_simp
   with_reducible rfl
  rotate_left
  ·simp only [Act.put,zq1,zq2,zq3,i64_w,i32_w]
   rfl
  refine pure_ (i:=1) (N:=some 91) (v:=?_) (a':=?_) #[true,true,false,false,false,false,false,false,false,false,false,false,false,false,false,false,false,false,false,false,false,false,false,false,false,false,false,false,false,false,false,false,false,false,false,false] rfl rfl (by kernel_rfl) (fun _ _ _ h=>h) (Or.inl ⟨by rfl,?_⟩) ?_ ?_
  rotate_left
  ·intro w'
   go_simp
   with_reducible rfl
  rotate_left
  ·simp only [Act.put,zq1,zq2,zq3,i64_w,i32_w]
   rfl
  refine pure_ (i:=2) (N:=some 92) (v:=?_) (a':=?_) #[true,true,true,false,false,false,false,false,false,false,false,false,false,false,false,false,false,false,false,false,false,false,false,false,false,false,false,false,false,false,false,false,false,false,false,false] rfl rfl (by kernel_rfl) (fun _ _ _ h=>h) (Or.inl ⟨by rfl,?_⟩) ?_ ?_
  rotate_left
  ·intro w'
   go_simp
   with_reducible rfl
  rotate_left
  ·simp only [Act.put,zq1,zq2,zq3,i64_w,i32_w]
   rfl
  refine take_ (i:=3) (N:=some 93) (v:=?_) (a':=?_) #[true,true,true,true,false,false,false,false,false,false,false,false,false,false,false,false,false,false,false,false,false,false,false,false,false,false,false,false,false,false,false,false,false,false,false,false] rfl rfl (by kernel_rfl) (fun _ _ _ h=>h) (Or.inl ⟨by rfl,?_⟩) hHeld ?_ ?_
  rotate_left
  ·intro w' s0
   go_simp
   with_reducible rfl
  rotate_left
  ·simp only [Act.put,zq1,zq2,zq3,i64_w,i32_w]
   rfl
  refine pure_ (i:=4) (N:=some 94) (v:=?_) (a':=?_) #[true,true,true,true,true,false,false,false,false,false,false,false,false,false,false,false,false,false,false,false,false,false,false,false,false,false,false,false,false,false,false,false,false,false,false,false] rfl rfl (by kernel_rfl) (fun _ _ _ h=>h) (Or.inl ⟨by rfl,?_⟩) ?_ ?_
  rotate_left
  ·intro w'
   go_simp
   with_reducible rfl
  rotate_left
  ·simp only [Act.put,zq1,zq2,zq3,i64_w,i32_w]
   rfl
  refine pure_ (i:=5) (N:=some 95) (v:=?_) (a':=?_) #[true,true,true,true,true,true,false,false,false,false,false,false,false,false,false,false,false,false,false,false,false,false,false,false,false,false,false,false,false,false,false,false,false,false,false,false] rfl rfl (by kernel_rfl) (fun _ _ _ h=>h) (Or.inl ⟨by rfl,?_⟩) ?_ ?_
  rotate_left
  ·intro w'
   go_simp
   with_reducible rfl
  rotate_left
  ·simp only [Act.put,zq1,zq2,zq3,i64_w,i32_w]
   rfl
  refine pure_ (i:=6) (N:=some 96) (v:=undef) (a':=?_) #[true,true,true,true,true,true,true,false,false,false,false,false,false,false,false,false,false,false,false,false,false,false,false,false,false,false,false,false,false,false,false,false,false,false,false,false] rfl rfl (by kernel_rfl) (fun _ _ _ h=>h) (Or.inr ⟨by rfl,rfl⟩) ?_ ?_
  rotate_left
  ·simp only [Act.put,zq1,zq2,zq3,i64_w,i32_w]
   rfl
  refine pure_ (i:=7) (N:=some 97) (v:=undef) (a':=?_) #[true,true,true,true,true,true,true,true,false,false,false,false,false,false,false,false,false,false,false,false,false,false,false,false,false,false,false,false,false,false,false,false,false,false,false,false] rfl rfl (by kernel_rfl) (fun _ _ _ h=>h) (Or.inr ⟨by rfl,rfl⟩) ?_ ?_
  rotate_left
  ·simp only [Act.put,zq1,zq2,zq3,i64_w,i32_w]
   rfl
  refine pure_ (i:=8) (N:=some 98) (v:=undef) (a':=?_) #[true,true,true,true,true,true,true,true,true,false,false,false,false,false,false,false,false,false,false,false,false,false,false,false,false,false,false,false,false,false,false,false,false,false,false,false] rfl rfl (by kernel_rfl) (fun _ _ _ h=>h) (Or.inr ⟨by rfl,rfl⟩) ?_ ?_
  rotate_left
  ·simp only [Act.put,zq1,zq2,zq3,i64_w,i32_w]
   rfl
  refine pure_ (i:=9) (N:=some 99) (v:=undef) (a':=?_) #[true,true,true,true,true,true,true,true,true,true,false,false,false,false,false,false,false,false,false,false,false,false,false,false,false,false,false,false,false,false,false,false,false,false,false,false] rfl rfl (by kernel_rfl) (fun _ _ _ h=>h) (Or.inr ⟨by rfl,rfl⟩) ?_ ?_
  rotate_left
  ·simp only [Act.put,zq1,zq2,zq3,i64_w,i32_w]
   rfl
  refine pure_ (i:=10) (N:=some 100) (v:=undef) (a':=?_) #[true,true,true,true,true,true,true,true,true,true,true,false,false,false,false,false,false,false,false,false,false,false,false,false,false,false,false,false,false,false,false,false,false,false,false,false] rfl rfl (by kernel_rfl) (fun _ _ _ h=>h) (Or.inr ⟨by rfl,rfl⟩) ?_ ?_
  rotate_left
  ·simp only [Act.put,zq1,zq2,zq3,i64_w,i32_w]
   rfl
  refine pure_ (i:=11) (N:=some 101) (v:=?_) (a':=?_) #[true,true,true,true,true,true,true,true,true,true,true,true,false,false,false,false,false,false,false,false,false,false,false,false,false,false,false,false,false,false,false,false,false,false,false,false] rfl rfl (by kernel_rfl) (fun _ _ _ h=>h) (Or.inl ⟨by rfl,?_⟩) ?_ ?_
  rotate_left
  ·intro w'
   go_simp
   with_reducible rfl
  rotate_left
  ·simp only [Act.put,zq1,zq2,zq3,i64_w,i32_w]
   rfl
  refine pure_ (i:=12) (N:=some 102) (v:=?_) (a':=?_) #[true,true,true,true,true,true,true,true,true,true,true,true,true,false,false,false,false,false,false,false,false,false,false,false,false,false,false,false,false,false,false,false,false,false,false,false] rfl rfl (by kernel_rfl) (fun _ _ _ h=>h) (Or.inl ⟨by rfl,?_⟩) ?_ ?_
  rotate_left
  ·intro w'
   go_simp
   with_reducible rfl
  rotate_left
  ·simp only [Act.put,zq1,zq2,zq3,i64_w,i32_w]
   rfl
  refine pure_ (i:=13) (N:=some 103) (v:=undef) (a':=?_) #[true,true,true,true,true,true,true,true,true,true,true,true,true,true,false,false,false,false,false,false,false,false,false,false,false,false,false,false,false,false,false,false,false,false,false,false] rfl rfl (by kernel_rfl) (fun _ _ _ h=>h) (Or.inr ⟨by rfl,rfl⟩) ?_ ?_
  rotate_left
  ·simp only [Act.put,zq1,zq2,zq3,i64_w,i32_w]
   rfl
  refine pure_ (i:=14) (N:=some 104) (v:=undef) (a':=?_) #[true,true,true,true,true,true,true,true,true,true,true,true,true,true,true,false,false,false,false,false,false,false,false,false,false,false,false,false,false,false,false,false,false,false,false,false] rfl rfl (by kernel_rfl) (fun _ _ _ h=>h) (Or.inr ⟨by rfl,rfl⟩) ?_ ?_
  rotate_left
  ·simp only [Act.put,zq1,zq2,zq3,i64_w,i32_w]
   rfl
  refine pure_ (i:=15) (N:=some 105) (v:=undef) (a':=?_) #[true,true,true,true,true,true,true,true,true,true,true,true,true,true,true,true,false,false,false,false,false,false,false,false,false,false,false,false,false,false,false,false,false,false,false,false] rfl rfl (by kernel_rfl) (fun _ _ _ h=>h) (Or.inr ⟨by rfl,rfl⟩) ?_ ?_
  rotate_left
  ·simp only [Act.put,zq1,zq2,zq3,i64_w,i32_w]
   rfl
  refine pure_ (i:=16) (N:=some 106) (v:=undef) (a':=?_) #[true,true,true,true,true,true,true,true,true,true,true,true,true,true,true,true,true,false,false,false,false,false,false,false,false,false,false,false,false,false,false,false,false,false,false,false] rfl rfl (by kernel_rfl) (fun _ _ _ h=>h) (Or.inr ⟨by rfl,rfl⟩) ?_ ?_
  rotate_left
  ·simp only [Act.put,zq1,zq2,zq3,i64_w,i32_w]
   rfl
  refine pure_ (i:=17) (N:=some 107) (v:=undef) (a':=?_) #[true,true,true,true,true,true,true,true,true,true,true,true,true,true,true,true,true,true,false,false,false,false,false,false,false,false,false,false,false,false,false,false,false,false,false,false] rfl rfl (by kernel_rfl) (fun _ _ _ h=>h) (Or.inr ⟨by rfl,rfl⟩) ?_ ?_
  rotate_left
  ·simp only [Act.put,zq1,zq2,zq3,i64_w,i32_w]
   rfl
  refine pure_ (i:=18) (N:=some 108) (v:=undef) (a':=?_) #[true,true,true,true,true,true,true,true,true,true,true,true,true,true,true,true,true,true,true,false,false,false,false,false,false,false,false,false,false,false,false,false,false,false,false,false] rfl rfl (by kernel_rfl) (fun _ _ _ h=>h) (Or.inr ⟨by rfl,rfl⟩) ?_ ?_
  rotate_left
  ·simp only [Act.put,zq1,zq2,zq3,i64_w,i32_w]
   rfl
  refine pure_ (i:=19) (N:=some 109) (v:=undef) (a':=?_) #[true,true,true,true,true,true,true,true,true,true,true,true,true,true,true,true,true,true,true,true,false,false,false,false,false,false,false,false,false,false,false,false,false,false,false,false] rfl rfl (by kernel_rfl) (fun _ _ _ h=>h) (Or.inr ⟨by rfl,rfl⟩) ?_ ?_
  rotate_left
  ·simp only [Act.put,zq1,zq2,zq3,i64_w,i32_w]
   rfl
  refine pure_ (i:=20) (N:=some 110) (v:=undef) (a':=?_) #[true,true,true,true,true,true,true,true,true,true,true,true,true,true,true,true,true,true,true,true,true,false,false,false,false,false,false,false,false,false,false,false,false,false,false,false] rfl rfl (by kernel_rfl) (fun _ _ _ h=>h) (Or.inr ⟨by rfl,rfl⟩) ?_ ?_
  rotate_left
  ·simp only [Act.put,zq1,zq2,zq3,i64_w,i32_w]
   rfl
  refine pure_ (i:=21) (N:=some 111) (v:=undef) (a':=?_) #[true,true,true,true,true,true,true,true,true,true,true,true,true,true,true,true,true,true,true,true,true,true,false,false,false,false,false,false,false,false,false,false,false,false,false,false] rfl rfl (by kernel_rfl) (fun _ _ _ h=>h) (Or.inr ⟨by rfl,rfl⟩) ?_ ?_
  rotate_left
  ·simp only [Act.put,zq1,zq2,zq3,i64_w,i32_w]
   rfl
  refine pure_ (i:=22) (N:=some 112) (v:=undef) (a':=?_) #[true,true,true,true,true,true,true,true,true,true,true,true,true,true,true,true,true,true,true,true,true,true,true,false,false,false,false,false,false,false,false,false,false,false,false,false] rfl rfl (by kernel_rfl) (fun _ _ _ h=>h) (Or.inr ⟨by rfl,rfl⟩) ?_ ?_
  rotate_left
  ·simp only [Act.put,zq1,zq2,zq3,i64_w,i32_w]
   rfl
  refine pure_ (i:=23) (N:=some 113) (v:=undef) (a':=?_) #[true,true,true,true,true,true,true,true,true,true,true,true,true,true,true,true,true,true,true,true,true,true,true,true,false,false,false,false,false,false,false,false,false,false,false,false] rfl rfl (by kernel_rfl) (fun _ _ _ h=>h) (Or.inr ⟨by rfl,rfl⟩) ?_ ?_
  rotate_left
  ·simp only [Act.put,zq1,zq2,zq3,i64_w,i32_w]
   rfl
  refine pure_ (i:=24) (N:=some 114) (v:=undef) (a':=?_) #[true,true,true,true,true,true,true,true,true,true,true,true,true,true,true,true,true,true,true,true,true,true,true,true,true,false,false,false,false,false,false,false,false,false,false,false] rfl rfl (by kernel_rfl) (fun _ _ _ h=>h) (Or.inr ⟨by rfl,rfl⟩) ?_ ?_
  rotate_left
  ·simp only [Act.put,zq1,zq2,zq3,i64_w,i32_w]
   rfl
  refine pure_ (i:=25) (N:=some 115) (v:=undef) (a':=?_) #[true,true,true,true,true,true,true,true,true,true,true,true,true,true,true,true,true,true,true,true,true,true,true,true,true,true,false,false,false,false,false,false,false,false,false,false] rfl rfl (by kernel_rfl) (fun _ _ _ h=>h) (Or.inr ⟨by rfl,rfl⟩) ?_ ?_
  rotate_left
  ·simp only [Act.put,zq1,zq2,zq3,i64_w,i32_w]
   rfl
  refine pure_ (i:=26) (N:=some 116) (v:=undef) (a':=?_) #[true,true,true,true,true,true,true,true,true,true,true,true,true,true,true,true,true,true,true,true,true,true,true,true,true,true,true,false,false,false,false,false,false,false,false,false] rfl rfl (by kernel_rfl) (fun _ _ _ h=>h) (Or.inr ⟨by rfl,rfl⟩) ?_ ?_
  rotate_left
  ·simp only [Act.put,zq1,zq2,zq3,i64_w,i32_w]
   rfl
  refine pure_ (i:=27) (N:=some 117) (v:=undef) (a':=?_) #[true,true,true,true,true,true,true,true,true,true,true,true,true,true,true,true,true,true,true,true,true,true,true,true,true,true,true,true,false,false,false,false,false,false,false,false] rfl rfl (by kernel_rfl) (fun _ _ _ h=>h) (Or.inr ⟨by rfl,rfl⟩) ?_ ?_
  rotate_left
  ·simp only [Act.put,zq1,zq2,zq3,i64_w,i32_w]
   rfl
  refine pure_ (i:=28) (N:=some 118) (v:=undef) (a':=?_) #[true,true,true,true,true,true,true,true,true,true,true,true,true,true,true,true,true,true,true,true,true,true,true,true,true,true,true,true,true,false,false,false,false,false,false,false] rfl rfl (by kernel_rfl) (fun _ _ _ h=>h) (Or.inr ⟨by rfl,rfl⟩) ?_ ?_
  rotate_left
  ·simp only [Act.put,zq1,zq2,zq3,i64_w,i32_w]
   rfl
  refine pure_ (i:=29) (N:=some 119) (v:=undef) (a':=?_) #[true,true,true,true,true,true,true,true,true,true,true,true,true,true,true,true,true,true,true,true,true,true,true,true,true,true,true,true,true,true,false,false,false,false,false,false] rfl rfl (by kernel_rfl) (fun _ _ _ h=>h) (Or.inr ⟨by rfl,rfl⟩) ?_ ?_
  rotate_left
  ·simp only [Act.put,zq1,zq2,zq3,i64_w,i32_w]
   rfl
  refine pure_ (i:=30) (N:=some 120) (v:=undef) (a':=?_) #[true,true,true,true,true,true,true,true,true,true,true,true,true,true,true,true,true,true,true,true,true,true,true,true,true,true,true,true,true,true,true,false,false,false,false,false] rfl rfl (by kernel_rfl) (fun _ _ _ h=>h) (Or.inr ⟨by rfl,rfl⟩) ?_ ?_
  rotate_left
  ·simp only [Act.put,zq1,zq2,zq3,i64_w,i32_w]
   rfl
  refine pure_ (i:=31) (N:=some 121) (v:=undef) (a':=?_) #[true,true,true,true,true,true,true,true,true,true,true,true,true,true,true,true,true,true,true,true,true,true,true,true,true,true,true,true,true,true,true,true,false,false,false,false] rfl rfl (by kernel_rfl) (fun _ _ _ h=>h) (Or.inr ⟨by rfl,rfl⟩) ?_ ?_
  rotate_left
  ·simp only [Act.put,zq1,zq2,zq3,i64_w,i32_w]
   rfl
  refine pure_ (i:=32) (N:=some 122) (v:=undef) (a':=?_) #[true,true,true,true,true,true,true,true,true,true,true,true,true,true,true,true,true,true,true,true,true,true,true,true,true,true,true,true,true,true,true,true,true,false,false,false] rfl rfl (by kernel_rfl) (fun _ _ _ h=>h) (Or.inr ⟨by rfl,rfl⟩) ?_ ?_
  rotate_left
  ·simp only [Act.put,zq1,zq2,zq3,i64_w,i32_w]
   rfl
  refine pure_ (i:=33) (N:=some 123) (v:=undef) (a':=?_) #[true,true,true,true,true,true,true,true,true,true,true,true,true,true,true,true,true,true,true,true,true,true,true,true,true,true,true,true,true,true,true,true,true,true,false,false] rfl rfl (by kernel_rfl) (fun _ _ _ h=>h) (Or.inr ⟨by rfl,rfl⟩) ?_ ?_
  rotate_left
  ·simp only [Act.put,zq1,zq2,zq3,i64_w,i32_w]
   rfl
  refine pure_ (i:=34) (N:=some 124) (v:=?_) (a':=?_) #[true,true,true,true,true,true,true,true,true,true,true,true,true,true,true,true,true,true,true,true,true,true,true,true,true,true,true,true,true,true,true,true,true,true,true,false] rfl rfl (by kernel_rfl) (fun _ _ _ h=>h) (Or.inl ⟨by rfl,?_⟩) ?_ ?_
  rotate_left
  ·intro w'
   go_simp
   with_reducible rfl
  rotate_left
  ·simp only [Act.put,zq1,zq2,zq3,i64_w,i32_w]
   rfl
  refine pure_ (i:=35) (N:=some 8) (v:=?_) (a':=?_) #[true,true,true,true,true,true,true,true,true,true,true,true,true,true,true,true,true,true,true,true,true,true,true,true,true,true,true,true,true,true,true,true,true,true,true,true] rfl rfl (by kernel_rfl) (fun _ _ _ h=>h) (Or.inl ⟨by rfl,?_⟩) ?_ ?_
  rotate_left
  ·intro w'
   go_simp
   with_reducible rfl
  rotate_left
  ·simp only [Act.put,zq1,zq2,zq3,i64_w,i32_w]
   rfl
  refine done_ (by kernel_rfl) ?_
  go_wp2
  go_ret
  exact ⟨rfl,HEND.out _ (below_drew (below_drew HBw.out))⟩
 ·have hc0 : decide (x < 0) = false:=decide_eq_false hx0
  by_cases hy0 : y < 0
  ·have hc1 : decide (y < 0) = true:=decide_eq_true hy0
   clear hx0 hy0
   go_upto_region 10 with (fail)
   refine start_ (n:=36) (S:=fun w'=>w'.cell? (af.add c.toNat) = some (.int .i64 x) ∧ w'.cell? (am.add b.toNat) = some (.int .i64 y)) (ds:=[]) #[false,false,false,false,false,false,false,false,false,false,false,false,false,false,false,false,false,false,false,false,false,false,false,false,false,false,false,false,false,false,false,false,false,false,false,false] (by kernel_rfl) rfl rfl ⟨hxc,hxm⟩ (fun hHeld=>?_)
   refine pure_ (i:=0) (N:=some 90) (v:=?_) (a':=?_) #[true,false,false,false,false,false,false,false,false,false,false,false,false,false,false,false,false,false,false,false,false,false,false,false,false,false,false,false,false,false,false,false,false,false,false,false] rfl rfl (by kernel_rfl) (fun _ _ _ h=>h) (Or.inl ⟨by rfl,?_⟩) ?_ ?_
   rotate_left
   ·intro w'
    go_simp
    with_reducible rfl
   rotate_left
   ·simp only [Act.put,zq1,zq2,zq3,i64_w,i32_w]
    rfl
   refine pure_ (i:=1) (N:=some 91) (v:=?_) (a':=?_) #[true,true,false,false,false,false,false,false,false,false,false,false,false,false,false,false,false,false,false,false,false,false,false,false,false,false,false,false,false,false,false,false,false,false,false,false] rfl rfl (by kernel_rfl) (fun _ _ _ h=>h) (Or.inl ⟨by rfl,?_⟩) ?_ ?_
   rotate_left
   ·intro w'
    go_simp
    with_reducible rfl
   rotate_left
   ·simp only [Act.put,zq1,zq2,zq3,i64_w,i32_w]
    rfl
   refine pure_ (i:=2) (N:=some 92) (v:=?_) (a':=?_) #[true,true,true,false,false,false,false,false,false,false,false,false,false,false,false,false,false,false,false,false,false,false,false,false,false,false,false,false,false,false,false,false,false,false,false,false] rfl rfl (by kernel_rfl) (fun _ _ _ h=>h) (Or.inl ⟨by rfl,?_⟩) ?_ ?_
   rotate_left
   ·intro w'
    go_simp
    with_reducible rfl
   rotate_left
   ·simp only [Act.put,zq1,zq2,zq3,i64_w,i32_w]
    rfl
   refine take_ (i:=3) (N:=some 93) (v:=?_) (a':=?_) #[true,true,true,true,false,false,false,false,false,false,false,false,false,false,false,false,false,false,false,false,false,false,false,false,false,false,false,false,false,false,false,false,false,false,false,false] rfl rfl (by kernel_rfl) (fun _ _ _ h=>h) (Or.inl ⟨by rfl,?_⟩) hHeld ?_ ?_
   rotate_left
   ·rintro w' ⟨s0,s1⟩
    go_simp
    with_reducible rfl
   rotate_left
   ·simp only [Act.put,zq1,zq2,zq3,i64_w,i32_w]
    rfl
   refine pure_ (i:=4) (N:=some 94) (v:=?_) (a':=?_) #[true,true,true,true,true,false,false,false,false,false,false,false,false,false,false,false,false,false,false,false,false,false,false,false,false,false,false,false,false,false,false,false,false,false,false,false] rfl rfl (by kernel_rfl) (fun _ _ _ h=>h) (Or.inl ⟨by rfl,?_⟩) ?_ ?_
   rotate_left
   ·intro w'
    go_simp
    with_reducible rfl
   rotate_left
   ·simp only [Act.put,zq1,zq2,zq3,i64_w,i32_w]
    rfl
   refine pure_ (i:=5) (N:=some 95) (v:=?_) (a':=?_) #[true,true,true,true,true,true,false,false,false,false,false,false,false,false,false,false,false,false,false,false,false,false,false,false,false,false,false,false,false,false,false,false,false,false,false,false] rfl rfl (by kernel_rfl) (fun _ _ _ h=>h) (Or.inl ⟨by rfl,?_⟩) ?_ ?_
   rotate_left
   ·intro w'
    go_simp
    with_reducible rfl
   rotate_left
   ·simp only [Act.put,zq1,zq2,zq3,i64_w,i32_w]
    rfl
   refine pure_ (i:=6) (N:=some 96) (v:=?_) (a':=?_) #[true,true,true,true,true,true,true,false,false,false,false,false,false,false,false,false,false,false,false,false,false,false,false,false,false,false,false,false,false,false,false,false,false,false,false,false] rfl rfl (by kernel_rfl) (fun _ _ _ h=>h) (Or.inl ⟨by rfl,?_⟩) ?_ ?_
   rotate_left
   ·intro w'
    go_simp
    with_reducible rfl
   rotate_left
   ·simp only [Act.put,zq1,zq2,zq3,i64_w,i32_w]
    rfl
   refine pure_ (i:=7) (N:=some 97) (v:=?_) (a':=?_) #[true,true,true,true,true,true,true,true,false,false,false,false,false,false,false,false,false,false,false,false,false,false,false,false,false,false,false,false,false,false,false,false,false,false,false,false] rfl rfl (by kernel_rfl) (fun _ _ _ h=>h) (Or.inl ⟨by rfl,?_⟩) ?_ ?_
   rotate_left
   ·intro w'
    go_simp
    with_reducible rfl
   rotate_left
   ·simp only [Act.put,zq1,zq2,zq3,i64_w,i32_w]
    rfl
   refine pure_ (i:=8) (N:=some 98) (v:=?_) (a':=?_) #[true,true,true,true,true,true,true,true,true,false,false,false,false,false,false,false,false,false,false,false,false,false,false,false,false,false,false,false,false,false,false,false,false,false,false,false] rfl rfl (by kernel_rfl) (fun _ _ _ h=>h) (Or.inl ⟨by rfl,?_⟩) ?_ ?_
   rotate_left
   ·intro w'
    go_simp
    with_reducible rfl
   rotate_left
   ·simp only [Act.put,zq1,zq2,zq3,i64_w,i32_w]
    rfl
   refine take_ (i:=9) (N:=some 99) (v:=?_) (a':=?_) #[true,true,true,true,true,true,true,true,true,true,false,false,false,false,false,false,false,false,false,false,false,false,false,false,false,false,false,false,false,false,false,false,false,false,false,false] rfl rfl (by kernel_rfl) (fun _ _ _ h=>h) (Or.inl ⟨by rfl,?_⟩) hHeld ?_ ?_
   rotate_left
   ·rintro w' ⟨s0,s1⟩
    go_simp
    with_reducible rfl
   rotate_left
   ·simp only [Act.put,zq1,zq2,zq3,i64_w,i32_w]
    rfl
   refine pure_ (i:=10) (N:=some 100) (v:=?_) (a':=?_) #[true,true,true,true,true,true,true,true,true,true,true,false,false,false,false,false,false,false,false,false,false,false,false,false,false,false,false,false,false,false,false,false,false,false,false,false] rfl rfl (by kernel_rfl) (fun _ _ _ h=>h) (Or.inl ⟨by rfl,?_⟩) ?_ ?_
   rotate_left
   ·intro w'
    go_simp
    with_reducible rfl
   rotate_left
   ·simp only [Act.put,zq1,zq2,zq3,i64_w,i32_w]
    rfl
   refine pure_ (i:=11) (N:=some 101) (v:=?_) (a':=?_) #[true,true,true,true,true,true,true,true,true,true,true,true,false,false,false,false,false,false,false,false,false,false,false,false,false,false,false,false,false,false,false,false,false,false,false,false] rfl rfl (by kernel_rfl) (fun _ _ _ h=>h) (Or.inl ⟨by rfl,?_⟩) ?_ ?_
   rotate_left
   ·intro w'
    go_simp
    with_reducible rfl
   rotate_left
   ·simp only [Act.put,zq1,zq2,zq3,i64_w,i32_w]
    rfl
   refine pure_ (i:=12) (N:=some 102) (v:=?_) (a':=?_) #[true,true,true,true,true,true,true,true,true,true,true,true,true,false,false,false,false,false,false,false,false,false,false,false,false,false,false,false,false,false,false,false,false,false,false,false] rfl rfl (by kernel_rfl) (fun _ _ _ h=>h) (Or.inl ⟨by rfl,?_⟩) ?_ ?_
   rotate_left
   ·intro w'
    go_simp
    with_reducible rfl
   rotate_left
   ·simp only [Act.put,zq1,zq2,zq3,i64_w,i32_w]
    rfl
   refine pure_ (i:=13) (N:=some 103) (v:=undef) (a':=?_) #[true,true,true,true,true,true,true,true,true,true,true,true,true,true,false,false,false,false,false,false,false,false,false,false,false,false,false,false,false,false,false,false,false,false,false,false] rfl rfl (by kernel_rfl) (fun _ _ _ h=>h) (Or.inr ⟨by rfl,rfl⟩) ?_ ?_
   rotate_left
   ·simp only [Act.put,zq1,zq2,zq3,i64_w,i32_w]
    rfl
   refine pure_ (i:=14) (N:=some 104) (v:=undef) (a':=?_) #[true,true,true,true,true,true,true,true,true,true,true,true,true,true,true,false,false,false,false,false,false,false,false,false,false,false,false,false,false,false,false,false,false,false,false,false] rfl rfl (by kernel_rfl) (fun _ _ _ h=>h) (Or.inr ⟨by rfl,rfl⟩) ?_ ?_
   rotate_left
   ·simp only [Act.put,zq1,zq2,zq3,i64_w,i32_w]
    rfl
   refine pure_ (i:=15) (N:=some 105) (v:=undef) (a':=?_) #[true,true,true,true,true,true,true,true,true,true,true,true,true,true,true,true,false,false,false,false,false,false,false,false,false,false,false,false,false,false,false,false,false,false,false,false] rfl rfl (by kernel_rfl) (fun _ _ _ h=>h) (Or.inr ⟨by rfl,rfl⟩) ?_ ?_
   rotate_left
   ·simp only [Act.put,zq1,zq2,zq3,i64_w,i32_w]
    rfl
   refine pure_ (i:=16) (N:=some 106) (v:=undef) (a':=?_) #[true,true,true,true,true,true,true,true,true,true,true,true,true,true,true,true,true,false,false,false,false,false,false,false,false,false,false,false,false,false,false,false,false,false,false,false] rfl rfl (by kernel_rfl) (fun _ _ _ h=>h) (Or.inr ⟨by rfl,rfl⟩) ?_ ?_
   rotate_left
   ·simp only [Act.put,zq1,zq2,zq3,i64_w,i32_w]
    rfl
   refine pure_ (i:=17) (N:=some 107) (v:=undef) (a':=?_) #[true,true,true,true,true,true,true,true,true,true,true,true,true,true,true,true,true,true,false,false,false,false,false,false,false,false,false,false,false,false,false,false,false,false,false,false] rfl rfl (by kernel_rfl) (fun _ _ _ h=>h) (Or.inr ⟨by rfl,rfl⟩) ?_ ?_
   rotate_left
   ·simp only [Act.put,zq1,zq2,zq3,i64_w,i32_w]
    rfl
   refine pure_ (i:=18) (N:=some 108) (v:=undef) (a':=?_) #[true,true,true,true,true,true,true,true,true,true,true,true,true,true,true,true,true,true,true,false,false,false,false,false,false,false,false,false,false,false,false,false,false,false,false,false] rfl rfl (by kernel_rfl) (fun _ _ _ h=>h) (Or.inr ⟨by rfl,rfl⟩) ?_ ?_
   rotate_left
   ·simp only [Act.put,zq1,zq2,zq3,i64_w,i32_w]
    rfl
   refine pure_ (i:=19) (N:=some 109) (v:=undef) (a':=?_) #[true,true,true,true,true,true,true,true,true,true,true,true,true,true,true,true,true,true,true,true,false,false,false,false,false,false,false,false,false,false,false,false,false,false,false,false] rfl rfl (by kernel_rfl) (fun _ _ _ h=>h) (Or.inr ⟨by rfl,rfl⟩) ?_ ?_
   rotate_left
   ·simp only [Act.put,zq1,zq2,zq3,i64_w,i32_w]
    rfl
   refine pure_ (i:=20) (N:=some 110) (v:=undef) (a':=?_) #[true,true,true,true,true,true,true,true,true,true,true,true,true,true,true,true,true,true,true,true,true,false,false,false,false,false,false,false,false,false,false,false,false,false,false,false] rfl rfl (by kernel_rfl) (fun _ _ _ h=>h) (Or.inr ⟨by rfl,rfl⟩) ?_ ?_
   rotate_left
   ·simp only [Act.put,zq1,zq2,zq3,i64_w,i32_w]
    rfl
   refine pure_ (i:=21) (N:=some 111) (v:=undef) (a':=?_) #[true,true,true,true,true,true,true,true,true,true,true,true,true,true,true,true,true,true,true,true,true,true,false,false,false,false,false,false,false,false,false,false,false,false,false,false] rfl rfl (by kernel_rfl) (fun _ _ _ h=>h) (Or.inr ⟨by rfl,rfl⟩) ?_ ?_
   rotate_left
   ·simp only [Act.put,zq1,zq2,zq3,i64_w,i32_w]
    rfl
   refine pure_ (i:=22) (N:=some 112) (v:=undef) (a':=?_) #[true,true,true,true,true,true,true,true,true,true,true,true,true,true,true,true,true,true,true,true,true,true,true,false,false,false,false,false,false,false,false,false,false,false,false,false] rfl rfl (by kernel_rfl) (fun _ _ _ h=>h) (Or.inr ⟨by rfl,rfl⟩) ?_ ?_
   rotate_left
   ·simp only [Act.put,zq1,zq2,zq3,i64_w,i32_w]
    rfl
   refine pure_ (i:=23) (N:=some 113) (v:=undef) (a':=?_) #[true,true,true,true,true,true,true,true,true,true,true,true,true,true,true,true,true,true,true,true,true,true,true,true,false,false,false,false,false,false,false,false,false,false,false,false] rfl rfl (by kernel_rfl) (fun _ _ _ h=>h) (Or.inr ⟨by rfl,rfl⟩) ?_ ?_
   rotate_left
   ·simp only [Act.put,zq1,zq2,zq3,i64_w,i32_w]
    rfl
   refine pure_ (i:=24) (N:=some 114) (v:=undef) (a':=?_) #[true,true,true,true,true,true,true,true,true,true,true,true,true,true,true,true,true,true,true,true,true,true,true,true,true,false,false,false,false,false,false,false,false,false,false,false] rfl rfl (by kernel_rfl) (fun _ _ _ h=>h) (Or.inr ⟨by rfl,rfl⟩) ?_ ?_
   rotate_left
   ·simp only [Act.put,zq1,zq2,zq3,i64_w,i32_w]
    rfl
   refine pure_ (i:=25) (N:=some 115) (v:=undef) (a':=?_) #[true,true,true,true,true,true,true,true,true,true,true,true,true,true,true,true,true,true,true,true,true,true,true,true,true,true,false,false,false,false,false,false,false,false,false,false] rfl rfl (by kernel_rfl) (fun _ _ _ h=>h) (Or.inr ⟨by rfl,rfl⟩) ?_ ?_
   rotate_left
   ·simp only [Act.put,zq1,zq2,zq3,i64_w,i32_w]
    rfl
   refine pure_ (i:=26) (N:=some 116) (v:=undef) (a':=?_) #[true,true,true,true,true,true,true,true,true,true,true,true,true,true,true,true,true,true,true,true,true,true,true,true,true,true,true,false,false,false,false,false,false,false,false,false] rfl rfl (by kernel_rfl) (fun _ _ _ h=>h) (Or.inr ⟨by rfl,rfl⟩) ?_ ?_
   rotate_left
   ·simp only [Act.put,zq1,zq2,zq3,i64_w,i32_w]
    rfl
   refine pure_ (i:=27) (N:=some 117) (v:=undef) (a':=?_) #[true,true,true,true,true,true,true,true,true,true,true,true,true,true,true,true,true,true,true,true,true,true,true,true,true,true,true,true,false,false,false,false,false,false,false,false] rfl rfl (by kernel_rfl) (fun _ _ _ h=>h) (Or.inr ⟨by rfl,rfl⟩) ?_ ?_
   rotate_left
   ·simp only [Act.put,zq1,zq2,zq3,i64_w,i32_w]
    rfl
   refine pure_ (i:=28) (N:=some 118) (v:=undef) (a':=?_) #[true,true,true,true,true,true,true,true,true,true,true,true,true,true,true,true,true,true,true,true,true,true,true,true,true,true,true,true,true,false,false,false,false,false,false,false] rfl rfl (by kernel_rfl) (fun _ _ _ h=>h) (Or.inr ⟨by rfl,rfl⟩) ?_ ?_
   rotate_left
   ·simp only [Act.put,zq1,zq2,zq3,i64_w,i32_w]
    rfl
   refine pure_ (i:=29) (N:=some 119) (v:=undef) (a':=?_) #[true,true,true,true,true,true,true,true,true,true,true,true,true,true,true,true,true,true,true,true,true,true,true,true,true,true,true,true,true,true,false,false,false,false,false,false] rfl rfl (by kernel_rfl) (fun _ _ _ h=>h) (Or.inr ⟨by rfl,rfl⟩) ?_ ?_
   rotate_left
   ·simp only [Act.put,zq1,zq2,zq3,i64_w,i32_w]
    rfl
   refine pure_ (i:=30) (N:=some 120) (v:=undef) (a':=?_) #[true,true,true,true,true,true,true,true,true,true,true,true,true,true,true,true,true,true,true,true,true,true,true,true,true,true,true,true,true,true,true,false,false,false,false,false] rfl rfl (by kernel_rfl) (fun _ _ _ h=>h) (Or.inr ⟨by rfl,rfl⟩) ?_ ?_
   rotate_left
   ·simp only [Act.put,zq1,zq2,zq3,i64_w,i32_w]
    rfl
   refine pure_ (i:=31) (N:=some 121) (v:=undef) (a':=?_) #[true,true,true,true,true,true,true,true,true,true,true,true,true,true,true,true,true,true,true,true,true,true,true,true,true,true,true,true,true,true,true,true,false,false,false,false] rfl rfl (by kernel_rfl) (fun _ _ _ h=>h) (Or.inr ⟨by rfl,rfl⟩) ?_ ?_
   rotate_left
   ·simp only [Act.put,zq1,zq2,zq3,i64_w,i32_w]
    rfl
   refine pure_ (i:=32) (N:=some 122) (v:=undef) (a':=?_) #[true,true,true,true,true,true,true,true,true,true,true,true,true,true,true,true,true,true,true,true,true,true,true,true,true,true,true,true,true,true,true,true,true,false,false,false] rfl rfl (by kernel_rfl) (fun _ _ _ h=>h) (Or.inr ⟨by rfl,rfl⟩) ?_ ?_
   rotate_left
   ·simp only [Act.put,zq1,zq2,zq3,i64_w,i32_w]
    rfl
   refine pure_ (i:=33) (N:=some 123) (v:=undef) (a':=?_) #[true,true,true,true,true,true,true,true,true,true,true,true,true,true,true,true,true,true,true,true,true,true,true,true,true,true,true,true,true,true,true,true,true,true,false,false] rfl rfl (by kernel_rfl) (fun _ _ _ h=>h) (Or.inr ⟨by rfl,rfl⟩) ?_ ?_
   rotate_left
   ·simp only [Act.put,zq1,zq2,zq3,i64_w,i32_w]
    rfl
   refine pure_ (i:=34) (N:=some 124) (v:=?_) (a':=?_) #[true,true,true,true,true,true,true,true,true,true,true,true,true,true,true,true,true,true,true,true,true,true,true,true,true,true,true,true,true,true,true,true,true,true,true,false] rfl rfl (by kernel_rfl) (fun _ _ _ h=>h) (Or.inl ⟨by rfl,?_⟩) ?_ ?_
   rotate_left
   ·intro w'
    go_simp
    with_reducible rfl
   rotate_left
   ·simp only [Act.put,zq1,zq2,zq3,i64_w,i32_w]
    rfl
   refine pure_ (i:=35) (N:=some 8) (v:=?_) (a':=?_) #[true,true,true,true,true,true,true,true,true,true,true,true,true,true,true,true,true,true,true,true,true,true,true,true,true,true,true,true,true,true,true,true,true,true,true,true] rfl rfl (by kernel_rfl) (fun _ _ _ h=>h) (Or.inl ⟨by rfl,?_⟩) ?_ ?_
   rotate_left
   ·intro w'
    go_simp
    with_reducible rfl
   rotate_left
   ·simp only [Act.put,zq1,zq2,zq3,i64_w,i32_w]
    rfl
   refine done_ (by kernel_rfl) ?_
   go_wp2
   go_ret
   exact ⟨rfl,HEND.out _ (below_drew (below_drew HBw.out))⟩
  ·have hc1 : decide (y < 0) = false:=decide_eq_false hy0
   obtain ⟨hz0,hz1⟩:=HTR.out (by omega) (by omega)
   have hc2 : decide (z ≥ 0) = true:=decide_eq_true hz0
   have hc3 : decide (0 ≤ z) = true:=decide_eq_true hz0
   have hc4 : decide (z ≤ x + y) = true:=decide_eq_true hz1
   have hwr : IntKind.i64.wrap (x + y) = x + y:=IntWalk.i64_in _ (by have:=HXY.out; omega)
   clear hx0 hy0 hz0 hz1
   go_upto_region 10 with (fail)
   refine start_ (n:=36) (S:=fun w'=>w'.cell? (af.add c.toNat) = some (.int .i64 x) ∧ w'.cell? (am.add b.toNat) = some (.int .i64 y) ∧ w'.cell? (af.add b.toNat) = some (.int .i64 z)) (ds:=[]) #[false,false,false,false,false,false,false,false,false,false,false,false,false,false,false,false,false,false,false,false,false,false,false,false,false,false,false,false,false,false,false,false,false,false,false,false] (by kernel_rfl) rfl rfl ⟨hxc,hxm,hxf⟩ (fun hHeld=>?_)
   refine pure_ (i:=0) (N:=some 90) (v:=?_) (a':=?_) #[true,false,false,false,false,false,false,false,false,false,false,false,false,false,false,false,false,false,false,false,false,false,false,false,false,false,false,false,false,false,false,false,false,false,false,false] rfl rfl (by kernel_rfl) (fun _ _ _ h=>h) (Or.inl ⟨by rfl,?_⟩) ?_ ?_
   rotate_left
   ·intro w'
    go_simp
    with_reducible rfl
   rotate_left
   ·simp only [Act.put,zq1,zq2,zq3,i64_w,i32_w]
    rfl
   refine pure_ (i:=1) (N:=some 91) (v:=?_) (a':=?_) #[true,true,false,false,false,false,false,false,false,false,false,false,false,false,false,false,false,false,false,false,false,false,false,false,false,false,false,false,false,false,false,false,false,false,false,false] rfl rfl (by kernel_rfl) (fun _ _ _ h=>h) (Or.inl ⟨by rfl,?_⟩) ?_ ?_
   rotate_left
   ·intro w'
    go_simp
    with_reducible rfl
   rotate_left
   ·simp only [Act.put,zq1,zq2,zq3,i64_w,i32_w]
    rfl
   refine pure_ (i:=2) (N:=some 92) (v:=?_) (a':=?_) #[true,true,true,false,false,false,false,false,false,false,false,false,false,false,false,false,false,false,false,false,false,false,false,false,false,false,false,false,false,false,false,false,false,false,false,false] rfl rfl (by kernel_rfl) (fun _ _ _ h=>h) (Or.inl ⟨by rfl,?_⟩) ?_ ?_
   rotate_left
   ·intro w'
    go_simp
    with_reducible rfl
   rotate_left
   ·simp only [Act.put,zq1,zq2,zq3,i64_w,i32_w]
    rfl
   refine take_ (i:=3) (N:=some 93) (v:=?_) (a':=?_) #[true,true,true,true,false,false,false,false,false,false,false,false,false,false,false,false,false,false,false,false,false,false,false,false,false,false,false,false,false,false,false,false,false,false,false,false] rfl rfl (by kernel_rfl) (fun _ _ _ h=>h) (Or.inl ⟨by rfl,?_⟩) hHeld ?_ ?_
   rotate_left
   ·rintro w' ⟨s0,s1,s2⟩
    go_simp
    with_reducible rfl
   rotate_left
   ·simp only [Act.put,zq1,zq2,zq3,i64_w,i32_w]
    rfl
   refine pure_ (i:=4) (N:=some 94) (v:=?_) (a':=?_) #[true,true,true,true,true,false,false,false,false,false,false,false,false,false,false,false,false,false,false,false,false,false,false,false,false,false,false,false,false,false,false,false,false,false,false,false] rfl rfl (by kernel_rfl) (fun _ _ _ h=>h) (Or.inl ⟨by rfl,?_⟩) ?_ ?_
   rotate_left
   ·intro w'
    go_simp
    with_reducible rfl
   rotate_left
   ·simp only [Act.put,zq1,zq2,zq3,i64_w,i32_w]
    rfl
   refine pure_ (i:=5) (N:=some 95) (v:=?_) (a':=?_) #[true,true,true,true,true,true,false,false,false,false,false,false,false,false,false,false,false,false,false,false,false,false,false,false,false,false,false,false,false,false,false,false,false,false,false,false] rfl rfl (by kernel_rfl) (fun _ _ _ h=>h) (Or.inl ⟨by rfl,?_⟩) ?_ ?_
   rotate_left
   ·intro w'
    go_simp
    with_reducible rfl
   rotate_left
   ·simp only [Act.put,zq1,zq2,zq3,i64_w,i32_w]
    rfl
   refine pure_ (i:=6) (N:=some 96) (v:=?_) (a':=?_) #[true,true,true,true,true,true,true,false,false,false,false,false,false,false,false,false,false,false,false,false,false,false,false,false,false,false,false,false,false,false,false,false,false,false,false,false] rfl rfl (by kernel_rfl) (fun _ _ _ h=>h) (Or.inl ⟨by rfl,?_⟩) ?_ ?_
   rotate_left
   ·intro w'
    go_simp
    with_reducible rfl
   rotate_left
   ·simp only [Act.put,zq1,zq2,zq3,i64_w,i32_w]
    rfl
   refine pure_ (i:=7) (N:=some 97) (v:=?_) (a':=?_) #[true,true,true,true,true,true,true,true,false,false,false,false,false,false,false,false,false,false,false,false,false,false,false,false,false,false,false,false,false,false,false,false,false,false,false,false] rfl rfl (by kernel_rfl) (fun _ _ _ h=>h) (Or.inl ⟨by rfl,?_⟩) ?_ ?_
   rotate_left
   ·intro w'
    go_simp
    with_reducible rfl
   rotate_left
   ·simp only [Act.put,zq1,zq2,zq3,i64_w,i32_w]
    rfl
   refine pure_ (i:=8) (N:=some 98) (v:=?_) (a':=?_) #[true,true,true,true,true,true,true,true,true,false,false,false,false,false,false,false,false,false,false,false,false,false,false,false,false,false,false,false,false,false,false,false,false,false,false,false] rfl rfl (by kernel_rfl) (fun _ _ _ h=>h) (Or.inl ⟨by rfl,?_⟩) ?_ ?_
   rotate_left
   ·intro w'
    go_simp
    with_reducible rfl
   rotate_left
   ·simp only [Act.put,zq1,zq2,zq3,i64_w,i32_w]
    rfl
   refine take_ (i:=9) (N:=some 99) (v:=?_) (a':=?_) #[true,true,true,true,true,true,true,true,true,true,false,false,false,false,false,false,false,false,false,false,false,false,false,false,false,false,false,false,false,false,false,false,false,false,false,false] rfl rfl (by kernel_rfl) (fun _ _ _ h=>h) (Or.inl ⟨by rfl,?_⟩) hHeld ?_ ?_
   rotate_left
   ·rintro w' ⟨s0,s1,s2⟩
    go_simp
    with_reducible rfl
   rotate_left
   ·simp only [Act.put,zq1,zq2,zq3,i64_w,i32_w]
    rfl
   refine pure_ (i:=10) (N:=some 100) (v:=?_) (a':=?_) #[true,true,true,true,true,true,true,true,true,true,true,false,false,false,false,false,false,false,false,false,false,false,false,false,false,false,false,false,false,false,false,false,false,false,false,false] rfl rfl (by kernel_rfl) (fun _ _ _ h=>h) (Or.inl ⟨by rfl,?_⟩) ?_ ?_
   rotate_left
   ·intro w'
    go_simp
    with_reducible rfl
   rotate_left
   ·simp only [Act.put,zq1,zq2,zq3,i64_w,i32_w]
    rfl
   refine pure_ (i:=11) (N:=some 101) (v:=?_) (a':=?_) #[true,true,true,true,true,true,true,true,true,true,true,true,false,false,false,false,false,false,false,false,false,false,false,false,false,false,false,false,false,false,false,false,false,false,false,false] rfl rfl (by kernel_rfl) (fun _ _ _ h=>h) (Or.inl ⟨by rfl,?_⟩) ?_ ?_
   rotate_left
   ·intro w'
    go_simp
    with_reducible rfl
   rotate_left
   ·simp only [Act.put,zq1,zq2,zq3,i64_w,i32_w]
    rfl
   refine pure_ (i:=12) (N:=some 102) (v:=?_) (a':=?_) #[true,true,true,true,true,true,true,true,true,true,true,true,true,false,false,false,false,false,false,false,false,false,false,false,false,false,false,false,false,false,false,false,false,false,false,false] rfl rfl (by kernel_rfl) (fun _ _ _ h=>h) (Or.inl ⟨by rfl,?_⟩) ?_ ?_
   rotate_left
   ·intro w'
    go_simp
    with_reducible rfl
   rotate_left
   ·simp only [Act.put,zq1,zq2,zq3,i64_w,i32_w]
    rfl
   refine pure_ (i:=13) (N:=some 103) (v:=?_) (a':=?_) #[true,true,true,true,true,true,true,true,true,true,true,true,true,true,false,false,false,false,false,false,false,false,false,false,false,false,false,false,false,false,false,false,false,false,false,false] rfl rfl (by kernel_rfl) (fun _ _ _ h=>h) (Or.inl ⟨by rfl,?_⟩) ?_ ?_
   rotate_left
   ·intro w'
    go_simp
    with_reducible rfl
   rotate_left
   ·simp only [Act.put,zq1,zq2,zq3,i64_w,i32_w]
    rfl
   refine pure_ (i:=14) (N:=some 104) (v:=?_) (a':=?_) #[true,true,true,true,true,true,true,true,true,true,true,true,true,true,true,false,false,false,false,false,false,false,false,false,false,false,false,false,false,false,false,false,false,false,false,false] rfl rfl (by kernel_rfl) (fun _ _ _ h=>h) (Or.inl ⟨by rfl,?_⟩) ?_ ?_
   rotate_left
   ·intro w'
    go_simp
    with_reducible rfl
   rotate_left
   ·simp only [Act.put,zq1,zq2,zq3,i64_w,i32_w]
    rfl
   refine pure_ (i:=15) (N:=some 105) (v:=?_) (a':=?_) #[true,true,true,true,true,true,true,true,true,true,true,true,true,true,true,true,false,false,false,false,false,false,false,false,false,false,false,false,false,false,false,false,false,false,false,false] rfl rfl (by kernel_rfl) (fun _ _ _ h=>h) (Or.inl ⟨by rfl,?_⟩) ?_ ?_
   rotate_left
   ·intro w'
    go_simp
    with_reducible rfl
   rotate_left
   ·simp only [Act.put,zq1,zq2,zq3,i64_w,i32_w]
    rfl
   refine take_ (i:=16) (N:=some 106) (v:=?_) (a':=?_) #[true,true,true,true,true,true,true,true,true,true,true,true,true,true,true,true,true,false,false,false,false,false,false,false,false,false,false,false,false,false,false,false,false,false,false,false] rfl rfl (by kernel_rfl) (fun _ _ _ h=>h) (Or.inl ⟨by rfl,?_⟩) hHeld ?_ ?_
   rotate_left
   ·rintro w' ⟨s0,s1,s2⟩
    go_simp
    with_reducible rfl
   rotate_left
   ·simp only [Act.put,zq1,zq2,zq3,i64_w,i32_w]
    rfl
   refine pure_ (i:=17) (N:=some 107) (v:=?_) (a':=?_) #[true,true,true,true,true,true,true,true,true,true,true,true,true,true,true,true,true,true,false,false,false,false,false,false,false,false,false,false,false,false,false,false,false,false,false,false] rfl rfl (by kernel_rfl) (fun _ _ _ h=>h) (Or.inl ⟨by rfl,?_⟩) ?_ ?_
   rotate_left
   ·intro w'
    go_simp
    with_reducible rfl
   rotate_left
   ·simp only [Act.put,zq1,zq2,zq3,i64_w,i32_w]
    rfl
   refine pure_ (i:=18) (N:=some 108) (v:=?_) (a':=?_) #[true,true,true,true,true,true,true,true,true,true,true,true,true,true,true,true,true,true,true,false,false,false,false,false,false,false,false,false,false,false,false,false,false,false,false,false] rfl rfl (by kernel_rfl) (fun _ _ _ h=>h) (Or.inl ⟨by rfl,?_⟩) ?_ ?_
   rotate_left
   ·intro w'
    go_simp
    with_reducible rfl
   rotate_left
   ·simp only [Act.put,zq1,zq2,zq3,i64_w,i32_w]
    rfl
   refine pure_ (i:=19) (N:=some 109) (v:=?_) (a':=?_) #[true,true,true,true,true,true,true,true,true,true,true,true,true,true,true,true,true,true,true,true,false,false,false,false,false,false,false,false,false,false,false,false,false,false,false,false] rfl rfl (by kernel_rfl) (fun _ _ _ h=>h) (Or.inl ⟨by rfl,?_⟩) ?_ ?_
   rotate_left
   ·intro w'
    go_simp
    with_reducible rfl
   rotate_left
   ·simp only [Act.put,zq1,zq2,zq3,i64_w,i32_w]
    rfl
   refine pure_ (i:=20) (N:=some 110) (v:=?_) (a':=?_) #[true,true,true,true,true,true,true,true,true,true,true,true,true,true,true,true,true,true,true,true,true,false,false,false,false,false,false,false,false,false,false,false,false,false,false,false] rfl rfl (by kernel_rfl) (fun _ _ _ h=>h) (Or.inl ⟨by rfl,?_⟩) ?_ ?_
   rotate_left
   ·intro w'
    go_simp
    with_reducible rfl
   rotate_left
   ·simp only [Act.put,zq1,zq2,zq3,i64_w,i32_w]
    rfl
   refine pure_ (i:=21) (N:=some 111) (v:=?_) (a':=?_) #[true,true,true,true,true,true,true,true,true,true,true,true,true,true,true,true,true,true,true,true,true,true,false,false,false,false,false,false,false,false,false,false,false,false,false,false] rfl rfl (by kernel_rfl) (fun _ _ _ h=>h) (Or.inl ⟨by rfl,?_⟩) ?_ ?_
   rotate_left
   ·intro w'
    go_simp
    with_reducible rfl
   rotate_left
   ·simp only [Act.put,zq1,zq2,zq3,i64_w,i32_w]
    rfl
   refine pure_ (i:=23) (N:=some 113) (v:=?_) (a':=?_) #[true,true,true,true,true,true,true,true,true,true,true,true,true,true,true,true,true,true,true,true,true,true,false,true,false,false,false,false,false,false,false,false,false,false,false,false] rfl rfl (by kernel_rfl) (fun _ _ _ h=>h) (Or.inl ⟨by rfl,?_⟩) ?_ ?_
   rotate_left
   ·intro w'
    go_simp
    with_reducible rfl
   rotate_left
   ·simp only [Act.put,zq1,zq2,zq3,i64_w,i32_w]
    rfl
   refine pure_ (i:=24) (N:=some 114) (v:=?_) (a':=?_) #[true,true,true,true,true,true,true,true,true,true,true,true,true,true,true,true,true,true,true,true,true,true,false,true,true,false,false,false,false,false,false,false,false,false,false,false] rfl rfl (by kernel_rfl) (fun _ _ _ h=>h) (Or.inl ⟨by rfl,?_⟩) ?_ ?_
   rotate_left
   ·intro w'
    go_simp
    with_reducible rfl
   rotate_left
   ·simp only [Act.put,zq1,zq2,zq3,i64_w,i32_w]
    rfl
   refine pure_ (i:=25) (N:=some 115) (v:=?_) (a':=?_) #[true,true,true,true,true,true,true,true,true,true,true,true,true,true,true,true,true,true,true,true,true,true,false,true,true,true,false,false,false,false,false,false,false,false,false,false] rfl rfl (by kernel_rfl) (fun _ _ _ h=>h) (Or.inl ⟨by rfl,?_⟩) ?_ ?_
   rotate_left
   ·intro w'
    go_simp
    with_reducible rfl
   rotate_left
   ·simp only [Act.put,zq1,zq2,zq3,i64_w,i32_w]
    rfl
   refine pure_ (i:=27) (N:=some 117) (v:=?_) (a':=?_) #[true,true,true,true,true,true,true,true,true,true,true,true,true,true,true,true,true,true,true,true,true,true,false,true,true,true,false,true,false,false,false,false,false,false,false,false] rfl rfl (by kernel_rfl) (fun _ _ _ h=>h) (Or.inl ⟨by rfl,?_⟩) ?_ ?_
   rotate_left
   ·intro w'
    go_simp
    with_reducible rfl
   rotate_left
   ·simp only [Act.put,zq1,zq2,zq3,i64_w,i32_w]
    rfl
   refine pure_ (i:=28) (N:=some 118) (v:=?_) (a':=?_) #[true,true,true,true,true,true,true,true,true,true,true,true,true,true,true,true,true,true,true,true,true,true,false,true,true,true,false,true,true,false,false,false,false,false,false,false] rfl rfl (by kernel_rfl) (fun _ _ _ h=>h) (Or.inl ⟨by rfl,?_⟩) ?_ ?_
   rotate_left
   ·intro w'
    go_simp
    with_reducible rfl
   rotate_left
   ·simp only [Act.put,zq1,zq2,zq3,i64_w,i32_w]
    rfl
   refine pure_ (i:=29) (N:=some 119) (v:=?_) (a':=?_) #[true,true,true,true,true,true,true,true,true,true,true,true,true,true,true,true,true,true,true,true,true,true,false,true,true,true,false,true,true,true,false,false,false,false,false,false] rfl rfl (by kernel_rfl) (fun _ _ _ h=>h) (Or.inl ⟨by rfl,?_⟩) ?_ ?_
   rotate_left
   ·intro w'
    go_simp
    with_reducible rfl
   rotate_left
   ·simp only [Act.put,zq1,zq2,zq3,i64_w,i32_w]
    rfl
   refine take_ (i:=22) (N:=some 112) (v:=?_) (a':=?_) #[true,true,true,true,true,true,true,true,true,true,true,true,true,true,true,true,true,true,true,true,true,true,true,true,true,true,false,true,true,true,false,false,false,false,false,false] rfl rfl (by kernel_rfl) (fun _ _ _ h=>h) (Or.inl ⟨by rfl,?_⟩) hHeld ?_ ?_
   rotate_left
   ·rintro w' ⟨s0,s1,s2⟩
    go_simp
    with_reducible rfl
   rotate_left
   ·simp only [Act.put,zq1,zq2,zq3,i64_w,i32_w]
    rfl
   refine take_ (i:=26) (N:=some 116) (v:=?_) (a':=?_) #[true,true,true,true,true,true,true,true,true,true,true,true,true,true,true,true,true,true,true,true,true,true,true,true,true,true,true,true,true,true,false,false,false,false,false,false] rfl rfl (by kernel_rfl) (fun _ _ _ h=>h) (Or.inl ⟨by rfl,?_⟩) hHeld ?_ ?_
   rotate_left
   ·rintro w' ⟨s0,s1,s2⟩
    go_simp
    with_reducible rfl
   rotate_left
   ·simp only [Act.put,zq1,zq2,zq3,i64_w,i32_w]
    rfl
   refine take_ (i:=30) (N:=some 120) (v:=?_) (a':=?_) #[true,true,true,true,true,true,true,true,true,true,true,true,true,true,true,true,true,true,true,true,true,true,true,true,true,true,true,true,true,true,true,false,false,false,false,false] rfl rfl (by kernel_rfl) (fun _ _ _ h=>h) (Or.inl ⟨by rfl,?_⟩) hHeld ?_ ?_
   rotate_left
   ·rintro w' ⟨s0,s1,s2⟩
    go_simp
    with_reducible rfl
   rotate_left
   ·simp only [Act.put,zq1,zq2,zq3,i64_w,i32_w]
    rfl
   refine pure_ (i:=31) (N:=some 121) (v:=?_) (a':=?_) #[true,true,true,true,true,true,true,true,true,true,true,true,true,true,true,true,true,true,true,true,true,true,true,true,true,true,true,true,true,true,true,true,false,false,false,false] rfl rfl (by kernel_rfl) (fun _ _ _ h=>h) (Or.inl ⟨by rfl,?_⟩) ?_ ?_
   rotate_left
   ·intro w'
    go_simp
    with_reducible rfl
   rotate_left
   ·simp only [Act.put,zq1,zq2,zq3,i64_w,i32_w]
    rfl
   refine pure_ (i:=32) (N:=some 122) (v:=?_) (a':=?_) #[true,true,true,true,true,true,true,true,true,true,true,true,true,true,true,true,true,true,true,true,true,true,true,true,true,true,true,true,true,true,true,true,true,false,false,false] rfl rfl (by kernel_rfl) (fun _ _ _ h=>h) (Or.inl ⟨by rfl,?_⟩) ?_ ?_
   rotate_left
   ·intro w'
    go_simp
    with_reducible rfl
   rotate_left
   ·simp only [Act.put,zq1,zq2,zq3,i64_w,i32_w]
    rfl
   refine pure_ (i:=33) (N:=some 123) (v:=?_) (a':=?_) #[true,true,true,true,true,true,true,true,true,true,true,true,true,true,true,true,true,true,true,true,true,true,true,true,true,true,true,true,true,true,true,true,true,true,false,false] rfl rfl (by kernel_rfl) (fun _ _ _ h=>h) (Or.inl ⟨by rfl,?_⟩) ?_ ?_
   rotate_left
   ·intro w'
    go_simp
    with_reducible rfl
   rotate_left
   ·simp only [Act.put,zq1,zq2,zq3,i64_w,i32_w]
    rfl
   refine pure_ (i:=34) (N:=some 124) (v:=?_) (a':=?_) #[true,true,true,true,true,true,true,true,true,true,true,true,true,true,true,true,true,true,true,true,true,true,true,true,true,true,true,true,true,true,true,true,true,true,true,false] rfl rfl (by kernel_rfl) (fun _ _ _ h=>h) (Or.inl ⟨by rfl,?_⟩) ?_ ?_
   rotate_left
   ·intro w'
    go_simp
    with_reducible rfl
   rotate_left
   ·simp only [Act.put,zq1,zq2,zq3,i64_w,i32_w]
    rfl
   refine pure_ (i:=35) (N:=some 8) (v:=?_) (a':=?_) #[true,true,true,true,true,true,true,true,true,true,true,true,true,true,true,true,true,true,true,true,true,true,true,true,true,true,true,true,true,true,true,true,true,true,true,true] rfl rfl (by kernel_rfl) (fun _ _ _ h=>h) (Or.inl ⟨by rfl,?_⟩) ?_ ?_
   rotate_left
   ·intro w'
    go_simp
    with_reducible rfl
   rotate_left
   ·simp only [Act.put,zq1,zq2,zq3,i64_w,i32_w]
    rfl
   refine done_ (by kernel_rfl) ?_
   go_wp2
   go_ret
   exact ⟨rfl,HEND.out _ (below_drew (below_drew HBw.out))⟩
end Go.Proofs.Ytcbnhfnnjkkceaa.X
end
section
namespace Go.Proofs.Ytcbnhfnnjkkceaa.farBoth
open Go.ChangeShapes Go.WideShapes Go.ChangeAt Go.RowKit
theorem own : ownKnob Try.prog.godebug = none:=by kernel_rfl
theorem laidOut : laidOutB Try.prog = true:=by kernel_rfl
set_option maxRecDepth 100000 in
theorem lifted (os : Os) (started : os.Started) (H : Type) (enc : TypeId × Value → H) :
  ReturnsInHanded {} Try.checked os 7 .any (Rows.farBothSpec.pre6 enc Try.prog Try.f7 Rows.farBothRow.domain false) (Rows.farBothSpec.post enc Try.prog Try.f7 false true false false):=by
 refine returnsInHanded_of_change_sized (C:=Try.checked) own started (by kernel_rfl) Try.func7
  (ChangeSpec.witness6 (enc:=enc) (C:=Try.checked) false ⟨#[],#[.agg #[.int .i64 0,.int .i64 0,.int .i64 0,.slice none 0 0,.slice none 0 0,.slice none 0 0],.int .i64 0,.int .i64 0,.int .i64 0],[]⟩ 8 (by kernel_rfl) (by kernel_rfl) (by kernel_rfl) (by kernel_rfl)) ?_
 intro W base args ds gs before hval0 hW hcnd hsz0 _
 have hsz : (DataW.weightsEach Try.prog (Try.f7.params.toList ++ Rows.farBothSpec.plain.varTypes Try.prog) (ds ++ gs)).all (· ≤ reachBytes) = true:=hsz0
 have hval : ∀ (j : Nat) t v,Try.f7.params[j]? = some t → args[j]? = some v → Value.okWide Try.prog W .any base t v:=hval0
 have hW':=hW
 obtain ⟨p,q,hA0,hV,rfl,hfz,hnd⟩:=hW
 have hA : DataW.TrodAll enc Try.prog W 0 (fun _=>true) true Try.f7.params.toList args.toList ds p:=hA0
 rw [Try.params7] at hA hval hsz
 obtain ⟨v0,vs0,d0,ds0,p0,q0,hargs,rfl,rfl,h0,r0⟩:=trodAll_cons hA
 obtain ⟨v1,vs1,d1,ds1,p1,q1,rfl,rfl,rfl,h1,r1⟩:=trodAll_cons r0
 obtain ⟨v2,vs2,d2,ds2,p2,q2,rfl,rfl,rfl,h2,r2⟩:=trodAll_cons r1
 obtain ⟨v3,vs3,d3,ds3,p3,q3,rfl,rfl,rfl,h3,r3⟩:=trodAll_cons r2
 obtain ⟨rfl,rfl,rfl⟩:=trodAll_nil r3
 obtain rfl : args = #[v0,v1,v2,v3]:=by cases args; simp_all
 obtain ⟨rfl,rfl⟩:=trodVars_none hV
 have k0:=h0
 have lt0 : ∀ x ∈ p0,x.block < W.heap.size:=by obtain ⟨m,hm⟩:=k0; exact DataW.trod_lt m _ _ _ hm
 obtain ⟨im0,A3_0,c3_0,A4_0,c4_0,A5_0,c5_0,rfl,hr3_0,hc3_0,hr4_0,hc4_0,hr5_0,hc5_0,hw0⟩:=X.open_image (hval 0 26 v0 rfl rfl) h0
 obtain ⟨a1,rfl,rfl,rfl,w1⟩:=open_int Try.underlying3 (hval 1 3 v1 rfl rfl) h1
 obtain ⟨a2,rfl,rfl,rfl,w2⟩:=open_int Try.underlying3 (hval 2 3 v2 rfl rfl) h2
 obtain ⟨a3,rfl,rfl,rfl,w3⟩:=open_int Try.underlying3 (hval 3 3 v3 rfl rfl) h3
 clear hA0 hval0 hsz0 hsz
 refine (X.farBoth_law im0 A3_0 c3_0 A4_0 c4_0 A5_0 c5_0 a1 a2 a3 W hr3_0 hc3_0 hr4_0 hc4_0 hr5_0 hc5_0 hw0 w1 w2 w3).mono fun e W' ⟨he,bel⟩=>?_
 subst he
 exact ⟨_,rfl,_,_,_,[],_,[],hW',trodAll_mk1 (shut_bool Try.underlying4 _),(trodAll_cons_mk (Below.trod laidOut (by kernel_rfl) (of_decide_eq_true (by kernel_rfl)) k0 bel lt0) (trodAll_cons_mk (shut_int Try.underlying3 w1) (trodAll_cons_mk (shut_int Try.underlying3 w2) (trodAll_cons_mk (shut_int Try.underlying3 w3) trodAll_mk0)))),rfl,bel.frame _,fun h=>by cases h⟩
theorem over : Rows.farBothRow.holds Try.pinned (OpenSpec.ofChange Rows.farBothSpec) :=
 OpenClaim.holds_of_wide 7 Try.f7 rfl rfl rfl rfl rfl rfl rfl ⟨rfl,rfl,rfl,rfl,rfl⟩ rfl rfl rfl rfl rfl (by kernel_rfl) Try.func7 (by kernel_rfl)
  (of_decide_eq_true (by kernel_rfl)) (by unfold Func.isWrapper; first | (rw [if_pos (by decide +kernel)]; kernel_rfl) | (rw [if_neg (by decide +kernel)]; exact ⟨rfl,rfl⟩))
  (fun os started H enc _=>lifted os started H enc)
theorem proved : Rows.FarBothSaid:=over
#print axioms proved
end Go.Proofs.Ytcbnhfnnjkkceaa.farBoth
namespace Go.Proofs.Ytcbnhfnnjkkceaa
/-- The row, under a short name, for the claim. -/
theorem farBoth_holds : Rows.FarBothSaid:=farBoth.proved
end Go.Proofs.Ytcbnhfnnjkkceaa
end
