/- For the statement of the row : what its proof needs of the text S5. -/
import Derived.Laws.CopyOwn
import Derived.Deep.MidRow
import Derived.Test.YtcbnhfnnjkkceaaGreatQS1
import Derived.Test.YtcbnhfnnjkkceaaGreatQS2
import Derived.Test.YtcbnhfnnjkkceaaGreatQS3
import Derived.Test.YtcbnhfnnjkkceaaGreatQS4
set_option maxHeartbeats 8000000
set_option maxRecDepth 100000
set_option linter.unusedSimpArgs false
set_option linter.unusedVariables false

section
namespace Go.Proofs.YtcbnhfnnjkkceaaGreat.X
open Go.RowKit Go.Proofs.YtcbnhfnnjkkceaaGreatW.PrintWords Go.Proofs.YtcbnhfnnjkkceaaGreatW.PrintLast Go.Proofs.YtcbnhfnnjkkceaaGreatW.PrintMore Go.Proofs.YtcbnhfnnjkkceaaGreat.Gr
theorem idx_deed (op:Int) (h0:0≤op) (h1:op≤25) (W:World):(Instr.index 136 (.agg (DC 14)) (.int .i64 op)).run Tryz.prog W=.ok ((DC 14)[op.toNat]?.getD undef) W:=by
 have hu:Tryz.prog.underlying 136=some (.array 26 135):=by kernel_rfl
 have hs:(Tryz.prog.info? 135).map (·.size)=some 1:=by kernel_rfl
 have hg:(isAgg 135).run Tryz.prog W=.ok false W:=by
  unfold isAgg;rw [Sem.run_bind,run_underlying Tryz.underlying135 W];rfl
 obtain ⟨v,hv⟩:∃ v,(DC 14)[op.toNat]?=some v:=⟨_,Array.getElem?_eq_getElem (by show op.toNat < 26;omega)⟩;have hp:(0≤op∧op < 26)=True:=eq_true (by omega);have hp':(0≤op∧op < ((26:Nat):Int))=True:=eq_true (by omega);cases hq:Tryz.prog.info? 135 with
 | none=>rw [hq] at hs;cases hs
 | some i =>
  have hi:i.size=1:=by rw [hq] at hs;simpa using hs
  simp only [Instr.index,asIntOf,Sem.run_bind,Sem.run_pure,Result.andThen_ok,run_underlying hu,hp',if_true,sizeOf,typeInfo,hq,hi,part,hg,Nat.mul_one,hv,Option.getD_some];simp [hq,hi,hg,hv]
theorem cell_al {w:World} {o:Obj} {a:Addr} {v:Value} (h:w.cell? a=some v):(w.drew.alloc o).cell? a=some v:=by
 have hb:a.block < w.heap.size:=by
  unfold World.cell? at h
  split at h
  ·rename_i e
   exact z0v e
  ·cases h
 exact (World.cell?_of_block (a:=a) (Below.heap_alloc w.drew o a.block hb)).trans h
theorem one_out {w0 w:World} {r mb m:Nat} {p:Im} {Ai A3 A4 A5:Option Addr} {il ci n3 c3 n4 c4 n5 c5:Nat} {Y:Nat→Prop} {x:Int} {rg:Nat→Int} {ov:Value} {os:List Int} (h:MSt w0 w r mb m p (.slice Ai il ci) (.slice A3 n3 c3) (.slice A4 n4 c4) (.slice A5 n5 c5) Y x rg ov os) (hx0:0≤x) (hx1:(n5:Int)≤x) :
  Calls Tryz.prog 68 #[.pointer (some ⟨r,0,none⟩)] w (z1m w0 w r mb m p (.slice Ai il ci) (.slice A3 n3 c3) (.slice A4 n4 c4) (.slice A5 n5 c5) Y x os):=by
 have HS:=Aside0.mk h;have HF:Aside0 (Fr w w (fun j=>j=r)):=⟨Fr.refl _ _⟩;clear h;have hdx:decide (x < 0)=false:=decide_eq_false (by omega);have hx0':¬ x < 0:=by omega
 go_enter Tryz.func68,Tryz.ntmps68
 go_upto_region 1 with (fail)
 refine z1i (n:=20) (S:=fun w'=>w'.cell? ⟨r,7,none⟩=some (.int .i64 x)∧w'.cell? ⟨r,5,none⟩=some (.slice A5 n5 c5)) (ds:=[]) #[zf,zf,zf,zf,zf,zf,zf,zf,zf,zf,zf,zf,zf,zf,zf,zf,zf,zf,zf,zf] (by kernel_rfl) rfl rfl ⟨(HS.out.cell 7).trans rfl,(HS.out.cell 5).trans rfl⟩ (fun hHeld=>?_);refine pure_ (i:=0) (N:=some 4) (v:=?_) (a':=?_) #[zt,zf,zf,zf,zf,zf,zf,zf,zf,zf,zf,zf,zf,zf,zf,zf,zf,zf,zf,zf] rfl rfl (by kernel_rfl) (fun _ _ _ h=>h) (Or.inl ⟨by rfl,?_⟩) ?_ ?_;rotate_left
 ·intro w';go_simp;with_reducible rfl
 rotate_left
 ·simp only [Act.put,zq1,zq2,zq3,i64_w,i32_w];rfl
 refine pure_ (i:=1) (N:=some 5) (v:=?_) (a':=?_) #[zt,zt,zf,zf,zf,zf,zf,zf,zf,zf,zf,zf,zf,zf,zf,zf,zf,zf,zf,zf] rfl rfl (by kernel_rfl) (fun _ _ _ h=>h) (Or.inl ⟨by rfl,?_⟩) ?_ ?_;rotate_left
 ·intro w';go_simp;with_reducible rfl
 rotate_left
 ·simp only [Act.put,zq1,zq2,zq3,i64_w,i32_w];rfl
 refine pure_ (i:=2) (N:=some 6) (v:=?_) (a':=?_) #[zt,zt,zt,zf,zf,zf,zf,zf,zf,zf,zf,zf,zf,zf,zf,zf,zf,zf,zf,zf] rfl rfl (by kernel_rfl) (fun _ _ _ h=>h) (Or.inl ⟨by rfl,?_⟩) ?_ ?_;rotate_left
 ·intro w';go_simp;with_reducible rfl
 rotate_left
 ·simp only [Act.put,zq1,zq2,zq3,i64_w,i32_w];rfl
 refine pure_ (i:=3) (N:=some 7) (v:=?_) (a':=?_) #[zt,zt,zt,zt,zf,zf,zf,zf,zf,zf,zf,zf,zf,zf,zf,zf,zf,zf,zf,zf] rfl rfl (by kernel_rfl) (fun _ _ _ h=>h) (Or.inl ⟨by rfl,?_⟩) ?_ ?_;rotate_left
 ·intro w';go_simp;with_reducible rfl
 rotate_left
 ·simp only [Act.put,zq1,zq2,zq3,i64_w,i32_w];rfl
 refine take_ (i:=4) (N:=some 8) (v:=?_) (a':=?_) #[zt,zt,zt,zt,zt,zf,zf,zf,zf,zf,zf,zf,zf,zf,zf,zf,zf,zf,zf,zf] rfl rfl (by kernel_rfl) (fun _ _ _ h=>h) (Or.inl ⟨by rfl,?_⟩) hHeld ?_ ?_;rotate_left
 ·rintro w' ⟨s0,s1⟩;go_simp;with_reducible rfl
 rotate_left
 ·simp only [Act.put,zq1,zq2,zq3,i64_w,i32_w];rfl
 refine pure_ (i:=5) (N:=some 9) (v:=?_) (a':=?_) #[zt,zt,zt,zt,zt,zt,zf,zf,zf,zf,zf,zf,zf,zf,zf,zf,zf,zf,zf,zf] rfl rfl (by kernel_rfl) (fun _ _ _ h=>h) (Or.inl ⟨by rfl,?_⟩) ?_ ?_;rotate_left
 ·intro w';go_simp;with_reducible rfl
 rotate_left
 ·simp only [Act.put,zq1,zq2,zq3,i64_w,i32_w];rfl
 refine pure_ (i:=6) (N:=some 10) (v:=?_) (a':=?_) #[zt,zt,zt,zt,zt,zt,zt,zf,zf,zf,zf,zf,zf,zf,zf,zf,zf,zf,zf,zf] rfl rfl (by kernel_rfl) (fun _ _ _ h=>h) (Or.inl ⟨by rfl,?_⟩) ?_ ?_;rotate_left
 ·intro w';go_simp;with_reducible rfl
 rotate_left
 ·simp only [Act.put,zq1,zq2,zq3,i64_w,i32_w];rfl
 refine pure_ (i:=7) (N:=some 11) (v:=?_) (a':=?_) #[zt,zt,zt,zt,zt,zt,zt,zt,zf,zf,zf,zf,zf,zf,zf,zf,zf,zf,zf,zf] rfl rfl (by kernel_rfl) (fun _ _ _ h=>h) (Or.inl ⟨by rfl,?_⟩) ?_ ?_;rotate_left
 ·intro w';go_simp;with_reducible rfl
 rotate_left
 ·simp only [Act.put,zq1,zq2,zq3,i64_w,i32_w];rfl
 refine pure_ (i:=8) (N:=some 12) (v:=?_) (a':=?_) #[zt,zt,zt,zt,zt,zt,zt,zt,zt,zf,zf,zf,zf,zf,zf,zf,zf,zf,zf,zf] rfl rfl (by kernel_rfl) (fun _ _ _ h=>h) (Or.inl ⟨by rfl,?_⟩) ?_ ?_;rotate_left
 ·intro w';go_simp;with_reducible rfl
 rotate_left
 ·simp only [Act.put,zq1,zq2,zq3,i64_w,i32_w];rfl
 refine pure_ (i:=9) (N:=some 13) (v:=?_) (a':=?_) #[zt,zt,zt,zt,zt,zt,zt,zt,zt,zt,zf,zf,zf,zf,zf,zf,zf,zf,zf,zf] rfl rfl (by kernel_rfl) (fun _ _ _ h=>h) (Or.inl ⟨by rfl,?_⟩) ?_ ?_;rotate_left
 ·intro w';go_simp;with_reducible rfl
 rotate_left
 ·simp only [Act.put,zq1,zq2,zq3,i64_w,i32_w];rfl
 refine pure_ (i:=10) (N:=some 14) (v:=?_) (a':=?_) #[zt,zt,zt,zt,zt,zt,zt,zt,zt,zt,zt,zf,zf,zf,zf,zf,zf,zf,zf,zf] rfl rfl (by kernel_rfl) (fun _ _ _ h=>h) (Or.inl ⟨by rfl,?_⟩) ?_ ?_;rotate_left
 ·intro w';go_simp;with_reducible rfl
 rotate_left
 ·simp only [Act.put,zq1,zq2,zq3,i64_w,i32_w];rfl
 refine pure_ (i:=12) (N:=some 16) (v:=?_) (a':=?_) #[zt,zt,zt,zt,zt,zt,zt,zt,zt,zt,zt,zf,zt,zf,zf,zf,zf,zf,zf,zf] rfl rfl (by kernel_rfl) (fun _ _ _ h=>h) (Or.inl ⟨by rfl,?_⟩) ?_ ?_;rotate_left
 ·intro w';go_simp;with_reducible rfl
 rotate_left
 ·simp only [Act.put,zq1,zq2,zq3,i64_w,i32_w];rfl
 refine pure_ (i:=13) (N:=some 17) (v:=?_) (a':=?_) #[zt,zt,zt,zt,zt,zt,zt,zt,zt,zt,zt,zf,zt,zt,zf,zf,zf,zf,zf,zf] rfl rfl (by kernel_rfl) (fun _ _ _ h=>h) (Or.inl ⟨by rfl,?_⟩) ?_ ?_;rotate_left
 ·intro w';go_simp;with_reducible rfl
 rotate_left
 ·simp only [Act.put,zq1,zq2,zq3,i64_w,i32_w];rfl
 refine pure_ (i:=14) (N:=some 18) (v:=?_) (a':=?_) #[zt,zt,zt,zt,zt,zt,zt,zt,zt,zt,zt,zf,zt,zt,zt,zf,zf,zf,zf,zf] rfl rfl (by kernel_rfl) (fun _ _ _ h=>h) (Or.inl ⟨by rfl,?_⟩) ?_ ?_;rotate_left
 ·intro w';go_simp;with_reducible rfl
 rotate_left
 ·simp only [Act.put,zq1,zq2,zq3,i64_w,i32_w];rfl
 refine pure_ (i:=15) (N:=some 19) (v:=?_) (a':=?_) #[zt,zt,zt,zt,zt,zt,zt,zt,zt,zt,zt,zf,zt,zt,zt,zt,zf,zf,zf,zf] rfl rfl (by kernel_rfl) (fun _ _ _ h=>h) (Or.inl ⟨by rfl,?_⟩) ?_ ?_;rotate_left
 ·intro w';go_simp;with_reducible rfl
 rotate_left
 ·simp only [Act.put,zq1,zq2,zq3,i64_w,i32_w];rfl
 refine take_ (i:=11) (N:=some 15) (v:=?_) (a':=?_) #[zt,zt,zt,zt,zt,zt,zt,zt,zt,zt,zt,zt,zt,zt,zt,zt,zf,zf,zf,zf] rfl rfl (by kernel_rfl) (fun _ _ _ h=>h) (Or.inl ⟨by rfl,?_⟩) hHeld ?_ ?_;rotate_left
 ·rintro w' ⟨s0,s1⟩;go_simp;with_reducible rfl
 rotate_left
 ·simp only [Act.put,zq1,zq2,zq3,i64_w,i32_w];rfl
 refine take_ (i:=16) (N:=some 20) (v:=?_) (a':=?_) #[zt,zt,zt,zt,zt,zt,zt,zt,zt,zt,zt,zt,zt,zt,zt,zt,zt,zf,zf,zf] rfl rfl (by kernel_rfl) (fun _ _ _ h=>h) (Or.inl ⟨by rfl,?_⟩) hHeld ?_ ?_;rotate_left
 ·rintro w' ⟨s0,s1⟩;go_simp;with_reducible rfl
 rotate_left
 ·simp only [Act.put,zq1,zq2,zq3,i64_w,i32_w];rfl
 refine pure_ (i:=17) (N:=some 21) (v:=?_) (a':=?_) #[zt,zt,zt,zt,zt,zt,zt,zt,zt,zt,zt,zt,zt,zt,zt,zt,zt,zt,zf,zf] rfl rfl (by kernel_rfl) (fun _ _ _ h=>h) (Or.inl ⟨by rfl,?_⟩) ?_ ?_;rotate_left
 ·intro w';go_simp;with_reducible rfl
 rotate_left
 ·simp only [Act.put,zq1,zq2,zq3,i64_w,i32_w];rfl
 refine pure_ (i:=18) (N:=some 22) (v:=?_) (a':=?_) #[zt,zt,zt,zt,zt,zt,zt,zt,zt,zt,zt,zt,zt,zt,zt,zt,zt,zt,zt,zf] rfl rfl (by kernel_rfl) (fun _ _ _ h=>h) (Or.inl ⟨by rfl,?_⟩) ?_ ?_;rotate_left
 ·intro w';go_simp;with_reducible rfl
 rotate_left
 ·simp only [Act.put,zq1,zq2,zq3,i64_w,i32_w];rfl
 refine pure_ (i:=19) (N:=some 23) (v:=?_) (a':=?_) #[zt,zt,zt,zt,zt,zt,zt,zt,zt,zt,zt,zt,zt,zt,zt,zt,zt,zt,zt,zt] rfl rfl (by kernel_rfl) (fun _ _ _ h=>h) (Or.inl ⟨by rfl,?_⟩) ?_ ?_;rotate_left
 ·intro w';go_simp;with_reducible rfl
 rotate_left
 ·simp only [Act.put,zq1,zq2,zq3,i64_w,i32_w];rfl
 refine done_ (by kernel_rfl) ?_;have HS2:=Aside0.mk HS.out.drew;have HF2:=Aside0.mk (z2e HF.out);generalize w.drew=w2 at HS2 HF2 ⊢;clear HS HF hHeld;have hd:decide (x ≥ (n5:Int))=true:=decide_eq_true hx1;go_wp2;go_ret
 exact z31 (by decide) HF2.out HS2.out
theorem one_in {w0 w : World} {r mb m : Nat} {p : Im} {Ai A3 A4 A5 : Option Addr} {il ci n3 c3 n4 c4 n5 c5 : Nat} {Y : Nat → Prop} {x : Int} {rg : Nat → Int} {ov : Value} {os : List Int} (h : MSt w0 w r mb m p (.slice Ai il ci) (.slice A3 n3 c3) (.slice A4 n4 c4) (.slice A5 n5 c5) Y x rg ov os) (hx0 : 0 ≤ x) (hx1 : x < (n5 : Int)) (hx2 : x < 256) (hn5 : n5 = p.f5.length) (hco : ∀ W, Below w0.heap.size w0 W → k79.C W A5 n5 p.f5) (i : In) (hi : z0a p.f5 x = i) {FD : Nat} {fn : Func} (hf : Tryz.prog.funcs[FD]? = some fn) (hname : (fn.name == "runtime.NumGoroutine") = false) (hb : fn.body.isSome = true) (hdc : (DC 14)[i.f0.toNat]? = some (.func (.func FD) #[] #[])) (hi0 : 0 ≤ i.f0) (hi1 : i.f0 ≤ 25) (hD : ∀ W, MSt w0 W r mb m p (.slice Ai il ci) (.slice A3 n3 c3) (.slice A4 n4 c4) (.slice A5 n5 c5) Y x rg ov os → Calls Tryz.prog FD #[.pointer (some ⟨r, 0, none⟩), .agg #[.int .i64 i.f0, .int .i64 i.f1, .int .i64 i.f2, .int .i64 i.f3, .int .u64 i.f4]] W (z1m w0 W r mb m p (.slice Ai il ci) (.slice A3 n3 c3) (.slice A4 n4 c4) (.slice A5 n5 c5) Y x os)) :
  Calls Tryz.prog 68 #[.pointer (some ⟨r,0,none⟩)] w (z1m w0 w r mb m p (.slice Ai il ci) (.slice A3 n3 c3) (.slice A4 n4 c4) (.slice A5 n5 c5) Y x os):=by
 have HS:=Aside0.mk h;have HF:Aside0 (Fr w w (fun j=>j=r)):=⟨Fr.refl _ _⟩;have HCO:=Aside0.mk hco;have HD:=Aside0.mk hD;have HFN:=Aside0.mk (And.intro hf (And.intro hname hb));have HI:=Aside0.mk hi;have HDC:=Aside0.mk hdc;have HIB:=Aside0.mk (And.intro hi0 hi1);subst hn5;clear hco hD hf hname hb hi hdc hi0 hi1;clear h;have hdx:decide (x < 0)=false:=decide_eq_false (by omega);have hx0':¬ x < 0:=by omega
 go_enter Tryz.func68,Tryz.ntmps68
 go_upto_region 1 with (fail)
 refine z1i (n:=20) (S:=fun w'=>w'.cell? ⟨r,7,none⟩=some (.int .i64 x)∧w'.cell? ⟨r,5,none⟩=some (.slice A5 p.f5.length c5)) (ds:=[]) #[zf,zf,zf,zf,zf,zf,zf,zf,zf,zf,zf,zf,zf,zf,zf,zf,zf,zf,zf,zf] (by kernel_rfl) rfl rfl ⟨(HS.out.cell 7).trans rfl,(HS.out.cell 5).trans rfl⟩ (fun hHeld=>?_);refine pure_ (i:=0) (N:=some 4) (v:=?_) (a':=?_) #[zt,zf,zf,zf,zf,zf,zf,zf,zf,zf,zf,zf,zf,zf,zf,zf,zf,zf,zf,zf] rfl rfl (by kernel_rfl) (fun _ _ _ h=>h) (Or.inl ⟨by rfl,?_⟩) ?_ ?_;rotate_left
 ·intro w';go_simp;with_reducible rfl
 rotate_left
 ·simp only [Act.put,zq1,zq2,zq3,i64_w,i32_w];rfl
 refine pure_ (i:=1) (N:=some 5) (v:=?_) (a':=?_) #[zt,zt,zf,zf,zf,zf,zf,zf,zf,zf,zf,zf,zf,zf,zf,zf,zf,zf,zf,zf] rfl rfl (by kernel_rfl) (fun _ _ _ h=>h) (Or.inl ⟨by rfl,?_⟩) ?_ ?_;rotate_left
 ·intro w';go_simp;with_reducible rfl
 rotate_left
 ·simp only [Act.put,zq1,zq2,zq3,i64_w,i32_w];rfl
 refine pure_ (i:=2) (N:=some 6) (v:=?_) (a':=?_) #[zt,zt,zt,zf,zf,zf,zf,zf,zf,zf,zf,zf,zf,zf,zf,zf,zf,zf,zf,zf] rfl rfl (by kernel_rfl) (fun _ _ _ h=>h) (Or.inl ⟨by rfl,?_⟩) ?_ ?_;rotate_left
 ·intro w';go_simp;with_reducible rfl
 rotate_left
 ·simp only [Act.put,zq1,zq2,zq3,i64_w,i32_w];rfl
 refine pure_ (i:=3) (N:=some 7) (v:=?_) (a':=?_) #[zt,zt,zt,zt,zf,zf,zf,zf,zf,zf,zf,zf,zf,zf,zf,zf,zf,zf,zf,zf] rfl rfl (by kernel_rfl) (fun _ _ _ h=>h) (Or.inl ⟨by rfl,?_⟩) ?_ ?_;rotate_left
 ·intro w';go_simp;with_reducible rfl
 rotate_left
 ·simp only [Act.put,zq1,zq2,zq3,i64_w,i32_w];rfl
 refine take_ (i:=4) (N:=some 8) (v:=?_) (a':=?_) #[zt,zt,zt,zt,zt,zf,zf,zf,zf,zf,zf,zf,zf,zf,zf,zf,zf,zf,zf,zf] rfl rfl (by kernel_rfl) (fun _ _ _ h=>h) (Or.inl ⟨by rfl,?_⟩) hHeld ?_ ?_;rotate_left
 ·rintro w' ⟨s0,s1⟩;go_simp;with_reducible rfl
 rotate_left
 ·simp only [Act.put,zq1,zq2,zq3,i64_w,i32_w];rfl
 refine pure_ (i:=5) (N:=some 9) (v:=?_) (a':=?_) #[zt,zt,zt,zt,zt,zt,zf,zf,zf,zf,zf,zf,zf,zf,zf,zf,zf,zf,zf,zf] rfl rfl (by kernel_rfl) (fun _ _ _ h=>h) (Or.inl ⟨by rfl,?_⟩) ?_ ?_;rotate_left
 ·intro w';go_simp;with_reducible rfl
 rotate_left
 ·simp only [Act.put,zq1,zq2,zq3,i64_w,i32_w];rfl
 refine pure_ (i:=6) (N:=some 10) (v:=?_) (a':=?_) #[zt,zt,zt,zt,zt,zt,zt,zf,zf,zf,zf,zf,zf,zf,zf,zf,zf,zf,zf,zf] rfl rfl (by kernel_rfl) (fun _ _ _ h=>h) (Or.inl ⟨by rfl,?_⟩) ?_ ?_;rotate_left
 ·intro w';go_simp;with_reducible rfl
 rotate_left
 ·simp only [Act.put,zq1,zq2,zq3,i64_w,i32_w];rfl
 refine pure_ (i:=7) (N:=some 11) (v:=?_) (a':=?_) #[zt,zt,zt,zt,zt,zt,zt,zt,zf,zf,zf,zf,zf,zf,zf,zf,zf,zf,zf,zf] rfl rfl (by kernel_rfl) (fun _ _ _ h=>h) (Or.inl ⟨by rfl,?_⟩) ?_ ?_;rotate_left
 ·intro w';go_simp;with_reducible rfl
 rotate_left
 ·simp only [Act.put,zq1,zq2,zq3,i64_w,i32_w];rfl
 refine pure_ (i:=8) (N:=some 12) (v:=?_) (a':=?_) #[zt,zt,zt,zt,zt,zt,zt,zt,zt,zf,zf,zf,zf,zf,zf,zf,zf,zf,zf,zf] rfl rfl (by kernel_rfl) (fun _ _ _ h=>h) (Or.inl ⟨by rfl,?_⟩) ?_ ?_;rotate_left
 ·intro w';go_simp;with_reducible rfl
 rotate_left
 ·simp only [Act.put,zq1,zq2,zq3,i64_w,i32_w];rfl
 refine pure_ (i:=9) (N:=some 13) (v:=?_) (a':=?_) #[zt,zt,zt,zt,zt,zt,zt,zt,zt,zt,zf,zf,zf,zf,zf,zf,zf,zf,zf,zf] rfl rfl (by kernel_rfl) (fun _ _ _ h=>h) (Or.inl ⟨by rfl,?_⟩) ?_ ?_;rotate_left
 ·intro w';go_simp;with_reducible rfl
 rotate_left
 ·simp only [Act.put,zq1,zq2,zq3,i64_w,i32_w];rfl
 refine pure_ (i:=10) (N:=some 14) (v:=?_) (a':=?_) #[zt,zt,zt,zt,zt,zt,zt,zt,zt,zt,zt,zf,zf,zf,zf,zf,zf,zf,zf,zf] rfl rfl (by kernel_rfl) (fun _ _ _ h=>h) (Or.inl ⟨by rfl,?_⟩) ?_ ?_;rotate_left
 ·intro w';go_simp;with_reducible rfl
 rotate_left
 ·simp only [Act.put,zq1,zq2,zq3,i64_w,i32_w];rfl
 refine pure_ (i:=12) (N:=some 16) (v:=?_) (a':=?_) #[zt,zt,zt,zt,zt,zt,zt,zt,zt,zt,zt,zf,zt,zf,zf,zf,zf,zf,zf,zf] rfl rfl (by kernel_rfl) (fun _ _ _ h=>h) (Or.inl ⟨by rfl,?_⟩) ?_ ?_;rotate_left
 ·intro w';go_simp;with_reducible rfl
 rotate_left
 ·simp only [Act.put,zq1,zq2,zq3,i64_w,i32_w];rfl
 refine pure_ (i:=13) (N:=some 17) (v:=?_) (a':=?_) #[zt,zt,zt,zt,zt,zt,zt,zt,zt,zt,zt,zf,zt,zt,zf,zf,zf,zf,zf,zf] rfl rfl (by kernel_rfl) (fun _ _ _ h=>h) (Or.inl ⟨by rfl,?_⟩) ?_ ?_;rotate_left
 ·intro w';go_simp;with_reducible rfl
 rotate_left
 ·simp only [Act.put,zq1,zq2,zq3,i64_w,i32_w];rfl
 refine pure_ (i:=14) (N:=some 18) (v:=?_) (a':=?_) #[zt,zt,zt,zt,zt,zt,zt,zt,zt,zt,zt,zf,zt,zt,zt,zf,zf,zf,zf,zf] rfl rfl (by kernel_rfl) (fun _ _ _ h=>h) (Or.inl ⟨by rfl,?_⟩) ?_ ?_;rotate_left
 ·intro w';go_simp;with_reducible rfl
 rotate_left
 ·simp only [Act.put,zq1,zq2,zq3,i64_w,i32_w];rfl
 refine pure_ (i:=15) (N:=some 19) (v:=?_) (a':=?_) #[zt,zt,zt,zt,zt,zt,zt,zt,zt,zt,zt,zf,zt,zt,zt,zt,zf,zf,zf,zf] rfl rfl (by kernel_rfl) (fun _ _ _ h=>h) (Or.inl ⟨by rfl,?_⟩) ?_ ?_;rotate_left
 ·intro w';go_simp;with_reducible rfl
 rotate_left
 ·simp only [Act.put,zq1,zq2,zq3,i64_w,i32_w];rfl
 refine take_ (i:=11) (N:=some 15) (v:=?_) (a':=?_) #[zt,zt,zt,zt,zt,zt,zt,zt,zt,zt,zt,zt,zt,zt,zt,zt,zf,zf,zf,zf] rfl rfl (by kernel_rfl) (fun _ _ _ h=>h) (Or.inl ⟨by rfl,?_⟩) hHeld ?_ ?_;rotate_left
 ·rintro w' ⟨s0,s1⟩;go_simp;with_reducible rfl
 rotate_left
 ·simp only [Act.put,zq1,zq2,zq3,i64_w,i32_w];rfl
 refine take_ (i:=16) (N:=some 20) (v:=?_) (a':=?_) #[zt,zt,zt,zt,zt,zt,zt,zt,zt,zt,zt,zt,zt,zt,zt,zt,zt,zf,zf,zf] rfl rfl (by kernel_rfl) (fun _ _ _ h=>h) (Or.inl ⟨by rfl,?_⟩) hHeld ?_ ?_;rotate_left
 ·rintro w' ⟨s0,s1⟩;go_simp;with_reducible rfl
 rotate_left
 ·simp only [Act.put,zq1,zq2,zq3,i64_w,i32_w];rfl
 refine pure_ (i:=17) (N:=some 21) (v:=?_) (a':=?_) #[zt,zt,zt,zt,zt,zt,zt,zt,zt,zt,zt,zt,zt,zt,zt,zt,zt,zt,zf,zf] rfl rfl (by kernel_rfl) (fun _ _ _ h=>h) (Or.inl ⟨by rfl,?_⟩) ?_ ?_;rotate_left
 ·intro w';go_simp;with_reducible rfl
 rotate_left
 ·simp only [Act.put,zq1,zq2,zq3,i64_w,i32_w];rfl
 refine pure_ (i:=18) (N:=some 22) (v:=?_) (a':=?_) #[zt,zt,zt,zt,zt,zt,zt,zt,zt,zt,zt,zt,zt,zt,zt,zt,zt,zt,zt,zf] rfl rfl (by kernel_rfl) (fun _ _ _ h=>h) (Or.inl ⟨by rfl,?_⟩) ?_ ?_;rotate_left
 ·intro w';go_simp;with_reducible rfl
 rotate_left
 ·simp only [Act.put,zq1,zq2,zq3,i64_w,i32_w];rfl
 refine pure_ (i:=19) (N:=some 23) (v:=?_) (a':=?_) #[zt,zt,zt,zt,zt,zt,zt,zt,zt,zt,zt,zt,zt,zt,zt,zt,zt,zt,zt,zt] rfl rfl (by kernel_rfl) (fun _ _ _ h=>h) (Or.inl ⟨by rfl,?_⟩) ?_ ?_;rotate_left
 ·intro w';go_simp;with_reducible rfl
 rotate_left
 ·simp only [Act.put,zq1,zq2,zq3,i64_w,i32_w];rfl
 refine done_ (by kernel_rfl) ?_;have HS2:=Aside0.mk HS.out.drew;have HF2:=Aside0.mk (z2e HF.out);generalize w.drew=w2 at HS2 HF2 ⊢;clear HS HF hHeld;have hd:decide (x ≥ (p.f5.length:Int))=false:=decide_eq_false (by omega);have hx1':¬ x ≥ (p.f5.length:Int):=by omega
 have hx1'':¬ (p.f5.length:Int)≤x:=by omega
 obtain ⟨ad,e5,hq0,hq1,hq2,hq3,hq4⟩:=at_T79 (HCO.out w2 HS2.out.bel) x hx0 hx1;subst e5;rw [HI.out] at hq0 hq1 hq2 hq3 hq4;have hp0:(0≤x)=True:=eq_true hx0;have hp1:(x < (p.f5.length:Int))=True:=eq_true hx1
 go_upto_region 3 with (fail)
 refine z1i (n:=14) (S:=fun w'=>w'.cell? ⟨r,7,none⟩=some (.int .i64 x)∧w'.cell? ⟨r,5,none⟩=some (.slice (some ad) p.f5.length c5)∧w'.cell? (ad.add (x.toNat * 5))=some (.int .i64 i.f0)∧w'.cell? ⟨(ad.add (x.toNat * 5)).block,(ad.add (x.toNat * 5)).off+1,none⟩=some (.int .i64 i.f1)∧w'.cell? ⟨(ad.add (x.toNat * 5)).block,(ad.add (x.toNat * 5)).off+2,none⟩=some (.int .i64 i.f2)∧w'.cell? ⟨(ad.add (x.toNat * 5)).block,(ad.add (x.toNat * 5)).off+3,none⟩=some (.int .i64 i.f3)∧w'.cell? ⟨(ad.add (x.toNat * 5)).block,(ad.add (x.toNat * 5)).off+4,none⟩=some (.int .u64 i.f4)) (ds:=[13]) #[zf,zf,zf,zf,zf,zf,zf,zf,zf,zf,zf,zf,zf,zf] (by kernel_rfl) rfl rfl ⟨(HS2.out.cell 7).trans rfl,(HS2.out.cell 5).trans rfl,hq0,hq1,hq2,hq3,hq4⟩ (fun hHeld=>?_);refine pure_ (i:=0) (N:=some 24) (v:=?_) (a':=?_) #[zt,zf,zf,zf,zf,zf,zf,zf,zf,zf,zf,zf,zf,zf] rfl rfl (by kernel_rfl) (fun _ _ _ h=>h) (Or.inl ⟨by rfl,?_⟩) ?_ ?_;rotate_left
 ·intro w';go_simp;with_reducible rfl
 rotate_left
 ·simp only [Act.put,zq1,zq2,zq3,i64_w,i32_w];rfl
 refine pure_ (i:=1) (N:=some 25) (v:=?_) (a':=?_) #[zt,zt,zf,zf,zf,zf,zf,zf,zf,zf,zf,zf,zf,zf] rfl rfl (by kernel_rfl) (fun _ _ _ h=>h) (Or.inl ⟨by rfl,?_⟩) ?_ ?_;rotate_left
 ·intro w';go_simp;with_reducible rfl
 rotate_left
 ·simp only [Act.put,zq1,zq2,zq3,i64_w,i32_w];rfl
 refine pure_ (i:=2) (N:=some 26) (v:=?_) (a':=?_) #[zt,zt,zt,zf,zf,zf,zf,zf,zf,zf,zf,zf,zf,zf] rfl rfl (by kernel_rfl) (fun _ _ _ h=>h) (Or.inl ⟨by rfl,?_⟩) ?_ ?_;rotate_left
 ·intro w';go_simp;with_reducible rfl
 rotate_left
 ·simp only [Act.put,zq1,zq2,zq3,i64_w,i32_w];rfl
 refine pure_ (i:=3) (N:=some 27) (v:=?_) (a':=?_) #[zt,zt,zt,zt,zf,zf,zf,zf,zf,zf,zf,zf,zf,zf] rfl rfl (by kernel_rfl) (fun _ _ _ h=>h) (Or.inl ⟨by rfl,?_⟩) ?_ ?_;rotate_left
 ·intro w';go_simp;with_reducible rfl
 rotate_left
 ·simp only [Act.put,zq1,zq2,zq3,i64_w,i32_w];rfl
 refine pure_ (i:=5) (N:=some 29) (v:=?_) (a':=?_) #[zt,zt,zt,zt,zf,zt,zf,zf,zf,zf,zf,zf,zf,zf] rfl rfl (by kernel_rfl) (fun _ _ _ h=>h) (Or.inl ⟨by rfl,?_⟩) ?_ ?_;rotate_left
 ·intro w';go_simp;with_reducible rfl
 rotate_left
 ·simp only [Act.put,zq1,zq2,zq3,i64_w,i32_w];rfl
 refine pure_ (i:=6) (N:=some 30) (v:=?_) (a':=?_) #[zt,zt,zt,zt,zf,zt,zt,zf,zf,zf,zf,zf,zf,zf] rfl rfl (by kernel_rfl) (fun _ _ _ h=>h) (Or.inl ⟨by rfl,?_⟩) ?_ ?_;rotate_left
 ·intro w';go_simp;with_reducible rfl
 rotate_left
 ·simp only [Act.put,zq1,zq2,zq3,i64_w,i32_w];rfl
 refine pure_ (i:=7) (N:=some 31) (v:=?_) (a':=?_) #[zt,zt,zt,zt,zf,zt,zt,zt,zf,zf,zf,zf,zf,zf] rfl rfl (by kernel_rfl) (fun _ _ _ h=>h) (Or.inl ⟨by rfl,?_⟩) ?_ ?_;rotate_left
 ·intro w';go_simp;with_reducible rfl
 rotate_left
 ·simp only [Act.put,zq1,zq2,zq3,i64_w,i32_w];rfl
 refine pure_ (i:=8) (N:=some 32) (v:=?_) (a':=?_) #[zt,zt,zt,zt,zf,zt,zt,zt,zt,zf,zf,zf,zf,zf] rfl rfl (by kernel_rfl) (fun _ _ _ h=>h) (Or.inl ⟨by rfl,?_⟩) ?_ ?_;rotate_left
 ·intro w';go_simp;with_reducible rfl
 rotate_left
 ·simp only [Act.put,zq1,zq2,zq3,i64_w,i32_w];rfl
 refine take_ (i:=4) (N:=some 28) (v:=?_) (a':=?_) #[zt,zt,zt,zt,zt,zt,zt,zt,zt,zf,zf,zf,zf,zf] rfl rfl (by kernel_rfl) (fun _ _ _ h=>h) (Or.inl ⟨by rfl,?_⟩) hHeld ?_ ?_;rotate_left
 ·rintro w' ⟨s0,s1,s2,s3,s4,s5,s6⟩;go_simp;with_reducible rfl
 rotate_left
 ·simp only [Act.put,zq1,zq2,zq3,i64_w,i32_w];rfl
 refine take_ (i:=9) (N:=some 33) (v:=?_) (a':=?_) #[zt,zt,zt,zt,zt,zt,zt,zt,zt,zt,zf,zf,zf,zf] rfl rfl (by kernel_rfl) (fun _ _ _ h=>h) (Or.inl ⟨by rfl,?_⟩) hHeld ?_ ?_;rotate_left
 ·rintro w' ⟨s0,s1,s2,s3,s4,s5,s6⟩;go_simp;with_reducible rfl
 rotate_left
 ·simp only [Act.put,zq1,zq2,zq3,i64_w,i32_w];rfl
 refine pure_ (i:=10) (N:=some 34) (v:=?_) (a':=?_) #[zt,zt,zt,zt,zt,zt,zt,zt,zt,zt,zt,zf,zf,zf] rfl rfl (by kernel_rfl) (fun _ _ _ h=>h) (Or.inl ⟨by rfl,?_⟩) ?_ ?_;rotate_left
 ·intro w';go_simp;with_reducible rfl
 rotate_left
 ·simp only [Act.put,zq1,zq2,zq3,i64_w,i32_w];rfl
 refine take_ (i:=11) (N:=some 35) (v:=?_) (a':=?_) #[zt,zt,zt,zt,zt,zt,zt,zt,zt,zt,zt,zt,zf,zf] rfl rfl (by kernel_rfl) (fun _ _ _ h=>h) (Or.inl ⟨by rfl,?_⟩) hHeld ?_ ?_;rotate_left
 ·rintro w' ⟨s0,s1,s2,s3,s4,s5,s6⟩;go_simp;with_reducible rfl
 rotate_left
 ·simp only [Act.put,zq1,zq2,zq3,i64_w,i32_w];rfl
 refine one_ (i:=12) (N:=some 3) #[zt,zt,zt,zt,zt,zt,zt,zt,zt,zt,zt,zt,zt,zf] rfl rfl (by kernel_rfl) (by decide) (fun K hK=>?_);refine z19 (w1:=?_) (v:=?_) (by rfl) rfl ?_ ?_;rotate_left 2
 ·go_simp;constructor
  ·rfl
  ·rfl
 have HS3:=Aside0.mk (HS2.out.drew.alloc (.cells #[.int .i64 0,.int .i64 0,.int .i64 0,.int .i64 0,.int .u64 0] 79));refine hK.out _ _ ⟨(HS3.out.cell 7).trans rfl,(HS3.out.cell 5).trans rfl,cell_al hq0,cell_al hq1,cell_al hq2,cell_al hq3,cell_al hq4⟩ (fun hHeld=>?_);clear hK K;refine norm_ (a':=?_) ?_ ?_;rotate_left
 ·show Act.put _ (some 3) _=_;simp only [Act.put,zq1,zq2,zq3,i64_w,i32_w];rfl
 refine last_ (i:=13) (N:=none) #[zt,zt,zt,zt,zt,zt,zt,zt,zt,zt,zt,zt,zt,zt] rfl rfl (by kernel_rfl) (by decide) (fun K hK=>?_);refine skip_ (w1:=?_) (by rfl) rfl ?_ ?_;rotate_left
 ·go_simp;rfl
 refine hK.out _ _ ?_;clear hK K;refine done_ (by kernel_rfl) ?_;have HS3:=Aside0.mk (HS2.out.alloc (.cells #[.int .i64 i.f0,.int .i64 i.f1,.int .i64 i.f2,.int .i64 i.f3,.int .u64 i.f4] 79)).drew;have HF3:Aside0 (Fr w (w2.alloc (.cells #[.int .i64 i.f0,.int .i64 i.f1,.int .i64 i.f2,.int .i64 i.f3,.int .u64 i.f4] 79)).drew (fun j=>j=r)):=⟨z2e (HF2.out.trans (z1f w2 _ _))⟩;have BI3:=Aside0.mk (z09 (z0z w2 (.cells #[.int .i64 i.f0,.int .i64 i.f1,.int .i64 i.f2,.int .i64 i.f3,.int .u64 i.f4] 79)));generalize (w2.alloc (.cells #[.int .i64 i.f0,.int .i64 i.f1,.int .i64 i.f2,.int .i64 i.f3,.int .u64 i.f4] 79)).drew=w3 at HS3 HF3 BI3 ⊢;generalize w2.heap.size=bi at BI3 ⊢;clear HS2 HF2 hq0 hq1 hq2 hq3 hq4 hHeld hp0 hp1 hd hx1' hx1'';have hr0:(0≤i.f0)=True:=eq_true HIB.out.1;have hr1:(i.f0 < 26)=True:=eq_true (by have:=HIB.out;omega);have hidx:∀ W,(Instr.index 136 (.agg (DC 14)) (.int .i64 i.f0)).run Tryz.prog W=.ok (.func (.func FD) #[] #[]) W:=fun W=>by rw [idx_deed i.f0 HIB.out.1 HIB.out.2,HDC.out];rfl
 go_upto_region 4 with (fail)
 refine z1i (n:=8) (S:=fun w'=>w'.cell? ⟨bi,0,none⟩=some (.int .i64 i.f0)∧w'.cell? ⟨bi,1,none⟩=some (.int .i64 i.f1)∧w'.cell? ⟨bi,2,none⟩=some (.int .i64 i.f2)∧w'.cell? ⟨bi,3,none⟩=some (.int .i64 i.f3)∧w'.cell? ⟨bi,4,none⟩=some (.int .u64 i.f4)) (ds:=[6]) #[zf,zf,zf,zf,zf,zf,zf,zf] (by kernel_rfl) rfl rfl ⟨(z01 BI3.out 0).trans rfl,(z01 BI3.out 1).trans rfl,(z01 BI3.out 2).trans rfl,(z01 BI3.out 3).trans rfl,(z01 BI3.out 4).trans rfl⟩ (fun hHeld=>?_);refine pure_ (i:=1) (N:=some 37) (v:=?_) (a':=?_) #[zf,zt,zf,zf,zf,zf,zf,zf] rfl rfl (by kernel_rfl) (fun _ _ _ h=>h) (Or.inl ⟨by rfl,?_⟩) ?_ ?_;rotate_left
 ·intro w';go_simp;with_reducible rfl
 rotate_left
 ·simp only [Act.put,zq1,zq2,zq3,i64_w,i32_w];rfl
 refine pure_ (i:=4) (N:=some 40) (v:=?_) (a':=?_) #[zf,zt,zf,zf,zt,zf,zf,zf] rfl rfl (by kernel_rfl) (fun _ _ _ h=>h) (Or.inl ⟨by rfl,?_⟩) ?_ ?_;rotate_left
 ·intro w';go_simp;with_reducible rfl
 rotate_left
 ·simp only [Act.put,zq1,zq2,zq3,i64_w,i32_w];rfl
 refine take_ (i:=2) (N:=some 38) (v:=?_) (a':=?_) #[zf,zt,zt,zf,zt,zf,zf,zf] rfl rfl (by kernel_rfl) (fun _ _ _ h=>h) (Or.inl ⟨by rfl,?_⟩) hHeld ?_ ?_;rotate_left
 ·rintro w' ⟨s0,s1,s2,s3,s4⟩;go_simp;with_reducible rfl
 rotate_left
 ·simp only [Act.put,zq1,zq2,zq3,i64_w,i32_w];rfl
 refine take_ (i:=5) (N:=some 41) (v:=?_) (a':=?_) #[zf,zt,zt,zf,zt,zt,zf,zf] rfl rfl (by kernel_rfl) (fun _ _ _ h=>h) (Or.inl ⟨by rfl,?_⟩) hHeld ?_ ?_;rotate_left
 ·rintro w' ⟨s0,s1,s2,s3,s4⟩;go_simp;with_reducible rfl
 rotate_left
 ·simp only [Act.put,zq1,zq2,zq3,i64_w,i32_w];rfl
 refine one_ (i:=0) (N:=some 36) #[zt,zt,zt,zf,zt,zt,zf,zf] rfl rfl (by kernel_rfl) (by decide) (fun K hK=>?_);refine goes_ Tryz.func91 (by kernel_rfl) rfl #[] (by rfl) rfl rfl (by simp only [List.map_toArray,List.map_nil]) ?_;refine (deeds_calls _).mono ?_;rintro e w4 ⟨rfl,hb⟩;refine ⟨_,rfl,?_⟩;have HS4:=Aside0.mk (HS3.out.drew.below hb);have HF4:=Aside0.mk ((z2e HF3.out).trans (fr_of_bel (S:=fun j=>j=r) hb));have BI4:=Aside0.mk (z0t (z09 BI3.out) hb);clear hb;refine hK.out _ _ ⟨(z01 BI4.out 0).trans rfl,(z01 BI4.out 1).trans rfl,(z01 BI4.out 2).trans rfl,(z01 BI4.out 3).trans rfl,(z01 BI4.out 4).trans rfl⟩ (fun hHeld=>?_);clear hK K;refine norm_ (a':=?_) ?_ ?_;rotate_left
 ·show Act.put _ (some 36) _=_;simp only [Act.put,zq1,zq2,zq3,i64_w,i32_w];rfl
 refine take_ (i:=3) (N:=some 39) (v:=?_) (a':=?_) #[zt,zt,zt,zt,zt,zt,zf,zf] rfl rfl (by kernel_rfl) (fun _ _ _ h=>h) (Or.inl ⟨by rfl,?_⟩) hHeld ?_ ?_;rotate_left
 ·rintro w' ⟨s0,s1,s2,s3,s4⟩;go_simp;with_reducible rfl
 rotate_left
 ·simp only [Act.put,zq1,zq2,zq3,i64_w,i32_w];rfl
 refine last_ (i:=6) (N:=some 42) #[zt,zt,zt,zt,zt,zt,zt,zf] rfl rfl (by kernel_rfl) (by decide) (fun K hK=>?_);refine goesC_ (cap:=#[]) HFN.out.1 HFN.out.2.1 HFN.out.2.2 #[.pointer (some ⟨r,0,none⟩),.agg #[.int .i64 i.f0,.int .i64 i.f1,.int .i64 i.f2,.int .i64 i.f3,.int .u64 i.f4]] (by rfl) rfl rfl rfl (by simp only [List.map_toArray,List.map_cons,List.map_nil];rfl) ?_;refine (HD.out _ HS4.out).mono ?_;intro e w5 hp;have HP:=Aside0.mk (hp.from HF4.out);obtain ⟨k5,x5,rg5,ov5,os5,Y5,rfl,hp⟩:=hp;refine ⟨_,rfl,?_⟩;clear hp;refine hK.out _ _ ?_;clear hK K;refine norm_ (a':=?_) ?_ ?_;rotate_left
 ·show Act.put _ (some 42) _=_;simp only [Act.put,zq1,zq2,zq3,i64_w,i32_w];rfl
 refine pure_ (i:=7) (N:=some 2) (v:=?_) (a':=?_) #[zt,zt,zt,zt,zt,zt,zt,zt] rfl rfl (by kernel_rfl) (fun _ _ _ h=>h) (Or.inl ⟨by rfl,?_⟩) ?_ ?_;rotate_left
 ·intro w';go_simp;with_reducible rfl
 rotate_left
 ·simp only [Act.put,zq1,zq2,zq3,i64_w,i32_w];rfl
 refine done_ (by kernel_rfl) ?_;go_wp2;go_ret
 exact HP.out
theorem goes {p:Im} {x:Int} {os:List Int} {k:Int} (h:opA p x=k) (hk:goesB k=true∧k≠22∧k≠23):Nxt p x os (x+1) os:=by
 rw [← h] at hk;exact .inr (.inr (.inr (.inr ⟨hk.1,hk.2.1,hk.2.2,rfl,rfl⟩)))
set_option maxHeartbeats 4000000 in
theorem step_calls {w0 w:World} {r mb m:Nat} {p:Im} {Ai A3 A4 A5:Option Addr} {il ci n3 c3 c4 c5:Nat} {Y:Nat→Prop} {x:Int} {rg:Nat→Int} {ov:Value} {os:List Int} {inp:List Int} (hw:wfP p) (hE:encV p=0)
  (h:MSt w0 w r mb m p (.slice Ai il ci) (.slice A3 n3 c3) (.slice A4 p.f4.length c4) (.slice A5 p.f5.length c5) Y x rg ov os) (hx0:0≤x) (hm:m≤64) (hil:(il:Int) < 18446744073709551616)
  (hin:∀ W,Below w0.heap.size w0 W→(Kd.int .u8).C W Ai il inp) (hfn:∀ W,Below w0.heap.size w0 W→(Kd.int .i64).C W A4 p.f4.length p.f4) (hco:∀ W,Below w0.heap.size w0 W→k79.C W A5 p.f5.length p.f5) :
  Calls Tryz.prog 68 #[.pointer (some ⟨r,0,none⟩)] w (z1m w0 w r mb m p (.slice Ai il ci) (.slice A3 n3 c3) (.slice A4 p.f4.length c4) (.slice A5 p.f5.length c5) Y x os):=by
 by_cases hx1:x < (p.f5.length:Int)
 rotate_left
 ·exact one_out h hx0 (by omega)
 obtain ⟨hs,hp,_⟩:=z2p.1 hE;have hk:=ins_ok (hp _ (rdI_mem hx0 hx1));have hrt:=encV_rt hw hE;have hx2:x < 256:=by have:=hs.2.2.2.2.2.2.2.2;omega
 have hst : p.f1 ≤ 16:=hs.2.1.2; have hj:=hrt.jmp x hx0 hx1; have hop0 : opA p x = (z0a p.f5 x).f0:=rfl; have him : immA p x = (z0a p.f5 x).f4:=rfl; have key : ∀ {FD : Nat} {fn : Func}, Tryz.prog.funcs[FD]? = some fn → (fn.name == "runtime.NumGoroutine") = false → fn.body.isSome = true → (DC 14)[(z0a p.f5 x).f0.toNat]? = some (.func (.func FD) #[] #[]) →
   (∀ W,MSt w0 W r mb m p (.slice Ai il ci) (.slice A3 n3 c3) (.slice A4 p.f4.length c4) (.slice A5 p.f5.length c5) Y x rg ov os→Calls Tryz.prog FD #[.pointer (some ⟨r,0,none⟩),.agg #[.int .i64 (z0a p.f5 x).f0,.int .i64 (z0a p.f5 x).f1,.int .i64 (z0a p.f5 x).f2,.int .i64 (z0a p.f5 x).f3,.int .u64 (z0a p.f5 x).f4]] W (z1m w0 W r mb m p (.slice Ai il ci) (.slice A3 n3 c3) (.slice A4 p.f4.length c4) (.slice A5 p.f5.length c5) Y x os))→_ :=
  fun {FD} {fn} h1 h2 h3 h4 h5=>one_in h hx0 hx1 hx2 rfl hco (z0a p.f5 x) rfl (FD:=FD) (fn:=fn) h1 h2 h3 h4 hk.op0 hk.op1 h5
 have hcase:opA p x=0∨opA p x=1∨opA p x=2∨opA p x=3∨opA p x=4∨opA p x=5∨opA p x=6∨opA p x=7∨opA p x=8∨opA p x=9∨opA p x=10∨opA p x=11∨opA p x=12∨opA p x=13∨opA p x=14∨opA p x=15∨opA p x=16∨opA p x=17∨opA p x=18∨opA p x=19∨opA p x=20∨opA p x=21∨opA p x=22∨opA p x=23∨opA p x=24∨opA p x=25:=by have:=hk.op0;have:=hk.op1;omega
 rcases hcase with hop|hop|hop|hop|hop|hop|hop|hop|hop|hop|hop|hop|hop|hop|hop|hop|hop|hop|hop|hop|hop|hop|hop|hop|hop|hop
 ·exact key Tryz.func116 rfl rfl (by rw [← hop0,hop];rfl) fun W hW=>deed_halt hW hx0 hx2 _ 
 ·exact key Tryz.func117 rfl rfl (by rw [← hop0,hop];rfl) fun W hW=>deed_set hW hx0 hx2 _ hk.a0 hk.a1 (goes hop (by decide))
 ·exact key Tryz.func118 rfl rfl (by rw [← hop0,hop];rfl) fun W hW=>deed_move hW hx0 hx2 _ hk.a0 hk.a1 hk.b0 hk.b1 (goes hop (by decide))
 ·exact key Tryz.func128 rfl rfl (by rw [← hop0,hop];rfl) fun W hW=>z23 hW hx0 hx2 _ hk.a0 hk.a1 hk.b0 hk.b1 hk.c0 (hk.c7 (by omega) (by omega)) (by omega) (by omega) (goes hop (by decide))
 ·exact key Tryz.func128 rfl rfl (by rw [← hop0,hop];rfl) fun W hW=>z23 hW hx0 hx2 _ hk.a0 hk.a1 hk.b0 hk.b1 hk.c0 (hk.c7 (by omega) (by omega)) (by omega) (by omega) (goes hop (by decide))
 ·exact key Tryz.func128 rfl rfl (by rw [← hop0,hop];rfl) fun W hW=>z23 hW hx0 hx2 _ hk.a0 hk.a1 hk.b0 hk.b1 hk.c0 (hk.c7 (by omega) (by omega)) (by omega) (by omega) (goes hop (by decide))
 ·exact key Tryz.func128 rfl rfl (by rw [← hop0,hop];rfl) fun W hW=>z23 hW hx0 hx2 _ hk.a0 hk.a1 hk.b0 hk.b1 hk.c0 (hk.c7 (by omega) (by omega)) (by omega) (by omega) (goes hop (by decide))
 ·exact key Tryz.func128 rfl rfl (by rw [← hop0,hop];rfl) fun W hW=>z23 hW hx0 hx2 _ hk.a0 hk.a1 hk.b0 hk.b1 hk.c0 (hk.c7 (by omega) (by omega)) (by omega) (by omega) (goes hop (by decide))
 ·exact key Tryz.func128 rfl rfl (by rw [← hop0,hop];rfl) fun W hW=>z23 hW hx0 hx2 _ hk.a0 hk.a1 hk.b0 hk.b1 hk.c0 (hk.c7 (by omega) (by omega)) (by omega) (by omega) (goes hop (by decide))
 ·exact key Tryz.func128 rfl rfl (by rw [← hop0,hop];rfl) fun W hW=>z23 hW hx0 hx2 _ hk.a0 hk.a1 hk.b0 hk.b1 hk.c0 (hk.c7 (by omega) (by omega)) (by omega) (by omega) (goes hop (by decide))
 ·exact key Tryz.func128 rfl rfl (by rw [← hop0,hop];rfl) fun W hW=>z23 hW hx0 hx2 _ hk.a0 hk.a1 hk.b0 hk.b1 hk.c0 (hk.c7 (by omega) (by omega)) (by omega) (by omega) (goes hop (by decide))
 ·exact key Tryz.func128 rfl rfl (by rw [← hop0,hop];rfl) fun W hW=>z23 hW hx0 hx2 _ hk.a0 hk.a1 hk.b0 hk.b1 hk.c0 (hk.c7 (by omega) (by omega)) (by omega) (by omega) (goes hop (by decide))
 ·exact key Tryz.func128 rfl rfl (by rw [← hop0,hop];rfl) fun W hW=>z23 hW hx0 hx2 _ hk.a0 hk.a1 hk.b0 hk.b1 hk.c0 (hk.c7 (by omega) (by omega)) (by omega) (by omega) (goes hop (by decide))
 ·exact key Tryz.func128 rfl rfl (by rw [← hop0,hop];rfl) fun W hW=>z23 hW hx0 hx2 _ hk.a0 hk.a1 hk.b0 hk.b1 hk.c0 (hk.c7 (by omega) (by omega)) (by omega) (by omega) (goes hop (by decide))
 ·exact key Tryz.func128 rfl rfl (by rw [← hop0,hop];rfl) fun W hW=>z23 hW hx0 hx2 _ hk.a0 hk.a1 hk.b0 hk.b1 hk.c0 (hk.c7 (by omega) (by omega)) (by omega) (by omega) (goes hop (by decide))
 ·exact key Tryz.func128 rfl rfl (by rw [← hop0,hop];rfl) fun W hW=>z23 hW hx0 hx2 _ hk.a0 hk.a1 hk.b0 hk.b1 hk.c0 (hk.c7 (by omega) (by omega)) (by omega) (by omega) (goes hop (by decide))
 ·exact key Tryz.func128 rfl rfl (by rw [← hop0,hop];rfl) fun W hW=>z23 hW hx0 hx2 _ hk.a0 hk.a1 hk.b0 hk.b1 hk.c0 (hk.c7 (by omega) (by omega)) (by omega) (by omega) (goes hop (by decide))
 ·exact key Tryz.func119 rfl rfl (by rw [← hop0,hop];rfl) fun W hW=>deed_load hW hx0 hx2 _ hk.a0 hk.a1 hk.b0 hk.b1 hk.c0 hk.c1 hm (goes hop (by decide))
 ·exact key Tryz.func120 rfl rfl (by rw [← hop0,hop];rfl) fun W hW=>deed_save hW hx0 hx2 _ hk.a0 hk.a1 hk.b0 hk.b1 hk.c0 hk.c1 hm (goes hop (by decide))
 ·exact key Tryz.func121 rfl rfl (by rw [← hop0,hop];rfl) fun W hW=>deed_take hW hx0 hx2 _ hk.a0 hk.a1 hk.b0 hk.b1 (goes hop (by decide)) hil hin
 ·exact key Tryz.func122 rfl rfl (by rw [← hop0,hop];rfl) fun W hW=>deed_length hW hx0 hx2 _ hk.a0 hk.a1 (goes hop (by decide))
 ·exact key Tryz.func123 rfl rfl (by rw [← hop0,hop];rfl) fun W hW=>deed_jump hW hx0 hx2 _ (hj (.inl hop)).1 (by have:=(hj (.inl hop)).2;omega) (.inl ⟨hop,rfl,rfl⟩)
 ·exact key Tryz.func124 rfl rfl (by rw [← hop0,hop];rfl) fun W hW=>deed_branch hW hx0 hx2 _ hk.a0 hk.a1 (hj (.inr hop)).1 (by have:=(hj (.inr hop)).2;omega) (.inr (.inl ⟨hop,.inl rfl,rfl⟩)) (.inr (.inl ⟨hop,.inr rfl,rfl⟩))
 ·exact key Tryz.func125 rfl rfl (by rw [← hop0,hop];rfl) fun W hW=>deed_call hW hx0 hx2 _ rfl (hrt.cal x hx0 hx1 hop).1 (hrt.cal x hx0 hx1 hop).2 hop hst hfn
 ·exact key Tryz.func126 rfl rfl (by rw [← hop0,hop];rfl) fun W hW=>deed_back hW hx0 hx2 _ hop
 ·exact key Tryz.func127 rfl rfl (by rw [← hop0,hop];rfl) fun W hW=>deed_fail hW hx0 hx2 _ 
theorem splice_bytes (f3:List Int) (m:Nat) (h:f3.length≤m):splice (List.replicate m (Value.int .u8 0)) 0 (f3.map (Value.int .u8))=(f3 ++ List.replicate (m - f3.length) 0).map (Value.int .u8):=by
 unfold splice;simp
theorem made_replicate (v:Value) (m:Nat):(madeCells #[v] m)=(List.replicate m v).toArray:=by
 unfold madeCells;simp
 apply Array.ext
 ·simp
 ·intro i h1 h2;simp [Nat.mod_one]
theorem copy_src {w w2:World} {A:Option Addr} {l:List Int} {cs:List Value} (h:(Kd.int .u8).C w A l.length l) (hb:Below w.heap.size w w2) (hc:l.map (Value.int .u8)=cs) (hpos:0 < cs.length):∃ ad,A=some ad∧∀ j v,cs[j]?=some v→w2.cell? (ad.add j)=some v:=by
 subst hc;have hpos:0 < l.length:=by simpa using hpos
 have h2:=Kd.C_below h hb;obtain ⟨ad,rfl,_⟩:=Kd.at_int h2 0 (Int.le_refl _) (by omega);refine ⟨ad,rfl,fun j v hv=>?_⟩;rw [List.getElem?_map] at hv;obtain ⟨z,hz,rfl⟩:=Option.map_eq_some_iff.1 hv;obtain ⟨hj,rfl⟩:=List.getElem?_eq_some_iff.1 hz;obtain ⟨ad',e,hcell⟩:=Kd.at_int h2 (j:Int) (by omega) (by omega);cases e;rw [Int.toNat_natCast] at hcell;rw [hcell]
 congr 2
 unfold rd;rw [Int.toNat_natCast,List.getD_eq_getElem?_getD,List.getElem?_eq_getElem hj];rfl
set_option maxHeartbeats 4000000 in
theorem start_calls {w:World} {p:Im} {A3 A4 A5:Option Addr} {c3 c4 c5:Nat} (h0:0≤p.f0) (h1:p.f0≤64) (h3:(p.f3.length:Int)≤p.f0) (hr3:(Kd.int .u8).C w A3 p.f3.length p.f3) :
  Calls Tryz.prog 67 #[.agg #[.int .i64 p.f0,.int .i64 p.f1,.int .i64 p.f2,.slice A3 p.f3.length c3,.slice A4 p.f4.length c4,.slice A5 p.f5.length c5]] w fun e w' =>
   ∃ mb,e=.returned (.agg #[.int .i64 0,.int .u64 0,.int .u64 0,.int .u64 0,.int .u64 0,.int .u64 0,.int .u64 0,.int .u64 0,.int .u64 0,.slice (some ⟨mb,0,none⟩) p.f0.toNat p.f0.toNat,.slice none 0 0]) ∧
    w.heap.size≤mb∧(∃ ms:List Int,ms.length=p.f0.toNat∧w'.heap[mb]?=some (.cells (ms.map (Value.int .u8)).toArray 5 (0,0)))∧Below w.heap.size w w':=by
 obtain ⟨i0,hi,hz0,hz1,hz2⟩:=info_parts infoC_byte;obtain ⟨m,hm⟩:∃ m:Nat,p.f0=(m:Int):=⟨p.f0.toNat,by omega⟩;have HR3:=Aside0.mk hr3;have hmt:p.f0.toNat=m:=by omega
 have hmin:min (m:Int) 64=(m:Int):=by omega
 have hmax:max 0 (m:Int)=(m:Int):=by omega
 have HM:Aside0 (m≤64∧p.f3.length≤m):=⟨by omega⟩;rw [hmt];clear hr3 h0 h1 h3 hmt
 go_enter Tryz.func67,Tryz.ntmps67
 go_upto_region 1 with (fail)
 have HB:=Aside0.mk (z04 (z04 (Below.refl w.heap.size w) (.cells #[.int .i64 (m:Int),.int .i64 p.f1,.int .i64 p.f2,.slice A3 p.f3.length c3,.slice A4 p.f4.length c4,.slice A5 p.f5.length c5] 26)) (.cells #[.int .i64 0,.int .u64 0,.int .u64 0,.int .u64 0,.int .u64 0,.int .u64 0,.int .u64 0,.int .u64 0,.int .u64 0,.slice none 0 0,.slice none 0 0] 107));have B0:=Aside0.mk (z06 (z0z w (.cells #[.int .i64 (m:Int),.int .i64 p.f1,.int .i64 p.f2,.slice A3 p.f3.length c3,.slice A4 p.f4.length c4,.slice A5 p.f5.length c5] 26)) (.cells #[.int .i64 0,.int .u64 0,.int .u64 0,.int .u64 0,.int .u64 0,.int .u64 0,.int .u64 0,.int .u64 0,.int .u64 0,.slice none 0 0,.slice none 0 0] 107));have B1:=Aside0.mk (z0z (w.alloc (.cells #[.int .i64 (m:Int),.int .i64 p.f1,.int .i64 p.f2,.slice A3 p.f3.length c3,.slice A4 p.f4.length c4,.slice A5 p.f5.length c5] 26)) (.cells #[.int .i64 0,.int .u64 0,.int .u64 0,.int .u64 0,.int .u64 0,.int .u64 0,.int .u64 0,.int .u64 0,.int .u64 0,.slice none 0 0,.slice none 0 0] 107));have e1:(w.alloc (.cells #[.int .i64 (m:Int),.int .i64 p.f1,.int .i64 p.f2,.slice A3 p.f3.length c3,.slice A4 p.f4.length c4,.slice A5 p.f5.length c5] 26)).heap.size=w.heap.size+1:=by show (w.heap.push _).size=_;simp
 rw [e1] at B1;clear e1;generalize (w.alloc (.cells #[.int .i64 (m:Int),.int .i64 p.f1,.int .i64 p.f2,.slice A3 p.f3.length c3,.slice A4 p.f4.length c4,.slice A5 p.f5.length c5] 26)).alloc (.cells #[.int .i64 0,.int .u64 0,.int .u64 0,.int .u64 0,.int .u64 0,.int .u64 0,.int .u64 0,.int .u64 0,.int .u64 0,.slice none 0 0,.slice none 0 0] 107)=w1 at HB B0 B1 ⊢;have c0:w1.cell? ⟨w.heap.size,0,none⟩=some (.int .i64 (m:Int)):=(z01 B0.out 0).trans rfl;have MB:=Aside0.mk (z0z w1 (.cells (madeCells #[Value.int .u8 0] m) 5));have B0':=Aside0.mk (z06 B0.out (.cells (madeCells #[Value.int .u8 0] m) 5));have B1':=Aside0.mk (z06 B1.out (.cells (madeCells #[Value.int .u8 0] m) 5));have HB':=Aside0.mk (z04 HB.out (.cells (madeCells #[Value.int .u8 0] m) 5))
 go_upto_region 2 with (at_make;refine wpList_make_row _ rfl (.tmp 7) (.tmp 7) 22 rfl 5 i0 (.int .u8 0) Tryz.underlying22 hi hz0 hz1 rfl .i64 .i64 m rfl rfl (by rw [hz2];have:=HM.out;omega) (by have:=HM.out;omega) ?_)
 generalize hw2:w1.alloc (.cells (madeCells #[Value.int .u8 0] m) 5)=w2 at MB B0' B1' HB' ⊢;clear hw2 c0;have c3':w2.cell? ⟨w.heap.size,3,none⟩=some (.slice A3 p.f3.length c3):=(z01 B0'.out 3).trans rfl;obtain ⟨mb,hmb⟩:∃ mb,w1.heap.size=mb:=⟨_,rfl⟩;have HMB:Aside0 (w.heap.size+1 < mb):=⟨by rw [← hmb];exact z0v B1.out⟩;rw [hmb] at MB;simp only [hmb];clear hmb;obtain ⟨cs,hcs⟩:∃ cs,p.f3.map (Value.int .u8)=cs:=⟨_,rfl⟩;have HCS:=Aside0.mk hcs;clear hcs
 iterate 7 (go_step;go_simp)
 refine wpList_copy_splice rfl (.tmp 9) (.tmp 11) 22 22 rfl 5 Tryz.underlying22 (by rw [hi];simp [hz1]) (some ⟨mb,0,none⟩) A3 m m p.f3.length c3 rfl rfl mb 0 (List.replicate m (Value.int .u8 0)) 5 (MB.out.trans (by rw [made_replicate])) cs (by rw [← HCS.out,List.length_map];show _=min _ _;have:=HM.out;omega) (fun hpos=>⟨rfl,copy_src HR3.out HB'.out HCS.out hpos⟩) (by rw [← HCS.out];simp;have:=HM.out;omega) (fun v hv=>by rw [← HCS.out] at hv;obtain ⟨z,_,rfl⟩:=List.mem_map.1 hv;rfl) (mb) w2 (Below.refl _ _) (Nat.le_refl _) ?_;intro w3 HG3 hB3;have B1:=Aside0.mk ((hB3.block (w.heap.size+1) HMB.out).trans B1'.out);have HB3:Aside0 (Below w.heap.size w w3):=⟨HB'.out.trans ⟨hB3.os,hB3.tape,hB3.output,hB3.size,fun k hk=>hB3.block k (by have:=HMB.out;omega)⟩⟩;rw [← HCS.out,splice_bytes _ _ HM.out.2] at HG3;clear hB3
 go_wp2_with (refine wpList_store_row rfl 107 (.tmp 2) (.tmp 14) rfl (w.heap.size+1) #[.int .i64 0,.int .u64 0,.int .u64 0,.int .u64 0,.int .u64 0,.int .u64 0,.int .u64 0,.int .u64 0,.int .u64 0,.slice (some ⟨mb,0,none⟩) m m,.slice none 0 0] rfl rfl 107 _ B1.out (by kernel_rfl) rfl (by simp [Value.oneCell']) ?_)

 refine bodyPost_ret (results_cell_row rfl _ _ (w.heap.size+1) 107 #[.int .i64 0,.int .u64 0,.int .u64 0,.int .u64 0,.int .u64 0,.int .u64 0,.int .u64 0,.int .u64 0,.int .u64 0,.slice (some ⟨mb,0,none⟩) m m,.slice none 0 0] _ _ rfl (setRow_heap _ _ _ _ _ _ B1.out) rfl rfl (by kernel_rfl)) rfl ?_;refine ⟨mb,rfl,by have:=HMB.out;omega,⟨p.f3 ++ List.replicate (m - p.f3.length) 0,by simp;have:=HM.out;omega,(setRow_other _ _ _ _ (by have:=HMB.out;omega)).trans HG3.out⟩,below_setRow HB3.out (Nat.le_succ _) _⟩
end Go.Proofs.YtcbnhfnnjkkceaaGreat.X
end
section
namespace Go.Proofs.YtcbnhfnnjkkceaaGreat.X
open Go.RowKit Go.Proofs.YtcbnhfnnjkkceaaGreatW.PrintWords Go.Proofs.YtcbnhfnnjkkceaaGreat.Gr
theorem rdI_out {l:List In} {x:Int} (h0:0≤x) (h1:(l.length:Int)≤x):(z0a l x).f0=0:=by
 unfold z0a;rw [List.getD_eq_getElem?_getD,List.getElem?_eq_none (by omega)];rfl
theorem nxt_in {p:Im} {x x':Int} {os os':List Int} (h0:0≤x) (h:Nxt p x os x' os'):x < p.f5.length:=by
 refine Classical.byContradiction fun hn=>?_
 have e:opA p x=0:=rdI_out h0 (by omega)
 rcases h with ⟨ho,_⟩|⟨ho,_⟩|⟨ho,_⟩|⟨ho,_⟩|⟨hg,_⟩
 ·rw [e] at ho;exact absurd ho (by decide)
 ·rw [e] at ho;exact absurd ho (by decide)
 ·rw [e] at ho;exact absurd ho (by decide)
 ·rw [e] at ho;exact absurd ho (by decide)
 ·rw [e] at hg;exact absurd hg (by decide)
theorem nxt_pos {p:Im} (hw:wfP p) (hE:encV p=0) {x x':Int} {os os':List Int} (h0:0≤x) (hC:Chn p (funP p.f4 p.f5.length x) os) (h:Nxt p x os x' os'):0≤x':=by
 have h1:=nxt_in h0 h;have hrt:=encV_rt hw hE
 rcases h with ⟨ho,hx,_⟩|⟨ho,hx,_⟩|⟨ho,hx,_⟩|⟨ho,rfl⟩|⟨_,_,_,hx,_⟩
 ·rw [hx];exact (hrt.jmp x h0 h1 (.inl ho)).1
 ·rcases hx with hx|hx
  ·rw [hx];exact (hrt.jmp x h0 h1 (.inr ho)).1
  ·omega
 ·have hc:=hrt.cal x h0 h1 ho;rw [hx];exact (z34 hrt.fits hc.1 hc.2).1
 ·obtain ⟨z,hz,hzs,_⟩:=hC;have:=(z39.1 hzs).1;omega
 ·omega
structure Tr (p:Im) (tr:List (Int × List Int)):Prop where
 hd:tr.head?=some (0,[])
 step:∀ (i:Nat) a b,tr[i]?=some a→tr[i+1]?=some b→Nxt p a.1 a.2 b.1 b.2
 stk:∀ s ∈ tr,(s.2.length:Int)≤p.f1
section
variable {p:Im} {tr:List (Int × List Int)}
theorem Tr.start (h:0≤p.f1):Tr p [(0,[])] :=
 ⟨rfl,fun i a b _ h2=>by simp at h2,fun s hs=>by simp at hs;subst hs;simpa using h⟩
theorem Tr.push (h:Tr p tr) {x x':Int} {os os':List Int} (hl:tr.getLast?=some (x,os)) (hN:Nxt p x os x' os') (hs:(os'.length:Int)≤p.f1∨os'.length≤os.length):Tr p (tr ++ [(x',os')]):=by
 have hmem:(x,os) ∈ tr:=List.mem_of_getLast? hl;refine ⟨?_,fun i a b h1 h2=>?_,fun s hs'=>?_⟩
 ·rw [List.head?_append,h.hd];rfl
 ·by_cases e:i+1 < tr.length
  ·rw [List.getElem?_append_left (by omega)] at h1;rw [List.getElem?_append_left e] at h2;exact h.step i a b h1 h2
  ·have e2:i+1=tr.length:=by
    have:=(List.getElem?_eq_some_iff.1 h2).1;simp at this;omega
   rw [List.getElem?_append_left (by omega)] at h1;rw [e2,List.getElem?_concat_length] at h2;have e3:tr[i]?=some (x,os):=by
    rw [List.getLast?_eq_getElem?] at hl;rw [← hl]
    congr 1
    omega
   rw [e3] at h1;cases h1;cases h2;exact hN
 ·rcases List.mem_append.1 hs' with h1|h1
  ·exact h.stk s h1
  ·simp at h1;subst h1
   rcases hs with hs|hs
   ·exact hs
   ·have:=h.stk _ hmem;simp at this ⊢;omega
theorem Tr.ok (hw:wfP p) (hE:encV p=0) (h:Tr p tr):∀ (i:Nat) s,tr[i]?=some s→0≤s.1∧(s.1 < p.f5.length→Chn p (funP p.f4 p.f5.length s.1) s.2):=by
 intro i
 induction i with
 | zero =>
  intro s hs;have hd:=h.hd;rw [List.head?_eq_getElem?,hs] at hd;cases hd;exact ⟨Int.le_refl _,fun _=>trivial⟩
 | succ i ih =>
  intro s hs;obtain ⟨a,ha⟩:∃ a,tr[i]?=some a:=⟨_,List.getElem?_eq_getElem (by have:=(List.getElem?_eq_some_iff.1 hs).1;omega)⟩;obtain ⟨h0,hC⟩:=ih a ha;have hN:=h.step i a s ha hs;have h1:=nxt_in h0 hN;have hx:=nxt_pos hw hE h0 (hC h1) hN;exact ⟨hx,fun h2=>(nxt_next hw hE h0 h1 (hC h1) hN).2 hx h2⟩
theorem Tr.next (hw:wfP p) (hE:encV p=0) (h:Tr p tr) (i:Nat) (a b:Int × List Int) (ha:tr[i]?=some a) (hb:tr[i+1]?=some b):0≤a.1∧a.1 < p.f5.length∧b.1 ∈ nextL p a.1:=by
 obtain ⟨h0,hC⟩:=h.ok hw hE i a ha;have hN:=h.step i a b ha hb;have h1:=nxt_in h0 hN;exact ⟨h0,h1,(nxt_next hw hE h0 h1 (hC h1) hN).1⟩
end
end Go.Proofs.YtcbnhfnnjkkceaaGreat.X
end
section
namespace Go.Proofs.YtcbnhfnnjkkceaaGreat.X
open Go.RowKit Go.Proofs.YtcbnhfnnjkkceaaGreatW.PrintWords Go.Proofs.YtcbnhfnnjkkceaaGreatW.PrintLast Go.Proofs.YtcbnhfnnjkkceaaGreatW.PrintMore Go.Proofs.YtcbnhfnnjkkceaaGreat.Gr
def TrC (pv:Value) (en:Int) (rg:Nat→Int) (mv:Value):Array Value:=#[pv,.int .i64 en,.int .u64 (rg 0),.int .u64 (rg 1),.int .u64 (rg 2),.int .u64 (rg 3),.int .u64 (rg 4),.int .u64 (rg 5),.int .u64 (rg 6),.int .u64 (rg 7),mv]
def RunPost (w0:World) (p:Im) (il:Nat) (steps:Int) (e:Ending) (w':World):Prop :=
 ∃ (pv mv:Value) (en err:Int) (rg:Nat→Int) (l:List Int),e=.returned (.tuple #[.agg (TrC pv en rg mv),.int .i64 err])∧(∃ A n c,mv=.slice A n c)∧Que w' (fun i=>w0.heap.size≤i) pv l∧Below w0.heap.size w0 w' ∧
  ((encV p≠0∧err=encV p∧l=[])∨(encV p=0∧p.f2 < (il:Int)∧err=16∧l=[]) ∨
   (encV p=0∧(il:Int)≤p.f2∧err=0∧l.length≤4097∧(l.length:Int)≤max 0 steps+1∧∃ tr,Tr p tr∧l=tr.map (·.1)))
section
variable {w0 w w':World} {r mb m:Nat} {p:Im} {iv v3 v4 v5:Value} {Y:Nat→Prop} {x:Int} {rg:Nat→Int} {ov:Value} {os:List Int}
theorem MSt.setT (h:MSt w0 w r mb m p iv v3 v4 v5 Y x rg ov os) {bt:Nat} (hb:w0.heap.size≤bt∧bt≠r∧bt≠mb∧¬ Y bt) (k:Nat) (v:Value):MSt w0 (w.setCell ⟨bt,k,none⟩ v) r mb m p iv v3 v4 v5 Y x rg ov os :=
 h.keep (z1k w ⟨bt,k,none⟩ v) fun i (hi:i=bt)=>by rw [hi];exact hb
end
structure RB (w0 W:World) (r mb m:Nat) (p:Im) (iv v3 v4 v5:Value) (bt b6:Nat) (Y X:Nat→Prop) (x:Int) (rg:Nat→Int) (ov:Value) (os:List Int) (pv:Value) (l:List Int) (en:Int):Prop where
 st:MSt w0 W r mb m p iv v3 v4 v5 Y x rg ov os
 que:Que W X pv l
 tr:W.heap[bt]?=some (.cells (TrC pv en (fun _=>0) (.slice none 0 0)) 46 (0,0))
 tz:W.heap[b6]?=some (.cells (TrC (.slice none 0 0) 0 (fun _=>0) (.slice none 0 0)) 46 (0,0))
 xs:∀ i,X i→w0.heap.size≤i∧i < W.heap.size∧i≠r∧i≠mb∧¬ Y i∧i≠bt∧i≠b6
 tb:w0.heap.size≤bt∧bt≠r∧bt≠mb∧¬ Y bt
 zb:w0.heap.size≤b6∧b6≠r∧b6≠mb∧¬ Y b6
 ne:bt≠b6
section
variable {w0 w W W':World} {r mb m bt b6:Nat} {p:Im} {iv v3 v4 v5:Value} {Y X:Nat→Prop} {x:Int} {rg:Nat→Int} {ov:Value} {os:List Int} {pv:Value} {l:List Int} {en:Int}
theorem RB.step (h:RB w0 W r mb m p iv v3 v4 v5 bt b6 Y X x rg ov os pv l en) {Y':Nat→Prop} {x':Int} {rg':Nat→Int} {ov':Value} {os':List Int} (hs:MSt w0 W' r mb m p iv v3 v4 v5 Y' x' rg' ov' os') (hY:∀ i,Y' i→Y i∨W.heap.size≤i) (hf:Fr W W' (fun i=>i=r∨i=mb∨Y i)) :
  RB w0 W' r mb m p iv v3 v4 v5 bt b6 Y' X x' rg' ov' os' pv l en:=by
 have hbt:=z0v h.tr;have hb6:=z0v h.tz;have key:∀ b,b < W.heap.size→(b≠r∧b≠mb∧¬ Y b)→W'.heap[b]?=W.heap[b]?∧¬ Y' b:=fun b hb hn =>
  ⟨hf.block b hb fun hh=>hh.elim hn.1 fun hh=>hh.elim hn.2.1 hn.2.2,fun hy=>(hY b hy).elim hn.2.2 (by omega)⟩
 refine ⟨hs,h.que.fr hf fun i hi hh=>?_,(key bt hbt h.tb.2).1.trans h.tr,(key b6 hb6 h.zb.2).1.trans h.tz,fun i hi=>?_,⟨h.tb.1,h.tb.2.1,h.tb.2.2.1,(key bt hbt h.tb.2).2⟩,⟨h.zb.1,h.zb.2.1,h.zb.2.2.1,(key b6 hb6 h.zb.2).2⟩,h.ne⟩
 ·obtain ⟨_,_,h1,h2,h3,_⟩:=h.xs i hi;exact hh.elim h1 fun hh=>hh.elim h2 h3
 ·obtain ⟨a0,a1,h1,h2,h3,h4,h5⟩:=h.xs i hi;exact ⟨a0,Nat.lt_of_lt_of_le a1 hf.size,h1,h2,(key i a1 ⟨h1,h2,h3⟩).2,h4,h5⟩
theorem RB.setEnd (h:RB w0 W r mb m p iv v3 v4 v5 bt b6 Y X x rg ov os pv l en) (k:Int):RB w0 (W.setCell ⟨bt,1,none⟩ (.int .i64 k)) r mb m p iv v3 v4 v5 bt b6 Y X x rg ov os pv l k:=by
 have hf:=z1k W ⟨bt,1,none⟩ (.int .i64 k);exact ⟨h.st.setT h.tb 1 _,h.que.fr hf fun i hi (hh:i=bt)=>(h.xs i hi).2.2.2.2.2.1 hh,z1v h.tr 1 _,(hf.block b6 (z0v h.tz) fun (hh:b6=bt)=>h.ne hh.symm).trans h.tz,fun i hi=>by obtain ⟨a0,a1,a2⟩:=h.xs i hi;exact ⟨a0,Nat.lt_of_lt_of_le a1 hf.size,a2⟩,h.tb,h.zb,h.ne⟩
theorem RB.below (h:RB w0 W r mb m p iv v3 v4 v5 bt b6 Y X x rg ov os pv l en) (hb:Below W.heap.size W W'):RB w0 W' r mb m p iv v3 v4 v5 bt b6 Y X x rg ov os pv l en :=
 ⟨h.st.below hb,h.que.below hb,z0t h.tr hb,z0t h.tz hb,fun i hi=>by obtain ⟨a0,a1,a2⟩:=h.xs i hi;exact ⟨a0,Nat.lt_of_lt_of_le a1 hb.size,a2⟩,h.tb,h.zb,h.ne⟩
theorem RB.push (h:RB w0 W r mb m p iv v3 v4 v5 bt b6 Y X x rg ov os pv l en) {pv':Value} {l':List Int} (hq:Que W' (fun i=>X i∨W.heap.size≤i) pv' l') (hf:Fr W W' (fun i=>X i∨W.heap.size≤i)) :
  RB w0 (W'.setCell ⟨bt,0,none⟩ pv') r mb m p iv v3 v4 v5 bt b6 Y (fun i=>(X i∨W.heap.size≤i)∧i < W'.heap.size) x rg ov os pv' l' en:=by
 have hbt:=z0v h.tr;have hb6:=z0v h.tz;have hlo:=h.st.bel.size;have nbt:¬ (X bt∨W.heap.size≤bt):=fun hh=>hh.elim (fun h1=>(h.xs bt h1).2.2.2.2.2.1 rfl) (by omega)
 have nb6:¬ (X b6∨W.heap.size≤b6):=fun hh=>hh.elim (fun h1=>(h.xs b6 h1).2.2.2.2.2.2 rfl) (by omega)
 have hs:=z1k W' ⟨bt,0,none⟩ pv';have hm:MSt w0 W' r mb m p iv v3 v4 v5 Y x rg ov os:=h.st.keep hf fun i hi=>hi.elim (fun h1=>by obtain ⟨a0,_,a2,a3,a4,_⟩:=h.xs i h1;exact ⟨a0,a2,a3,a4⟩) fun h1=>⟨by omega,by have:=h.st.rlt;omega,by have:=h.st.mlt;omega,fun hy=>by have:=h.st.lt i hy;omega⟩
 refine ⟨hm.setT h.tb 0 _,(hq.mono (fun i h1 h2=>⟨h2,h1⟩)).fr hs fun i hi (hh:i=bt)=>nbt (hh ▸ hi.1),z1v ((hf.block bt hbt nbt).trans h.tr) 0 _,(hs.block b6 (Nat.lt_of_lt_of_le hb6 hf.size) fun (hh:b6=bt)=>h.ne hh.symm).trans ((hf.block b6 hb6 nb6).trans h.tz),fun i hi=>?_,h.tb,h.zb,h.ne⟩
 rcases hi.1 with h1|h1
 ·obtain ⟨a0,_,a2⟩:=h.xs i h1;exact ⟨a0,Nat.lt_of_lt_of_le hi.2 hs.size,a2⟩
 ·exact ⟨by omega,Nat.lt_of_lt_of_le hi.2 hs.size,by have:=h.st.rlt;omega,by have:=h.st.mlt;omega,fun hy=>by have:=h.st.lt i hy;omega,by omega,by omega⟩
theorem RB.regs (h:RB w0 W r mb m p iv v3 v4 v5 bt b6 Y X x rg ov os pv l en) (rgT:Nat→Int) :
  (W.there bt 2 8)∧MSt w0 (W.setCells bt 2 (#[.int .u64 (rgT 0),.int .u64 (rgT 1),.int .u64 (rgT 2),.int .u64 (rgT 3),.int .u64 (rgT 4),.int .u64 (rgT 5),.int .u64 (rgT 6),.int .u64 (rgT 7)]:Array Value).toList) r mb m p iv v3 v4 v5 Y x rg ov os∧Que (W.setCells bt 2 (#[.int .u64 (rgT 0),.int .u64 (rgT 1),.int .u64 (rgT 2),.int .u64 (rgT 3),.int .u64 (rgT 4),.int .u64 (rgT 5),.int .u64 (rgT 6),.int .u64 (rgT 7)]:Array Value).toList) X pv l ∧
   (W.setCells bt 2 (#[.int .u64 (rgT 0),.int .u64 (rgT 1),.int .u64 (rgT 2),.int .u64 (rgT 3),.int .u64 (rgT 4),.int .u64 (rgT 5),.int .u64 (rgT 6),.int .u64 (rgT 7)]:Array Value).toList).heap[bt]?=some (.cells (TrC pv en rgT (.slice none 0 0)) 46 (0,0)) ∧
   (W.setCells bt 2 (#[.int .u64 (rgT 0),.int .u64 (rgT 1),.int .u64 (rgT 2),.int .u64 (rgT 3),.int .u64 (rgT 4),.int .u64 (rgT 5),.int .u64 (rgT 6),.int .u64 (rgT 7)]:Array Value).toList).heap[b6]?=some (.cells (TrC (.slice none 0 0) 0 (fun _=>0) (.slice none 0 0)) 46 (0,0)):=by
 have key:∀ (W:World) (k:Nat) (v:Value),(Que W X pv l→Que (W.setCell ⟨bt,k,none⟩ v) X pv l)∧∀ o,W.heap[b6]?=some o→(W.setCell ⟨bt,k,none⟩ v).heap[b6]?=some o:=fun W k v =>
  ⟨fun hq=>hq.fr (z1k W ⟨bt,k,none⟩ v) fun i hi (hh:i=bt)=>(h.xs i hi).2.2.2.2.2.1 hh,fun o ho=>((z1k W ⟨bt,k,none⟩ v).block b6 (z0v ho) fun (hh:b6=bt)=>h.ne hh.symm).trans ho⟩
 have e:W.setCells bt 2 (#[.int .u64 (rgT 0),.int .u64 (rgT 1),.int .u64 (rgT 2),.int .u64 (rgT 3),.int .u64 (rgT 4),.int .u64 (rgT 5),.int .u64 (rgT 6),.int .u64 (rgT 7)]:Array Value).toList=((((((((W.setCell ⟨bt,2,none⟩ (.int .u64 (rgT 0))).setCell ⟨bt,3,none⟩ (.int .u64 (rgT 1))).setCell ⟨bt,4,none⟩ (.int .u64 (rgT 2))).setCell ⟨bt,5,none⟩ (.int .u64 (rgT 3))).setCell ⟨bt,6,none⟩ (.int .u64 (rgT 4))).setCell ⟨bt,7,none⟩ (.int .u64 (rgT 5))).setCell ⟨bt,8,none⟩ (.int .u64 (rgT 6))).setCell ⟨bt,9,none⟩ (.int .u64 (rgT 7))):=rfl;rw [e];refine ⟨fun j hj=>?_,?_,?_,?_,?_⟩
 ·rw [z01 h.tr (2+j),z02 h.tr (2+j)];have:j=0∨j=1∨j=2∨j=3∨j=4∨j=5∨j=6∨j=7:=by omega
  rcases this with rfl|rfl|rfl|rfl|rfl|rfl|rfl|rfl <;> exact ⟨rfl,rfl⟩
 ·exact ((((((((h.st.setT h.tb 2 (.int .u64 (rgT 0))).setT h.tb 3 (.int .u64 (rgT 1))).setT h.tb 4 (.int .u64 (rgT 2))).setT h.tb 5 (.int .u64 (rgT 3))).setT h.tb 6 (.int .u64 (rgT 4))).setT h.tb 7 (.int .u64 (rgT 5))).setT h.tb 8 (.int .u64 (rgT 6))).setT h.tb 9 (.int .u64 (rgT 7)))
 ·exact ((key _ 9 (.int .u64 (rgT 7))).1 ((key _ 8 (.int .u64 (rgT 6))).1 ((key _ 7 (.int .u64 (rgT 5))).1 ((key _ 6 (.int .u64 (rgT 4))).1 ((key _ 5 (.int .u64 (rgT 3))).1 ((key _ 4 (.int .u64 (rgT 2))).1 ((key _ 3 (.int .u64 (rgT 1))).1 ((key _ 2 (.int .u64 (rgT 0))).1 h.que))))))))
 ·have e2:(((((((((TrC pv en (fun _=>0) (.slice none 0 0)).setIfInBounds 2 (.int .u64 (rgT 0))).setIfInBounds 3 (.int .u64 (rgT 1))).setIfInBounds 4 (.int .u64 (rgT 2))).setIfInBounds 5 (.int .u64 (rgT 3))).setIfInBounds 6 (.int .u64 (rgT 4))).setIfInBounds 7 (.int .u64 (rgT 5))).setIfInBounds 8 (.int .u64 (rgT 6))).setIfInBounds 9 (.int .u64 (rgT 7)))=TrC pv en rgT (.slice none 0 0):=by simp [TrC]
  rw [← e2];exact (z1v (z1v (z1v (z1v (z1v (z1v (z1v (z1v h.tr 2 (.int .u64 (rgT 0))) 3 (.int .u64 (rgT 1))) 4 (.int .u64 (rgT 2))) 5 (.int .u64 (rgT 3))) 6 (.int .u64 (rgT 4))) 7 (.int .u64 (rgT 5))) 8 (.int .u64 (rgT 6))) 9 (.int .u64 (rgT 7)))
 ·exact ((key _ 9 (.int .u64 (rgT 7))).2 _ ((key _ 8 (.int .u64 (rgT 6))).2 _ ((key _ 7 (.int .u64 (rgT 5))).2 _ ((key _ 6 (.int .u64 (rgT 4))).2 _ ((key _ 5 (.int .u64 (rgT 3))).2 _ ((key _ 4 (.int .u64 (rgT 2))).2 _ ((key _ 3 (.int .u64 (rgT 1))).2 _ ((key _ 2 (.int .u64 (rgT 0))).2 _ h.tz))))))))
theorem step_store_mid {P:Program} {ops:Array Oper} {op:Oper} {a:Act} {w:World} {K:Act→World→Prop} {Q:Exit→Act→World→Prop} {E:Prop} (hgd:op.guard=none) (ty:TypeId) (x y:Operand) (ho:op.op=.store ty x y)
  (b o:Nat) (cells:Array Value) (hx:a.eval x=.pointer (some ⟨b,o,none⟩)) (hy:a.eval y=.agg cells)
  (ht:w.there b o cells.size) (hi:(P.info? ty).map (·.size)=some cells.size) (h1:cells.all (·.oneCell')=true)
  (hdst:op.dst=none) (h:K a (w.setCells b o cells.toList)):if Region.wanted op (yielded ops a.tmps)=true then Oper.wp P op a w K Q else E:=by
 rw [if_pos (by simp [Region.wanted,hgd])];exact wp_store_mid ty x y ho b o cells hx hy ht hi h1 (by rw [hdst];exact h)
end
set_option maxHeartbeats 16000000 in
theorem run_calls {w:World} {p:Im} (hw:wfP p) {A3 A4 A5 Ai:Option Addr} {c3 c4 c5 ci:Nat} {inp:List Int} (steps:Int)
  (hr3:(Kd.int .u8).C w A3 p.f3.length p.f3) (hc3:p.f3.length≤c3) (hr4:(Kd.int .i64).C w A4 p.f4.length p.f4) (hc4:p.f4.length≤c4) (hr5:k79.C w A5 p.f5.length p.f5) (hc5:p.f5.length≤c5) (hin:(Kd.int .u8).C w Ai inp.length inp) :
  Calls Tryz.prog 35 #[.agg #[.int .i64 p.f0,.int .i64 p.f1,.int .i64 p.f2,.slice A3 p.f3.length c3,.slice A4 p.f4.length c4,.slice A5 p.f5.length c5],.slice Ai inp.length ci,.int .i64 steps] w (RunPost w p inp.length steps):=by
 obtain ⟨rE,hEn⟩:=enc_f p hw.1;have HE:=Aside0.mk (fun W1 (hB:Below w.heap.size w W1)=>z0r.calls 700 p.f0 p.f1 p.f2 A3 c3 p.f3 A4 c4 p.f4 A5 c5 p.f5 rE (encV p) W1 (Kd.C_below hr3 hB) hc3 (Kd.C_below hr4 hB) hc4 (Kd.C_below hr5 hB) hc5 hEn);have HC3:=Aside0.mk (fun W1 (hB:Below w.heap.size w W1)=>Kd.C_below hr3 hB);have HC4:=Aside0.mk (fun W1 (hB:Below w.heap.size w W1)=>Kd.C_below hr4 hB);have HC5:=Aside0.mk (fun W1 (hB:Below w.heap.size w W1)=>Kd.C_below hr5 hB);have HCI:=Aside0.mk (fun W1 (hB:Below w.heap.size w W1)=>Kd.C_below hin hB);have HW:=Aside0.mk hw;clear hr3 hr4 hr5 hin hEn hw
 go_enter Tryz.func35,Tryz.ntmps35
 go_upto_region 1 with (fail)
 have HB:=Aside0.mk (z04 (z04 (Below.refl w.heap.size w) (.cells #[.int .i64 p.f0,.int .i64 p.f1,.int .i64 p.f2,.slice A3 p.f3.length c3,.slice A4 p.f4.length c4,.slice A5 p.f5.length c5] 26)) (.cells #[.slice none 0 0,.int .i64 0,.int .u64 0,.int .u64 0,.int .u64 0,.int .u64 0,.int .u64 0,.int .u64 0,.int .u64 0,.int .u64 0,.slice none 0 0] 46));have B3:=Aside0.mk (z06 (z0z w (.cells #[.int .i64 p.f0,.int .i64 p.f1,.int .i64 p.f2,.slice A3 p.f3.length c3,.slice A4 p.f4.length c4,.slice A5 p.f5.length c5] 26)) (.cells #[.slice none 0 0,.int .i64 0,.int .u64 0,.int .u64 0,.int .u64 0,.int .u64 0,.int .u64 0,.int .u64 0,.int .u64 0,.int .u64 0,.slice none 0 0] 46));have B6:=Aside0.mk (z0z (w.alloc (.cells #[.int .i64 p.f0,.int .i64 p.f1,.int .i64 p.f2,.slice A3 p.f3.length c3,.slice A4 p.f4.length c4,.slice A5 p.f5.length c5] 26)) (.cells #[.slice none 0 0,.int .i64 0,.int .u64 0,.int .u64 0,.int .u64 0,.int .u64 0,.int .u64 0,.int .u64 0,.int .u64 0,.int .u64 0,.slice none 0 0] 46));have e1:(w.alloc (.cells #[.int .i64 p.f0,.int .i64 p.f1,.int .i64 p.f2,.slice A3 p.f3.length c3,.slice A4 p.f4.length c4,.slice A5 p.f5.length c5] 26)).heap.size=w.heap.size+1:=by show (w.heap.push _).size=_;simp
 rw [e1] at B6;clear e1;generalize (w.alloc (.cells #[.int .i64 p.f0,.int .i64 p.f1,.int .i64 p.f2,.slice A3 p.f3.length c3,.slice A4 p.f4.length c4,.slice A5 p.f5.length c5] 26)).alloc (.cells #[.slice none 0 0,.int .i64 0,.int .u64 0,.int .u64 0,.int .u64 0,.int .u64 0,.int .u64 0,.int .u64 0,.int .u64 0,.int .u64 0,.slice none 0 0] 46)=w1 at HB B3 B6 ⊢;obtain ⟨b6,hb6⟩:∃ b6,w.heap.size+1=b6:=⟨_,rfl⟩;obtain ⟨b3,hb3⟩:∃ b3,w.heap.size=b3:=⟨_,rfl⟩;rw [hb6] at B6;rw [hb3] at B3;simp only [hb6];simp only [hb3];have HBB:Aside0 (b6=w.heap.size+1∧b3=w.heap.size):=⟨hb6.symm,hb3.symm⟩;clear hb6 hb3;have k0:w1.cell? ⟨b3,0,none⟩=some (.int .i64 p.f0):=(z01 B3.out 0).trans rfl;have k1:w1.cell? ⟨b3,1,none⟩=some (.int .i64 p.f1):=(z01 B3.out 1).trans rfl;have k2:w1.cell? ⟨b3,2,none⟩=some (.int .i64 p.f2):=(z01 B3.out 2).trans rfl;have k3:w1.cell? ⟨b3,3,none⟩=some (.slice A3 p.f3.length c3):=(z01 B3.out 3).trans rfl;have k4:w1.cell? ⟨b3,4,none⟩=some (.slice A4 p.f4.length c4):=(z01 B3.out 4).trans rfl;have k5:w1.cell? ⟨b3,5,none⟩=some (.slice A5 p.f5.length c5):=(z01 B3.out 5).trans rfl
 go_wp2_with (fail)
 refine (HE.out _ HB.out).mono ?_;rintro e w2 ⟨v,rfl,hR,hB⟩;obtain ⟨Av,cv,rfl⟩:=Kd.R_slice hR;have B6:=Aside0.mk (z0t B6.out hB);have B3:=Aside0.mk (z0t B3.out hB);have HB:=Aside0.mk (z0y HB.out HB.out.size hB);clear hR hB HE k0 k1 k2 k3 k4 k5
 by_cases he:encV p=0
 rotate_left
 ·have hne:(encV p != 0)=true:=by simpa using he
  go_wp2_with (refine wpList_store_row rfl 46 (.tmp 6) (.tmp 19) rfl b6 #[.slice none 0 0,.int .i64 0,.int .u64 0,.int .u64 0,.int .u64 0,.int .u64 0,.int .u64 0,.int .u64 0,.int .u64 0,.int .u64 0,.slice none 0 0] rfl rfl 46 _ B6.out (by kernel_rfl) rfl (by simp [Value.oneCell']) ?_)
  refine bodyPost_ret (results_ct rfl _ _ b6 46 #[.slice none 0 0,.int .i64 0,.int .u64 0,.int .u64 0,.int .u64 0,.int .u64 0,.int .u64 0,.int .u64 0,.int .u64 0,.int .u64 0,.slice none 0 0] _ _ rfl (setRow_heap _ _ _ _ _ _ B6.out) rfl rfl (by kernel_rfl)) rfl ?_;exact ⟨_,_,0,encV p,fun _=>0,[],rfl,⟨_,_,_,rfl⟩,Que.nil _ _,below_setRow HB.out (by have:=HBB.out;omega) _,.inl ⟨he,rfl,rfl⟩⟩
 have hne:(encV p != 0)=false:=by simpa using he
 obtain ⟨hsz,_⟩:=z2p.1 he;have k2:w2.cell? ⟨b3,2,none⟩=some (.int .i64 p.f2):=(z01 B3.out 2).trans rfl
 by_cases hlen:p.f2 < (inp.length:Int)
 ·have hgt:decide ((inp.length:Int) > p.f2)=true:=decide_eq_true hlen
  go_wp2_with (refine wpList_store_row rfl 46 (.tmp 6) (.tmp 26) rfl b6 #[.slice none 0 0,.int .i64 0,.int .u64 0,.int .u64 0,.int .u64 0,.int .u64 0,.int .u64 0,.int .u64 0,.int .u64 0,.int .u64 0,.slice none 0 0] rfl rfl 46 _ B6.out (by kernel_rfl) rfl (by simp [Value.oneCell']) ?_)
  refine bodyPost_ret (results_ct rfl _ _ b6 46 #[.slice none 0 0,.int .i64 0,.int .u64 0,.int .u64 0,.int .u64 0,.int .u64 0,.int .u64 0,.int .u64 0,.int .u64 0,.int .u64 0,.slice none 0 0] _ _ rfl (setRow_heap _ _ _ _ _ _ B6.out) rfl rfl (by kernel_rfl)) rfl ?_;exact ⟨_,_,0,16,fun _=>0,[],rfl,⟨_,_,_,rfl⟩,Que.nil _ _,below_setRow HB.out (by have:=HBB.out;omega) _,.inr (.inl ⟨he,hlen,rfl,rfl⟩)⟩
 have hgt:decide ((inp.length:Int) > p.f2)=false:=decide_eq_false hlen
 go_upto_region 6 with (fail)
 refine z1i (n:=7) (S:=fun w'=>w'.cell? ⟨b3,0,none⟩=some (.int .i64 p.f0)∧w'.cell? ⟨b3,1,none⟩=some (.int .i64 p.f1)∧w'.cell? ⟨b3,2,none⟩=some (.int .i64 p.f2)∧w'.cell? ⟨b3,3,none⟩=some (.slice A3 p.f3.length c3)∧w'.cell? ⟨b3,4,none⟩=some (.slice A4 p.f4.length c4)∧w'.cell? ⟨b3,5,none⟩=some (.slice A5 p.f5.length c5)) (ds:=[5]) #[zf,zf,zf,zf,zf,zf,zf] (by kernel_rfl) rfl rfl ⟨(z01 B3.out 0).trans rfl,(z01 B3.out 1).trans rfl,(z01 B3.out 2).trans rfl,(z01 B3.out 3).trans rfl,(z01 B3.out 4).trans rfl,(z01 B3.out 5).trans rfl⟩ (fun hHeld=>?_);refine pure_ (i:=1) (N:=some 28) (v:=?_) (a':=?_) #[zf,zt,zf,zf,zf,zf,zf] rfl rfl (by kernel_rfl) (fun _ _ _ h=>h) (Or.inl ⟨by rfl,?_⟩) ?_ ?_;rotate_left
 ·intro w';go_simp;with_reducible rfl
 rotate_left
 ·simp only [Act.put,zq1,zq2,zq3,i64_w,i32_w];rfl
 refine take_ (i:=0) (N:=some 27) (v:=?_) (a':=?_) #[zt,zt,zf,zf,zf,zf,zf] rfl rfl (by kernel_rfl) (fun _ _ _ h=>h) (Or.inl ⟨by rfl,?_⟩) hHeld ?_ ?_;rotate_left
 ·rintro w' ⟨s0,s1,s2,s3,s4,s5⟩;go_simp;with_reducible rfl
 rotate_left
 ·simp only [Act.put,zq1,zq2,zq3,i64_w,i32_w];rfl
 refine take_ (i:=2) (N:=some 29) (v:=?_) (a':=?_) #[zt,zt,zt,zf,zf,zf,zf] rfl rfl (by kernel_rfl) (fun _ _ _ h=>h) (Or.inl ⟨by rfl,?_⟩) hHeld ?_ ?_;rotate_left
 ·rintro w' ⟨s0,s1,s2,s3,s4,s5⟩;go_simp;with_reducible rfl
 rotate_left
 ·simp only [Act.put,zq1,zq2,zq3,i64_w,i32_w];rfl
 refine one_ (i:=3) (N:=some 30) #[zt,zt,zt,zt,zf,zf,zf] rfl rfl (by kernel_rfl) (by decide) (fun K hK=>?_);refine goes_ Tryz.func67 (by kernel_rfl) rfl #[.agg #[.int .i64 p.f0,.int .i64 p.f1,.int .i64 p.f2,.slice A3 p.f3.length c3,.slice A4 p.f4.length c4,.slice A5 p.f5.length c5]] (by rfl) rfl rfl (by simp only [List.map_toArray,List.map_cons,List.map_nil];rfl) ?_;refine (start_calls hsz.1.1 hsz.1.2 hsz.2.2.2.1 (HC3.out _ (z1e HB.out))).mono ?_;rintro e w4 ⟨mb,rfl,hmb,⟨ms,hms,hbm⟩,hb4⟩;refine ⟨_,rfl,?_⟩;have HB4:=Aside0.mk (z0y (z1e HB.out) (z1e HB.out).size hb4);have B34:=Aside0.mk (z0t (z09 B3.out) hb4);have B64:=Aside0.mk (z0t (z09 B6.out) hb4);have HMB:=Aside0.mk (And.intro hmb (z0v hbm));have HMS:=Aside0.mk hms;have HBM:=Aside0.mk hbm;clear hb4 hmb hms hbm;refine hK.out _ _ ⟨(z01 B34.out 0).trans rfl,(z01 B34.out 1).trans rfl,(z01 B34.out 2).trans rfl,(z01 B34.out 3).trans rfl,(z01 B34.out 4).trans rfl,(z01 B34.out 5).trans rfl⟩ (fun hHeld=>?_);clear hK K;refine norm_ (a':=?_) ?_ ?_;rotate_left
 ·show Act.put _ (some 30) _=_;simp only [Act.put,zq1,zq2,zq3,i64_w,i32_w];rfl
 refine pure_ (i:=4) (N:=some 31) (v:=?_) (a':=?_) #[zt,zt,zt,zt,zt,zf,zf] rfl rfl (by kernel_rfl) (fun _ _ _ h=>h) (Or.inl ⟨by rfl,?_⟩) ?_ ?_;rotate_left
 ·intro w';go_simp;with_reducible rfl
 rotate_left
 ·simp only [Act.put,zq1,zq2,zq3,i64_w,i32_w];rfl
 refine last_ (i:=5) (N:=some 32) #[zt,zt,zt,zt,zt,zt,zf] rfl rfl (by kernel_rfl) (by decide) (fun K hK=>?_);refine z19 (w1:=?_) (v:=?_) (by rfl) rfl ?_ ?_;rotate_left 2
 ·go_simp;constructor
  ·rfl
  ·rfl
 refine hK.out _ _ ?_;clear hK K;refine norm_ (a':=?_) ?_ ?_;rotate_left
 ·show Act.put _ (some 32) _=_;simp only [Act.put,zq1,zq2,zq3,i64_w,i32_w];rfl
 refine pure_ (i:=6) (N:=some 10) (v:=?_) (a':=?_) #[zt,zt,zt,zt,zt,zt,zt] rfl rfl (by kernel_rfl) (fun _ _ _ h=>h) (Or.inl ⟨by rfl,?_⟩) ?_ ?_;rotate_left
 ·intro w';go_simp;with_reducible rfl
 rotate_left
 ·simp only [Act.put,zq1,zq2,zq3,i64_w,i32_w];rfl
 refine done_ (by kernel_rfl) ?_;have HS5:Aside0 (MSt w (w4.alloc (.cells #[.int .i64 p.f0,.int .i64 p.f1,.int .i64 p.f2,.slice A3 p.f3.length c3,.slice A4 p.f4.length c4,.slice A5 p.f5.length c5,.slice Ai inp.length ci,.int .i64 0,.int .u64 0,.int .u64 0,.int .u64 0,.int .u64 0,.int .u64 0,.int .u64 0,.int .u64 0,.int .u64 0,.slice (some ⟨mb,0,none⟩) p.f0.toNat p.f0.toNat,.slice none 0 0] 110)) w4.heap.size mb p.f0.toNat p (.slice Ai inp.length ci) (.slice A3 p.f3.length c3) (.slice A4 p.f4.length c4) (.slice A5 p.f5.length c5) (fun _=>False) 0 (fun _=>0) (.slice none 0 0) []) :=
  ⟨z04 HB4.out _,z0z w4 _,Que.nil _ _,⟨ms,HMS.out,z06 HBM.out _⟩,⟨HB4.out.size,Nat.le_trans (z1e HB.out).size HMB.out.1,fun _ h=>h.elim⟩,⟨fun hh=>by have:=HMB.out.2;omega,fun h=>h.elim,fun h=>h.elim⟩,fun _ h=>h.elim⟩
 have B65:=Aside0.mk (z06 B64.out (.cells #[.int .i64 p.f0,.int .i64 p.f1,.int .i64 p.f2,.slice A3 p.f3.length c3,.slice A4 p.f4.length c4,.slice A5 p.f5.length c5,.slice Ai inp.length ci,.int .i64 0,.int .u64 0,.int .u64 0,.int .u64 0,.int .u64 0,.int .u64 0,.int .u64 0,.int .u64 0,.int .u64 0,.slice (some ⟨mb,0,none⟩) p.f0.toNat p.f0.toNat,.slice none 0 0] 110));have HM64:Aside0 (p.f0.toNat≤64):=⟨by have:=hsz.1;omega⟩;have HB65:Aside0 (b6 < w4.heap.size∧b6≠mb):=⟨z0v B64.out,by
  have h1:=HMB.out.1;have h2:b6 < w2.drew.heap.size:=z0v B6.out;omega⟩
 generalize w4.alloc (.cells #[.int .i64 p.f0,.int .i64 p.f1,.int .i64 p.f2,.slice A3 p.f3.length c3,.slice A4 p.f4.length c4,.slice A5 p.f5.length c5,.slice Ai inp.length ci,.int .i64 0,.int .u64 0,.int .u64 0,.int .u64 0,.int .u64 0,.int .u64 0,.int .u64 0,.int .u64 0,.int .u64 0,.slice (some ⟨mb,0,none⟩) p.f0.toNat p.f0.toNat,.slice none 0 0] 110)=w5 at HS5 B65 ⊢;have HB6r:Aside0 (b6 < w4.heap.size):=⟨HB65.out.1⟩;generalize w4.heap.size=r at HS5 HB65 HB6r ⊢;generalize p.f0.toNat=m at HS5 HM64 ⊢;clear HBM HMS B3 B6 HB B34 B64 HB4 hHeld k2 hgt hne HMB
 go_upto_region 8 with (fail)
 have E6:(w5.alloc (.cells #[.int .i64 0] 3)).heap.size=w5.heap.size+1:=by show (w5.heap.push _).size=_;simp
 have HRB:Aside0 (RB w ((w5.alloc (.cells #[.int .i64 0] 3)).alloc (.cells #[.slice (some ⟨w5.heap.size,0,none⟩) 1 1,.int .i64 0,.int .u64 0,.int .u64 0,.int .u64 0,.int .u64 0,.int .u64 0,.int .u64 0,.int .u64 0,.int .u64 0,.slice none 0 0] 46)) r mb m p (.slice Ai inp.length ci) (.slice A3 p.f3.length c3) (.slice A4 p.f4.length c4) (.slice A5 p.f5.length c5) (w5.heap.size+1) b6 (fun _=>False) (fun i=>i=w5.heap.size) 0 (fun _=>0) (.slice none 0 0) [] (.slice (some ⟨w5.heap.size,0,none⟩) 1 1) [0] 0):=⟨by
  have hst:=(HS5.out.alloc (.cells #[.int .i64 0] 3)).alloc (.cells #[.slice (some ⟨w5.heap.size,0,none⟩) 1 1,.int .i64 0,.int .u64 0,.int .u64 0,.int .u64 0,.int .u64 0,.int .u64 0,.int .u64 0,.int .u64 0,.int .u64 0,.slice none 0 0] 46);have hb0:=z06 (z0z w5 (.cells #[.int .i64 0] 3)) (.cells #[.slice (some ⟨w5.heap.size,0,none⟩) 1 1,.int .i64 0,.int .u64 0,.int .u64 0,.int .u64 0,.int .u64 0,.int .u64 0,.int .u64 0,.int .u64 0,.int .u64 0,.slice none 0 0] 46);have ht:=z0z (w5.alloc (.cells #[.int .i64 0] 3)) (.cells #[.slice (some ⟨w5.heap.size,0,none⟩) 1 1,.int .i64 0,.int .u64 0,.int .u64 0,.int .u64 0,.int .u64 0,.int .u64 0,.int .u64 0,.int .u64 0,.int .u64 0,.slice none 0 0] 46);rw [E6] at ht;have h1:=HS5.out.rlt;have h2:=HS5.out.mlt;have h3:=HS5.out.bel.size;have h4:=HB65.out;have h5:=z0v B65.out;refine ⟨hst,⟨_,1,rfl,Nat.le_refl _,by decide,fun _=>⟨w5.heap.size,0,rfl,rfl,z0v hb0,fun j hj=>?_,fun j hj=>?_⟩⟩,ht,z06 (z06 B65.out _) _,fun i hi=>?_,⟨by omega,by omega,by omega,fun h=>h⟩,⟨by have:=HBB.out;omega,?_,h4.2,fun h=>h⟩,by omega⟩
  ·have:j=0:=by simpa using hj
   subst this;exact (z01 hb0 0).trans rfl
  ·have:j=0:=by omega
   subst this;exact ⟨by rw [z01 hb0 0];rfl,z02 hb0 0⟩
  ·subst hi;exact ⟨by omega,z0v hb0,by omega,by omega,fun h=>h,by omega,by omega⟩
  ·exact Nat.ne_of_lt HB6r.out⟩
 generalize (w5.alloc (.cells #[.int .i64 0] 3)).alloc (.cells #[.slice (some ⟨w5.heap.size,0,none⟩) 1 1,.int .i64 0,.int .u64 0,.int .u64 0,.int .u64 0,.int .u64 0,.int .u64 0,.int .u64 0,.int .u64 0,.int .u64 0,.slice none 0 0] 46)=w7 at HRB ⊢;clear HS5 B65 E6;generalize w5.heap.size+1=bt at HRB ⊢;generalize w5.heap.size=bp at HRB ⊢;obtain ⟨N,hN⟩:∃ N:Nat,max 0 (min steps 4096)=(N:Int):=⟨(max 0 (min steps 4096)).toNat,by omega⟩;have HNN:Aside0 (N≤4096∧(N:Int)≤max 0 steps):=⟨by omega⟩;have HIL:Aside0 ((inp.length:Int) < 18446744073709551616):=⟨by have:=hsz.2.2.1;omega⟩;have HENC:=Aside0.mk he;have HSZ:=Aside0.mk hsz;have HLEN:=Aside0.mk hlen;clear he hsz hlen;go_wp2
 go_loopw [38] (fun v38 wr=>∃ (k:Nat) (Y X:Nat→Prop) (x:Int) (rg:Nat→Int) (ov:Value) (os:List Int) (pv:Value) (l:List Int) (tr:List (Int × List Int)),v38=.int .i64 k∧Aside0 (k≤N)∧Aside0 (RB w wr r mb m p (.slice Ai inp.length ci) (.slice A3 p.f3.length c3) (.slice A4 p.f4.length c4) (.slice A5 p.f5.length c5) bt b6 Y X x rg ov os pv l 0)∧Aside0 (Tr p tr∧tr.getLast?=some (x,os)∧tr.length=k+1∧l=tr.map (·.1)))
  (fun v _=>N - (intOf v).toNat)
 case atStart=>exact ⟨0,_,_,0,_,_,[],_,[0],[(0,[])],rfl,⟨Nat.zero_le _⟩,HRB,⟨Tr.start HSZ.out.2.1.1,rfl,rfl,rfl⟩⟩
 case round =>
  clear HRB;obtain ⟨k,Y,X,x,rg,ov,os,pv,l,tr,rfl,hk,hR,hT⟩:=hrel;obtain ⟨wo,rfl⟩:∃ wo:World,wo=wr:=⟨_,rfl⟩;have HX0:Aside0 (0≤x):=⟨by
   have h1:=hT.out.2.1;rw [List.getLast?_eq_getElem?] at h1;exact (hT.out.1.ok HW.out HENC.out _ _ h1).1⟩
  have HLL:Aside0 (l.length=k+1):=⟨by rw [hT.out.2.2.2,List.length_map];exact hT.out.2.2.1⟩
  by_cases hlt:k < N
  ·have hkd:decide ((k:Int) < (N:Int))=true:=decide_eq_true (by omega)
   go_wp2_with (fail)
   refine (step_calls HW.out HENC.out hR.out.st HX0.out HM64.out HIL.out HCI.out HC4.out HC5.out).mono ?_;rintro e w3 ⟨k3,x',rg',ov',os',Y',rfl,hst,hY,hf,hN3⟩;have HR3:=Aside0.mk (hR.out.step hst hY hf);have HN3:=Aside0.mk hN3;clear hst hY hf hN3 hR;have c1:w3.cell? ⟨bt,1,none⟩=some (.int .i64 0):=(z01 HR3.out.tr 1).trans rfl;have f1:=z02 HR3.out.tr 1
   by_cases hk3:k3=0
   ·subst hk3;have hb3:((0:Int) != 0)=false:=rfl;have hwk:IntKind.i64.wrap ((k:Int)+1)=(k:Int)+1:=IntWalk.i64_in _ (by have:=HNN.out;omega)
    go_upto_region 12 with (fail)
    have HR4:=Aside0.mk (HR3.out.setEnd 0);generalize w3.setCell ⟨bt,1,none⟩ (.int .i64 0)=w4 at HR4 ⊢;clear HR3 c1 f1;obtain ⟨ap,cp,rfl,hcp⟩:=HR4.out.que.slice;obtain ⟨L,hL⟩:∃ L,l.length=L:=⟨_,rfl⟩;rw [hL] at HR4 HLL;have HL:=Aside0.mk hL;clear hL hcp;have HLB:Aside0 (L≤5000):=⟨by have:=HLL.out;have:=HNN.out;omega⟩;refine z1i (n:=11) (S:=fun w'=>w'.cell? ⟨bt,0,none⟩=some (.slice ap L cp)∧w'.cell? ⟨r,7,none⟩=some (.int .i64 x')) (ds:=[8,10]) #[zf,zf,zf,zf,zf,zf,zf,zf,zf,zf,zf] (by kernel_rfl) rfl rfl ⟨(z01 HR4.out.tr 0).trans rfl,(HR4.out.st.cell 7).trans rfl⟩ (fun hHeld=>?_);refine pure_ (i:=0) (N:=some 46) (v:=?_) (a':=?_) #[zt,zf,zf,zf,zf,zf,zf,zf,zf,zf,zf] rfl rfl (by kernel_rfl) (fun _ _ _ h=>h) (Or.inl ⟨by rfl,?_⟩) ?_ ?_;rotate_left
    ·intro w';go_simp;with_reducible rfl
    rotate_left
    ·simp only [Act.put,zq1,zq2,zq3,i64_w,i32_w];rfl
    refine pure_ (i:=2) (N:=some 48) (v:=?_) (a':=?_) #[zt,zf,zt,zf,zf,zf,zf,zf,zf,zf,zf] rfl rfl (by kernel_rfl) (fun _ _ _ h=>h) (Or.inl ⟨by rfl,?_⟩) ?_ ?_;rotate_left
    ·intro w';go_simp;with_reducible rfl
    rotate_left
    ·simp only [Act.put,zq1,zq2,zq3,i64_w,i32_w];rfl
    refine pure_ (i:=3) (N:=some 49) (v:=?_) (a':=?_) #[zt,zf,zt,zt,zf,zf,zf,zf,zf,zf,zf] rfl rfl (by kernel_rfl) (fun _ _ _ h=>h) (Or.inl ⟨by rfl,?_⟩) ?_ ?_;rotate_left
    ·intro w';go_simp;with_reducible rfl
    rotate_left
    ·simp only [Act.put,zq1,zq2,zq3,i64_w,i32_w];rfl
    refine pure_ (i:=4) (N:=some 50) (v:=?_) (a':=?_) #[zt,zf,zt,zt,zt,zf,zf,zf,zf,zf,zf] rfl rfl (by kernel_rfl) (fun _ _ _ h=>h) (Or.inl ⟨by rfl,?_⟩) ?_ ?_;rotate_left
    ·intro w';go_simp;with_reducible rfl
    rotate_left
    ·simp only [Act.put,zq1,zq2,zq3,i64_w,i32_w];rfl
    refine pure_ (i:=5) (N:=some 51) (v:=?_) (a':=?_) #[zt,zf,zt,zt,zt,zt,zf,zf,zf,zf,zf] rfl rfl (by kernel_rfl) (fun _ _ _ h=>h) (Or.inl ⟨by rfl,?_⟩) ?_ ?_;rotate_left
    ·intro w';go_simp;with_reducible rfl
    rotate_left
    ·simp only [Act.put,zq1,zq2,zq3,i64_w,i32_w];rfl
    refine take_ (i:=1) (N:=some 47) (v:=?_) (a':=?_) #[zt,zt,zt,zt,zt,zt,zf,zf,zf,zf,zf] rfl rfl (by kernel_rfl) (fun _ _ _ h=>h) (Or.inl ⟨by rfl,?_⟩) hHeld ?_ ?_;rotate_left
    ·rintro w' ⟨s0,s1⟩;go_simp;with_reducible rfl
    rotate_left
    ·simp only [Act.put,zq1,zq2,zq3,i64_w,i32_w];rfl
    refine take_ (i:=6) (N:=some 52) (v:=?_) (a':=?_) #[zt,zt,zt,zt,zt,zt,zt,zf,zf,zf,zf] rfl rfl (by kernel_rfl) (fun _ _ _ h=>h) (Or.inl ⟨by rfl,?_⟩) hHeld ?_ ?_;rotate_left
    ·rintro w' ⟨s0,s1⟩;go_simp;with_reducible rfl
    rotate_left
    ·simp only [Act.put,zq1,zq2,zq3,i64_w,i32_w];rfl
    refine one_ (i:=7) (N:=some 53) #[zt,zt,zt,zt,zt,zt,zt,zt,zf,zf,zf] rfl rfl (by kernel_rfl) (by decide) (fun K hK=>?_);refine z19 (w1:=?_) (v:=?_) (by rfl) rfl ?_ ?_;rotate_left 2
    ·go_simp;constructor
     ·rfl
     ·rfl
    have HR7:=Aside0.mk (HR4.out.below (z04 (z1e (Below.refl w4.heap.size w4)) (.cells #[.int .i64 x'] 3)));have BX:=Aside0.mk (z0z w4.drew (.cells #[.int .i64 x'] 3));refine hK.out _ _ ⟨(z01 HR7.out.tr 0).trans rfl,(HR7.out.st.cell 7).trans rfl⟩ (fun hHeld=>?_);clear hK K;refine norm_ (a':=?_) ?_ ?_;rotate_left
    ·show Act.put _ (some 53) _=_;simp only [Act.put,zq1,zq2,zq3,i64_w,i32_w];rfl
    refine last_ (i:=8) (N:=some 54) #[zt,zt,zt,zt,zt,zt,zt,zt,zt,zf,zf] rfl rfl (by kernel_rfl) (by decide) (fun K hK=>?_);refine step_append_que rfl (.tmp 47) (.tmp 53) rfl _ _ x' rfl rfl (HR7.out.que.mono (ok':=fun j=>X j∨_≤j) fun j _ hj=>.inl hj) (fun j hj=>.inr hj) ((z01 BX.out 0).trans rfl) (by have:=HLB.out;have:=HL.out;omega) ?_;intro v5 w5_ hq5 hf5;obtain ⟨ao5,cp5,e5,_⟩:=hq5.slice;obtain ⟨L5,hL5⟩:∃ L,(l ++ [x']).length=L:=⟨_,rfl⟩;rw [hL5] at e5;subst e5;have HR5:=Aside0.mk (HR7.out.push hq5 hf5);have k5:=(hf5.block bt (z0v HR7.out.tr) fun hj=>hj.elim (fun h1=>(HR7.out.xs bt h1).2.2.2.2.2.1 rfl) (Nat.not_le_of_lt (z0v HR7.out.tr))).trans HR7.out.tr;have f5:=z02 k5 0;have g5:w5_.cell? ⟨bt,0,none⟩=some (.slice ap L cp):=(z01 k5 0).trans rfl;clear hq5 hf5 k5 hL5;refine hK.out _ _ ?_;clear hK K;refine norm_ (a':=?_) ?_ ?_;rotate_left
    ·show Act.put _ (some 54) _=_;simp only [Act.put,zq1,zq2,zq3,i64_w,i32_w];rfl
    refine pure_ (i:=9) (N:=some 55) (v:=?_) (a':=?_) #[zt,zt,zt,zt,zt,zt,zt,zt,zt,zt,zf] rfl rfl (by kernel_rfl) (fun _ _ _ h=>h) (Or.inl ⟨by rfl,?_⟩) ?_ ?_;rotate_left
    ·intro w';go_simp;with_reducible rfl
    rotate_left
    ·simp only [Act.put,zq1,zq2,zq3,i64_w,i32_w];rfl
    refine last_ (i:=10) (N:=none) #[zt,zt,zt,zt,zt,zt,zt,zt,zt,zt,zt] rfl rfl (by kernel_rfl) (by decide) (fun K hK=>?_);refine skip_ (w1:=?_) (by rfl) rfl ?_ ?_;rotate_left
    ·go_simp;rfl
    refine hK.out _ _ ?_;clear hK K;refine done_ (by kernel_rfl) ?_;generalize w5_.setCell ⟨bt,0,none⟩ (.slice ao5 L5 cp5)=w6 at HR5 ⊢;have HT2:Aside0 (Tr p (tr ++ [(x',os')])∧(tr ++ [(x',os')]).getLast?=some (x',os')∧(tr ++ [(x',os')]).length=(k+1)+1∧l ++ [x']=(tr ++ [(x',os')]).map (·.1)) :=
     ⟨hT.out.1.push hT.out.2.1 (HN3.out (by trivial)).1 (HN3.out (by trivial)).2,by simp,by have:=hT.out.2.2.1;simp;omega,by rw [hT.out.2.2.2];simp⟩
    clear HR4 HR7 BX f5 g5 hHeld hT HN3;go_wp2
    go_roundw
    case rel=>exact ⟨k+1,Y',_,x',rg',ov',os',_,l ++ [x'],tr ++ [(x',os')],by go_num,⟨by omega⟩,HR5,HT2⟩
    case measure=>simp [intOf];omega
   ·have hb3:(k3 != 0)=true:=(by simpa using hk3)
    go_upto_region 14 with (fail)
    have HT:=Aside0.mk (HR3.out.setEnd k3);generalize w3.setCell ⟨bt,1,none⟩ (.int .i64 k3)=w4 at HT ⊢;clear HR3 c1 f1 HN3;obtain ⟨rgT,rfl⟩:∃ q:Nat→Int,q=rg':=⟨_,rfl⟩;obtain ⟨wT,rfl⟩:∃ q:World,q=w4:=⟨_,rfl⟩;obtain ⟨ap,cp,rfl,_⟩:=HT.out.que.slice;have HRG:=Aside0.mk ((HT.out.below (z1e (Below.refl wT.heap.size wT))).regs rgT);refine z1i (n:=14) (S:=fun w'=>w'.cell? ⟨r,8,none⟩=some (.int .u64 (rgT 0))∧w'.cell? ⟨r,9,none⟩=some (.int .u64 (rgT 1))∧w'.cell? ⟨r,10,none⟩=some (.int .u64 (rgT 2))∧w'.cell? ⟨r,11,none⟩=some (.int .u64 (rgT 3))∧w'.cell? ⟨r,12,none⟩=some (.int .u64 (rgT 4))∧w'.cell? ⟨r,13,none⟩=some (.int .u64 (rgT 5))∧w'.cell? ⟨r,14,none⟩=some (.int .u64 (rgT 6))∧w'.cell? ⟨r,15,none⟩=some (.int .u64 (rgT 7))∧w'.cell? ⟨r,16,none⟩=some (.slice (some ⟨mb,0,none⟩) m m)) (ds:=[13]) #[zf,zf,zf,zf,zf,zf,zf,zf,zf,zf,zf,zf,zf,zf] (by kernel_rfl) rfl rfl ⟨(HT.out.st.cell 8).trans rfl,(HT.out.st.cell 9).trans rfl,(HT.out.st.cell 10).trans rfl,(HT.out.st.cell 11).trans rfl,(HT.out.st.cell 12).trans rfl,(HT.out.st.cell 13).trans rfl,(HT.out.st.cell 14).trans rfl,(HT.out.st.cell 15).trans rfl,(HT.out.st.cell 16).trans rfl⟩ (fun hHeld=>?_);refine pure_ (i:=0) (N:=some 57) (v:=?_) (a':=?_) #[zt,zf,zf,zf,zf,zf,zf,zf,zf,zf,zf,zf,zf,zf] rfl rfl (by kernel_rfl) (fun _ _ _ h=>h) (Or.inl ⟨by rfl,?_⟩) ?_ ?_;rotate_left
    ·intro w';go_simp;with_reducible rfl
    rotate_left
    ·simp only [Act.put,zq1,zq2,zq3,i64_w,i32_w];rfl
    refine pure_ (i:=1) (N:=some 58) (v:=?_) (a':=?_) #[zt,zt,zf,zf,zf,zf,zf,zf,zf,zf,zf,zf,zf,zf] rfl rfl (by kernel_rfl) (fun _ _ _ h=>h) (Or.inl ⟨by rfl,?_⟩) ?_ ?_;rotate_left
    ·intro w';go_simp;with_reducible rfl
    rotate_left
    ·simp only [Act.put,zq1,zq2,zq3,i64_w,i32_w];rfl
    refine pure_ (i:=2) (N:=some 59) (v:=?_) (a':=?_) #[zt,zt,zt,zf,zf,zf,zf,zf,zf,zf,zf,zf,zf,zf] rfl rfl (by kernel_rfl) (fun _ _ _ h=>h) (Or.inl ⟨by rfl,?_⟩) ?_ ?_;rotate_left
    ·intro w';go_simp;with_reducible rfl
    rotate_left
    ·simp only [Act.put,zq1,zq2,zq3,i64_w,i32_w];rfl
    refine pure_ (i:=3) (N:=some 60) (v:=?_) (a':=?_) #[zt,zt,zt,zt,zf,zf,zf,zf,zf,zf,zf,zf,zf,zf] rfl rfl (by kernel_rfl) (fun _ _ _ h=>h) (Or.inl ⟨by rfl,?_⟩) ?_ ?_;rotate_left
    ·intro w';go_simp;with_reducible rfl
    rotate_left
    ·simp only [Act.put,zq1,zq2,zq3,i64_w,i32_w];rfl
    refine pure_ (i:=5) (N:=some 62) (v:=?_) (a':=?_) #[zt,zt,zt,zt,zf,zt,zf,zf,zf,zf,zf,zf,zf,zf] rfl rfl (by kernel_rfl) (fun _ _ _ h=>h) (Or.inl ⟨by rfl,?_⟩) ?_ ?_;rotate_left
    ·intro w';go_simp;with_reducible rfl
    rotate_left
    ·simp only [Act.put,zq1,zq2,zq3,i64_w,i32_w];rfl
    refine pure_ (i:=6) (N:=some 63) (v:=?_) (a':=?_) #[zt,zt,zt,zt,zf,zt,zt,zf,zf,zf,zf,zf,zf,zf] rfl rfl (by kernel_rfl) (fun _ _ _ h=>h) (Or.inl ⟨by rfl,?_⟩) ?_ ?_;rotate_left
    ·intro w';go_simp;with_reducible rfl
    rotate_left
    ·simp only [Act.put,zq1,zq2,zq3,i64_w,i32_w];rfl
    refine pure_ (i:=7) (N:=some 64) (v:=?_) (a':=?_) #[zt,zt,zt,zt,zf,zt,zt,zt,zf,zf,zf,zf,zf,zf] rfl rfl (by kernel_rfl) (fun _ _ _ h=>h) (Or.inl ⟨by rfl,?_⟩) ?_ ?_;rotate_left
    ·intro w';go_simp;with_reducible rfl
    rotate_left
    ·simp only [Act.put,zq1,zq2,zq3,i64_w,i32_w];rfl
    refine pure_ (i:=8) (N:=some 65) (v:=?_) (a':=?_) #[zt,zt,zt,zt,zf,zt,zt,zt,zt,zf,zf,zf,zf,zf] rfl rfl (by kernel_rfl) (fun _ _ _ h=>h) (Or.inl ⟨by rfl,?_⟩) ?_ ?_;rotate_left
    ·intro w';go_simp;with_reducible rfl
    rotate_left
    ·simp only [Act.put,zq1,zq2,zq3,i64_w,i32_w];rfl
    refine take_ (i:=4) (N:=some 61) (v:=?_) (a':=?_) #[zt,zt,zt,zt,zt,zt,zt,zt,zt,zf,zf,zf,zf,zf] rfl rfl (by kernel_rfl) (fun _ _ _ h=>h) (Or.inl ⟨by rfl,?_⟩) hHeld ?_ ?_;rotate_left
    ·rintro w' ⟨s0,s1,s2,s3,s4,s5,s6,s7,s8⟩;go_simp;with_reducible rfl
    rotate_left
    ·simp only [Act.put,zq1,zq2,zq3,i64_w,i32_w];rfl
    refine pure_ (i:=10) (N:=some 67) (v:=?_) (a':=?_) #[zt,zt,zt,zt,zt,zt,zt,zt,zt,zf,zt,zf,zf,zf] rfl rfl (by kernel_rfl) (fun _ _ _ h=>h) (Or.inl ⟨by rfl,?_⟩) ?_ ?_;rotate_left
    ·intro w';go_simp;with_reducible rfl
    rotate_left
    ·simp only [Act.put,zq1,zq2,zq3,i64_w,i32_w];rfl
    refine take_ (i:=9) (N:=some 66) (v:=?_) (a':=?_) #[zt,zt,zt,zt,zt,zt,zt,zt,zt,zt,zt,zf,zf,zf] rfl rfl (by kernel_rfl) (fun _ _ _ h=>h) (Or.inl ⟨by rfl,?_⟩) hHeld ?_ ?_;rotate_left
    ·rintro w' ⟨s0,s1,s2,s3,s4,s5,s6,s7,s8⟩;go_simp;with_reducible rfl
    rotate_left
    ·simp only [Act.put,zq1,zq2,zq3,i64_w,i32_w];rfl
    refine one_ (i:=11) (N:=none) #[zt,zt,zt,zt,zt,zt,zt,zt,zt,zt,zt,zt,zf,zf] rfl rfl (by kernel_rfl) (by decide) (fun K hK=>?_);refine step_store_mid rfl _ _ _ rfl bt 2 #[.int .u64 (rgT 0),.int .u64 (rgT 1),.int .u64 (rgT 2),.int .u64 (rgT 3),.int .u64 (rgT 4),.int .u64 (rgT 5),.int .u64 (rgT 6),.int .u64 (rgT 7)] rfl rfl HRG.out.1 (by kernel_rfl) (by simp [Value.oneCell']) rfl ?_;have HS11:=Aside0.mk HRG.out.2.1;have HQ11:=Aside0.mk HRG.out.2.2.1;have HB11:=Aside0.mk HRG.out.2.2.2.1;have HZ11:=Aside0.mk HRG.out.2.2.2.2;generalize wT.drew.setCells bt 2 (#[.int .u64 (rgT 0),.int .u64 (rgT 1),.int .u64 (rgT 2),.int .u64 (rgT 3),.int .u64 (rgT 4),.int .u64 (rgT 5),.int .u64 (rgT 6),.int .u64 (rgT 7)]:Array Value).toList=w11 at HS11 HQ11 HB11 HZ11 ⊢;have g10:w11.cell? ⟨bt,10,none⟩=some (.slice none 0 0):=(z01 HB11.out 10).trans rfl;have z10:=z02 HB11.out 10;refine hK.out _ _ ⟨(HS11.out.cell 8).trans rfl,(HS11.out.cell 9).trans rfl,(HS11.out.cell 10).trans rfl,(HS11.out.cell 11).trans rfl,(HS11.out.cell 12).trans rfl,(HS11.out.cell 13).trans rfl,(HS11.out.cell 14).trans rfl,(HS11.out.cell 15).trans rfl,(HS11.out.cell 16).trans rfl⟩ (fun hHeld=>?_);clear hK K;refine pure_ (i:=12) (N:=some 68) (v:=?_) (a':=?_) #[zt,zt,zt,zt,zt,zt,zt,zt,zt,zt,zt,zt,zt,zf] rfl rfl (by kernel_rfl) (fun _ _ _ h=>h) (Or.inl ⟨by rfl,?_⟩) ?_ ?_;rotate_left
    ·intro w';go_simp;with_reducible rfl
    rotate_left
    ·simp only [Act.put,zq1,zq2,zq3,i64_w,i32_w];rfl
    refine last_ (i:=13) (N:=none) #[zt,zt,zt,zt,zt,zt,zt,zt,zt,zt,zt,zt,zt,zt] rfl rfl (by kernel_rfl) (by decide) (fun K hK=>?_);refine skip_ (w1:=?_) (by rfl) rfl ?_ ?_;rotate_left
    ·go_simp;rfl
    refine hK.out _ _ ?_;clear hK K;refine done_ (by kernel_rfl) ?_;have HS12:=Aside0.mk (HS11.out.setT HT.out.tb 10 (.slice (some ⟨mb,0,none⟩) m m));have HQ12:=Aside0.mk (HQ11.out.fr (z1k w11 ⟨bt,10,none⟩ (.slice (some ⟨mb,0,none⟩) m m)) fun i hi (hh:i=bt)=>(HT.out.xs i hi).2.2.2.2.2.1 hh);have HB12:=Aside0.mk (z1v HB11.out 10 (.slice (some ⟨mb,0,none⟩) m m));have HZ12:=Aside0.mk (((z1k w11 ⟨bt,10,none⟩ (.slice (some ⟨mb,0,none⟩) m m)).block b6 (z0v HZ11.out) fun (hh:b6=bt)=>HT.out.ne hh.symm).trans HZ11.out);generalize w11.setCell ⟨bt,10,none⟩ (.slice (some ⟨mb,0,none⟩) m m)=w12 at HS12 HQ12 HB12 HZ12 ⊢;clear HS11 HQ11 HB11 HZ11 g10 z10 hHeld
    go_wp2_with (first|(refine wpList_load_row rfl 46 (.tmp 11) rfl bt rfl 46 (TrC (.slice ap l.length cp) _ rgT (.slice (some ⟨mb,0,none⟩) m m)) _ _ HB12.out rfl rfl (by kernel_rfl) ?_)|(refine wpList_store_row rfl 46 (.tmp 6) (.tmp 69) rfl b6 (TrC (.slice ap l.length cp) _ rgT (.slice (some ⟨mb,0,none⟩) m m)) rfl rfl 46 _ HZ12.out (by kernel_rfl) rfl (by simp [TrC,Value.oneCell']) ?_))
    refine bodyPost_ret (results_ct rfl _ _ b6 46 (TrC (.slice ap l.length cp) _ rgT (.slice (some ⟨mb,0,none⟩) m m)) _ _ rfl (setRow_heap _ _ _ _ _ _ HZ12.out) rfl rfl (by kernel_rfl)) rfl ?_;have hll:=HLL.out;have hnn:=HNN.out;have hkk:=hk.out;refine ⟨_,_,_,0,rgT,l,rfl,⟨_,_,_,rfl⟩,(HQ12.out.keep (by simp [World.setRow]) fun i hi hX=>setRow_other _ _ _ _ (HT.out.xs i hX).2.2.2.2.2.2).mono fun i _ hX=>(HT.out.xs i hX).1,below_setRow HS12.out.bel HT.out.zb.1 _,.inr (.inr ⟨HENC.out,by have:=HLEN.out;omega,rfl,by omega,by omega,tr,hT.out.1,hT.out.2.2.2⟩)⟩
  ·have hkd:decide ((k:Int) < (N:Int))=false:=decide_eq_false (by omega)
   go_upto_region 14 with (fail)
   have HT:=hR;clear hR;obtain ⟨rgT,rfl⟩:∃ q:Nat→Int,q=rg:=⟨_,rfl⟩;obtain ⟨wT,rfl⟩:∃ q:World,q=wo:=⟨_,rfl⟩;obtain ⟨ap,cp,rfl,_⟩:=HT.out.que.slice;have HRG:=Aside0.mk ((HT.out.below (z1e (Below.refl wT.heap.size wT))).regs rgT);refine z1i (n:=14) (S:=fun w'=>w'.cell? ⟨r,8,none⟩=some (.int .u64 (rgT 0))∧w'.cell? ⟨r,9,none⟩=some (.int .u64 (rgT 1))∧w'.cell? ⟨r,10,none⟩=some (.int .u64 (rgT 2))∧w'.cell? ⟨r,11,none⟩=some (.int .u64 (rgT 3))∧w'.cell? ⟨r,12,none⟩=some (.int .u64 (rgT 4))∧w'.cell? ⟨r,13,none⟩=some (.int .u64 (rgT 5))∧w'.cell? ⟨r,14,none⟩=some (.int .u64 (rgT 6))∧w'.cell? ⟨r,15,none⟩=some (.int .u64 (rgT 7))∧w'.cell? ⟨r,16,none⟩=some (.slice (some ⟨mb,0,none⟩) m m)) (ds:=[13]) #[zf,zf,zf,zf,zf,zf,zf,zf,zf,zf,zf,zf,zf,zf] (by kernel_rfl) rfl rfl ⟨(HT.out.st.cell 8).trans rfl,(HT.out.st.cell 9).trans rfl,(HT.out.st.cell 10).trans rfl,(HT.out.st.cell 11).trans rfl,(HT.out.st.cell 12).trans rfl,(HT.out.st.cell 13).trans rfl,(HT.out.st.cell 14).trans rfl,(HT.out.st.cell 15).trans rfl,(HT.out.st.cell 16).trans rfl⟩ (fun hHeld=>?_);refine pure_ (i:=0) (N:=some 57) (v:=?_) (a':=?_) #[zt,zf,zf,zf,zf,zf,zf,zf,zf,zf,zf,zf,zf,zf] rfl rfl (by kernel_rfl) (fun _ _ _ h=>h) (Or.inl ⟨by rfl,?_⟩) ?_ ?_;rotate_left
   ·intro w';go_simp;with_reducible rfl
   rotate_left
   ·simp only [Act.put,zq1,zq2,zq3,i64_w,i32_w];rfl
   refine pure_ (i:=1) (N:=some 58) (v:=?_) (a':=?_) #[zt,zt,zf,zf,zf,zf,zf,zf,zf,zf,zf,zf,zf,zf] rfl rfl (by kernel_rfl) (fun _ _ _ h=>h) (Or.inl ⟨by rfl,?_⟩) ?_ ?_;rotate_left
   ·intro w';go_simp;with_reducible rfl
   rotate_left
   ·simp only [Act.put,zq1,zq2,zq3,i64_w,i32_w];rfl
   refine pure_ (i:=2) (N:=some 59) (v:=?_) (a':=?_) #[zt,zt,zt,zf,zf,zf,zf,zf,zf,zf,zf,zf,zf,zf] rfl rfl (by kernel_rfl) (fun _ _ _ h=>h) (Or.inl ⟨by rfl,?_⟩) ?_ ?_;rotate_left
   ·intro w';go_simp;with_reducible rfl
   rotate_left
   ·simp only [Act.put,zq1,zq2,zq3,i64_w,i32_w];rfl
   refine pure_ (i:=3) (N:=some 60) (v:=?_) (a':=?_) #[zt,zt,zt,zt,zf,zf,zf,zf,zf,zf,zf,zf,zf,zf] rfl rfl (by kernel_rfl) (fun _ _ _ h=>h) (Or.inl ⟨by rfl,?_⟩) ?_ ?_;rotate_left
   ·intro w';go_simp;with_reducible rfl
   rotate_left
   ·simp only [Act.put,zq1,zq2,zq3,i64_w,i32_w];rfl
   refine pure_ (i:=5) (N:=some 62) (v:=?_) (a':=?_) #[zt,zt,zt,zt,zf,zt,zf,zf,zf,zf,zf,zf,zf,zf] rfl rfl (by kernel_rfl) (fun _ _ _ h=>h) (Or.inl ⟨by rfl,?_⟩) ?_ ?_;rotate_left
   ·intro w';go_simp;with_reducible rfl
   rotate_left
   ·simp only [Act.put,zq1,zq2,zq3,i64_w,i32_w];rfl
   refine pure_ (i:=6) (N:=some 63) (v:=?_) (a':=?_) #[zt,zt,zt,zt,zf,zt,zt,zf,zf,zf,zf,zf,zf,zf] rfl rfl (by kernel_rfl) (fun _ _ _ h=>h) (Or.inl ⟨by rfl,?_⟩) ?_ ?_;rotate_left
   ·intro w';go_simp;with_reducible rfl
   rotate_left
   ·simp only [Act.put,zq1,zq2,zq3,i64_w,i32_w];rfl
   refine pure_ (i:=7) (N:=some 64) (v:=?_) (a':=?_) #[zt,zt,zt,zt,zf,zt,zt,zt,zf,zf,zf,zf,zf,zf] rfl rfl (by kernel_rfl) (fun _ _ _ h=>h) (Or.inl ⟨by rfl,?_⟩) ?_ ?_;rotate_left
   ·intro w';go_simp;with_reducible rfl
   rotate_left
   ·simp only [Act.put,zq1,zq2,zq3,i64_w,i32_w];rfl
   refine pure_ (i:=8) (N:=some 65) (v:=?_) (a':=?_) #[zt,zt,zt,zt,zf,zt,zt,zt,zt,zf,zf,zf,zf,zf] rfl rfl (by kernel_rfl) (fun _ _ _ h=>h) (Or.inl ⟨by rfl,?_⟩) ?_ ?_;rotate_left
   ·intro w';go_simp;with_reducible rfl
   rotate_left
   ·simp only [Act.put,zq1,zq2,zq3,i64_w,i32_w];rfl
   refine take_ (i:=4) (N:=some 61) (v:=?_) (a':=?_) #[zt,zt,zt,zt,zt,zt,zt,zt,zt,zf,zf,zf,zf,zf] rfl rfl (by kernel_rfl) (fun _ _ _ h=>h) (Or.inl ⟨by rfl,?_⟩) hHeld ?_ ?_;rotate_left
   ·rintro w' ⟨s0,s1,s2,s3,s4,s5,s6,s7,s8⟩;go_simp;with_reducible rfl
   rotate_left
   ·simp only [Act.put,zq1,zq2,zq3,i64_w,i32_w];rfl
   refine pure_ (i:=10) (N:=some 67) (v:=?_) (a':=?_) #[zt,zt,zt,zt,zt,zt,zt,zt,zt,zf,zt,zf,zf,zf] rfl rfl (by kernel_rfl) (fun _ _ _ h=>h) (Or.inl ⟨by rfl,?_⟩) ?_ ?_;rotate_left
   ·intro w';go_simp;with_reducible rfl
   rotate_left
   ·simp only [Act.put,zq1,zq2,zq3,i64_w,i32_w];rfl
   refine take_ (i:=9) (N:=some 66) (v:=?_) (a':=?_) #[zt,zt,zt,zt,zt,zt,zt,zt,zt,zt,zt,zf,zf,zf] rfl rfl (by kernel_rfl) (fun _ _ _ h=>h) (Or.inl ⟨by rfl,?_⟩) hHeld ?_ ?_;rotate_left
   ·rintro w' ⟨s0,s1,s2,s3,s4,s5,s6,s7,s8⟩;go_simp;with_reducible rfl
   rotate_left
   ·simp only [Act.put,zq1,zq2,zq3,i64_w,i32_w];rfl
   refine one_ (i:=11) (N:=none) #[zt,zt,zt,zt,zt,zt,zt,zt,zt,zt,zt,zt,zf,zf] rfl rfl (by kernel_rfl) (by decide) (fun K hK=>?_);refine step_store_mid rfl _ _ _ rfl bt 2 #[.int .u64 (rgT 0),.int .u64 (rgT 1),.int .u64 (rgT 2),.int .u64 (rgT 3),.int .u64 (rgT 4),.int .u64 (rgT 5),.int .u64 (rgT 6),.int .u64 (rgT 7)] rfl rfl HRG.out.1 (by kernel_rfl) (by simp [Value.oneCell']) rfl ?_;have HS11:=Aside0.mk HRG.out.2.1;have HQ11:=Aside0.mk HRG.out.2.2.1;have HB11:=Aside0.mk HRG.out.2.2.2.1;have HZ11:=Aside0.mk HRG.out.2.2.2.2;generalize wT.drew.setCells bt 2 (#[.int .u64 (rgT 0),.int .u64 (rgT 1),.int .u64 (rgT 2),.int .u64 (rgT 3),.int .u64 (rgT 4),.int .u64 (rgT 5),.int .u64 (rgT 6),.int .u64 (rgT 7)]:Array Value).toList=w11 at HS11 HQ11 HB11 HZ11 ⊢;have g10:w11.cell? ⟨bt,10,none⟩=some (.slice none 0 0):=(z01 HB11.out 10).trans rfl;have z10:=z02 HB11.out 10;refine hK.out _ _ ⟨(HS11.out.cell 8).trans rfl,(HS11.out.cell 9).trans rfl,(HS11.out.cell 10).trans rfl,(HS11.out.cell 11).trans rfl,(HS11.out.cell 12).trans rfl,(HS11.out.cell 13).trans rfl,(HS11.out.cell 14).trans rfl,(HS11.out.cell 15).trans rfl,(HS11.out.cell 16).trans rfl⟩ (fun hHeld=>?_);clear hK K;refine pure_ (i:=12) (N:=some 68) (v:=?_) (a':=?_) #[zt,zt,zt,zt,zt,zt,zt,zt,zt,zt,zt,zt,zt,zf] rfl rfl (by kernel_rfl) (fun _ _ _ h=>h) (Or.inl ⟨by rfl,?_⟩) ?_ ?_;rotate_left
   ·intro w';go_simp;with_reducible rfl
   rotate_left
   ·simp only [Act.put,zq1,zq2,zq3,i64_w,i32_w];rfl
   refine last_ (i:=13) (N:=none) #[zt,zt,zt,zt,zt,zt,zt,zt,zt,zt,zt,zt,zt,zt] rfl rfl (by kernel_rfl) (by decide) (fun K hK=>?_);refine skip_ (w1:=?_) (by rfl) rfl ?_ ?_;rotate_left
   ·go_simp;rfl
   refine hK.out _ _ ?_;clear hK K;refine done_ (by kernel_rfl) ?_;have HS12:=Aside0.mk (HS11.out.setT HT.out.tb 10 (.slice (some ⟨mb,0,none⟩) m m));have HQ12:=Aside0.mk (HQ11.out.fr (z1k w11 ⟨bt,10,none⟩ (.slice (some ⟨mb,0,none⟩) m m)) fun i hi (hh:i=bt)=>(HT.out.xs i hi).2.2.2.2.2.1 hh);have HB12:=Aside0.mk (z1v HB11.out 10 (.slice (some ⟨mb,0,none⟩) m m));have HZ12:=Aside0.mk (((z1k w11 ⟨bt,10,none⟩ (.slice (some ⟨mb,0,none⟩) m m)).block b6 (z0v HZ11.out) fun (hh:b6=bt)=>HT.out.ne hh.symm).trans HZ11.out);generalize w11.setCell ⟨bt,10,none⟩ (.slice (some ⟨mb,0,none⟩) m m)=w12 at HS12 HQ12 HB12 HZ12 ⊢;clear HS11 HQ11 HB11 HZ11 g10 z10 hHeld
   go_wp2_with (first|(refine wpList_load_row rfl 46 (.tmp 11) rfl bt rfl 46 (TrC (.slice ap l.length cp) _ rgT (.slice (some ⟨mb,0,none⟩) m m)) _ _ HB12.out rfl rfl (by kernel_rfl) ?_)|(refine wpList_store_row rfl 46 (.tmp 6) (.tmp 69) rfl b6 (TrC (.slice ap l.length cp) _ rgT (.slice (some ⟨mb,0,none⟩) m m)) rfl rfl 46 _ HZ12.out (by kernel_rfl) rfl (by simp [TrC,Value.oneCell']) ?_))
   refine bodyPost_ret (results_ct rfl _ _ b6 46 (TrC (.slice ap l.length cp) _ rgT (.slice (some ⟨mb,0,none⟩) m m)) _ _ rfl (setRow_heap _ _ _ _ _ _ HZ12.out) rfl rfl (by kernel_rfl)) rfl ?_;have hll:=HLL.out;have hnn:=HNN.out;have hkk:=hk.out;refine ⟨_,_,_,0,rgT,l,rfl,⟨_,_,_,rfl⟩,(HQ12.out.keep (by simp [World.setRow]) fun i hi hX=>setRow_other _ _ _ _ (HT.out.xs i hX).2.2.2.2.2.2).mono fun i _ hX=>(HT.out.xs i hX).1,below_setRow HS12.out.bel HT.out.zb.1 _,.inr (.inr ⟨HENC.out,by have:=HLEN.out;omega,rfl,by omega,by omega,tr,hT.out.1,hT.out.2.2.2⟩)⟩
end Go.Proofs.YtcbnhfnnjkkceaaGreat.X
end
section
namespace Go.Proofs.YtcbnhfnnjkkceaaGreat.X
open Go.RowKit Go.Proofs.YtcbnhfnnjkkceaaGreatW.PrintWords Go.Proofs.YtcbnhfnnjkkceaaGreatW.PrintLast Go.Proofs.YtcbnhfnnjkkceaaGreatW.PrintMore
attribute [local go_sem] z1y z1z z2c z2d z1t z1s z21 z20
mutual
def z0k.j0:Nat→Int→Bool→Int→Int→Int→List Int→List Int→List (S79)→Option (Int)
 | 0,_,_,_,_,_,_,_,_=>none
 | k+1,x1,x15,xaa,xab,xac,xad,xae,xaf=>if x15=true then (some (-1)) else (z0k.l0 k x1 (-1) 0 xaa xab xac xad xae xaf)
def z0k.l0:Nat→Int→Int→Int→Int→Int→Int→List Int→List Int→List (S79)→Option (Int)
 | 0,_,_,_,_,_,_,_,_,_=>none
 | k+1,x1,x5,x6,xaa,xab,xac,xad,xae,xaf=>if x6 < (xae.length:Int) then (if 0≤x6 then (if (rd xae x6)≤x1 then (z0k.l0 k x1 x6 (wrap64 (x6+1)) xaa xab xac xad xae xaf) else (z0k.l0 k x1 x5 (wrap64 (x6+1)) xaa xab xac xad xae xaf)) else (none)) else (some x5)
end
def z0k.f (k:Nat) (a0_0:Int) (a0_1:Int) (a0_2:Int) (l0_3:List Int) (l0_4:List Int) (l0_5:List (S79)) (a1:Int):Option (Int):=if a1 < 0 then (z0k.j0 k a1 true a0_0 a0_1 a0_2 l0_3 l0_4 l0_5) else (z0k.j0 k a1 (decide (a1 ≥ (l0_5.length:Int))) a0_0 a0_1 a0_2 l0_3 l0_4 l0_5)
theorem z0k.mono_l:∀ k,(∀ y0 y1 y2 y3 y4 y5 y6 y7,LeO (z0k.j0 k y0 y1 y2 y3 y4 y5 y6 y7) (z0k.j0 (k+1) y0 y1 y2 y3 y4 y5 y6 y7))∧(∀ y0 y1 y2 y3 y4 y5 y6 y7 y8,LeO (z0k.l0 k y0 y1 y2 y3 y4 y5 y6 y7 y8) (z0k.l0 (k+1) y0 y1 y2 y3 y4 y5 y6 y7 y8))
 | 0=>⟨fun _ _ _ _ _ _ _ _ r h=>by simp [z0k.j0] at h,fun _ _ _ _ _ _ _ _ _ r h=>by simp [z0k.l0] at h⟩
 | k+1=>by
  obtain ⟨ih0,ih1⟩:=z0k.mono_l k;refine ⟨?_,?_⟩
  ·intro y0 y1 y2 y3 y4 y5 y6 y7;unfold z0k.j0
   repeat' first|exact ih0 _ _ _ _ _ _ _ _|exact ih1 _ _ _ _ _ _ _ _ _|exact LeO.none _|refine LeO.ite ?_ ?_|refine LeO.bind ?_ (fun _=>?_)|exact LeO.refl _
  ·intro y0 y1 y2 y3 y4 y5 y6 y7 y8;unfold z0k.l0
   repeat' first|exact ih0 _ _ _ _ _ _ _ _|exact ih1 _ _ _ _ _ _ _ _ _|exact LeO.none _|refine LeO.ite ?_ ?_|refine LeO.bind ?_ (fun _=>?_)|exact LeO.refl _
theorem z0k.mono:∀ a0 a1 a2 a3 a4 a5 a6 k,LeO (z0k.f k a0 a1 a2 a3 a4 a5 a6) (z0k.f (k+1) a0 a1 a2 a3 a4 a5 a6):=by
 intro a0 a1 a2 a3 a4 a5 a6 k;obtain ⟨ih0,ih1⟩:=z0k.mono_l k;unfold z0k.f
 repeat' first|exact ih0 _ _ _ _ _ _ _ _|exact ih1 _ _ _ _ _ _ _ _ _|exact LeO.none _|refine LeO.ite ?_ ?_|refine LeO.bind ?_ (fun _=>?_)|exact LeO.refl _
theorem z0k.calls (k:Nat) (a0_0:Int) (a0_1:Int) (a0_2:Int) (A0_3:Option Addr) (c0_3:Nat) (l0_3:List Int) (A0_4:Option Addr) (c0_4:Nat) (l0_4:List Int) (A0_5:Option Addr) (c0_5:Nat) (l0_5:List (S79)) (a1:Int) (r:Int) (w:World) (hr0_3:Kd.C (Kd.int .u8) w A0_3 l0_3.length l0_3) (hc0_3:l0_3.length≤c0_3) (hr0_4:Kd.C (Kd.int .i64) w A0_4 l0_4.length l0_4) (hc0_4:l0_4.length≤c0_4) (hr0_5:Kd.C k79 w A0_5 l0_5.length l0_5) (hc0_5:l0_5.length≤c0_5) (h:z0k.f k a0_0 a0_1 a0_2 l0_3 l0_4 l0_5 a1=some r) :
  Calls Tryz.prog 65 #[.agg #[.int .i64 a0_0,.int .i64 a0_1,.int .i64 a0_2,.slice A0_3 l0_3.length c0_3,.slice A0_4 l0_4.length c0_4,.slice A0_5 l0_5.length c0_5],.int .i64 a1] w fun e w'=>e=.returned (.int .i64 r)∧Below w.heap.size w w':=by
 have hu26:=Tryz.underlying26;have HR0_3:=Aside0.mk hr0_3;have HC0_3:=Aside0.mk hc0_3;clear hr0_3 hc0_3;have HR0_4:=Aside0.mk hr0_4;have HC0_4:=Aside0.mk hc0_4;clear hr0_4 hc0_4;have HR0_5:=Aside0.mk hr0_5;have HC0_5:=Aside0.mk hc0_5;clear hr0_5 hc0_5;have HB:=Aside0.mk (Below.refl w.heap.size w);have H:(if a1 < 0 then (z0k.j0 k a1 true a0_0 a0_1 a0_2 l0_3 l0_4 l0_5) else (z0k.j0 k a1 (decide (a1 ≥ (l0_5.length:Int))) a0_0 a0_1 a0_2 l0_3 l0_4 l0_5))=some r:=h;clear h;have HC3:=Aside0.mk H;clear H
 go_enter Tryz.func65,Tryz.ntmps65
 go_upto_region 1 with (first|((with_reducible refine z14 (N:=2) rfl ?_);(try (refine z27 (by rfl) ?_;dsimp only));refine z1b ?hg (N:=2) ?hd (cs:=#[.int .i64 a0_0,.int .i64 a0_1,.int .i64 a0_2,.slice A0_3 l0_3.length c0_3,.slice A0_4 l0_4.length c0_4,.slice A0_5 l0_5.length c0_5]) (t:=26) ?hr ?_;(case hd=>rfl);(case hg=>rfl);(case hr=>first|(go_simp;done)|(go_simp;rfl));intro gb216 hg w4 hbox hb;have n0_:=Aside0.mk (z0s (by repeat (first|exact HB.out|apply z04|apply z03|apply z05)) hb);have n1_:=Aside0.mk (hbox);have n2_:=Aside0.mk ((by rw [hg];exact (z0m (by repeat (first|exact HB.out|apply z04|apply z03|apply z05))):w.heap.size≤gb216));have n3_:=Aside0.mk ((by rw [hg];exact (z0m (by repeat (first|exact HB.out|apply z04|apply z03|apply z05))):w.heap.size≤gb216));clear HB;have HB:=n0_;have BK216:=n1_;have GW216:=n2_;have GE216:=n3_;clear n0_ n1_ n2_ n3_;clear hb hbox hg))
 (try simp only [Act.put,zq1,zq2,zq3])
 go_cut [15] (fun v15 wc=>∃ (kq:Nat) (x15_2:Bool),v15=.bool x15_2∧Aside0 (z0k.j0 kq a1 x15_2 a0_0 a0_1 a0_2 l0_3 l0_4 l0_5=some r)∧Aside0 (kq≤k)∧Aside0 (wc.heap[gb216]?=some (.cells #[.int .i64 a0_0,.int .i64 a0_1,.int .i64 a0_2,(.slice A0_3 l0_3.length c0_3),(.slice A0_4 l0_4.length c0_4),(.slice A0_5 l0_5.length c0_5)] 26 (0,0)))∧Aside0 (Below w.heap.size w wc))
 case first =>
  have H:=HC3.out;clear HC3
  by_cases c5:a1 < 0
  ·rw [if_pos c5] at H;have c5b0:decide (a1 < 0)=true:=decide_eq_true c5;clear c5
   (first|rw [c5b0]|(simp only [i64_w,i32_w];rw [c5b0])|skip)
   have H':=Aside0.mk H;clear H;go_wp2
   go_meet
   case rel=>exact ⟨_,(true),(by first|rfl|(simp;done)|(simp [*];done)),H',⟨by first|omega|exact Nat.le_refl _⟩,⟨by (with_reducible repeat (first|refine z08 ?_ _|refine z09 ?_|refine z06 ?_ _));exact BK216.out⟩,⟨by repeat (first|(with_reducible first|exact HB.out|apply z04|apply z03|apply z05|refine z07 ?_ GE216.out)|exact HB.out)⟩⟩
  ·rw [if_neg c5] at H;have c5b0:decide (a1 < 0)=false:=decide_eq_false c5;clear c5
   (first|rw [c5b0]|(simp only [i64_w,i32_w];rw [c5b0])|skip)
   have H':=Aside0.mk H;clear H;have hcz6_0:w4.cell? ⟨gb216,0,none⟩=some (.int .i64 a0_0):=(z01 BK216.out 0).trans rfl;have hcz6_1:w4.cell? ⟨gb216,1,none⟩=some (.int .i64 a0_1):=(z01 BK216.out 1).trans rfl;have hcz6_2:w4.cell? ⟨gb216,2,none⟩=some (.int .i64 a0_2):=(z01 BK216.out 2).trans rfl;have hcz6_3:w4.cell? ⟨gb216,3,none⟩=some (.slice A0_3 l0_3.length c0_3):=(z01 BK216.out 3).trans rfl;have hcz6_4:w4.cell? ⟨gb216,4,none⟩=some (.slice A0_4 l0_4.length c0_4):=(z01 BK216.out 4).trans rfl;have hcz6_5:w4.cell? ⟨gb216,5,none⟩=some (.slice A0_5 l0_5.length c0_5):=(z01 BK216.out 5).trans rfl;have hfz6_0:=z02 BK216.out 0;have hfz6_1:=z02 BK216.out 1;have hfz6_2:=z02 BK216.out 2;have hfz6_3:=z02 BK216.out 3;have hfz6_4:=z02 BK216.out 4;have hfz6_5:=z02 BK216.out 5;go_wp2
   go_meet
   case rel=>exact ⟨_,(decide (a1 ≥ (l0_5.length:Int))),(by first|rfl|(simp;done)|(simp [*];done)),H',⟨by first|omega|exact Nat.le_refl _⟩,⟨by (with_reducible repeat (first|refine z08 ?_ _|refine z09 ?_|refine z06 ?_ _));exact BK216.out⟩,⟨by repeat (first|(with_reducible first|exact HB.out|apply z04|apply z03|apply z05|refine z07 ?_ GE216.out)|exact HB.out)⟩⟩
 case rest =>
  clear HC3;obtain ⟨kq,x15_2,rfl,HA,HJ2,BK216,HB⟩:=hcut;cases kq with
  | zero=>exact absurd HA.out (by simp [z0k.j0])
  | succ kj2 =>
   have H:=HA.out;clear HA;simp only [z0k.j0] at H
   by_cases c7:x15_2=true
   ·subst c7;have H1:(some (-1))=some r:=(by rw [if_pos rfl] at H;exact H);clear H;have H:=H1;clear H1;obtain rfl:=Option.some.inj H;go_wp2;go_ret
    exact ⟨by first|rfl|(simp [z0j,z0i] <;> rfl)|(simp [*,z0j,z0i] <;> rfl),by repeat (first|(with_reducible first|exact HB.out|apply z04|apply z03|apply z05|refine z07 ?_ GE216.out)|exact HB.out)⟩
   ·replace c7:=Bool.eq_false_iff.mpr c7;subst c7;have H1:(z0k.l0 kj2 a1 (-1) 0 a0_0 a0_1 a0_2 l0_3 l0_4 l0_5)=some r:=(by rw [if_neg (show ¬ (false=true) by decide)] at H;exact H);clear H;have H:=H1;clear H1;have H':=Aside0.mk H;clear H;go_wp2
    go_loopg [5,6] kj2 (fun kq v5 v6 w'=>∃ (x5_2:Int) (x6_2:Int),v5=.int .i64 x5_2∧v6=.int .i64 x6_2∧Aside0 (z0k.l0 kq a1 x5_2 x6_2 a0_0 a0_1 a0_2 l0_3 l0_4 l0_5=some r)∧Aside0 (kq≤kj2)∧Aside0 (w'.heap[gb216]?=some (.cells #[.int .i64 a0_0,.int .i64 a0_1,.int .i64 a0_2,(.slice A0_3 l0_3.length c0_3),(.slice A0_4 l0_4.length c0_4),(.slice A0_5 l0_5.length c0_5)] 26 (0,0)))∧Aside0 (Below w.heap.size w w'))
    case atStart=>exact ⟨((-1)),(0),(by first|rfl|(simp;done)|(simp [*];done)),(by first|rfl|(simp;done)|(simp [*];done)),H',⟨Nat.le_refl _⟩,⟨by (with_reducible repeat (first|refine z08 ?_ _|refine z09 ?_|refine z06 ?_ _));exact BK216.out⟩,⟨by repeat (first|(with_reducible first|exact HB.out|apply z04|apply z03|apply z05|refine z07 ?_ GE216.out)|exact HB.out)⟩⟩
    case round =>
     clear H';obtain ⟨x5_2,x6_2,rfl,rfl,HA,HK2,BK216,HB⟩:=hrel;cases gk with
     | zero=>exact absurd HA.out (by simp [z0k.l0])
     | succ k2 =>
      have H:=HA.out;clear HA;simp only [z0k.l0] at H
      by_cases c8:x6_2 < (l0_4.length:Int)
      ·rw [if_pos c8] at H;have c8b0:decide (x6_2 < (l0_4.length:Int))=true:=decide_eq_true c8;clear c8
       by_cases c9:0≤x6_2
       ·rw [if_pos c9] at H;have c9b0:decide (0≤x6_2)=true:=decide_eq_true c9;clear c9
        by_cases c10:(rd l0_4 x6_2)≤a1
        ·rw [if_pos c10] at H;have c10b0:decide ((rd l0_4 x6_2)≤a1)=true:=decide_eq_true c10;clear c10;have H':=Aside0.mk H;clear H;have hcz11_0:wr.cell? ⟨gb216,0,none⟩=some (.int .i64 a0_0):=(z01 BK216.out 0).trans rfl;have hcz11_1:wr.cell? ⟨gb216,1,none⟩=some (.int .i64 a0_1):=(z01 BK216.out 1).trans rfl;have hcz11_2:wr.cell? ⟨gb216,2,none⟩=some (.int .i64 a0_2):=(z01 BK216.out 2).trans rfl;have hcz11_3:wr.cell? ⟨gb216,3,none⟩=some (.slice A0_3 l0_3.length c0_3):=(z01 BK216.out 3).trans rfl;have hcz11_4:wr.cell? ⟨gb216,4,none⟩=some (.slice A0_4 l0_4.length c0_4):=(z01 BK216.out 4).trans rfl;have hcz11_5:wr.cell? ⟨gb216,5,none⟩=some (.slice A0_5 l0_5.length c0_5):=(z01 BK216.out 5).trans rfl;have hfz11_0:=z02 BK216.out 0;have hfz11_1:=z02 BK216.out 1;have hfz11_2:=z02 BK216.out 2;have hfz11_3:=z02 BK216.out 3;have hfz11_4:=z02 BK216.out 4;have hfz11_5:=z02 BK216.out 5;have p217:0≤(x6_2:Int):=of_decide_eq_true (by assumption);have q217:x6_2 < (l0_4.length:Int):=of_decide_eq_true (by assumption);obtain ⟨ad217,e217,hx217_0⟩:=Kd.at_int HR0_4.out x6_2 p217 q217;cases e217;replace hx217_0:=(HB.out.cell (World.block_lt_of_cell? w _ hx217_0)).trans hx217_0;replace p217:=eq_true p217;replace q217:=eq_true q217;go_wp2
         go_roundg k2
         case measure=>have:=HJ2.out;have:=HK2.out;omega
         case rel=>exact ⟨(x6_2),(wrap64 (x6_2+1)),(by first|rfl|(simp;done)|(simp [*];done)),(by first|rfl|(simp;done)|(simp [*];done)),H',⟨by have:=HJ2.out;have:=HK2.out;omega⟩,⟨by (with_reducible repeat (first|refine z08 ?_ _|refine z09 ?_|refine z06 ?_ _));exact BK216.out⟩,⟨by repeat (first|(with_reducible first|exact HB.out|apply z04|apply z03|apply z05|refine z07 ?_ GE216.out)|exact HB.out)⟩⟩
        ·rw [if_neg c10] at H;have c10b0:decide ((rd l0_4 x6_2)≤a1)=false:=decide_eq_false c10;clear c10;have H':=Aside0.mk H;clear H;have hcz12_0:wr.cell? ⟨gb216,0,none⟩=some (.int .i64 a0_0):=(z01 BK216.out 0).trans rfl;have hcz12_1:wr.cell? ⟨gb216,1,none⟩=some (.int .i64 a0_1):=(z01 BK216.out 1).trans rfl;have hcz12_2:wr.cell? ⟨gb216,2,none⟩=some (.int .i64 a0_2):=(z01 BK216.out 2).trans rfl;have hcz12_3:wr.cell? ⟨gb216,3,none⟩=some (.slice A0_3 l0_3.length c0_3):=(z01 BK216.out 3).trans rfl;have hcz12_4:wr.cell? ⟨gb216,4,none⟩=some (.slice A0_4 l0_4.length c0_4):=(z01 BK216.out 4).trans rfl;have hcz12_5:wr.cell? ⟨gb216,5,none⟩=some (.slice A0_5 l0_5.length c0_5):=(z01 BK216.out 5).trans rfl;have hfz12_0:=z02 BK216.out 0;have hfz12_1:=z02 BK216.out 1;have hfz12_2:=z02 BK216.out 2;have hfz12_3:=z02 BK216.out 3;have hfz12_4:=z02 BK216.out 4;have hfz12_5:=z02 BK216.out 5;have p217:0≤(x6_2:Int):=of_decide_eq_true (by assumption);have q217:x6_2 < (l0_4.length:Int):=of_decide_eq_true (by assumption);obtain ⟨ad217,e217,hx217_0⟩:=Kd.at_int HR0_4.out x6_2 p217 q217;cases e217;replace hx217_0:=(HB.out.cell (World.block_lt_of_cell? w _ hx217_0)).trans hx217_0;replace p217:=eq_true p217;replace q217:=eq_true q217;go_wp2
         go_roundg k2
         case measure=>have:=HJ2.out;have:=HK2.out;omega
         case rel=>exact ⟨(x5_2),(wrap64 (x6_2+1)),(by first|rfl|(simp;done)|(simp [*];done)),(by first|rfl|(simp;done)|(simp [*];done)),H',⟨by have:=HJ2.out;have:=HK2.out;omega⟩,⟨by (with_reducible repeat (first|refine z08 ?_ _|refine z09 ?_|refine z06 ?_ _));exact BK216.out⟩,⟨by repeat (first|(with_reducible first|exact HB.out|apply z04|apply z03|apply z05|refine z07 ?_ GE216.out)|exact HB.out)⟩⟩
       ·rw [if_neg c9] at H;exact absurd H (by simp)
      ·rw [if_neg c8] at H;have c8b0:decide (x6_2 < (l0_4.length:Int))=false:=decide_eq_false c8;clear c8;obtain rfl:=Option.some.inj H;have hcz13_0:wr.cell? ⟨gb216,0,none⟩=some (.int .i64 a0_0):=(z01 BK216.out 0).trans rfl;have hcz13_1:wr.cell? ⟨gb216,1,none⟩=some (.int .i64 a0_1):=(z01 BK216.out 1).trans rfl;have hcz13_2:wr.cell? ⟨gb216,2,none⟩=some (.int .i64 a0_2):=(z01 BK216.out 2).trans rfl;have hcz13_3:wr.cell? ⟨gb216,3,none⟩=some (.slice A0_3 l0_3.length c0_3):=(z01 BK216.out 3).trans rfl;have hcz13_4:wr.cell? ⟨gb216,4,none⟩=some (.slice A0_4 l0_4.length c0_4):=(z01 BK216.out 4).trans rfl;have hcz13_5:wr.cell? ⟨gb216,5,none⟩=some (.slice A0_5 l0_5.length c0_5):=(z01 BK216.out 5).trans rfl;have hfz13_0:=z02 BK216.out 0;have hfz13_1:=z02 BK216.out 1;have hfz13_2:=z02 BK216.out 2;have hfz13_3:=z02 BK216.out 3;have hfz13_4:=z02 BK216.out 4;have hfz13_5:=z02 BK216.out 5;go_wp2;go_ret
       exact ⟨by first|rfl|(simp [z0j,z0i] <;> rfl)|(simp [*,z0j,z0i] <;> rfl),by repeat (first|(with_reducible first|exact HB.out|apply z04|apply z03|apply z05|refine z07 ?_ GE216.out)|exact HB.out)⟩
def z1n.f (a0:Int):Option (Bool):=if a0 ≥ 0 then (if a0≤25 then (if a0=0 then (some false) else (if a0=21 then (some false) else (if a0=24 then (some false) else (some (a0 != 25))))) else (some false)) else (some false)
theorem z1n.calls (a0:Int) (r:Bool) (w:World) (h:z1n.f a0=some r) :
  Calls Tryz.prog 86 #[.int .i64 a0] w fun e w'=>e=.returned (.bool r)∧Drawn0 w w':=by
 have H:(if a0 ≥ 0 then (if a0≤25 then (if a0=0 then (some false) else (if a0=21 then (some false) else (if a0=24 then (some false) else (some (a0 != 25))))) else (some false)) else (some false))=some r:=h;clear h
 by_cases c2:a0 ≥ 0
 ·rw [if_pos c2] at H;have c2b0:decide (0≤a0)=true:=decide_eq_true c2;clear c2
  by_cases c3:a0≤25
  ·rw [if_pos c3] at H;have c3b0:decide (a0≤25)=true:=decide_eq_true c3;clear c3
   by_cases c4:a0=0
   ·rw [if_pos c4] at H;have c4b0:(a0 == 0)=true:=beq_iff_eq.mpr c4;have c4b1:(a0 != 0)=false:=bne_eq_false_iff_eq.mpr c4;clear c4;obtain rfl:=Option.some.inj H
    go_enter Tryz.func86,Tryz.ntmps86
    go_wp2;go_ret
    exact ⟨by first|rfl|(simp;done)|(simp [*];done),by repeat (first|exact Drawn0.refl _|apply Drawn0.step)⟩
   ·rw [if_neg c4] at H;have c4b0:(a0 == 0)=false:=beq_eq_false_iff_ne.mpr c4;have c4b1:(a0 != 0)=true:=bne_iff_ne.mpr c4
    by_cases c5:a0=21
    ·rw [if_pos c5] at H;have c5b0:(a0 == 21)=true:=beq_iff_eq.mpr c5;have c5b1:(a0 != 21)=false:=bne_eq_false_iff_eq.mpr c5;clear c5;obtain rfl:=Option.some.inj H
     go_enter Tryz.func86,Tryz.ntmps86
     go_wp2;go_ret
     exact ⟨by first|rfl|(simp;done)|(simp [*];done),by repeat (first|exact Drawn0.refl _|apply Drawn0.step)⟩
    ·rw [if_neg c5] at H;have c5b0:(a0 == 21)=false:=beq_eq_false_iff_ne.mpr c5;have c5b1:(a0 != 21)=true:=bne_iff_ne.mpr c5
     by_cases c6:a0=24
     ·rw [if_pos c6] at H;have c6b0:(a0 == 24)=true:=beq_iff_eq.mpr c6;have c6b1:(a0 != 24)=false:=bne_eq_false_iff_eq.mpr c6;clear c6;obtain rfl:=Option.some.inj H
      go_enter Tryz.func86,Tryz.ntmps86
      go_wp2;go_ret
      exact ⟨by first|rfl|(simp;done)|(simp [*];done),by repeat (first|exact Drawn0.refl _|apply Drawn0.step)⟩
     ·rw [if_neg c6] at H;have c6b0:(a0 == 24)=false:=beq_eq_false_iff_ne.mpr c6;have c6b1:(a0 != 24)=true:=bne_iff_ne.mpr c6;obtain rfl:=Option.some.inj H
      go_enter Tryz.func86,Tryz.ntmps86
      go_wp2;go_ret
      exact ⟨by first|rfl|(simp;done)|(simp [*];done),by repeat (first|exact Drawn0.refl _|apply Drawn0.step)⟩
  ·rw [if_neg c3] at H;have c3b0:decide (a0≤25)=false:=decide_eq_false c3;clear c3;obtain rfl:=Option.some.inj H
   go_enter Tryz.func86,Tryz.ntmps86
   go_wp2;go_ret
   exact ⟨by first|rfl|(simp;done)|(simp [*];done),by repeat (first|exact Drawn0.refl _|apply Drawn0.step)⟩
 ·rw [if_neg c2] at H;have c2b0:decide (0≤a0)=false:=decide_eq_false c2;clear c2;obtain rfl:=Option.some.inj H
  go_enter Tryz.func86,Tryz.ntmps86
  go_wp2;go_ret
  exact ⟨by first|rfl|(simp;done)|(simp [*];done),by repeat (first|exact Drawn0.refl _|apply Drawn0.step)⟩
end Go.Proofs.YtcbnhfnnjkkceaaGreat.X
end
