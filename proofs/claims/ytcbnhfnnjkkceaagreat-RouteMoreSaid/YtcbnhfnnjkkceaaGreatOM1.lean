/- For the statement of the row : what its proof needs of the text M1. -/
import Derived.Test.YtcbnhfnnjkkceaaGreatProg
import Derived.Below
import Derived.Deep.Draws
import Derived.Deep.AppendLies
import Derived.Maps.AppendAt
import Derived.OwnWalk
import Derived.Laws.BytesArg
import Derived.Laws.MakeOwn
import Derived.Laws.OwnMore
import Derived.Deep.OwnRows
import Derived.Tactics
import Derived.Lib.ConvBytes
import Derived.Laws.Slices
import Derived.WalkKit
import Derived.KernelRfl
import Derived.RowKit3
import Derived.Deep.LoopGhost
import Derived.Deep.QuietTactic
import Derived.BigQuiet
import Derived.WideLaws
import Derived.Deep.DeepCutAuto
import Derived.Deep.CutBlock
import Derived.Deep.RegionHeld3
import Derived.Laws.Rows
import Derived.Lib.AppendStr
import Derived.ArgAppend
import Derived.Laws.IdiomCopy
import Derived.OrdersHeld
import Derived.Laws.BitsLemmas
import Derived.RowKit
import Derived.Test.YtcbnhfnnjkkceaaGreatOWWords
import Derived.Test.YtcbnhfnnjkkceaaGreatOWLast
import Derived.Test.YtcbnhfnnjkkceaaGreatOWTab
import Derived.Test.YtcbnhfnnjkkceaaGreatOWFour
import Derived.Test.YtcbnhfnnjkkceaaGreatOWApart
import Derived.Test.YtcbnhfnnjkkceaaGreatOWFoot
import Derived.Test.YtcbnhfnnjkkceaaGreatOWKept
import Derived.Test.YtcbnhfnnjkkceaaGreatOWShare
import Derived.Test.YtcbnhfnnjkkceaaGreatOWN
import Derived.Test.YtcbnhfnnjkkceaaGreatOWEqStruct
import Derived.Test.YtcbnhfnnjkkceaaGreatOWRepsOne
import Derived.Test.YtcbnhfnnjkkceaaGreatOWInv
import Derived.Test.YtcbnhfnnjkkceaaGreatOWGuard
import Derived.Test.YtcbnhfnnjkkceaaGreatOWMore
import Derived.Lib.LazyBuf
import Derived.OneCell
import Derived.Lib.Hide
import Derived.Laws.NewBlocks
set_option maxHeartbeats 8000000
set_option maxRecDepth 100000
set_option linter.unusedSimpArgs false
set_option linter.unusedVariables false

theorem Go.zqa (w:World) (n m:Nat):(w.drewN n).drewN m=w.drewN (n+m):=World.drewN_drewN w n m
theorem Go.zqb (w:World) (n m k:Nat):(w.drewN (n+m)).drewN k=w.drewN (n+(m+k)):=Eq.trans (World.drewN_drewN w (n+m) k) (congrArg (World.drewN _) (Nat.add_assoc _ _ _))
section
namespace Go.Proofs.YtcbnhfnnjkkceaaGreat.X
open Go.RowKit Go.Proofs.YtcbnhfnnjkkceaaGreatW.PrintWords Go.Proofs.YtcbnhfnnjkkceaaGreatW.PrintLast Go.Proofs.YtcbnhfnnjkkceaaGreatW.PrintMore
attribute [local go_sem] z1w z1x z23 z26 z1r z1q z1u z1v
def errW:Option Int→Value
 | none=>.nilIface
 | some c=>.iface 0 (.int .i64 c)
theorem z0k:errW none=.nilIface:=rfl
theorem z0j (c:Int):errW (some c)=.iface 0 (.int .i64 c):=rfl
theorem info3:(Tryz.prog.info? 3).map (fun i=>(i.zero,i.size,i.bytes))=some (some (.int .i64 0),1,8):=by kernel_rfl
theorem info5:(Tryz.prog.info? 5).map (fun i=>(i.zero,i.size,i.bytes))=some (some (.int .u8 0),1,1):=by kernel_rfl
structure S79 where
 f0:Int
 f1:Int
 f2:Int
 f3:Int
 f4:Int
def z79:S79:=⟨(0:Int),(0:Int),(0:Int),(0:Int),(0:Int)⟩
def k79:Kd S79:=Kd.iso (Kd.pair (Kd.int .i64) (Kd.pair (Kd.int .i64) (Kd.pair (Kd.int .i64) (Kd.pair (Kd.int .i64) (Kd.int .u64))))) (fun x:S79=>(x.f0,x.f1,x.f2,x.f3,x.f4))
theorem k79_open {w:World} {x:S79} {cs:List Value} (h:k79.K w x cs):cs=[.int .i64 x.f0,.int .i64 x.f1,.int .i64 x.f2,.int .i64 x.f3,.int .u64 x.f4]:=by
 obtain ⟨_,_,rfl,rfl,⟨_,_,rfl,rfl,⟨_,_,rfl,rfl,⟨_,_,rfl,rfl,rfl⟩⟩⟩⟩:=h;exact rfl
theorem k79_mk (w:World) (x:S79)  : k79.K w x [.int .i64 x.f0,.int .i64 x.f1,.int .i64 x.f2,.int .i64 x.f3,.int .u64 x.f4]:=⟨[.int .i64 x.f0],[.int .i64 x.f1,.int .i64 x.f2,.int .i64 x.f3,.int .u64 x.f4],rfl,rfl,⟨[.int .i64 x.f1],[.int .i64 x.f2,.int .i64 x.f3,.int .u64 x.f4],rfl,rfl,⟨[.int .i64 x.f2],[.int .i64 x.f3,.int .u64 x.f4],rfl,rfl,⟨[.int .i64 x.f3],[.int .u64 x.f4],rfl,rfl,rfl⟩⟩⟩⟩
theorem k79_mkM (w:World) (base:Nat) (ok:Nat→Prop) (x:S79)  : k79.M w base ok x [.int .i64 x.f0,.int .i64 x.f1,.int .i64 x.f2,.int .i64 x.f3,.int .u64 x.f4]:=⟨[.int .i64 x.f0],[.int .i64 x.f1,.int .i64 x.f2,.int .i64 x.f3,.int .u64 x.f4],rfl,rfl,⟨[.int .i64 x.f1],[.int .i64 x.f2,.int .i64 x.f3,.int .u64 x.f4],rfl,rfl,⟨[.int .i64 x.f2],[.int .i64 x.f3,.int .u64 x.f4],rfl,rfl,⟨[.int .i64 x.f3],[.int .u64 x.f4],rfl,rfl,rfl⟩⟩⟩⟩
def z0a (xs:List S79) (i:Int):S79:=xs.getD i.toNat z79
theorem at_T79 {w:World} {A:Option Addr} {n:Nat} {xs:List S79} (h:Kd.C k79 w A n xs) (i:Int) (h0:0≤i) (h1:i < n):∃ ad ,A=some ad∧w.cell? (ad.add (i.toNat * 5))=some (.int .i64 (z0a xs i).f0)∧w.cell? ⟨(ad.add (i.toNat * 5)).block,(ad.add (i.toNat * 5)).off+1,none⟩=some (.int .i64 (z0a xs i).f1)∧w.cell? ⟨(ad.add (i.toNat * 5)).block,(ad.add (i.toNat * 5)).off+2,none⟩=some (.int .i64 (z0a xs i).f2)∧w.cell? ⟨(ad.add (i.toNat * 5)).block,(ad.add (i.toNat * 5)).off+3,none⟩=some (.int .i64 (z0a xs i).f3)∧w.cell? ⟨(ad.add (i.toNat * 5)).block,(ad.add (i.toNat * 5)).off+4,none⟩=some (.int .u64 (z0a xs i).f4):=by
 obtain ⟨ad,c,e,_,hK,hc0⟩:=Kd.C_get h z79 i h0 h1;have hc:∀ j u,c[j]?=some u→w.cell? (ad.add (i.toNat * 5+j))=some u:=hc0;obtain rfl:=k79_open hK;exact ⟨ad,e,hc 0 _ rfl,by rw [← add_field _ _ 1 (by omega)];exact hc 1 _ rfl,by rw [← add_field _ _ 2 (by omega)];exact hc 2 _ rfl,by rw [← add_field _ _ 3 (by omega)];exact hc 3 _ rfl,by rw [← add_field _ _ 4 (by omega)];exact hc 4 _ rfl⟩
structure S166 where
 f0:ByteArray
 f1:Int
def z166:S166:=⟨(⟨#[]⟩:ByteArray),(0:Int)⟩
def k166:Kd S166:=Kd.iso (Kd.pair Kd.string (Kd.int .i64)) (fun x:S166=>(x.f0,x.f1))
theorem k166_open {w:World} {x:S166} {cs:List Value} (h:k166.K w x cs):cs=[.string x.f0,.int .i64 x.f1]:=by
 obtain ⟨_,_,rfl,rfl,rfl⟩:=h;exact rfl
theorem z1h (w:World) (base:Nat) (ok:Nat→Prop) (x:S166)  : k166.M w base ok x [.string x.f0,.int .i64 x.f1]:=⟨[.string x.f0],[.int .i64 x.f1],rfl,rfl,rfl⟩
def z17 (xs:List S166) (i:Int):S166:=xs.getD i.toNat z166
theorem at_T166 {w:World} {A:Option Addr} {n:Nat} {xs:List S166} (h:Kd.C k166 w A n xs) (i:Int) (h0:0≤i) (h1:i < n):∃ ad ,A=some ad∧w.cell? (ad.add (i.toNat * 2))=some (.string (z17 xs i).f0)∧w.cell? ⟨(ad.add (i.toNat * 2)).block,(ad.add (i.toNat * 2)).off+1,none⟩=some (.int .i64 (z17 xs i).f1):=by
 obtain ⟨ad,c,e,_,hK,hc0⟩:=Kd.C_get h z166 i h0 h1;have hc:∀ j u,c[j]?=some u→w.cell? (ad.add (i.toNat * 2+j))=some u:=hc0;obtain rfl:=k166_open hK;exact ⟨ad,e,hc 0 _ rfl,by rw [← add_field _ _ 1 (by omega)];exact hc 1 _ rfl⟩
def rd_L7 (xs:List (List Int)) (i:Int):(List Int):=xs.getD i.toNat ([]:List Int)
theorem at_L7 {w:World} {A:Option Addr} {n:Nat} {xs:List (List Int)} (h:Kd.C (Kd.slice 3 (Kd.int .i64)) w A n xs) (i:Int) (h0:0≤i) (h1:i < n):∃ ad A0 c0,A=some ad∧w.cell? (ad.add i.toNat)=some (.slice A0 (rd_L7 xs i).length c0)∧(rd_L7 xs i).length≤c0∧(Kd.int .i64).C w A0 (rd_L7 xs i).length (rd_L7 xs i):=by
 obtain ⟨ad,c,e,_,hK,hc0⟩:=Kd.C_get h ([]:List Int) i h0 h1;have hc:∀ j u,c[j]?=some u→w.cell? (ad.add (i.toNat * 1+j))=some u:=hc0;obtain ⟨A0,c0,rfl,l0,g0⟩:=hK;exact ⟨ad,A0,c0,e,by have hq:=hc 0 _ rfl;rwa [Nat.mul_one,Nat.add_zero] at hq,l0,g0⟩
structure S26 where
 f0:Int
 f1:Int
 f2:Int
 f3:(List Int)
 f4:(List Int)
 f5:(List S79)
theorem infoC_byte:(Tryz.prog.info? 5).map (fun i=>(i.zero,i.size,i.bytes))=some (some (.int .u8 0),1,1):=by kernel_rfl
set_option maxHeartbeats 1000000 in
theorem clone_byte (A:Option Addr) (cap:Nat) (c:List Int) (w:World) (hC:Kd.C (Kd.int .u8) w A c.length c) (hcap:c.length≤cap) (hl:c.length * 1≤140737488355328) :
  Calls Tryz.prog 82 #[.slice A c.length cap] w fun e w'=>∃ v,e=.returned v∧Kd.R (Kd.int .u8) 5 w' w.heap.size (fun _=>True) v c∧Below w.heap.size w w':=by
 cases A with
 | none =>
  have h0:c=[]:=by
   cases c with
   | nil=>rfl
   | cons x r =>
    obtain ⟨ad,e,_⟩:=hC.2.2 (by simp);cases e
  subst h0;have hq:=fun W=>run_eql_slice_nil (P:=Tryz.prog) W 22 5 none 0 cap Tryz.underlying22
  simp only [Option.isNone_none] at hq;simp only [List.length_nil]
  go_enter Tryz.func82,Tryz.ntmps82
  go_wp2;go_ret
  exact ⟨_,rfl,Kd.R_nil _ _ _ _ _,Below.refl _ _⟩
 | some ad =>
  have HC:=Aside0.mk hC;clear hC;have hq:=fun W=>run_eql_slice_nil (P:=Tryz.prog) W 22 5 (some ad) c.length cap Tryz.underlying22
  simp only [Option.isNone_some] at hq
  go_enter Tryz.func82,Tryz.ntmps82
  go_wp2_with (first
   | ((with_reducible refine z15 (N:=5) rfl ?_);refine Kd.R_lit (Kd.int .u8) w.heap.size 5 ?hg (N:=5) ?hd (w0:=w) (xs:=([]:List Int)) (inner:=[]) (ok:=fun _=>True) (okp:=fun _=>False) ?hr (Reps.none _ _) (fun _ h=>h.elim) trivial (Below.refl _ _) (Nat.le_refl _) (by simp) ?_;(case hd=>rfl);(case hg=>rfl);(case hr=>first|(go_simp;done)|(go_simp;rfl));intro v1 w1 hR1 hB1 hg1 hat1;have HR1:=Aside0.mk hR1;have HB1:=Aside0.mk hB1;clear hR1 hB1 hg1 hat1)
   | (at_builtin;refine Kd.R_append_rows (Kd.int .u8) (w0:=w) w.heap.size rfl _ _ 22 5 (.int .u8 0) 1 rfl Tryz.underlying22 infoC_byte rfl (by decide) (by omega) v1 [] c (some ad) c.length cap (fun _=>True) (fun _=>False) rfl rfl HR1.out (Kd.C_below HC.out HB1.out) ?hk (fun _ h=>h.elim) (fun _ _=>trivial) HB1.out HB1.out.size (by simp;omega) ?_;(case hk=>exact fun x cs hx=>hx);intro v2 w2 hR2 hB2 hg2 hat2;have HR2:=Aside0.mk hR2;have HB2:=Aside0.mk hB2;clear hR2 hB2 hg2 hat2)
   | go_in)
  go_ret
  exact ⟨_,rfl,by simpa using HR2.out,HB2.out⟩
theorem infoC_int:(Tryz.prog.info? 3).map (fun i=>(i.zero,i.size,i.bytes))=some (some (.int .i64 0),1,8):=by kernel_rfl
set_option maxHeartbeats 1000000 in
theorem clone_int (A:Option Addr) (cap:Nat) (c:List Int) (w:World) (hC:Kd.C (Kd.int .i64) w A c.length c) (hcap:c.length≤cap) (hl:c.length * 8≤140737488355328) :
  Calls Tryz.prog 83 #[.slice A c.length cap] w fun e w'=>∃ v,e=.returned v∧Kd.R (Kd.int .i64) 3 w' w.heap.size (fun _=>True) v c∧Below w.heap.size w w':=by
 cases A with
 | none =>
  have h0:c=[]:=by
   cases c with
   | nil=>rfl
   | cons x r =>
    obtain ⟨ad,e,_⟩:=hC.2.2 (by simp);cases e
  subst h0;have hq:=fun W=>run_eql_slice_nil (P:=Tryz.prog) W 23 3 none 0 cap Tryz.underlying23
  simp only [Option.isNone_none] at hq;simp only [List.length_nil]
  go_enter Tryz.func83,Tryz.ntmps83
  go_wp2;go_ret
  exact ⟨_,rfl,Kd.R_nil _ _ _ _ _,Below.refl _ _⟩
 | some ad =>
  have HC:=Aside0.mk hC;clear hC;have hq:=fun W=>run_eql_slice_nil (P:=Tryz.prog) W 23 3 (some ad) c.length cap Tryz.underlying23
  simp only [Option.isNone_some] at hq
  go_enter Tryz.func83,Tryz.ntmps83
  go_wp2_with (first
   | ((with_reducible refine z15 (N:=5) rfl ?_);refine Kd.R_lit (Kd.int .i64) w.heap.size 3 ?hg (N:=5) ?hd (w0:=w) (xs:=([]:List Int)) (inner:=[]) (ok:=fun _=>True) (okp:=fun _=>False) ?hr (Reps.none _ _) (fun _ h=>h.elim) trivial (Below.refl _ _) (Nat.le_refl _) (by simp) ?_;(case hd=>rfl);(case hg=>rfl);(case hr=>first|(go_simp;done)|(go_simp;rfl));intro v1 w1 hR1 hB1 hg1 hat1;have HR1:=Aside0.mk hR1;have HB1:=Aside0.mk hB1;clear hR1 hB1 hg1 hat1)
   | (at_builtin;refine Kd.R_append_rows (Kd.int .i64) (w0:=w) w.heap.size rfl _ _ 23 3 (.int .i64 0) 8 rfl Tryz.underlying23 infoC_int rfl (by decide) (by omega) v1 [] c (some ad) c.length cap (fun _=>True) (fun _=>False) rfl rfl HR1.out (Kd.C_below HC.out HB1.out) ?hk (fun _ h=>h.elim) (fun _ _=>trivial) HB1.out HB1.out.size (by simp;omega) ?_;(case hk=>exact fun x cs hx=>hx);intro v2 w2 hR2 hB2 hg2 hat2;have HR2:=Aside0.mk hR2;have HB2:=Aside0.mk hB2;clear hR2 hB2 hg2 hat2)
   | go_in)
  go_ret
  exact ⟨_,rfl,by simpa using HR2.out,HB2.out⟩
theorem infoC_ins:(Tryz.prog.info? 79).map (fun i=>(i.zero,i.size,i.bytes))=some (some (.agg #[.int .i64 0,.int .i64 0,.int .i64 0,.int .i64 0,.int .u64 0]),5,40):=by kernel_rfl
set_option maxHeartbeats 1000000 in
theorem clone_ins (A:Option Addr) (cap:Nat) (c:List S79) (w:World) (hC:Kd.C k79 w A c.length c) (hcap:c.length≤cap) (hl:c.length * 40≤140737488355328) :
  Calls Tryz.prog 84 #[.slice A c.length cap] w fun e w'=>∃ v,e=.returned v∧Kd.R k79 79 w' w.heap.size (fun _=>True) v c∧Below w.heap.size w w':=by
 cases A with
 | none =>
  have h0:c=[]:=by
   cases c with
   | nil=>rfl
   | cons x r =>
    obtain ⟨ad,e,_⟩:=hC.2.2 (by simp);cases e
  subst h0;have hq:=fun W=>run_eql_slice_nil (P:=Tryz.prog) W 24 79 none 0 cap Tryz.underlying24
  simp only [Option.isNone_none] at hq;simp only [List.length_nil]
  go_enter Tryz.func84,Tryz.ntmps84
  go_wp2;go_ret
  exact ⟨_,rfl,Kd.R_nil _ _ _ _ _,Below.refl _ _⟩
 | some ad =>
  have HC:=Aside0.mk hC;clear hC;have hq:=fun W=>run_eql_slice_nil (P:=Tryz.prog) W 24 79 (some ad) c.length cap Tryz.underlying24
  simp only [Option.isNone_some] at hq
  go_enter Tryz.func84,Tryz.ntmps84
  go_wp2_with (first
   | ((with_reducible refine z15 (N:=5) rfl ?_);refine Kd.R_lit k79 w.heap.size 79 ?hg (N:=5) ?hd (w0:=w) (xs:=([]:List S79)) (inner:=[]) (ok:=fun _=>True) (okp:=fun _=>False) ?hr (Reps.none _ _) (fun _ h=>h.elim) trivial (Below.refl _ _) (Nat.le_refl _) (by simp) ?_;(case hd=>rfl);(case hg=>rfl);(case hr=>first|(go_simp;done)|(go_simp;rfl));intro v1 w1 hR1 hB1 hg1 hat1;have HR1:=Aside0.mk hR1;have HB1:=Aside0.mk hB1;clear hR1 hB1 hg1 hat1)
   | (at_builtin;refine Kd.R_append_rows k79 (w0:=w) w.heap.size rfl _ _ 24 79 (.agg #[.int .i64 0,.int .i64 0,.int .i64 0,.int .i64 0,.int .u64 0]) 40 rfl Tryz.underlying24 infoC_ins rfl (by decide) (by omega) v1 [] c (some ad) c.length cap (fun _=>True) (fun _=>False) rfl rfl HR1.out (Kd.C_below HC.out HB1.out) ?hk (fun _ h=>h.elim) (fun _ _=>trivial) HB1.out HB1.out.size (by simp;omega) ?_;(case hk=>exact fun x cs hx=>by obtain rfl:=k79_open hx;exact k79_mkM _ _ _ x);intro v2 w2 hR2 hB2 hg2 hat2;have HR2:=Aside0.mk hR2;have HB2:=Aside0.mk hB2;clear hR2 hB2 hg2 hat2)
   | go_in)
  go_ret
  exact ⟨_,rfl,by simpa using HR2.out,HB2.out⟩
attribute [local go_sem] z1w z1x z23 z26 z1r z1q z1u z1v
def z31.f (a0_0:Int) (a0_1:Int) (a0_2:Int) (l0_3:List Int) (l0_4:List Int) (l0_5:List (S79)) (a1:Int):Option (Int × Int):=if (wrap64 (a1+1)) < (l0_4.length:Int) then (if 0≤a1 then (if a1 < (l0_4.length:Int) then (if 0≤(wrap64 (a1+1)) then (some (rd l0_4 a1,rd l0_4 (wrap64 (a1+1)))) else (none)) else (none)) else (none)) else (if 0≤a1 then (if a1 < (l0_4.length:Int) then (some (rd l0_4 a1,(l0_5.length:Int))) else (none)) else (none))
theorem z31.calls (a0_0:Int) (a0_1:Int) (a0_2:Int) (A0_3:Option Addr) (c0_3:Nat) (l0_3:List Int) (A0_4:Option Addr) (c0_4:Nat) (l0_4:List Int) (A0_5:Option Addr) (c0_5:Nat) (l0_5:List (S79)) (a1:Int) (r1:Int) (r2:Int) (w:World) (hr0_3:Kd.C (Kd.int .u8) w A0_3 l0_3.length l0_3) (hc0_3:l0_3.length≤c0_3) (hr0_4:Kd.C (Kd.int .i64) w A0_4 l0_4.length l0_4) (hc0_4:l0_4.length≤c0_4) (hr0_5:Kd.C k79 w A0_5 l0_5.length l0_5) (hc0_5:l0_5.length≤c0_5) (h:z31.f a0_0 a0_1 a0_2 l0_3 l0_4 l0_5 a1=some (r1,r2)) :
  Calls Tryz.prog 106 #[.agg #[.int .i64 a0_0,.int .i64 a0_1,.int .i64 a0_2,.slice A0_3 l0_3.length c0_3,.slice A0_4 l0_4.length c0_4,.slice A0_5 l0_5.length c0_5],.int .i64 a1] w fun e w'=>e=.returned (.tuple #[.int .i64 r1,.int .i64 r2])∧Below w.heap.size w w':=by
 have hu26:=Tryz.underlying26;have HR0_3:=Aside0.mk hr0_3;have HC0_3:=Aside0.mk hc0_3;clear hr0_3 hc0_3;have HR0_4:=Aside0.mk hr0_4;have HC0_4:=Aside0.mk hc0_4;clear hr0_4 hc0_4;have HR0_5:=Aside0.mk hr0_5;have HC0_5:=Aside0.mk hc0_5;clear hr0_5 hc0_5;have HB:=Aside0.mk (Below.refl w.heap.size w);have H:(if (wrap64 (a1+1)) < (l0_4.length:Int) then (if 0≤a1 then (if a1 < (l0_4.length:Int) then (if 0≤(wrap64 (a1+1)) then (some (rd l0_4 a1,rd l0_4 (wrap64 (a1+1)))) else (none)) else (none)) else (none)) else (if 0≤a1 then (if a1 < (l0_4.length:Int) then (some (rd l0_4 a1,(l0_5.length:Int))) else (none)) else (none)))=some (r1,r2):=h;clear h
 by_cases c3:(wrap64 (a1+1)) < (l0_4.length:Int)
 ·rw [if_pos c3] at H;have c3b0:decide ((wrap64 (a1+1)) < (l0_4.length:Int))=true:=decide_eq_true c3;clear c3
  by_cases c4:0≤a1
  ·rw [if_pos c4] at H;have c4b0:decide (0≤a1)=true:=decide_eq_true c4;clear c4
   by_cases c5:a1 < (l0_4.length:Int)
   ·rw [if_pos c5] at H;have c5b0:decide (a1 < (l0_4.length:Int))=true:=decide_eq_true c5;clear c5;obtain ⟨ji6,hji6⟩:∃ j_:Int,(wrap64 (a1+1))=j_:=⟨_,rfl⟩;replace H:(if 0≤(ji6) then (some (rd l0_4 a1,rd l0_4 (ji6))) else (none))=some (r1,r2):=by first|(rw [hji6] at H;exact H)|(simp only [hji6] at H ⊢;exact H)
    (try rw [hji6] at c3b0)
    have hji6w:(IntKind.i64.wrap (a1+1))=ji6:=(i64_w _).trans hji6
    by_cases c7:0≤(ji6)
    ·rw [if_pos c7] at H;have c7b0:decide (0≤(ji6))=true:=decide_eq_true c7;clear c7;simp only [Option.some.injEq,Prod.mk.injEq] at H;obtain ⟨rfl,rfl⟩:=H
     go_enter Tryz.func106,Tryz.ntmps106
     go_wp2_with (first|((with_reducible refine z15 (N:=2) rfl ?_);refine z1e ?hg (N:=2) ?hd (cs:=#[.int .i64 a0_0,.int .i64 a0_1,.int .i64 a0_2,.slice A0_3 l0_3.length c0_3,.slice A0_4 l0_4.length c0_4,.slice A0_5 l0_5.length c0_5]) (t:=26) ?hr ?_;(case hd=>rfl);(case hg=>rfl);(case hr=>first|(go_simp;done)|(go_simp;rfl));intro gb429 hg w8 hbox hb;have n0_:=Aside0.mk (z0t (by repeat (first|exact HB.out|apply z04|apply z03|apply z05)) hb);have n1_:=Aside0.mk (hbox);have n2_:=Aside0.mk ((by rw [hg];exact (z0o (by repeat (first|exact HB.out|apply z04|apply z03|apply z05))):w.heap.size≤gb429));have n3_:=Aside0.mk ((by rw [hg];exact (z0o (by repeat (first|exact HB.out|apply z04|apply z03|apply z05))):w.heap.size≤gb429));clear HB;have HB:=n0_;have BK429:=n1_;have GW429:=n2_;have GE429:=n3_;clear n0_ n1_ n2_ n3_;clear hb hbox hg;have hcz9_0:w8.cell? ⟨gb429,0,none⟩=some (.int .i64 a0_0):=(z01 BK429.out 0).trans rfl;have hcz9_1:w8.cell? ⟨gb429,1,none⟩=some (.int .i64 a0_1):=(z01 BK429.out 1).trans rfl;have hcz9_2:w8.cell? ⟨gb429,2,none⟩=some (.int .i64 a0_2):=(z01 BK429.out 2).trans rfl;have hcz9_3:w8.cell? ⟨gb429,3,none⟩=some (.slice A0_3 l0_3.length c0_3):=(z01 BK429.out 3).trans rfl;have hcz9_4:w8.cell? ⟨gb429,4,none⟩=some (.slice A0_4 l0_4.length c0_4):=(z01 BK429.out 4).trans rfl;have hcz9_5:w8.cell? ⟨gb429,5,none⟩=some (.slice A0_5 l0_5.length c0_5):=(z01 BK429.out 5).trans rfl;have hfz9_0:=z02 BK429.out 0;have hfz9_1:=z02 BK429.out 1;have hfz9_2:=z02 BK429.out 2;have hfz9_3:=z02 BK429.out 3;have hfz9_4:=z02 BK429.out 4;have hfz9_5:=z02 BK429.out 5;have p430:0≤(a1:Int):=of_decide_eq_true (by assumption);have q430:a1 < (l0_4.length:Int):=of_decide_eq_true (by assumption);obtain ⟨ad430,e430,hx430_0⟩:=Kd.at_int HR0_4.out a1 p430 q430;cases e430;replace hx430_0:=(HB.out.cell (World.block_lt_of_cell? w _ hx430_0)).trans hx430_0;replace p430:=eq_true p430;replace q430:=eq_true q430;have p431:0≤((ji6):Int):=of_decide_eq_true (by assumption);have q431:(ji6) < (l0_4.length:Int):=of_decide_eq_true (by assumption);obtain ⟨ad431,e431,hx431_0⟩:=Kd.at_int HR0_4.out (ji6) p431 q431;obtain rfl:ad430=ad431:=(by injection e431);replace hx431_0:=(HB.out.cell (World.block_lt_of_cell? w _ hx431_0)).trans hx431_0;replace p431:=eq_true p431;replace q431:=eq_true q431))
     repeat (go_quiet (first|((with_reducible refine z15 (N:=2) rfl ?_);refine z1e ?hg (N:=2) ?hd (cs:=#[.int .i64 a0_0,.int .i64 a0_1,.int .i64 a0_2,.slice A0_3 l0_3.length c0_3,.slice A0_4 l0_4.length c0_4,.slice A0_5 l0_5.length c0_5]) (t:=26) ?hr ?_;(case hd=>rfl);(case hg=>rfl);(case hr=>first|(go_simp;done)|(go_simp;rfl));intro gb429 hg w8 hbox hb;have n0_:=Aside0.mk (z0t (by repeat (first|exact HB.out|apply z04|apply z03|apply z05)) hb);have n1_:=Aside0.mk (hbox);have n2_:=Aside0.mk ((by rw [hg];exact (z0o (by repeat (first|exact HB.out|apply z04|apply z03|apply z05))):w.heap.size≤gb429));have n3_:=Aside0.mk ((by rw [hg];exact (z0o (by repeat (first|exact HB.out|apply z04|apply z03|apply z05))):w.heap.size≤gb429));clear HB;have HB:=n0_;have BK429:=n1_;have GW429:=n2_;have GE429:=n3_;clear n0_ n1_ n2_ n3_;clear hb hbox hg;have hcz9_0:w8.cell? ⟨gb429,0,none⟩=some (.int .i64 a0_0):=(z01 BK429.out 0).trans rfl;have hcz9_1:w8.cell? ⟨gb429,1,none⟩=some (.int .i64 a0_1):=(z01 BK429.out 1).trans rfl;have hcz9_2:w8.cell? ⟨gb429,2,none⟩=some (.int .i64 a0_2):=(z01 BK429.out 2).trans rfl;have hcz9_3:w8.cell? ⟨gb429,3,none⟩=some (.slice A0_3 l0_3.length c0_3):=(z01 BK429.out 3).trans rfl;have hcz9_4:w8.cell? ⟨gb429,4,none⟩=some (.slice A0_4 l0_4.length c0_4):=(z01 BK429.out 4).trans rfl;have hcz9_5:w8.cell? ⟨gb429,5,none⟩=some (.slice A0_5 l0_5.length c0_5):=(z01 BK429.out 5).trans rfl;have hfz9_0:=z02 BK429.out 0;have hfz9_1:=z02 BK429.out 1;have hfz9_2:=z02 BK429.out 2;have hfz9_3:=z02 BK429.out 3;have hfz9_4:=z02 BK429.out 4;have hfz9_5:=z02 BK429.out 5;have p430:0≤(a1:Int):=of_decide_eq_true (by assumption);have q430:a1 < (l0_4.length:Int):=of_decide_eq_true (by assumption);obtain ⟨ad430,e430,hx430_0⟩:=Kd.at_int HR0_4.out a1 p430 q430;cases e430;replace hx430_0:=(HB.out.cell (World.block_lt_of_cell? w _ hx430_0)).trans hx430_0;replace p430:=eq_true p430;replace q430:=eq_true q430;have p431:0≤((ji6):Int):=of_decide_eq_true (by assumption);have q431:(ji6) < (l0_4.length:Int):=of_decide_eq_true (by assumption);obtain ⟨ad431,e431,hx431_0⟩:=Kd.at_int HR0_4.out (ji6) p431 q431;obtain rfl:ad430=ad431:=(by injection e431);replace hx431_0:=(HB.out.cell (World.block_lt_of_cell? w _ hx431_0)).trans hx431_0;replace p431:=eq_true p431;replace q431:=eq_true q431));try go_wp2_with (first|((with_reducible refine z15 (N:=2) rfl ?_);refine z1e ?hg (N:=2) ?hd (cs:=#[.int .i64 a0_0,.int .i64 a0_1,.int .i64 a0_2,.slice A0_3 l0_3.length c0_3,.slice A0_4 l0_4.length c0_4,.slice A0_5 l0_5.length c0_5]) (t:=26) ?hr ?_;(case hd=>rfl);(case hg=>rfl);(case hr=>first|(go_simp;done)|(go_simp;rfl));intro gb429 hg w8 hbox hb;have n0_:=Aside0.mk (z0t (by repeat (first|exact HB.out|apply z04|apply z03|apply z05)) hb);have n1_:=Aside0.mk (hbox);have n2_:=Aside0.mk ((by rw [hg];exact (z0o (by repeat (first|exact HB.out|apply z04|apply z03|apply z05))):w.heap.size≤gb429));have n3_:=Aside0.mk ((by rw [hg];exact (z0o (by repeat (first|exact HB.out|apply z04|apply z03|apply z05))):w.heap.size≤gb429));clear HB;have HB:=n0_;have BK429:=n1_;have GW429:=n2_;have GE429:=n3_;clear n0_ n1_ n2_ n3_;clear hb hbox hg;have hcz9_0:w8.cell? ⟨gb429,0,none⟩=some (.int .i64 a0_0):=(z01 BK429.out 0).trans rfl;have hcz9_1:w8.cell? ⟨gb429,1,none⟩=some (.int .i64 a0_1):=(z01 BK429.out 1).trans rfl;have hcz9_2:w8.cell? ⟨gb429,2,none⟩=some (.int .i64 a0_2):=(z01 BK429.out 2).trans rfl;have hcz9_3:w8.cell? ⟨gb429,3,none⟩=some (.slice A0_3 l0_3.length c0_3):=(z01 BK429.out 3).trans rfl;have hcz9_4:w8.cell? ⟨gb429,4,none⟩=some (.slice A0_4 l0_4.length c0_4):=(z01 BK429.out 4).trans rfl;have hcz9_5:w8.cell? ⟨gb429,5,none⟩=some (.slice A0_5 l0_5.length c0_5):=(z01 BK429.out 5).trans rfl;have hfz9_0:=z02 BK429.out 0;have hfz9_1:=z02 BK429.out 1;have hfz9_2:=z02 BK429.out 2;have hfz9_3:=z02 BK429.out 3;have hfz9_4:=z02 BK429.out 4;have hfz9_5:=z02 BK429.out 5;have p430:0≤(a1:Int):=of_decide_eq_true (by assumption);have q430:a1 < (l0_4.length:Int):=of_decide_eq_true (by assumption);obtain ⟨ad430,e430,hx430_0⟩:=Kd.at_int HR0_4.out a1 p430 q430;cases e430;replace hx430_0:=(HB.out.cell (World.block_lt_of_cell? w _ hx430_0)).trans hx430_0;replace p430:=eq_true p430;replace q430:=eq_true q430;have p431:0≤((ji6):Int):=of_decide_eq_true (by assumption);have q431:(ji6) < (l0_4.length:Int):=of_decide_eq_true (by assumption);obtain ⟨ad431,e431,hx431_0⟩:=Kd.at_int HR0_4.out (ji6) p431 q431;obtain rfl:ad430=ad431:=(by injection e431);replace hx431_0:=(HB.out.cell (World.block_lt_of_cell? w _ hx431_0)).trans hx431_0;replace p431:=eq_true p431;replace q431:=eq_true q431)))
     go_ret2
     exact ⟨by first|rfl|(simp [z0k,z0j] <;> rfl)|(simp only [← hji6];first|rfl|(simp [z0k,z0j] <;> rfl))|(simp [*,z0k,z0j] <;> rfl),by repeat (first|(with_reducible first|exact HB.out|apply z04|apply z03|apply z05|refine z07 ?_ GE429.out)|exact HB.out)⟩
    ·rw [if_neg c7] at H;exact absurd H (by simp)
   ·rw [if_neg c5] at H;exact absurd H (by simp)
  ·rw [if_neg c4] at H;exact absurd H (by simp)
 ·rw [if_neg c3] at H;have c3b0:decide ((wrap64 (a1+1)) < (l0_4.length:Int))=false:=decide_eq_false c3;clear c3
  by_cases c10:0≤a1
  ·rw [if_pos c10] at H;have c10b0:decide (0≤a1)=true:=decide_eq_true c10;clear c10
   by_cases c11:a1 < (l0_4.length:Int)
   ·rw [if_pos c11] at H;have c11b0:decide (a1 < (l0_4.length:Int))=true:=decide_eq_true c11;clear c11;simp only [Option.some.injEq,Prod.mk.injEq] at H;obtain ⟨rfl,rfl⟩:=H
    go_enter Tryz.func106,Tryz.ntmps106
    go_wp2_with (first|((with_reducible refine z15 (N:=2) rfl ?_);refine z1e ?hg (N:=2) ?hd (cs:=#[.int .i64 a0_0,.int .i64 a0_1,.int .i64 a0_2,.slice A0_3 l0_3.length c0_3,.slice A0_4 l0_4.length c0_4,.slice A0_5 l0_5.length c0_5]) (t:=26) ?hr ?_;(case hd=>rfl);(case hg=>rfl);(case hr=>first|(go_simp;done)|(go_simp;rfl));intro gb429 hg w12 hbox hb;have n0_:=Aside0.mk (z0t (by repeat (first|exact HB.out|apply z04|apply z03|apply z05)) hb);have n1_:=Aside0.mk (hbox);have n2_:=Aside0.mk ((by rw [hg];exact (z0o (by repeat (first|exact HB.out|apply z04|apply z03|apply z05))):w.heap.size≤gb429));have n3_:=Aside0.mk ((by rw [hg];exact (z0o (by repeat (first|exact HB.out|apply z04|apply z03|apply z05))):w.heap.size≤gb429));clear HB;have HB:=n0_;have BK429:=n1_;have GW429:=n2_;have GE429:=n3_;clear n0_ n1_ n2_ n3_;clear hb hbox hg;have hcz13_0:w12.cell? ⟨gb429,0,none⟩=some (.int .i64 a0_0):=(z01 BK429.out 0).trans rfl;have hcz13_1:w12.cell? ⟨gb429,1,none⟩=some (.int .i64 a0_1):=(z01 BK429.out 1).trans rfl;have hcz13_2:w12.cell? ⟨gb429,2,none⟩=some (.int .i64 a0_2):=(z01 BK429.out 2).trans rfl;have hcz13_3:w12.cell? ⟨gb429,3,none⟩=some (.slice A0_3 l0_3.length c0_3):=(z01 BK429.out 3).trans rfl;have hcz13_4:w12.cell? ⟨gb429,4,none⟩=some (.slice A0_4 l0_4.length c0_4):=(z01 BK429.out 4).trans rfl;have hcz13_5:w12.cell? ⟨gb429,5,none⟩=some (.slice A0_5 l0_5.length c0_5):=(z01 BK429.out 5).trans rfl;have hfz13_0:=z02 BK429.out 0;have hfz13_1:=z02 BK429.out 1;have hfz13_2:=z02 BK429.out 2;have hfz13_3:=z02 BK429.out 3;have hfz13_4:=z02 BK429.out 4;have hfz13_5:=z02 BK429.out 5;have p432:0≤(a1:Int):=of_decide_eq_true (by assumption);have q432:a1 < (l0_4.length:Int):=of_decide_eq_true (by assumption);obtain ⟨ad432,e432,hx432_0⟩:=Kd.at_int HR0_4.out a1 p432 q432;cases e432;replace hx432_0:=(HB.out.cell (World.block_lt_of_cell? w _ hx432_0)).trans hx432_0;replace p432:=eq_true p432;replace q432:=eq_true q432))
    repeat (go_quiet (first|((with_reducible refine z15 (N:=2) rfl ?_);refine z1e ?hg (N:=2) ?hd (cs:=#[.int .i64 a0_0,.int .i64 a0_1,.int .i64 a0_2,.slice A0_3 l0_3.length c0_3,.slice A0_4 l0_4.length c0_4,.slice A0_5 l0_5.length c0_5]) (t:=26) ?hr ?_;(case hd=>rfl);(case hg=>rfl);(case hr=>first|(go_simp;done)|(go_simp;rfl));intro gb429 hg w12 hbox hb;have n0_:=Aside0.mk (z0t (by repeat (first|exact HB.out|apply z04|apply z03|apply z05)) hb);have n1_:=Aside0.mk (hbox);have n2_:=Aside0.mk ((by rw [hg];exact (z0o (by repeat (first|exact HB.out|apply z04|apply z03|apply z05))):w.heap.size≤gb429));have n3_:=Aside0.mk ((by rw [hg];exact (z0o (by repeat (first|exact HB.out|apply z04|apply z03|apply z05))):w.heap.size≤gb429));clear HB;have HB:=n0_;have BK429:=n1_;have GW429:=n2_;have GE429:=n3_;clear n0_ n1_ n2_ n3_;clear hb hbox hg;have hcz13_0:w12.cell? ⟨gb429,0,none⟩=some (.int .i64 a0_0):=(z01 BK429.out 0).trans rfl;have hcz13_1:w12.cell? ⟨gb429,1,none⟩=some (.int .i64 a0_1):=(z01 BK429.out 1).trans rfl;have hcz13_2:w12.cell? ⟨gb429,2,none⟩=some (.int .i64 a0_2):=(z01 BK429.out 2).trans rfl;have hcz13_3:w12.cell? ⟨gb429,3,none⟩=some (.slice A0_3 l0_3.length c0_3):=(z01 BK429.out 3).trans rfl;have hcz13_4:w12.cell? ⟨gb429,4,none⟩=some (.slice A0_4 l0_4.length c0_4):=(z01 BK429.out 4).trans rfl;have hcz13_5:w12.cell? ⟨gb429,5,none⟩=some (.slice A0_5 l0_5.length c0_5):=(z01 BK429.out 5).trans rfl;have hfz13_0:=z02 BK429.out 0;have hfz13_1:=z02 BK429.out 1;have hfz13_2:=z02 BK429.out 2;have hfz13_3:=z02 BK429.out 3;have hfz13_4:=z02 BK429.out 4;have hfz13_5:=z02 BK429.out 5;have p432:0≤(a1:Int):=of_decide_eq_true (by assumption);have q432:a1 < (l0_4.length:Int):=of_decide_eq_true (by assumption);obtain ⟨ad432,e432,hx432_0⟩:=Kd.at_int HR0_4.out a1 p432 q432;cases e432;replace hx432_0:=(HB.out.cell (World.block_lt_of_cell? w _ hx432_0)).trans hx432_0;replace p432:=eq_true p432;replace q432:=eq_true q432));try go_wp2_with (first|((with_reducible refine z15 (N:=2) rfl ?_);refine z1e ?hg (N:=2) ?hd (cs:=#[.int .i64 a0_0,.int .i64 a0_1,.int .i64 a0_2,.slice A0_3 l0_3.length c0_3,.slice A0_4 l0_4.length c0_4,.slice A0_5 l0_5.length c0_5]) (t:=26) ?hr ?_;(case hd=>rfl);(case hg=>rfl);(case hr=>first|(go_simp;done)|(go_simp;rfl));intro gb429 hg w12 hbox hb;have n0_:=Aside0.mk (z0t (by repeat (first|exact HB.out|apply z04|apply z03|apply z05)) hb);have n1_:=Aside0.mk (hbox);have n2_:=Aside0.mk ((by rw [hg];exact (z0o (by repeat (first|exact HB.out|apply z04|apply z03|apply z05))):w.heap.size≤gb429));have n3_:=Aside0.mk ((by rw [hg];exact (z0o (by repeat (first|exact HB.out|apply z04|apply z03|apply z05))):w.heap.size≤gb429));clear HB;have HB:=n0_;have BK429:=n1_;have GW429:=n2_;have GE429:=n3_;clear n0_ n1_ n2_ n3_;clear hb hbox hg;have hcz13_0:w12.cell? ⟨gb429,0,none⟩=some (.int .i64 a0_0):=(z01 BK429.out 0).trans rfl;have hcz13_1:w12.cell? ⟨gb429,1,none⟩=some (.int .i64 a0_1):=(z01 BK429.out 1).trans rfl;have hcz13_2:w12.cell? ⟨gb429,2,none⟩=some (.int .i64 a0_2):=(z01 BK429.out 2).trans rfl;have hcz13_3:w12.cell? ⟨gb429,3,none⟩=some (.slice A0_3 l0_3.length c0_3):=(z01 BK429.out 3).trans rfl;have hcz13_4:w12.cell? ⟨gb429,4,none⟩=some (.slice A0_4 l0_4.length c0_4):=(z01 BK429.out 4).trans rfl;have hcz13_5:w12.cell? ⟨gb429,5,none⟩=some (.slice A0_5 l0_5.length c0_5):=(z01 BK429.out 5).trans rfl;have hfz13_0:=z02 BK429.out 0;have hfz13_1:=z02 BK429.out 1;have hfz13_2:=z02 BK429.out 2;have hfz13_3:=z02 BK429.out 3;have hfz13_4:=z02 BK429.out 4;have hfz13_5:=z02 BK429.out 5;have p432:0≤(a1:Int):=of_decide_eq_true (by assumption);have q432:a1 < (l0_4.length:Int):=of_decide_eq_true (by assumption);obtain ⟨ad432,e432,hx432_0⟩:=Kd.at_int HR0_4.out a1 p432 q432;cases e432;replace hx432_0:=(HB.out.cell (World.block_lt_of_cell? w _ hx432_0)).trans hx432_0;replace p432:=eq_true p432;replace q432:=eq_true q432)))
    go_ret2
    exact ⟨by first|rfl|(simp [z0k,z0j] <;> rfl)|(simp [*,z0k,z0j] <;> rfl),by repeat (first|(with_reducible first|exact HB.out|apply z04|apply z03|apply z05|refine z07 ?_ GE429.out)|exact HB.out)⟩
   ·rw [if_neg c11] at H;exact absurd H (by simp)
  ·rw [if_neg c10] at H;exact absurd H (by simp)
attribute [local go_sem] z1w z1x z23 z26 z1r z1q z1u z1v
def z0q.f (a0:Int) (a1:Int) (a2:Int):Option (Bool):=if a0 ≥ a1 then (some (decide (a0≤a2))) else (some false)
theorem z0q.calls (a0:Int) (a1:Int) (a2:Int) (r:Bool) (w:World) (h:z0q.f a0 a1 a2=some r) :
  Calls Tryz.prog 100 #[.int .i64 a0,.int .i64 a1,.int .i64 a2] w fun e w'=>e=.returned (.bool r)∧Drawn0 w w':=by
 have H:(if a0 ≥ a1 then (some (decide (a0≤a2))) else (some false))=some r:=h;clear h
 by_cases c4:a0 ≥ a1
 ·rw [if_pos c4] at H;have c4b0:decide (a1≤a0)=true:=decide_eq_true c4;clear c4;obtain rfl:=Option.some.inj H
  go_enter Tryz.func100,Tryz.ntmps100
  go_wp2;go_ret
  exact ⟨by first|rfl|(simp;done)|(simp [*];done),by repeat (first|exact Drawn0.refl _|apply Drawn0.step)⟩
 ·rw [if_neg c4] at H;have c4b0:decide (a1≤a0)=false:=decide_eq_false c4;clear c4;obtain rfl:=Option.some.inj H
  go_enter Tryz.func100,Tryz.ntmps100
  go_wp2;go_ret
  exact ⟨by first|rfl|(simp;done)|(simp [*];done),by repeat (first|exact Drawn0.refl _|apply Drawn0.step)⟩
mutual
def z0n.j0:Nat→Bool→Int→Int→Int→List Int→List Int→List (S79)→Option (Bool)
 | 0,_,_,_,_,_,_,_=>none
 | k+1,x42,xaa,xab,xac,xad,xae,xaf=>if x42=true then (some false) else (if 1≤(xae.length:Int) then (z0n.l0 k (xae.drop 1) ((xae.drop 1).length:Int) 0 xaa xab xac xad xae xaf) else (none))
def z0n.l0:Nat→List Int→Int→Int→Int→Int→Int→List Int→List Int→List (S79)→Option (Bool)
 | 0,_,_,_,_,_,_,_,_,_=>none
 | k+1,x45,x46,x47,xaa,xab,xac,xad,xae,xaf=>if x47 < x46 then (if 0≤x47 then (if x47 < (x45.length:Int) then (if x47 < (xae.length:Int) then (if (rd x45 x47)≤(rd xae x47) then (some false) else (z0n.l0 k x45 x46 (wrap64 (x47+1)) xaa xab xac xad xae xaf)) else (none)) else (none)) else (none)) else (if 0≤(wrap64 ((xae.length:Int) - 1)) then (if (wrap64 ((xae.length:Int) - 1)) < (xae.length:Int) then ((z0q.f (xaf.length:Int) (wrap64 ((rd xae (wrap64 ((xae.length:Int) - 1)))+1)) 256).bind fun t111=>(some t111)) else (none)) else (none))
end
def z0n.f (k:Nat) (a0_0:Int) (a0_1:Int) (a0_2:Int) (l0_3:List Int) (l0_4:List Int) (l0_5:List (S79)):Option (Bool):=(z0q.f a0_0 0 64).bind fun t102=>(if t102=true then ((z0q.f a0_1 0 16).bind fun t103=>(if t103=true then ((z0q.f a0_2 0 16).bind fun t104=>(if t104=true then (if (l0_3.length:Int) > a0_0 then (z0n.j0 k true a0_0 a0_1 a0_2 l0_3 l0_4 l0_5) else ((z0q.f (l0_4.length:Int) 1 16).bind fun t105=>(if t105=true then (if 0 < (l0_4.length:Int) then (z0n.j0 k ((rd l0_4 0) != 0) a0_0 a0_1 a0_2 l0_3 l0_4 l0_5) else (none)) else (z0n.j0 k true a0_0 a0_1 a0_2 l0_3 l0_4 l0_5)))) else (z0n.j0 k true a0_0 a0_1 a0_2 l0_3 l0_4 l0_5))) else (z0n.j0 k true a0_0 a0_1 a0_2 l0_3 l0_4 l0_5))) else (z0n.j0 k true a0_0 a0_1 a0_2 l0_3 l0_4 l0_5))
theorem z0n.mono_l:∀ k,(∀ y0 y1 y2 y3 y4 y5 y6,LeO (z0n.j0 k y0 y1 y2 y3 y4 y5 y6) (z0n.j0 (k+1) y0 y1 y2 y3 y4 y5 y6))∧(∀ y0 y1 y2 y3 y4 y5 y6 y7 y8,LeO (z0n.l0 k y0 y1 y2 y3 y4 y5 y6 y7 y8) (z0n.l0 (k+1) y0 y1 y2 y3 y4 y5 y6 y7 y8))
 | 0=>⟨fun _ _ _ _ _ _ _ r h=>by simp [z0n.j0] at h,fun _ _ _ _ _ _ _ _ _ r h=>by simp [z0n.l0] at h⟩
 | k+1=>by
  obtain ⟨ih0,ih1⟩:=z0n.mono_l k;refine ⟨?_,?_⟩
  ·intro y0 y1 y2 y3 y4 y5 y6;unfold z0n.j0
   repeat' first|exact ih0 _ _ _ _ _ _ _|exact ih1 _ _ _ _ _ _ _ _ _|exact LeO.none _|refine LeO.ite ?_ ?_|refine LeO.bind ?_ (fun _=>?_)|exact LeO.refl _
  ·intro y0 y1 y2 y3 y4 y5 y6 y7 y8;unfold z0n.l0
   repeat' first|exact ih0 _ _ _ _ _ _ _|exact ih1 _ _ _ _ _ _ _ _ _|exact LeO.none _|refine LeO.ite ?_ ?_|refine LeO.bind ?_ (fun _=>?_)|exact LeO.refl _
theorem z0n.mono:∀ a0 a1 a2 a3 a4 a5 k,LeO (z0n.f k a0 a1 a2 a3 a4 a5) (z0n.f (k+1) a0 a1 a2 a3 a4 a5):=by
 intro a0 a1 a2 a3 a4 a5 k;obtain ⟨ih0,ih1⟩:=z0n.mono_l k;unfold z0n.f
 repeat' first|exact ih0 _ _ _ _ _ _ _|exact ih1 _ _ _ _ _ _ _ _ _|exact LeO.none _|refine LeO.ite ?_ ?_|refine LeO.bind ?_ (fun _=>?_)|exact LeO.refl _
theorem z0n.calls (k:Nat) (a0_0:Int) (a0_1:Int) (a0_2:Int) (A0_3:Option Addr) (c0_3:Nat) (l0_3:List Int) (A0_4:Option Addr) (c0_4:Nat) (l0_4:List Int) (A0_5:Option Addr) (c0_5:Nat) (l0_5:List (S79)) (r:Bool) (w:World) (hr0_3:Kd.C (Kd.int .u8) w A0_3 l0_3.length l0_3) (hc0_3:l0_3.length≤c0_3) (hr0_4:Kd.C (Kd.int .i64) w A0_4 l0_4.length l0_4) (hc0_4:l0_4.length≤c0_4) (hr0_5:Kd.C k79 w A0_5 l0_5.length l0_5) (hc0_5:l0_5.length≤c0_5) (h:z0n.f k a0_0 a0_1 a0_2 l0_3 l0_4 l0_5=some r) :
  Calls Tryz.prog 79 #[.agg #[.int .i64 a0_0,.int .i64 a0_1,.int .i64 a0_2,.slice A0_3 l0_3.length c0_3,.slice A0_4 l0_4.length c0_4,.slice A0_5 l0_5.length c0_5]] w fun e w'=>e=.returned (.bool r)∧Below w.heap.size w w':=by
 have hu26:=Tryz.underlying26;have HR0_3:=Aside0.mk hr0_3;have HC0_3:=Aside0.mk hc0_3;clear hr0_3 hc0_3;have HR0_4:=Aside0.mk hr0_4;have HC0_4:=Aside0.mk hc0_4;clear hr0_4 hc0_4;have HR0_5:=Aside0.mk hr0_5;have HC0_5:=Aside0.mk hc0_5;clear hr0_5 hc0_5;have HB:=Aside0.mk (Below.refl w.heap.size w);have H:((z0q.f a0_0 0 64).bind fun t102=>(if t102=true then ((z0q.f a0_1 0 16).bind fun t103=>(if t103=true then ((z0q.f a0_2 0 16).bind fun t104=>(if t104=true then (if (l0_3.length:Int) > a0_0 then (z0n.j0 k true a0_0 a0_1 a0_2 l0_3 l0_4 l0_5) else ((z0q.f (l0_4.length:Int) 1 16).bind fun t105=>(if t105=true then (if 0 < (l0_4.length:Int) then (z0n.j0 k ((rd l0_4 0) != 0) a0_0 a0_1 a0_2 l0_3 l0_4 l0_5) else (none)) else (z0n.j0 k true a0_0 a0_1 a0_2 l0_3 l0_4 l0_5)))) else (z0n.j0 k true a0_0 a0_1 a0_2 l0_3 l0_4 l0_5))) else (z0n.j0 k true a0_0 a0_1 a0_2 l0_3 l0_4 l0_5))) else (z0n.j0 k true a0_0 a0_1 a0_2 l0_3 l0_4 l0_5)))=some r:=h;clear h;have HC2:=Aside0.mk H;clear H
 go_enter Tryz.func79,Tryz.ntmps79
 go_upto_region 1 with (first|((with_reducible refine z15 (N:=1) rfl ?_);(try (refine z20 (by rfl) ?_;dsimp only));refine z1e ?hg (N:=1) ?hd (cs:=#[.int .i64 a0_0,.int .i64 a0_1,.int .i64 a0_2,.slice A0_3 l0_3.length c0_3,.slice A0_4 l0_4.length c0_4,.slice A0_5 l0_5.length c0_5]) (t:=26) ?hr ?_;(case hd=>rfl);(case hg=>rfl);(case hr=>first|(go_simp;done)|(go_simp;rfl));intro gb101 hg w3 hbox hb;have n0_:=Aside0.mk (z0t (by repeat (first|exact HB.out|apply z04|apply z03|apply z05)) hb);have n1_:=Aside0.mk (hbox);have n2_:=Aside0.mk ((by rw [hg];exact (z0o (by repeat (first|exact HB.out|apply z04|apply z03|apply z05))):w.heap.size≤gb101));have n3_:=Aside0.mk ((by rw [hg];exact (z0o (by repeat (first|exact HB.out|apply z04|apply z03|apply z05))):w.heap.size≤gb101));clear HB;have HB:=n0_;have BK101:=n1_;have GW101:=n2_;have GE101:=n3_;clear n0_ n1_ n2_ n3_;clear hb hbox hg))
 repeat (go_quiet (first|((with_reducible refine z15 (N:=1) rfl ?_);(try (refine z20 (by rfl) ?_;dsimp only));refine z1e ?hg (N:=1) ?hd (cs:=#[.int .i64 a0_0,.int .i64 a0_1,.int .i64 a0_2,.slice A0_3 l0_3.length c0_3,.slice A0_4 l0_4.length c0_4,.slice A0_5 l0_5.length c0_5]) (t:=26) ?hr ?_;(case hd=>rfl);(case hg=>rfl);(case hr=>first|(go_simp;done)|(go_simp;rfl));intro gb101 hg w3 hbox hb;have n0_:=Aside0.mk (z0t (by repeat (first|exact HB.out|apply z04|apply z03|apply z05)) hb);have n1_:=Aside0.mk (hbox);have n2_:=Aside0.mk ((by rw [hg];exact (z0o (by repeat (first|exact HB.out|apply z04|apply z03|apply z05))):w.heap.size≤gb101));have n3_:=Aside0.mk ((by rw [hg];exact (z0o (by repeat (first|exact HB.out|apply z04|apply z03|apply z05))):w.heap.size≤gb101));clear HB;have HB:=n0_;have BK101:=n1_;have GW101:=n2_;have GE101:=n3_;clear n0_ n1_ n2_ n3_;clear hb hbox hg));go_upto_region 1 with (first|((with_reducible refine z15 (N:=1) rfl ?_);(try (refine z20 (by rfl) ?_;dsimp only));refine z1e ?hg (N:=1) ?hd (cs:=#[.int .i64 a0_0,.int .i64 a0_1,.int .i64 a0_2,.slice A0_3 l0_3.length c0_3,.slice A0_4 l0_4.length c0_4,.slice A0_5 l0_5.length c0_5]) (t:=26) ?hr ?_;(case hd=>rfl);(case hg=>rfl);(case hr=>first|(go_simp;done)|(go_simp;rfl));intro gb101 hg w3 hbox hb;have n0_:=Aside0.mk (z0t (by repeat (first|exact HB.out|apply z04|apply z03|apply z05)) hb);have n1_:=Aside0.mk (hbox);have n2_:=Aside0.mk ((by rw [hg];exact (z0o (by repeat (first|exact HB.out|apply z04|apply z03|apply z05))):w.heap.size≤gb101));have n3_:=Aside0.mk ((by rw [hg];exact (z0o (by repeat (first|exact HB.out|apply z04|apply z03|apply z05))):w.heap.size≤gb101));clear HB;have HB:=n0_;have BK101:=n1_;have GW101:=n2_;have GE101:=n3_;clear n0_ n1_ n2_ n3_;clear hb hbox hg)))
 (try simp only [Act.put,zq1,zq2,zq3])
 go_cut [42] (fun v42 wc=>∃ (kq:Nat) (x42_1:Bool),v42=.bool x42_1∧Aside0 (z0n.j0 kq x42_1 a0_0 a0_1 a0_2 l0_3 l0_4 l0_5=some r)∧Aside0 (kq≤k)∧Aside0 (wc.heap[gb101]?=some (.cells #[.int .i64 a0_0,.int .i64 a0_1,.int .i64 a0_2,(.slice A0_3 l0_3.length c0_3),(.slice A0_4 l0_4.length c0_4),(.slice A0_5 l0_5.length c0_5)] 26 (0,0)))∧Aside0 (Below w.heap.size w wc))
 case first =>
  have H:=HC2.out;clear HC2;replace H:=Option.bind_eq_some_iff.mp H;obtain ⟨t102,A40,H⟩:=H;skip;have A4:=Aside0.mk A40;clear A40
  by_cases c5:t102=true
  ·subst c5;rw [if_pos rfl] at H;replace H:=Option.bind_eq_some_iff.mp H;obtain ⟨t103,A60,H⟩:=H;skip;have A6:=Aside0.mk A60;clear A60
   by_cases c7:t103=true
   ·subst c7;have H1:((z0q.f a0_2 0 16).bind fun t104=>(if t104=true then (if (l0_3.length:Int) > a0_0 then (z0n.j0 k true a0_0 a0_1 a0_2 l0_3 l0_4 l0_5) else ((z0q.f (l0_4.length:Int) 1 16).bind fun t105=>(if t105=true then (if 0 < (l0_4.length:Int) then (z0n.j0 k ((rd l0_4 0) != 0) a0_0 a0_1 a0_2 l0_3 l0_4 l0_5) else (none)) else (z0n.j0 k true a0_0 a0_1 a0_2 l0_3 l0_4 l0_5)))) else (z0n.j0 k true a0_0 a0_1 a0_2 l0_3 l0_4 l0_5)))=some r:=(by rw [if_pos rfl] at H;exact H);clear H;have H:=H1;clear H1;replace H:=Option.bind_eq_some_iff.mp H;obtain ⟨t104,A80,H⟩:=H;skip;have A8:=Aside0.mk A80;clear A80
    by_cases c9:t104=true
    ·subst c9;have H1:(if (l0_3.length:Int) > a0_0 then (z0n.j0 k true a0_0 a0_1 a0_2 l0_3 l0_4 l0_5) else ((z0q.f (l0_4.length:Int) 1 16).bind fun t105=>(if t105=true then (if 0 < (l0_4.length:Int) then (z0n.j0 k ((rd l0_4 0) != 0) a0_0 a0_1 a0_2 l0_3 l0_4 l0_5) else (none)) else (z0n.j0 k true a0_0 a0_1 a0_2 l0_3 l0_4 l0_5))))=some r:=(by rw [if_pos rfl] at H;exact H);clear H;have H:=H1;clear H1
     by_cases c10:(l0_3.length:Int) > a0_0
     ·rw [if_pos c10] at H;have c10b0:decide (a0_0 < (l0_3.length:Int))=true:=decide_eq_true c10;clear c10
      (first|rw [c10b0]|(simp only [i64_w,i32_w];rw [c10b0])|skip)
      have H':=Aside0.mk H;clear H;have hcz11_0:w3.cell? ⟨gb101,0,none⟩=some (.int .i64 a0_0):=(z01 BK101.out 0).trans rfl;have hcz11_1:w3.cell? ⟨gb101,1,none⟩=some (.int .i64 a0_1):=(z01 BK101.out 1).trans rfl;have hcz11_2:w3.cell? ⟨gb101,2,none⟩=some (.int .i64 a0_2):=(z01 BK101.out 2).trans rfl;have hcz11_3:w3.cell? ⟨gb101,3,none⟩=some (.slice A0_3 l0_3.length c0_3):=(z01 BK101.out 3).trans rfl;have hcz11_4:w3.cell? ⟨gb101,4,none⟩=some (.slice A0_4 l0_4.length c0_4):=(z01 BK101.out 4).trans rfl;have hcz11_5:w3.cell? ⟨gb101,5,none⟩=some (.slice A0_5 l0_5.length c0_5):=(z01 BK101.out 5).trans rfl;have hfz11_0:=z02 BK101.out 0;have hfz11_1:=z02 BK101.out 1;have hfz11_2:=z02 BK101.out 2;have hfz11_3:=z02 BK101.out 3;have hfz11_4:=z02 BK101.out 4;have hfz11_5:=z02 BK101.out 5
      go_wp2_with (first|(go_at_call 100;(with_reducible refine (z0q.calls a0_0 0 64 true _ A4.out).mono ?_);rintro e w' ⟨rfl,⟨nd,rfl⟩⟩;(try first|exact ⟨rfl,_,zqa _ _ _⟩|exact ⟨rfl,_,zqb _ _ _ _⟩))|(go_at_call 100;(with_reducible refine (z0q.calls a0_1 0 16 true _ A6.out).mono ?_);rintro e w' ⟨rfl,⟨nd,rfl⟩⟩;(try first|exact ⟨rfl,_,zqa _ _ _⟩|exact ⟨rfl,_,zqb _ _ _ _⟩))|(go_at_call 100;(with_reducible refine (z0q.calls a0_2 0 16 true _ A8.out).mono ?_);rintro e w' ⟨rfl,⟨nd,rfl⟩⟩;(try first|exact ⟨rfl,_,zqa _ _ _⟩|exact ⟨rfl,_,zqb _ _ _ _⟩)))
      repeat (go_quiet (first|(go_at_call 100;(with_reducible refine (z0q.calls a0_0 0 64 true _ A4.out).mono ?_);rintro e w' ⟨rfl,⟨nd,rfl⟩⟩;(try first|exact ⟨rfl,_,zqa _ _ _⟩|exact ⟨rfl,_,zqb _ _ _ _⟩))|(go_at_call 100;(with_reducible refine (z0q.calls a0_1 0 16 true _ A6.out).mono ?_);rintro e w' ⟨rfl,⟨nd,rfl⟩⟩;(try first|exact ⟨rfl,_,zqa _ _ _⟩|exact ⟨rfl,_,zqb _ _ _ _⟩))|(go_at_call 100;(with_reducible refine (z0q.calls a0_2 0 16 true _ A8.out).mono ?_);rintro e w' ⟨rfl,⟨nd,rfl⟩⟩;(try first|exact ⟨rfl,_,zqa _ _ _⟩|exact ⟨rfl,_,zqb _ _ _ _⟩)));try go_wp2_with (first|(go_at_call 100;(with_reducible refine (z0q.calls a0_0 0 64 true _ A4.out).mono ?_);rintro e w' ⟨rfl,⟨nd,rfl⟩⟩;(try first|exact ⟨rfl,_,zqa _ _ _⟩|exact ⟨rfl,_,zqb _ _ _ _⟩))|(go_at_call 100;(with_reducible refine (z0q.calls a0_1 0 16 true _ A6.out).mono ?_);rintro e w' ⟨rfl,⟨nd,rfl⟩⟩;(try first|exact ⟨rfl,_,zqa _ _ _⟩|exact ⟨rfl,_,zqb _ _ _ _⟩))|(go_at_call 100;(with_reducible refine (z0q.calls a0_2 0 16 true _ A8.out).mono ?_);rintro e w' ⟨rfl,⟨nd,rfl⟩⟩;(try first|exact ⟨rfl,_,zqa _ _ _⟩|exact ⟨rfl,_,zqb _ _ _ _⟩))))
      go_meet
      case rel=>exact ⟨_,(true),(by first|rfl|(simp;done)|(simp [*];done)),H',⟨by first|omega|exact Nat.le_refl _⟩,⟨by (with_reducible repeat (first|refine z08 ?_ _|refine z09 ?_|refine z06 ?_ _));exact BK101.out⟩,⟨by repeat (first|(with_reducible first|exact HB.out|apply z04|apply z03|apply z05|refine z07 ?_ GE101.out)|exact HB.out)⟩⟩
     ·rw [if_neg c10] at H;have c10b0:decide (a0_0 < (l0_3.length:Int))=false:=decide_eq_false c10;clear c10
      (first|rw [c10b0]|(simp only [i64_w,i32_w];rw [c10b0])|skip)
      replace H:=Option.bind_eq_some_iff.mp H;obtain ⟨t105,A120,H⟩:=H;skip;have A12:=Aside0.mk A120;clear A120
      by_cases c13:t105=true
      ·subst c13;have H1:(if 0 < (l0_4.length:Int) then (z0n.j0 k ((rd l0_4 0) != 0) a0_0 a0_1 a0_2 l0_3 l0_4 l0_5) else (none))=some r:=(by rw [if_pos rfl] at H;exact H);clear H;have H:=H1;clear H1
       by_cases c14:0 < (l0_4.length:Int)
       ·rw [if_pos c14] at H;have c14b0:decide (0 < (l0_4.length:Int))=true:=decide_eq_true c14;have c14b1:decide (0 < l0_4.length)=true:=decide_eq_true (by omega);clear c14;have H':=Aside0.mk H;clear H;have hcz15_0:w3.cell? ⟨gb101,0,none⟩=some (.int .i64 a0_0):=(z01 BK101.out 0).trans rfl;have hcz15_1:w3.cell? ⟨gb101,1,none⟩=some (.int .i64 a0_1):=(z01 BK101.out 1).trans rfl;have hcz15_2:w3.cell? ⟨gb101,2,none⟩=some (.int .i64 a0_2):=(z01 BK101.out 2).trans rfl;have hcz15_3:w3.cell? ⟨gb101,3,none⟩=some (.slice A0_3 l0_3.length c0_3):=(z01 BK101.out 3).trans rfl;have hcz15_4:w3.cell? ⟨gb101,4,none⟩=some (.slice A0_4 l0_4.length c0_4):=(z01 BK101.out 4).trans rfl;have hcz15_5:w3.cell? ⟨gb101,5,none⟩=some (.slice A0_5 l0_5.length c0_5):=(z01 BK101.out 5).trans rfl;have hfz15_0:=z02 BK101.out 0;have hfz15_1:=z02 BK101.out 1;have hfz15_2:=z02 BK101.out 2;have hfz15_3:=z02 BK101.out 3;have hfz15_4:=z02 BK101.out 4;have hfz15_5:=z02 BK101.out 5
        go_wp2_with (first|(go_at_call 100;(with_reducible refine (z0q.calls a0_0 0 64 true _ A4.out).mono ?_);rintro e w' ⟨rfl,⟨nd,rfl⟩⟩;(try first|exact ⟨rfl,_,zqa _ _ _⟩|exact ⟨rfl,_,zqb _ _ _ _⟩))|(go_at_call 100;(with_reducible refine (z0q.calls a0_1 0 16 true _ A6.out).mono ?_);rintro e w' ⟨rfl,⟨nd,rfl⟩⟩;(try first|exact ⟨rfl,_,zqa _ _ _⟩|exact ⟨rfl,_,zqb _ _ _ _⟩))|(go_at_call 100;(with_reducible refine (z0q.calls a0_2 0 16 true _ A8.out).mono ?_);rintro e w' ⟨rfl,⟨nd,rfl⟩⟩;(try first|exact ⟨rfl,_,zqa _ _ _⟩|exact ⟨rfl,_,zqb _ _ _ _⟩))|(go_at_call 100;(with_reducible refine (z0q.calls (l0_4.length:Int) 1 16 true _ A12.out).mono ?_);rintro e w' ⟨rfl,⟨nd,rfl⟩⟩;(try first|exact ⟨rfl,_,zqa _ _ _⟩|exact ⟨rfl,_,zqb _ _ _ _⟩);have p106:0≤(0:Int):=(by omega);have q106:0 < (l0_4.length:Int):=of_decide_eq_true (by assumption);obtain ⟨ad106,e106,hx106_0⟩:=Kd.at_int HR0_4.out 0 p106 q106;cases e106;have qi106:(0 < l0_4.length)=True:=eq_true (by omega);(try rw [show ((0:Int)).toNat=0 from rfl] at hx106_0);(try rw [Addr.add_zero'] at hx106_0);replace hx106_0:=(HB.out.cell (World.block_lt_of_cell? w _ hx106_0)).trans hx106_0;replace p106:=eq_true p106;replace q106:=eq_true q106))
        repeat (go_quiet (first|(go_at_call 100;(with_reducible refine (z0q.calls a0_0 0 64 true _ A4.out).mono ?_);rintro e w' ⟨rfl,⟨nd,rfl⟩⟩;(try first|exact ⟨rfl,_,zqa _ _ _⟩|exact ⟨rfl,_,zqb _ _ _ _⟩))|(go_at_call 100;(with_reducible refine (z0q.calls a0_1 0 16 true _ A6.out).mono ?_);rintro e w' ⟨rfl,⟨nd,rfl⟩⟩;(try first|exact ⟨rfl,_,zqa _ _ _⟩|exact ⟨rfl,_,zqb _ _ _ _⟩))|(go_at_call 100;(with_reducible refine (z0q.calls a0_2 0 16 true _ A8.out).mono ?_);rintro e w' ⟨rfl,⟨nd,rfl⟩⟩;(try first|exact ⟨rfl,_,zqa _ _ _⟩|exact ⟨rfl,_,zqb _ _ _ _⟩))|(go_at_call 100;(with_reducible refine (z0q.calls (l0_4.length:Int) 1 16 true _ A12.out).mono ?_);rintro e w' ⟨rfl,⟨nd,rfl⟩⟩;(try first|exact ⟨rfl,_,zqa _ _ _⟩|exact ⟨rfl,_,zqb _ _ _ _⟩);have p106:0≤(0:Int):=(by omega);have q106:0 < (l0_4.length:Int):=of_decide_eq_true (by assumption);obtain ⟨ad106,e106,hx106_0⟩:=Kd.at_int HR0_4.out 0 p106 q106;cases e106;have qi106:(0 < l0_4.length)=True:=eq_true (by omega);(try rw [show ((0:Int)).toNat=0 from rfl] at hx106_0);(try rw [Addr.add_zero'] at hx106_0);replace hx106_0:=(HB.out.cell (World.block_lt_of_cell? w _ hx106_0)).trans hx106_0;replace p106:=eq_true p106;replace q106:=eq_true q106));try go_wp2_with (first|(go_at_call 100;(with_reducible refine (z0q.calls a0_0 0 64 true _ A4.out).mono ?_);rintro e w' ⟨rfl,⟨nd,rfl⟩⟩;(try first|exact ⟨rfl,_,zqa _ _ _⟩|exact ⟨rfl,_,zqb _ _ _ _⟩))|(go_at_call 100;(with_reducible refine (z0q.calls a0_1 0 16 true _ A6.out).mono ?_);rintro e w' ⟨rfl,⟨nd,rfl⟩⟩;(try first|exact ⟨rfl,_,zqa _ _ _⟩|exact ⟨rfl,_,zqb _ _ _ _⟩))|(go_at_call 100;(with_reducible refine (z0q.calls a0_2 0 16 true _ A8.out).mono ?_);rintro e w' ⟨rfl,⟨nd,rfl⟩⟩;(try first|exact ⟨rfl,_,zqa _ _ _⟩|exact ⟨rfl,_,zqb _ _ _ _⟩))|(go_at_call 100;(with_reducible refine (z0q.calls (l0_4.length:Int) 1 16 true _ A12.out).mono ?_);rintro e w' ⟨rfl,⟨nd,rfl⟩⟩;(try first|exact ⟨rfl,_,zqa _ _ _⟩|exact ⟨rfl,_,zqb _ _ _ _⟩);have p106:0≤(0:Int):=(by omega);have q106:0 < (l0_4.length:Int):=of_decide_eq_true (by assumption);obtain ⟨ad106,e106,hx106_0⟩:=Kd.at_int HR0_4.out 0 p106 q106;cases e106;have qi106:(0 < l0_4.length)=True:=eq_true (by omega);(try rw [show ((0:Int)).toNat=0 from rfl] at hx106_0);(try rw [Addr.add_zero'] at hx106_0);replace hx106_0:=(HB.out.cell (World.block_lt_of_cell? w _ hx106_0)).trans hx106_0;replace p106:=eq_true p106;replace q106:=eq_true q106)))
        go_meet
        case rel=>exact ⟨_,(((rd l0_4 0) != 0)),(by first|rfl|(simp;done)|(simp [*];done)),H',⟨by first|omega|exact Nat.le_refl _⟩,⟨by (with_reducible repeat (first|refine z08 ?_ _|refine z09 ?_|refine z06 ?_ _));exact BK101.out⟩,⟨by repeat (first|(with_reducible first|exact HB.out|apply z04|apply z03|apply z05|refine z07 ?_ GE101.out)|exact HB.out)⟩⟩
       ·rw [if_neg c14] at H;exact absurd H (by simp)
      ·replace c13:=Bool.eq_false_iff.mpr c13;subst c13;have H1:(z0n.j0 k true a0_0 a0_1 a0_2 l0_3 l0_4 l0_5)=some r:=(by rw [if_neg (show ¬ (false=true) by decide)] at H;exact H);clear H;have H:=H1;clear H1;have H':=Aside0.mk H;clear H;have hcz16_0:w3.cell? ⟨gb101,0,none⟩=some (.int .i64 a0_0):=(z01 BK101.out 0).trans rfl;have hcz16_1:w3.cell? ⟨gb101,1,none⟩=some (.int .i64 a0_1):=(z01 BK101.out 1).trans rfl;have hcz16_2:w3.cell? ⟨gb101,2,none⟩=some (.int .i64 a0_2):=(z01 BK101.out 2).trans rfl;have hcz16_3:w3.cell? ⟨gb101,3,none⟩=some (.slice A0_3 l0_3.length c0_3):=(z01 BK101.out 3).trans rfl;have hcz16_4:w3.cell? ⟨gb101,4,none⟩=some (.slice A0_4 l0_4.length c0_4):=(z01 BK101.out 4).trans rfl;have hcz16_5:w3.cell? ⟨gb101,5,none⟩=some (.slice A0_5 l0_5.length c0_5):=(z01 BK101.out 5).trans rfl;have hfz16_0:=z02 BK101.out 0;have hfz16_1:=z02 BK101.out 1;have hfz16_2:=z02 BK101.out 2;have hfz16_3:=z02 BK101.out 3;have hfz16_4:=z02 BK101.out 4;have hfz16_5:=z02 BK101.out 5
       go_wp2_with (first|(go_at_call 100;(with_reducible refine (z0q.calls a0_0 0 64 true _ A4.out).mono ?_);rintro e w' ⟨rfl,⟨nd,rfl⟩⟩;(try first|exact ⟨rfl,_,zqa _ _ _⟩|exact ⟨rfl,_,zqb _ _ _ _⟩))|(go_at_call 100;(with_reducible refine (z0q.calls a0_1 0 16 true _ A6.out).mono ?_);rintro e w' ⟨rfl,⟨nd,rfl⟩⟩;(try first|exact ⟨rfl,_,zqa _ _ _⟩|exact ⟨rfl,_,zqb _ _ _ _⟩))|(go_at_call 100;(with_reducible refine (z0q.calls a0_2 0 16 true _ A8.out).mono ?_);rintro e w' ⟨rfl,⟨nd,rfl⟩⟩;(try first|exact ⟨rfl,_,zqa _ _ _⟩|exact ⟨rfl,_,zqb _ _ _ _⟩))|(go_at_call 100;(with_reducible refine (z0q.calls (l0_4.length:Int) 1 16 false _ A12.out).mono ?_);rintro e w' ⟨rfl,⟨nd,rfl⟩⟩;(try first|exact ⟨rfl,_,zqa _ _ _⟩|exact ⟨rfl,_,zqb _ _ _ _⟩)))
       repeat (go_quiet (first|(go_at_call 100;(with_reducible refine (z0q.calls a0_0 0 64 true _ A4.out).mono ?_);rintro e w' ⟨rfl,⟨nd,rfl⟩⟩;(try first|exact ⟨rfl,_,zqa _ _ _⟩|exact ⟨rfl,_,zqb _ _ _ _⟩))|(go_at_call 100;(with_reducible refine (z0q.calls a0_1 0 16 true _ A6.out).mono ?_);rintro e w' ⟨rfl,⟨nd,rfl⟩⟩;(try first|exact ⟨rfl,_,zqa _ _ _⟩|exact ⟨rfl,_,zqb _ _ _ _⟩))|(go_at_call 100;(with_reducible refine (z0q.calls a0_2 0 16 true _ A8.out).mono ?_);rintro e w' ⟨rfl,⟨nd,rfl⟩⟩;(try first|exact ⟨rfl,_,zqa _ _ _⟩|exact ⟨rfl,_,zqb _ _ _ _⟩))|(go_at_call 100;(with_reducible refine (z0q.calls (l0_4.length:Int) 1 16 false _ A12.out).mono ?_);rintro e w' ⟨rfl,⟨nd,rfl⟩⟩;(try first|exact ⟨rfl,_,zqa _ _ _⟩|exact ⟨rfl,_,zqb _ _ _ _⟩)));try go_wp2_with (first|(go_at_call 100;(with_reducible refine (z0q.calls a0_0 0 64 true _ A4.out).mono ?_);rintro e w' ⟨rfl,⟨nd,rfl⟩⟩;(try first|exact ⟨rfl,_,zqa _ _ _⟩|exact ⟨rfl,_,zqb _ _ _ _⟩))|(go_at_call 100;(with_reducible refine (z0q.calls a0_1 0 16 true _ A6.out).mono ?_);rintro e w' ⟨rfl,⟨nd,rfl⟩⟩;(try first|exact ⟨rfl,_,zqa _ _ _⟩|exact ⟨rfl,_,zqb _ _ _ _⟩))|(go_at_call 100;(with_reducible refine (z0q.calls a0_2 0 16 true _ A8.out).mono ?_);rintro e w' ⟨rfl,⟨nd,rfl⟩⟩;(try first|exact ⟨rfl,_,zqa _ _ _⟩|exact ⟨rfl,_,zqb _ _ _ _⟩))|(go_at_call 100;(with_reducible refine (z0q.calls (l0_4.length:Int) 1 16 false _ A12.out).mono ?_);rintro e w' ⟨rfl,⟨nd,rfl⟩⟩;(try first|exact ⟨rfl,_,zqa _ _ _⟩|exact ⟨rfl,_,zqb _ _ _ _⟩))))
       go_meet
       case rel=>exact ⟨_,(true),(by first|rfl|(simp;done)|(simp [*];done)),H',⟨by first|omega|exact Nat.le_refl _⟩,⟨by (with_reducible repeat (first|refine z08 ?_ _|refine z09 ?_|refine z06 ?_ _));exact BK101.out⟩,⟨by repeat (first|(with_reducible first|exact HB.out|apply z04|apply z03|apply z05|refine z07 ?_ GE101.out)|exact HB.out)⟩⟩
    ·replace c9:=Bool.eq_false_iff.mpr c9;subst c9;have H1:(z0n.j0 k true a0_0 a0_1 a0_2 l0_3 l0_4 l0_5)=some r:=(by rw [if_neg (show ¬ (false=true) by decide)] at H;exact H);clear H;have H:=H1;clear H1;have H':=Aside0.mk H;clear H;have hcz17_0:w3.cell? ⟨gb101,0,none⟩=some (.int .i64 a0_0):=(z01 BK101.out 0).trans rfl;have hcz17_1:w3.cell? ⟨gb101,1,none⟩=some (.int .i64 a0_1):=(z01 BK101.out 1).trans rfl;have hcz17_2:w3.cell? ⟨gb101,2,none⟩=some (.int .i64 a0_2):=(z01 BK101.out 2).trans rfl;have hcz17_3:w3.cell? ⟨gb101,3,none⟩=some (.slice A0_3 l0_3.length c0_3):=(z01 BK101.out 3).trans rfl;have hcz17_4:w3.cell? ⟨gb101,4,none⟩=some (.slice A0_4 l0_4.length c0_4):=(z01 BK101.out 4).trans rfl;have hcz17_5:w3.cell? ⟨gb101,5,none⟩=some (.slice A0_5 l0_5.length c0_5):=(z01 BK101.out 5).trans rfl;have hfz17_0:=z02 BK101.out 0;have hfz17_1:=z02 BK101.out 1;have hfz17_2:=z02 BK101.out 2;have hfz17_3:=z02 BK101.out 3;have hfz17_4:=z02 BK101.out 4;have hfz17_5:=z02 BK101.out 5
     go_wp2_with (first|(go_at_call 100;(with_reducible refine (z0q.calls a0_0 0 64 true _ A4.out).mono ?_);rintro e w' ⟨rfl,⟨nd,rfl⟩⟩;(try first|exact ⟨rfl,_,zqa _ _ _⟩|exact ⟨rfl,_,zqb _ _ _ _⟩))|(go_at_call 100;(with_reducible refine (z0q.calls a0_1 0 16 true _ A6.out).mono ?_);rintro e w' ⟨rfl,⟨nd,rfl⟩⟩;(try first|exact ⟨rfl,_,zqa _ _ _⟩|exact ⟨rfl,_,zqb _ _ _ _⟩))|(go_at_call 100;(with_reducible refine (z0q.calls a0_2 0 16 false _ A8.out).mono ?_);rintro e w' ⟨rfl,⟨nd,rfl⟩⟩;(try first|exact ⟨rfl,_,zqa _ _ _⟩|exact ⟨rfl,_,zqb _ _ _ _⟩)))
     repeat (go_quiet (first|(go_at_call 100;(with_reducible refine (z0q.calls a0_0 0 64 true _ A4.out).mono ?_);rintro e w' ⟨rfl,⟨nd,rfl⟩⟩;(try first|exact ⟨rfl,_,zqa _ _ _⟩|exact ⟨rfl,_,zqb _ _ _ _⟩))|(go_at_call 100;(with_reducible refine (z0q.calls a0_1 0 16 true _ A6.out).mono ?_);rintro e w' ⟨rfl,⟨nd,rfl⟩⟩;(try first|exact ⟨rfl,_,zqa _ _ _⟩|exact ⟨rfl,_,zqb _ _ _ _⟩))|(go_at_call 100;(with_reducible refine (z0q.calls a0_2 0 16 false _ A8.out).mono ?_);rintro e w' ⟨rfl,⟨nd,rfl⟩⟩;(try first|exact ⟨rfl,_,zqa _ _ _⟩|exact ⟨rfl,_,zqb _ _ _ _⟩)));try go_wp2_with (first|(go_at_call 100;(with_reducible refine (z0q.calls a0_0 0 64 true _ A4.out).mono ?_);rintro e w' ⟨rfl,⟨nd,rfl⟩⟩;(try first|exact ⟨rfl,_,zqa _ _ _⟩|exact ⟨rfl,_,zqb _ _ _ _⟩))|(go_at_call 100;(with_reducible refine (z0q.calls a0_1 0 16 true _ A6.out).mono ?_);rintro e w' ⟨rfl,⟨nd,rfl⟩⟩;(try first|exact ⟨rfl,_,zqa _ _ _⟩|exact ⟨rfl,_,zqb _ _ _ _⟩))|(go_at_call 100;(with_reducible refine (z0q.calls a0_2 0 16 false _ A8.out).mono ?_);rintro e w' ⟨rfl,⟨nd,rfl⟩⟩;(try first|exact ⟨rfl,_,zqa _ _ _⟩|exact ⟨rfl,_,zqb _ _ _ _⟩))))
     go_meet
     case rel=>exact ⟨_,(true),(by first|rfl|(simp;done)|(simp [*];done)),H',⟨by first|omega|exact Nat.le_refl _⟩,⟨by (with_reducible repeat (first|refine z08 ?_ _|refine z09 ?_|refine z06 ?_ _));exact BK101.out⟩,⟨by repeat (first|(with_reducible first|exact HB.out|apply z04|apply z03|apply z05|refine z07 ?_ GE101.out)|exact HB.out)⟩⟩
   ·replace c7:=Bool.eq_false_iff.mpr c7;subst c7;have H1:(z0n.j0 k true a0_0 a0_1 a0_2 l0_3 l0_4 l0_5)=some r:=(by rw [if_neg (show ¬ (false=true) by decide)] at H;exact H);clear H;have H:=H1;clear H1;have H':=Aside0.mk H;clear H;have hcz18_0:w3.cell? ⟨gb101,0,none⟩=some (.int .i64 a0_0):=(z01 BK101.out 0).trans rfl;have hcz18_1:w3.cell? ⟨gb101,1,none⟩=some (.int .i64 a0_1):=(z01 BK101.out 1).trans rfl;have hcz18_2:w3.cell? ⟨gb101,2,none⟩=some (.int .i64 a0_2):=(z01 BK101.out 2).trans rfl;have hcz18_3:w3.cell? ⟨gb101,3,none⟩=some (.slice A0_3 l0_3.length c0_3):=(z01 BK101.out 3).trans rfl;have hcz18_4:w3.cell? ⟨gb101,4,none⟩=some (.slice A0_4 l0_4.length c0_4):=(z01 BK101.out 4).trans rfl;have hcz18_5:w3.cell? ⟨gb101,5,none⟩=some (.slice A0_5 l0_5.length c0_5):=(z01 BK101.out 5).trans rfl;have hfz18_0:=z02 BK101.out 0;have hfz18_1:=z02 BK101.out 1;have hfz18_2:=z02 BK101.out 2;have hfz18_3:=z02 BK101.out 3;have hfz18_4:=z02 BK101.out 4;have hfz18_5:=z02 BK101.out 5
    go_wp2_with (first|(go_at_call 100;(with_reducible refine (z0q.calls a0_0 0 64 true _ A4.out).mono ?_);rintro e w' ⟨rfl,⟨nd,rfl⟩⟩;(try first|exact ⟨rfl,_,zqa _ _ _⟩|exact ⟨rfl,_,zqb _ _ _ _⟩))|(go_at_call 100;(with_reducible refine (z0q.calls a0_1 0 16 false _ A6.out).mono ?_);rintro e w' ⟨rfl,⟨nd,rfl⟩⟩;(try first|exact ⟨rfl,_,zqa _ _ _⟩|exact ⟨rfl,_,zqb _ _ _ _⟩)))
    repeat (go_quiet (first|(go_at_call 100;(with_reducible refine (z0q.calls a0_0 0 64 true _ A4.out).mono ?_);rintro e w' ⟨rfl,⟨nd,rfl⟩⟩;(try first|exact ⟨rfl,_,zqa _ _ _⟩|exact ⟨rfl,_,zqb _ _ _ _⟩))|(go_at_call 100;(with_reducible refine (z0q.calls a0_1 0 16 false _ A6.out).mono ?_);rintro e w' ⟨rfl,⟨nd,rfl⟩⟩;(try first|exact ⟨rfl,_,zqa _ _ _⟩|exact ⟨rfl,_,zqb _ _ _ _⟩)));try go_wp2_with (first|(go_at_call 100;(with_reducible refine (z0q.calls a0_0 0 64 true _ A4.out).mono ?_);rintro e w' ⟨rfl,⟨nd,rfl⟩⟩;(try first|exact ⟨rfl,_,zqa _ _ _⟩|exact ⟨rfl,_,zqb _ _ _ _⟩))|(go_at_call 100;(with_reducible refine (z0q.calls a0_1 0 16 false _ A6.out).mono ?_);rintro e w' ⟨rfl,⟨nd,rfl⟩⟩;(try first|exact ⟨rfl,_,zqa _ _ _⟩|exact ⟨rfl,_,zqb _ _ _ _⟩))))
    go_meet
    case rel=>exact ⟨_,(true),(by first|rfl|(simp;done)|(simp [*];done)),H',⟨by first|omega|exact Nat.le_refl _⟩,⟨by (with_reducible repeat (first|refine z08 ?_ _|refine z09 ?_|refine z06 ?_ _));exact BK101.out⟩,⟨by repeat (first|(with_reducible first|exact HB.out|apply z04|apply z03|apply z05|refine z07 ?_ GE101.out)|exact HB.out)⟩⟩
  ·replace c5:=Bool.eq_false_iff.mpr c5;subst c5;rw [if_neg (show ¬ (false=true) by decide)] at H;have H':=Aside0.mk H;clear H;have hcz19_0:w3.cell? ⟨gb101,0,none⟩=some (.int .i64 a0_0):=(z01 BK101.out 0).trans rfl;have hcz19_1:w3.cell? ⟨gb101,1,none⟩=some (.int .i64 a0_1):=(z01 BK101.out 1).trans rfl;have hcz19_2:w3.cell? ⟨gb101,2,none⟩=some (.int .i64 a0_2):=(z01 BK101.out 2).trans rfl;have hcz19_3:w3.cell? ⟨gb101,3,none⟩=some (.slice A0_3 l0_3.length c0_3):=(z01 BK101.out 3).trans rfl;have hcz19_4:w3.cell? ⟨gb101,4,none⟩=some (.slice A0_4 l0_4.length c0_4):=(z01 BK101.out 4).trans rfl;have hcz19_5:w3.cell? ⟨gb101,5,none⟩=some (.slice A0_5 l0_5.length c0_5):=(z01 BK101.out 5).trans rfl;have hfz19_0:=z02 BK101.out 0;have hfz19_1:=z02 BK101.out 1;have hfz19_2:=z02 BK101.out 2;have hfz19_3:=z02 BK101.out 3;have hfz19_4:=z02 BK101.out 4;have hfz19_5:=z02 BK101.out 5
   go_wp2_with (first|(go_at_call 100;(with_reducible refine (z0q.calls a0_0 0 64 false _ A4.out).mono ?_);rintro e w' ⟨rfl,⟨nd,rfl⟩⟩;(try first|exact ⟨rfl,_,zqa _ _ _⟩|exact ⟨rfl,_,zqb _ _ _ _⟩)))
   repeat (go_quiet (first|(go_at_call 100;(with_reducible refine (z0q.calls a0_0 0 64 false _ A4.out).mono ?_);rintro e w' ⟨rfl,⟨nd,rfl⟩⟩;(try first|exact ⟨rfl,_,zqa _ _ _⟩|exact ⟨rfl,_,zqb _ _ _ _⟩)));try go_wp2_with (first|(go_at_call 100;(with_reducible refine (z0q.calls a0_0 0 64 false _ A4.out).mono ?_);rintro e w' ⟨rfl,⟨nd,rfl⟩⟩;(try first|exact ⟨rfl,_,zqa _ _ _⟩|exact ⟨rfl,_,zqb _ _ _ _⟩))))
   go_meet
   case rel=>exact ⟨_,(true),(by first|rfl|(simp;done)|(simp [*];done)),H',⟨by first|omega|exact Nat.le_refl _⟩,⟨by (with_reducible repeat (first|refine z08 ?_ _|refine z09 ?_|refine z06 ?_ _));exact BK101.out⟩,⟨by repeat (first|(with_reducible first|exact HB.out|apply z04|apply z03|apply z05|refine z07 ?_ GE101.out)|exact HB.out)⟩⟩
 case rest =>
  clear HC2;obtain ⟨kq,x42_1,rfl,HA,HJ1,BK101,HB⟩:=hcut;cases kq with
  | zero=>exact absurd HA.out (by simp [z0n.j0])
  | succ kj1 =>
   have H:=HA.out;clear HA;simp only [z0n.j0] at H
   by_cases c20:x42_1=true
   ·subst c20;have H1:(some false)=some r:=(by rw [if_pos rfl] at H;exact H);clear H;have H:=H1;clear H1;obtain rfl:=Option.some.inj H;go_wp2
    repeat (go_quiet (fail);try go_wp2)
    go_ret
    exact ⟨by first|rfl|(simp [z0k,z0j] <;> rfl)|(simp [*,z0k,z0j] <;> rfl),by repeat (first|(with_reducible first|exact HB.out|apply z04|apply z03|apply z05|refine z07 ?_ GE101.out)|exact HB.out)⟩
   ·replace c20:=Bool.eq_false_iff.mpr c20;subst c20;have H1:(if 1≤(l0_4.length:Int) then (z0n.l0 kj1 (l0_4.drop 1) ((l0_4.drop 1).length:Int) 0 a0_0 a0_1 a0_2 l0_3 l0_4 l0_5) else (none))=some r:=(by rw [if_neg (show ¬ (false=true) by decide)] at H;exact H);clear H;have H:=H1;clear H1
    by_cases c21:1≤(l0_4.length:Int)
    ·rw [if_pos c21] at H;have c21b0:=eq_true c21;have c21b1:decide (1≤(l0_4.length:Int))=true:=decide_eq_true c21;clear c21;have H':=Aside0.mk H;clear H;have hcz22_0:wc.cell? ⟨gb101,0,none⟩=some (.int .i64 a0_0):=(z01 BK101.out 0).trans rfl;have hcz22_1:wc.cell? ⟨gb101,1,none⟩=some (.int .i64 a0_1):=(z01 BK101.out 1).trans rfl;have hcz22_2:wc.cell? ⟨gb101,2,none⟩=some (.int .i64 a0_2):=(z01 BK101.out 2).trans rfl;have hcz22_3:wc.cell? ⟨gb101,3,none⟩=some (.slice A0_3 l0_3.length c0_3):=(z01 BK101.out 3).trans rfl;have hcz22_4:wc.cell? ⟨gb101,4,none⟩=some (.slice A0_4 l0_4.length c0_4):=(z01 BK101.out 4).trans rfl;have hcz22_5:wc.cell? ⟨gb101,5,none⟩=some (.slice A0_5 l0_5.length c0_5):=(z01 BK101.out 5).trans rfl;have hfz22_0:=z02 BK101.out 0;have hfz22_1:=z02 BK101.out 1;have hfz22_2:=z02 BK101.out 2;have hfz22_3:=z02 BK101.out 3;have hfz22_4:=z02 BK101.out 4;have hfz22_5:=z02 BK101.out 5;obtain ⟨i023,hi023,_,hsz23,_⟩:=info_parts info3;obtain ⟨A23,hcut23,hA23,hC23⟩:=print_drop_of (P:=Tryz.prog) (Value.int .i64) 0 23 3 .i64 Tryz.underlying23 hi023 hsz23 A0_4 c0_4 l0_4 1 (by omega) (of_decide_eq_true (by assumption)) HC0_4.out;have HR107:=Aside0.mk (Kd.C_of_reads (h1:=fun _=>rfl) (hA23 _ (Kd.reads_of_C HR0_4.out)));have HC107:=Aside0.mk hC23;clear hA23 hC23 hi023 hsz23;go_wp2
     repeat (go_quiet (fail);try go_wp2)
     go_loopg [47] kj1 (fun kq v47 w'=>∃ (x47_2:Int),v47=.int .i64 x47_2∧Aside0 (z0n.l0 kq (l0_4.drop 1) ((l0_4.drop 1).length:Int) x47_2 a0_0 a0_1 a0_2 l0_3 l0_4 l0_5=some r)∧Aside0 (kq≤kj1)∧Aside0 (w'.heap[gb101]?=some (.cells #[.int .i64 a0_0,.int .i64 a0_1,.int .i64 a0_2,(.slice A0_3 l0_3.length c0_3),(.slice A0_4 l0_4.length c0_4),(.slice A0_5 l0_5.length c0_5)] 26 (0,0)))∧Aside0 (Below w.heap.size w w'))
     case atStart=>exact ⟨(0),(by first|rfl|(simp;done)|(simp [*];done)),H',⟨Nat.le_refl _⟩,⟨by (with_reducible repeat (first|refine z08 ?_ _|refine z09 ?_|refine z06 ?_ _));exact BK101.out⟩,⟨by repeat (first|(with_reducible first|exact HB.out|apply z04|apply z03|apply z05|refine z07 ?_ GE101.out)|exact HB.out)⟩⟩
     case round =>
      clear H';obtain ⟨x47_2,rfl,HA,HK2,BK101,HB⟩:=hrel;cases gk with
      | zero=>exact absurd HA.out (by simp [z0n.l0])
      | succ k2 =>
       have H:=HA.out;clear HA;simp only [z0n.l0] at H
       by_cases c24:x47_2 < ((l0_4.drop 1).length:Int)
       ·rw [if_pos c24] at H;have c24b0:decide (x47_2 < ((l0_4.drop 1).length:Int))=true:=decide_eq_true c24;have c24b0z:decide (x47_2 < ((l0_4.length - 1:Nat):Int))=true:=by have h_:=c24b0;first|(rw [List.length_drop] at h_;exact h_)|(rw [List.drop_one] at h_;exact h_)
        clear c24
        by_cases c25:0≤x47_2
        ·rw [if_pos c25] at H;have c25b0:decide (0≤x47_2)=true:=decide_eq_true c25;clear c25
         by_cases c26:x47_2 < ((l0_4.drop 1).length:Int)
         ·rw [if_pos c26] at H;have c26b0:decide (x47_2 < ((l0_4.drop 1).length:Int))=true:=decide_eq_true c26;have c26b0z:decide (x47_2 < ((l0_4.length - 1:Nat):Int))=true:=by have h_:=c26b0;first|(rw [List.length_drop] at h_;exact h_)|(rw [List.drop_one] at h_;exact h_)
          clear c26
          by_cases c27:x47_2 < (l0_4.length:Int)
          ·rw [if_pos c27] at H;have c27b0:decide (x47_2 < (l0_4.length:Int))=true:=decide_eq_true c27;clear c27
           by_cases c28:(rd (l0_4.drop 1) x47_2)≤(rd l0_4 x47_2)
           ·rw [if_pos c28] at H;have c28b0:decide ((rd (l0_4.drop 1) x47_2)≤(rd l0_4 x47_2))=true:=decide_eq_true c28;have c28b0z:decide ((rd l0_4.tail x47_2)≤(rd l0_4 x47_2))=true:=by have h_:=c28b0;first|(rw [List.length_drop] at h_;exact h_)|(rw [List.drop_one] at h_;exact h_)
            clear c28;obtain rfl:=Option.some.inj H;have p108:0≤(x47_2:Int):=of_decide_eq_true (by assumption);have q108:x47_2 < ((l0_4.drop 1).length:Int):=of_decide_eq_true (by assumption);obtain ⟨ad108,e108,hx108_0⟩:=Kd.at_int HR107.out x47_2 p108 q108;cases e108;replace hx108_0:=(HB.out.cell (World.block_lt_of_cell? w _ hx108_0)).trans hx108_0;replace p108:=eq_true p108;replace q108:=eq_true q108;have q108z:(x47_2 < ((l0_4.length - 1:Nat):Int))=True:=(by have h_:=q108;rw [List.length_drop] at h_;exact h_);have hcz29_0:wr.cell? ⟨gb101,0,none⟩=some (.int .i64 a0_0):=(z01 BK101.out 0).trans rfl;have hcz29_1:wr.cell? ⟨gb101,1,none⟩=some (.int .i64 a0_1):=(z01 BK101.out 1).trans rfl;have hcz29_2:wr.cell? ⟨gb101,2,none⟩=some (.int .i64 a0_2):=(z01 BK101.out 2).trans rfl;have hcz29_3:wr.cell? ⟨gb101,3,none⟩=some (.slice A0_3 l0_3.length c0_3):=(z01 BK101.out 3).trans rfl;have hcz29_4:wr.cell? ⟨gb101,4,none⟩=some (.slice A0_4 l0_4.length c0_4):=(z01 BK101.out 4).trans rfl;have hcz29_5:wr.cell? ⟨gb101,5,none⟩=some (.slice A0_5 l0_5.length c0_5):=(z01 BK101.out 5).trans rfl;have hfz29_0:=z02 BK101.out 0;have hfz29_1:=z02 BK101.out 1;have hfz29_2:=z02 BK101.out 2;have hfz29_3:=z02 BK101.out 3;have hfz29_4:=z02 BK101.out 4;have hfz29_5:=z02 BK101.out 5;have p109:0≤(x47_2:Int):=of_decide_eq_true (by assumption);have q109:x47_2 < (l0_4.length:Int):=of_decide_eq_true (by assumption);obtain ⟨ad109,e109,hx109_0⟩:=Kd.at_int HR0_4.out x47_2 p109 q109;cases e109;replace hx109_0:=(HB.out.cell (World.block_lt_of_cell? w _ hx109_0)).trans hx109_0;replace p109:=eq_true p109;replace q109:=eq_true q109;go_wp2
            repeat (go_quiet (fail);try go_wp2)
            go_ret
            exact ⟨by first|rfl|(simp [z0k,z0j] <;> rfl)|(simp [*,z0k,z0j] <;> rfl),by repeat (first|(with_reducible first|exact HB.out|apply z04|apply z03|apply z05|refine z07 ?_ GE101.out)|exact HB.out)⟩
           ·rw [if_neg c28] at H;have c28b0:decide ((rd (l0_4.drop 1) x47_2)≤(rd l0_4 x47_2))=false:=decide_eq_false c28;have c28b0z:decide ((rd l0_4.tail x47_2)≤(rd l0_4 x47_2))=false:=by have h_:=c28b0;first|(rw [List.length_drop] at h_;exact h_)|(rw [List.drop_one] at h_;exact h_)
            clear c28;have H':=Aside0.mk H;clear H;have p108:0≤(x47_2:Int):=of_decide_eq_true (by assumption);have q108:x47_2 < ((l0_4.drop 1).length:Int):=of_decide_eq_true (by assumption);obtain ⟨ad108,e108,hx108_0⟩:=Kd.at_int HR107.out x47_2 p108 q108;cases e108;replace hx108_0:=(HB.out.cell (World.block_lt_of_cell? w _ hx108_0)).trans hx108_0;replace p108:=eq_true p108;replace q108:=eq_true q108;have q108z:(x47_2 < ((l0_4.length - 1:Nat):Int))=True:=(by have h_:=q108;rw [List.length_drop] at h_;exact h_);have hcz30_0:wr.cell? ⟨gb101,0,none⟩=some (.int .i64 a0_0):=(z01 BK101.out 0).trans rfl;have hcz30_1:wr.cell? ⟨gb101,1,none⟩=some (.int .i64 a0_1):=(z01 BK101.out 1).trans rfl;have hcz30_2:wr.cell? ⟨gb101,2,none⟩=some (.int .i64 a0_2):=(z01 BK101.out 2).trans rfl;have hcz30_3:wr.cell? ⟨gb101,3,none⟩=some (.slice A0_3 l0_3.length c0_3):=(z01 BK101.out 3).trans rfl;have hcz30_4:wr.cell? ⟨gb101,4,none⟩=some (.slice A0_4 l0_4.length c0_4):=(z01 BK101.out 4).trans rfl;have hcz30_5:wr.cell? ⟨gb101,5,none⟩=some (.slice A0_5 l0_5.length c0_5):=(z01 BK101.out 5).trans rfl;have hfz30_0:=z02 BK101.out 0;have hfz30_1:=z02 BK101.out 1;have hfz30_2:=z02 BK101.out 2;have hfz30_3:=z02 BK101.out 3;have hfz30_4:=z02 BK101.out 4;have hfz30_5:=z02 BK101.out 5;have p109:0≤(x47_2:Int):=of_decide_eq_true (by assumption);have q109:x47_2 < (l0_4.length:Int):=of_decide_eq_true (by assumption);obtain ⟨ad109,e109,hx109_0⟩:=Kd.at_int HR0_4.out x47_2 p109 q109;cases e109;replace hx109_0:=(HB.out.cell (World.block_lt_of_cell? w _ hx109_0)).trans hx109_0;replace p109:=eq_true p109;replace q109:=eq_true q109;go_wp2
            repeat (go_quiet (fail);try go_wp2)
            go_roundg k2
            case measure=>have:=HJ1.out;have:=HK2.out;omega
            case rel=>exact ⟨(wrap64 (x47_2+1)),(by first|rfl|(simp;done)|(simp [*];done)),H',⟨by have:=HJ1.out;have:=HK2.out;omega⟩,⟨by (with_reducible repeat (first|refine z08 ?_ _|refine z09 ?_|refine z06 ?_ _));exact BK101.out⟩,⟨by repeat (first|(with_reducible first|exact HB.out|apply z04|apply z03|apply z05|refine z07 ?_ GE101.out)|exact HB.out)⟩⟩
          ·rw [if_neg c27] at H;exact absurd H (by simp)
         ·rw [if_neg c26] at H;exact absurd H (by simp)
        ·rw [if_neg c25] at H;exact absurd H (by simp)
       ·rw [if_neg c24] at H;have c24b0:decide (x47_2 < ((l0_4.drop 1).length:Int))=false:=decide_eq_false c24;have c24b0z:decide (x47_2 < ((l0_4.length - 1:Nat):Int))=false:=by have h_:=c24b0;first|(rw [List.length_drop] at h_;exact h_)|(rw [List.drop_one] at h_;exact h_)
        clear c24;obtain ⟨ji31,hji31⟩:∃ j_:Int,(wrap64 ((l0_4.length:Int) - 1))=j_:=⟨_,rfl⟩;replace H:(if 0≤(ji31) then (if (ji31) < (l0_4.length:Int) then ((z0q.f (l0_5.length:Int) (wrap64 ((rd l0_4 (ji31))+1)) 256).bind fun t111=>(some t111)) else (none)) else (none))=some r:=by first|(rw [hji31] at H;exact H)|(simp only [hji31] at H ⊢;exact H)
        have hji31w:(IntKind.i64.wrap ((l0_4.length:Int) - 1))=ji31:=(i64_w _).trans hji31
        by_cases c32:0≤(ji31)
        ·rw [if_pos c32] at H;have c32b0:decide (0≤(ji31))=true:=decide_eq_true c32;clear c32
         by_cases c33:(ji31) < (l0_4.length:Int)
         ·rw [if_pos c33] at H;have c33b0:decide ((ji31) < (l0_4.length:Int))=true:=decide_eq_true c33;clear c33;replace H:=Option.bind_eq_some_iff.mp H;obtain ⟨t111,A340,H⟩:=H;skip;have A34:=Aside0.mk A340;clear A340;obtain rfl:=Option.some.inj H;have hcz35_0:wr.cell? ⟨gb101,0,none⟩=some (.int .i64 a0_0):=(z01 BK101.out 0).trans rfl;have hcz35_1:wr.cell? ⟨gb101,1,none⟩=some (.int .i64 a0_1):=(z01 BK101.out 1).trans rfl;have hcz35_2:wr.cell? ⟨gb101,2,none⟩=some (.int .i64 a0_2):=(z01 BK101.out 2).trans rfl;have hcz35_3:wr.cell? ⟨gb101,3,none⟩=some (.slice A0_3 l0_3.length c0_3):=(z01 BK101.out 3).trans rfl;have hcz35_4:wr.cell? ⟨gb101,4,none⟩=some (.slice A0_4 l0_4.length c0_4):=(z01 BK101.out 4).trans rfl;have hcz35_5:wr.cell? ⟨gb101,5,none⟩=some (.slice A0_5 l0_5.length c0_5):=(z01 BK101.out 5).trans rfl;have hfz35_0:=z02 BK101.out 0;have hfz35_1:=z02 BK101.out 1;have hfz35_2:=z02 BK101.out 2;have hfz35_3:=z02 BK101.out 3;have hfz35_4:=z02 BK101.out 4;have hfz35_5:=z02 BK101.out 5;have p110:0≤((ji31):Int):=of_decide_eq_true (by assumption);have q110:(ji31) < (l0_4.length:Int):=of_decide_eq_true (by assumption);obtain ⟨ad110,e110,hx110_0⟩:=Kd.at_int HR0_4.out (ji31) p110 q110;cases e110;replace hx110_0:=(HB.out.cell (World.block_lt_of_cell? w _ hx110_0)).trans hx110_0;replace p110:=eq_true p110;replace q110:=eq_true q110
          go_wp2_with (first|(go_at_call 100;(with_reducible refine (z0q.calls (l0_5.length:Int) (wrap64 ((rd l0_4 (ji31))+1)) 256 t111 _ A34.out).mono ?_);rintro e w' ⟨rfl,⟨nd,rfl⟩⟩;(try first|exact ⟨rfl,_,zqa _ _ _⟩|exact ⟨rfl,_,zqb _ _ _ _⟩)))
          repeat (go_quiet (first|(go_at_call 100;(with_reducible refine (z0q.calls (l0_5.length:Int) (wrap64 ((rd l0_4 (ji31))+1)) 256 t111 _ A34.out).mono ?_);rintro e w' ⟨rfl,⟨nd,rfl⟩⟩;(try first|exact ⟨rfl,_,zqa _ _ _⟩|exact ⟨rfl,_,zqb _ _ _ _⟩)));try go_wp2_with (first|(go_at_call 100;(with_reducible refine (z0q.calls (l0_5.length:Int) (wrap64 ((rd l0_4 (ji31))+1)) 256 t111 _ A34.out).mono ?_);rintro e w' ⟨rfl,⟨nd,rfl⟩⟩;(try first|exact ⟨rfl,_,zqa _ _ _⟩|exact ⟨rfl,_,zqb _ _ _ _⟩))))
          go_ret
          exact ⟨by first|rfl|(simp [z0k,z0j] <;> rfl)|(simp only [← hji31];first|rfl|(simp [z0k,z0j] <;> rfl))|(simp [*,z0k,z0j] <;> rfl),by repeat (first|(with_reducible first|exact HB.out|apply z04|apply z03|apply z05|refine z07 ?_ GE101.out)|exact HB.out)⟩
         ·rw [if_neg c33] at H;exact absurd H (by simp)
        ·rw [if_neg c32] at H;exact absurd H (by simp)
    ·rw [if_neg c21] at H;exact absurd H (by simp)
def z1z.f (a0:Int):Option (Bool):=if a0 ≥ 0 then (some (decide (a0≤25))) else (some false)
theorem z1z.calls (a0:Int) (r:Bool) (w:World) (h:z1z.f a0=some r) :
  Calls Tryz.prog 101 #[.int .i64 a0] w fun e w'=>e=.returned (.bool r)∧Drawn0 w w':=by
 have H:(if a0 ≥ 0 then (some (decide (a0≤25))) else (some false))=some r:=h;clear h
 by_cases c2:a0 ≥ 0
 ·rw [if_pos c2] at H;have c2b0:decide (0≤a0)=true:=decide_eq_true c2;clear c2;obtain rfl:=Option.some.inj H
  go_enter Tryz.func101,Tryz.ntmps101
  go_wp2;go_ret
  exact ⟨by first|rfl|(simp;done)|(simp [*];done),by repeat (first|exact Drawn0.refl _|apply Drawn0.step)⟩
 ·rw [if_neg c2] at H;have c2b0:decide (0≤a0)=false:=decide_eq_false c2;clear c2;obtain rfl:=Option.some.inj H
  go_enter Tryz.func101,Tryz.ntmps101
  go_wp2;go_ret
  exact ⟨by first|rfl|(simp;done)|(simp [*];done),by repeat (first|exact Drawn0.refl _|apply Drawn0.step)⟩
def z2n.f  : Option ((List (S166))):=some (([(⟨(⟨#[104,97,108,116]⟩:ByteArray),0⟩:S166),(⟨(⟨#[115,101,116]⟩:ByteArray),17⟩:S166),(⟨(⟨#[99,111,112,121]⟩:ByteArray),3⟩:S166),(⟨(⟨#[97,100,100]⟩:ByteArray),7⟩:S166),(⟨(⟨#[115,117,98]⟩:ByteArray),7⟩:S166),(⟨(⟨#[109,117,108]⟩:ByteArray),7⟩:S166),(⟨(⟨#[100,105,118]⟩:ByteArray),7⟩:S166),(⟨(⟨#[114,101,109]⟩:ByteArray),7⟩:S166),(⟨(⟨#[97,110,100]⟩:ByteArray),7⟩:S166),(⟨(⟨#[111,114]⟩:ByteArray),7⟩:S166),(⟨(⟨#[120,111,114]⟩:ByteArray),7⟩:S166),(⟨(⟨#[115,104,108]⟩:ByteArray),7⟩:S166),(⟨(⟨#[115,104,114]⟩:ByteArray),7⟩:S166),(⟨(⟨#[115,97,114]⟩:ByteArray),7⟩:S166),(⟨(⟨#[115,97,109,101]⟩:ByteArray),7⟩:S166),(⟨(⟨#[108,101,115,115]⟩:ByteArray),7⟩:S166),(⟨(⟨#[98,101,108,111,119]⟩:ByteArray),7⟩:S166),(⟨(⟨#[108,111,97,100]⟩:ByteArray),27⟩:S166),(⟨(⟨#[115,97,118,101]⟩:ByteArray),27⟩:S166),(⟨(⟨#[105,110,112,117,116]⟩:ByteArray),19⟩:S166),(⟨(⟨#[108,101,110,103,116,104]⟩:ByteArray),1⟩:S166),(⟨(⟨#[106,117,109,112]⟩:ByteArray),16⟩:S166),(⟨(⟨#[98,114,97,110,99,104]⟩:ByteArray),17⟩:S166),(⟨(⟨#[99,97,108,108]⟩:ByteArray),16⟩:S166),(⟨(⟨#[98,97,99,107]⟩:ByteArray),0⟩:S166),(⟨(⟨#[102,97,105,108]⟩:ByteArray),0⟩:S166)]:List (S166)))
theorem z2n.calls  (r:List (S166)) (w:World) (h:z2n.f  = some r) :
  Calls Tryz.prog 141 #[] w fun e w'=>∃ v0_:Value,e=.returned (v0_)∧Kd.R k166 166 w' w.heap.size (fun _=>True) v0_ r∧Below w.heap.size w w':=by
 have hu166:=Tryz.underlying166;have HB:=Aside0.mk (Below.refl w.heap.size w);have H:(some (([(⟨(⟨#[104,97,108,116]⟩:ByteArray),0⟩:S166),(⟨(⟨#[115,101,116]⟩:ByteArray),17⟩:S166),(⟨(⟨#[99,111,112,121]⟩:ByteArray),3⟩:S166),(⟨(⟨#[97,100,100]⟩:ByteArray),7⟩:S166),(⟨(⟨#[115,117,98]⟩:ByteArray),7⟩:S166),(⟨(⟨#[109,117,108]⟩:ByteArray),7⟩:S166),(⟨(⟨#[100,105,118]⟩:ByteArray),7⟩:S166),(⟨(⟨#[114,101,109]⟩:ByteArray),7⟩:S166),(⟨(⟨#[97,110,100]⟩:ByteArray),7⟩:S166),(⟨(⟨#[111,114]⟩:ByteArray),7⟩:S166),(⟨(⟨#[120,111,114]⟩:ByteArray),7⟩:S166),(⟨(⟨#[115,104,108]⟩:ByteArray),7⟩:S166),(⟨(⟨#[115,104,114]⟩:ByteArray),7⟩:S166),(⟨(⟨#[115,97,114]⟩:ByteArray),7⟩:S166),(⟨(⟨#[115,97,109,101]⟩:ByteArray),7⟩:S166),(⟨(⟨#[108,101,115,115]⟩:ByteArray),7⟩:S166),(⟨(⟨#[98,101,108,111,119]⟩:ByteArray),7⟩:S166),(⟨(⟨#[108,111,97,100]⟩:ByteArray),27⟩:S166),(⟨(⟨#[115,97,118,101]⟩:ByteArray),27⟩:S166),(⟨(⟨#[105,110,112,117,116]⟩:ByteArray),19⟩:S166),(⟨(⟨#[108,101,110,103,116,104]⟩:ByteArray),1⟩:S166),(⟨(⟨#[106,117,109,112]⟩:ByteArray),16⟩:S166),(⟨(⟨#[98,114,97,110,99,104]⟩:ByteArray),17⟩:S166),(⟨(⟨#[99,97,108,108]⟩:ByteArray),16⟩:S166),(⟨(⟨#[98,97,99,107]⟩:ByteArray),0⟩:S166),(⟨(⟨#[102,97,105,108]⟩:ByteArray),0⟩:S166)]:List (S166))))=some r:=h;clear h;obtain ⟨y112,hy112⟩:∃ y_:List (S166),y_=(([(⟨(⟨#[104,97,108,116]⟩:ByteArray),0⟩:S166),(⟨(⟨#[115,101,116]⟩:ByteArray),17⟩:S166),(⟨(⟨#[99,111,112,121]⟩:ByteArray),3⟩:S166),(⟨(⟨#[97,100,100]⟩:ByteArray),7⟩:S166),(⟨(⟨#[115,117,98]⟩:ByteArray),7⟩:S166),(⟨(⟨#[109,117,108]⟩:ByteArray),7⟩:S166),(⟨(⟨#[100,105,118]⟩:ByteArray),7⟩:S166),(⟨(⟨#[114,101,109]⟩:ByteArray),7⟩:S166),(⟨(⟨#[97,110,100]⟩:ByteArray),7⟩:S166),(⟨(⟨#[111,114]⟩:ByteArray),7⟩:S166),(⟨(⟨#[120,111,114]⟩:ByteArray),7⟩:S166),(⟨(⟨#[115,104,108]⟩:ByteArray),7⟩:S166),(⟨(⟨#[115,104,114]⟩:ByteArray),7⟩:S166),(⟨(⟨#[115,97,114]⟩:ByteArray),7⟩:S166),(⟨(⟨#[115,97,109,101]⟩:ByteArray),7⟩:S166),(⟨(⟨#[108,101,115,115]⟩:ByteArray),7⟩:S166),(⟨(⟨#[98,101,108,111,119]⟩:ByteArray),7⟩:S166),(⟨(⟨#[108,111,97,100]⟩:ByteArray),27⟩:S166),(⟨(⟨#[115,97,118,101]⟩:ByteArray),27⟩:S166),(⟨(⟨#[105,110,112,117,116]⟩:ByteArray),19⟩:S166),(⟨(⟨#[108,101,110,103,116,104]⟩:ByteArray),1⟩:S166),(⟨(⟨#[106,117,109,112]⟩:ByteArray),16⟩:S166),(⟨(⟨#[98,114,97,110,99,104]⟩:ByteArray),17⟩:S166),(⟨(⟨#[99,97,108,108]⟩:ByteArray),16⟩:S166),(⟨(⟨#[98,97,99,107]⟩:ByteArray),0⟩:S166),(⟨(⟨#[102,97,105,108]⟩:ByteArray),0⟩:S166)]:List (S166))):=⟨_,rfl⟩;replace H:(some y112)=some r:=by first|(rw [hy112];with_reducible exact H)|(have H2_:=(Option.bind_some _ _).symm.trans H;rw [hy112];with_reducible exact H2_)|(have H2_:=(Option.bind_some _ _).symm.trans H;with_reducible exact H2_)|with_reducible exact H|(rw [hy112];exact H)|exact H
 have Ny112:=Aside0.mk hy112;clear hy112;obtain rfl:=Option.some.inj H
 go_enter Tryz.func141,Tryz.ntmps141
 go_wp2_with (first|((with_reducible refine z15 (N:=27) rfl ?_);refine Kd.R_lit k166 _ 166 ?hg (N:=27) ?hd (xs:=([(⟨(⟨#[104,97,108,116]⟩:ByteArray),0⟩:S166),(⟨(⟨#[115,101,116]⟩:ByteArray),17⟩:S166),(⟨(⟨#[99,111,112,121]⟩:ByteArray),3⟩:S166),(⟨(⟨#[97,100,100]⟩:ByteArray),7⟩:S166),(⟨(⟨#[115,117,98]⟩:ByteArray),7⟩:S166),(⟨(⟨#[109,117,108]⟩:ByteArray),7⟩:S166),(⟨(⟨#[100,105,118]⟩:ByteArray),7⟩:S166),(⟨(⟨#[114,101,109]⟩:ByteArray),7⟩:S166),(⟨(⟨#[97,110,100]⟩:ByteArray),7⟩:S166),(⟨(⟨#[111,114]⟩:ByteArray),7⟩:S166),(⟨(⟨#[120,111,114]⟩:ByteArray),7⟩:S166),(⟨(⟨#[115,104,108]⟩:ByteArray),7⟩:S166),(⟨(⟨#[115,104,114]⟩:ByteArray),7⟩:S166),(⟨(⟨#[115,97,114]⟩:ByteArray),7⟩:S166),(⟨(⟨#[115,97,109,101]⟩:ByteArray),7⟩:S166),(⟨(⟨#[108,101,115,115]⟩:ByteArray),7⟩:S166),(⟨(⟨#[98,101,108,111,119]⟩:ByteArray),7⟩:S166),(⟨(⟨#[108,111,97,100]⟩:ByteArray),27⟩:S166),(⟨(⟨#[115,97,118,101]⟩:ByteArray),27⟩:S166),(⟨(⟨#[105,110,112,117,116]⟩:ByteArray),19⟩:S166),(⟨(⟨#[108,101,110,103,116,104]⟩:ByteArray),1⟩:S166),(⟨(⟨#[106,117,109,112]⟩:ByteArray),16⟩:S166),(⟨(⟨#[98,114,97,110,99,104]⟩:ByteArray),17⟩:S166),(⟨(⟨#[99,97,108,108]⟩:ByteArray),16⟩:S166),(⟨(⟨#[98,97,99,107]⟩:ByteArray),0⟩:S166),(⟨(⟨#[102,97,105,108]⟩:ByteArray),0⟩:S166)]:List (S166))) (inner:=[.string (⟨#[104,97,108,116]⟩:ByteArray),.int .i64 0,.string (⟨#[115,101,116]⟩:ByteArray),.int .i64 17,.string (⟨#[99,111,112,121]⟩:ByteArray),.int .i64 3,.string (⟨#[97,100,100]⟩:ByteArray),.int .i64 7,.string (⟨#[115,117,98]⟩:ByteArray),.int .i64 7,.string (⟨#[109,117,108]⟩:ByteArray),.int .i64 7,.string (⟨#[100,105,118]⟩:ByteArray),.int .i64 7,.string (⟨#[114,101,109]⟩:ByteArray),.int .i64 7,.string (⟨#[97,110,100]⟩:ByteArray),.int .i64 7,.string (⟨#[111,114]⟩:ByteArray),.int .i64 7,.string (⟨#[120,111,114]⟩:ByteArray),.int .i64 7,.string (⟨#[115,104,108]⟩:ByteArray),.int .i64 7,.string (⟨#[115,104,114]⟩:ByteArray),.int .i64 7,.string (⟨#[115,97,114]⟩:ByteArray),.int .i64 7,.string (⟨#[115,97,109,101]⟩:ByteArray),.int .i64 7,.string (⟨#[108,101,115,115]⟩:ByteArray),.int .i64 7,.string (⟨#[98,101,108,111,119]⟩:ByteArray),.int .i64 7,.string (⟨#[108,111,97,100]⟩:ByteArray),.int .i64 27,.string (⟨#[115,97,118,101]⟩:ByteArray),.int .i64 27,.string (⟨#[105,110,112,117,116]⟩:ByteArray),.int .i64 19,.string (⟨#[108,101,110,103,116,104]⟩:ByteArray),.int .i64 1,.string (⟨#[106,117,109,112]⟩:ByteArray),.int .i64 16,.string (⟨#[98,114,97,110,99,104]⟩:ByteArray),.int .i64 17,.string (⟨#[99,97,108,108]⟩:ByteArray),.int .i64 16,.string (⟨#[98,97,99,107]⟩:ByteArray),.int .i64 0,.string (⟨#[102,97,105,108]⟩:ByteArray),.int .i64 0]) (ok:=fun _=>True) (okp:=fun _=>True) ?hr ?hp (fun _ hk=>hk) trivial (Below.refl _ _) (Nat.le_refl _) (by simp) ?_;(case hd=>rfl);(case hg=>rfl);(case hr=>first|(go_simp;done)|(go_simp;rfl));(case hp=>exact (Reps.c2 (show Kd.M k166 _ _ _ (⟨(⟨#[104,97,108,116]⟩:ByteArray),0⟩:S166) [.string (⟨#[104,97,108,116]⟩:ByteArray),.int .i64 0] from (z1h _ _ _ (⟨(⟨#[104,97,108,116]⟩:ByteArray),0⟩:S166) )) (Reps.c2 (show Kd.M k166 _ _ _ (⟨(⟨#[115,101,116]⟩:ByteArray),17⟩:S166) [.string (⟨#[115,101,116]⟩:ByteArray),.int .i64 17] from (z1h _ _ _ (⟨(⟨#[115,101,116]⟩:ByteArray),17⟩:S166) )) (Reps.c2 (show Kd.M k166 _ _ _ (⟨(⟨#[99,111,112,121]⟩:ByteArray),3⟩:S166) [.string (⟨#[99,111,112,121]⟩:ByteArray),.int .i64 3] from (z1h _ _ _ (⟨(⟨#[99,111,112,121]⟩:ByteArray),3⟩:S166) )) (Reps.c2 (show Kd.M k166 _ _ _ (⟨(⟨#[97,100,100]⟩:ByteArray),7⟩:S166) [.string (⟨#[97,100,100]⟩:ByteArray),.int .i64 7] from (z1h _ _ _ (⟨(⟨#[97,100,100]⟩:ByteArray),7⟩:S166) )) (Reps.c2 (show Kd.M k166 _ _ _ (⟨(⟨#[115,117,98]⟩:ByteArray),7⟩:S166) [.string (⟨#[115,117,98]⟩:ByteArray),.int .i64 7] from (z1h _ _ _ (⟨(⟨#[115,117,98]⟩:ByteArray),7⟩:S166) )) (Reps.c2 (show Kd.M k166 _ _ _ (⟨(⟨#[109,117,108]⟩:ByteArray),7⟩:S166) [.string (⟨#[109,117,108]⟩:ByteArray),.int .i64 7] from (z1h _ _ _ (⟨(⟨#[109,117,108]⟩:ByteArray),7⟩:S166) )) (Reps.c2 (show Kd.M k166 _ _ _ (⟨(⟨#[100,105,118]⟩:ByteArray),7⟩:S166) [.string (⟨#[100,105,118]⟩:ByteArray),.int .i64 7] from (z1h _ _ _ (⟨(⟨#[100,105,118]⟩:ByteArray),7⟩:S166) )) (Reps.c2 (show Kd.M k166 _ _ _ (⟨(⟨#[114,101,109]⟩:ByteArray),7⟩:S166) [.string (⟨#[114,101,109]⟩:ByteArray),.int .i64 7] from (z1h _ _ _ (⟨(⟨#[114,101,109]⟩:ByteArray),7⟩:S166) )) (Reps.c2 (show Kd.M k166 _ _ _ (⟨(⟨#[97,110,100]⟩:ByteArray),7⟩:S166) [.string (⟨#[97,110,100]⟩:ByteArray),.int .i64 7] from (z1h _ _ _ (⟨(⟨#[97,110,100]⟩:ByteArray),7⟩:S166) )) (Reps.c2 (show Kd.M k166 _ _ _ (⟨(⟨#[111,114]⟩:ByteArray),7⟩:S166) [.string (⟨#[111,114]⟩:ByteArray),.int .i64 7] from (z1h _ _ _ (⟨(⟨#[111,114]⟩:ByteArray),7⟩:S166) )) (Reps.c2 (show Kd.M k166 _ _ _ (⟨(⟨#[120,111,114]⟩:ByteArray),7⟩:S166) [.string (⟨#[120,111,114]⟩:ByteArray),.int .i64 7] from (z1h _ _ _ (⟨(⟨#[120,111,114]⟩:ByteArray),7⟩:S166) )) (Reps.c2 (show Kd.M k166 _ _ _ (⟨(⟨#[115,104,108]⟩:ByteArray),7⟩:S166) [.string (⟨#[115,104,108]⟩:ByteArray),.int .i64 7] from (z1h _ _ _ (⟨(⟨#[115,104,108]⟩:ByteArray),7⟩:S166) )) (Reps.c2 (show Kd.M k166 _ _ _ (⟨(⟨#[115,104,114]⟩:ByteArray),7⟩:S166) [.string (⟨#[115,104,114]⟩:ByteArray),.int .i64 7] from (z1h _ _ _ (⟨(⟨#[115,104,114]⟩:ByteArray),7⟩:S166) )) (Reps.c2 (show Kd.M k166 _ _ _ (⟨(⟨#[115,97,114]⟩:ByteArray),7⟩:S166) [.string (⟨#[115,97,114]⟩:ByteArray),.int .i64 7] from (z1h _ _ _ (⟨(⟨#[115,97,114]⟩:ByteArray),7⟩:S166) )) (Reps.c2 (show Kd.M k166 _ _ _ (⟨(⟨#[115,97,109,101]⟩:ByteArray),7⟩:S166) [.string (⟨#[115,97,109,101]⟩:ByteArray),.int .i64 7] from (z1h _ _ _ (⟨(⟨#[115,97,109,101]⟩:ByteArray),7⟩:S166) )) (Reps.c2 (show Kd.M k166 _ _ _ (⟨(⟨#[108,101,115,115]⟩:ByteArray),7⟩:S166) [.string (⟨#[108,101,115,115]⟩:ByteArray),.int .i64 7] from (z1h _ _ _ (⟨(⟨#[108,101,115,115]⟩:ByteArray),7⟩:S166) )) (Reps.c2 (show Kd.M k166 _ _ _ (⟨(⟨#[98,101,108,111,119]⟩:ByteArray),7⟩:S166) [.string (⟨#[98,101,108,111,119]⟩:ByteArray),.int .i64 7] from (z1h _ _ _ (⟨(⟨#[98,101,108,111,119]⟩:ByteArray),7⟩:S166) )) (Reps.c2 (show Kd.M k166 _ _ _ (⟨(⟨#[108,111,97,100]⟩:ByteArray),27⟩:S166) [.string (⟨#[108,111,97,100]⟩:ByteArray),.int .i64 27] from (z1h _ _ _ (⟨(⟨#[108,111,97,100]⟩:ByteArray),27⟩:S166) )) (Reps.c2 (show Kd.M k166 _ _ _ (⟨(⟨#[115,97,118,101]⟩:ByteArray),27⟩:S166) [.string (⟨#[115,97,118,101]⟩:ByteArray),.int .i64 27] from (z1h _ _ _ (⟨(⟨#[115,97,118,101]⟩:ByteArray),27⟩:S166) )) (Reps.c2 (show Kd.M k166 _ _ _ (⟨(⟨#[105,110,112,117,116]⟩:ByteArray),19⟩:S166) [.string (⟨#[105,110,112,117,116]⟩:ByteArray),.int .i64 19] from (z1h _ _ _ (⟨(⟨#[105,110,112,117,116]⟩:ByteArray),19⟩:S166) )) (Reps.c2 (show Kd.M k166 _ _ _ (⟨(⟨#[108,101,110,103,116,104]⟩:ByteArray),1⟩:S166) [.string (⟨#[108,101,110,103,116,104]⟩:ByteArray),.int .i64 1] from (z1h _ _ _ (⟨(⟨#[108,101,110,103,116,104]⟩:ByteArray),1⟩:S166) )) (Reps.c2 (show Kd.M k166 _ _ _ (⟨(⟨#[106,117,109,112]⟩:ByteArray),16⟩:S166) [.string (⟨#[106,117,109,112]⟩:ByteArray),.int .i64 16] from (z1h _ _ _ (⟨(⟨#[106,117,109,112]⟩:ByteArray),16⟩:S166) )) (Reps.c2 (show Kd.M k166 _ _ _ (⟨(⟨#[98,114,97,110,99,104]⟩:ByteArray),17⟩:S166) [.string (⟨#[98,114,97,110,99,104]⟩:ByteArray),.int .i64 17] from (z1h _ _ _ (⟨(⟨#[98,114,97,110,99,104]⟩:ByteArray),17⟩:S166) )) (Reps.c2 (show Kd.M k166 _ _ _ (⟨(⟨#[99,97,108,108]⟩:ByteArray),16⟩:S166) [.string (⟨#[99,97,108,108]⟩:ByteArray),.int .i64 16] from (z1h _ _ _ (⟨(⟨#[99,97,108,108]⟩:ByteArray),16⟩:S166) )) (Reps.c2 (show Kd.M k166 _ _ _ (⟨(⟨#[98,97,99,107]⟩:ByteArray),0⟩:S166) [.string (⟨#[98,97,99,107]⟩:ByteArray),.int .i64 0] from (z1h _ _ _ (⟨(⟨#[98,97,99,107]⟩:ByteArray),0⟩:S166) )) (Reps.c2 (show Kd.M k166 _ _ _ (⟨(⟨#[102,97,105,108]⟩:ByteArray),0⟩:S166) [.string (⟨#[102,97,105,108]⟩:ByteArray),.int .i64 0] from (z1h _ _ _ (⟨(⟨#[102,97,105,108]⟩:ByteArray),0⟩:S166) )) (Reps.none _ _))))))))))))))))))))))))))));intro v113 w1 ho2 hb hg_ hnew_;clear hg_ hnew_;(first|rw [← Ny112.out] at ho2|(simp only [Int.reduceToNat] at ho2;rw [← Ny112.out] at ho2));have n0_:=Aside0.mk (Kd.R_lower ho2 (z0o (by repeat (first|exact HB.out|apply z04|apply z03|apply z05))));have n1_:=Aside0.mk (z0t (by repeat (first|exact HB.out|apply z04|apply z03|apply z05)) hb);clear HB;have HO114:=n0_;have HB:=n1_;clear n0_ n1_;clear hb ho2))
 go_ret
 exact ⟨_,by first|rfl|(simp [z0k,z0j] <;> rfl)|(simp [*,z0k,z0j] <;> rfl),by (with_reducible repeat (first|apply Kd.R_alloc|apply Kd.R_drewN|apply Kd.R_drew));exact HO114.out,by repeat (first|exact HB.out|apply z04|apply z03|apply z05)⟩
attribute [local go_sem] z1w z1x z23 z26 z1r z1q z1u z1v
def z0v.l0:Nat→List Int→List Int→Int→Option (Bool)
 | 0,_,_,_=>none
 | k+1,x0,x1,x5=>if x5 < (x0.length:Int) then (if 0≤x5 then (if x5 < (x1.length:Int) then (if (rd x0 x5)=(rd x1 x5) then (z0v.l0 k x0 x1 (wrap64 (x5+1))) else (some false)) else (none)) else (none)) else (some true)
def z0v.f (k:Nat) (l0:List Int) (l1:List Int):Option (Bool):=if (l0.length:Int)=(l1.length:Int) then (z0v.l0 k l0 l1 0) else (some false)
theorem z0v.mono_l:∀ k,(∀ y0 y1 y2,LeO (z0v.l0 k y0 y1 y2) (z0v.l0 (k+1) y0 y1 y2))
 | 0=>fun _ _ _ r h=>by simp [z0v.l0] at h
 | k+1=>by
  have ih0:=z0v.mono_l k
  ·intro y0 y1 y2;unfold z0v.l0
   repeat' first|exact ih0 _ _ _|exact LeO.none _|refine LeO.ite ?_ ?_|refine LeO.bind ?_ (fun _=>?_)|exact LeO.refl _
theorem z0v.mono:∀ a0 a1 k,LeO (z0v.f k a0 a1) (z0v.f (k+1) a0 a1):=by
 intro a0 a1 k;have ih0:=z0v.mono_l k;unfold z0v.f
 repeat' first|exact ih0 _ _ _|exact LeO.none _|refine LeO.ite ?_ ?_|refine LeO.bind ?_ (fun _=>?_)|exact LeO.refl _
theorem z0v.calls (k:Nat) (A0:Option Addr) (c0:Nat) (l0:List Int) (A1:Option Addr) (c1:Nat) (l1:List Int) (r:Bool) (w:World) (hr0:Kd.C (Kd.int .i64) w A0 l0.length l0) (hc0:l0.length≤c0) (hr1:Kd.C (Kd.int .i64) w A1 l1.length l1) (hc1:l1.length≤c1) (h:z0v.f k l0 l1=some r) :
  Calls Tryz.prog 19 #[.slice A0 l0.length c0,.slice A1 l1.length c1] w fun e w'=>e=.returned (.bool r)∧Drawn0 w w':=by
 have HR0:=Aside0.mk hr0;have HC0:=Aside0.mk hc0;clear hr0 hc0;have HR1:=Aside0.mk hr1;have HC1:=Aside0.mk hc1;clear hr1 hc1;have H:(if (l0.length:Int)=(l1.length:Int) then (z0v.l0 k l0 l1 0) else (some false))=some r:=h;clear h
 by_cases c3:(l0.length:Int)=(l1.length:Int)
 ·rw [if_pos c3] at H;have c3b0:((l0.length:Int) == (l1.length:Int))=true:=beq_iff_eq.mpr c3;have c3b1:((l0.length:Int) != (l1.length:Int))=false:=bne_eq_false_iff_eq.mpr c3;have c3b2:(l0.length == l1.length)=true:=by first|simpa using c3|(simp at c3 ⊢;omega)
  clear c3;have H':=Aside0.mk H;clear H
  go_enter Tryz.func19,Tryz.ntmps19
  go_wp2
  repeat (go_quiet (fail);try go_wp2)
  go_loopg [5] k (fun kq v5 w'=>∃ (x5_1:Int),v5=.int .i64 x5_1∧Aside0 (z0v.l0 kq l0 l1 x5_1=some r)∧Aside0 (kq≤k)∧Drawn0 w w')
  case atStart=>exact ⟨(0),(by first|rfl|(simp;done)|(simp [*];done)),H',⟨Nat.le_refl _⟩,by repeat (first|exact Drawn0.refl _|apply Drawn0.step)⟩
  case round =>
   clear H';obtain ⟨x5_1,rfl,HA,HK1,⟨m1,rfl⟩⟩:=hrel;cases gk with
   | zero=>exact absurd HA.out (by simp [z0v.l0])
   | succ k1 =>
    have H:=HA.out;clear HA;simp only [z0v.l0] at H
    by_cases c4:x5_1 < (l0.length:Int)
    ·rw [if_pos c4] at H;have c4b0:decide (x5_1 < (l0.length:Int))=true:=decide_eq_true c4;clear c4
     by_cases c5:0≤x5_1
     ·rw [if_pos c5] at H;have c5b0:decide (0≤x5_1)=true:=decide_eq_true c5;clear c5
      by_cases c6:x5_1 < (l1.length:Int)
      ·rw [if_pos c6] at H;have c6b0:decide (x5_1 < (l1.length:Int))=true:=decide_eq_true c6;clear c6
       by_cases c7:(rd l0 x5_1)=(rd l1 x5_1)
       ·rw [if_pos c7] at H;have c7b0:((rd l0 x5_1) == (rd l1 x5_1))=true:=beq_iff_eq.mpr c7;have c7b1:((rd l0 x5_1) != (rd l1 x5_1))=false:=bne_eq_false_iff_eq.mpr c7;clear c7;have H':=Aside0.mk H;clear H;have p189:0≤(x5_1:Int):=of_decide_eq_true (by assumption);have q189:x5_1 < (l0.length:Int):=of_decide_eq_true (by assumption);obtain ⟨ad189,e189,hx189_0⟩:=Kd.at_int HR0.out x5_1 p189 q189;cases e189;replace p189:=eq_true p189;replace q189:=eq_true q189;have p190:0≤(x5_1:Int):=of_decide_eq_true (by assumption);have q190:x5_1 < (l1.length:Int):=of_decide_eq_true (by assumption);obtain ⟨ad190,e190,hx190_0⟩:=Kd.at_int HR1.out x5_1 p190 q190;cases e190;replace p190:=eq_true p190;replace q190:=eq_true q190;go_wp2
        repeat (go_quiet (fail);try go_wp2)
        go_roundg k1
        case measure=>have:=HK1.out;omega
        case rel=>exact ⟨(wrap64 (x5_1+1)),(by first|rfl|(simp;done)|(simp [*];done)),H',⟨by have:=HK1.out;omega⟩,by repeat (first|exact Drawn0.refl _|apply Drawn0.step)⟩
       ·rw [if_neg c7] at H;have c7b0:((rd l0 x5_1) == (rd l1 x5_1))=false:=beq_eq_false_iff_ne.mpr c7;have c7b1:((rd l0 x5_1) != (rd l1 x5_1))=true:=bne_iff_ne.mpr c7;obtain rfl:=Option.some.inj H;have p189:0≤(x5_1:Int):=of_decide_eq_true (by assumption);have q189:x5_1 < (l0.length:Int):=of_decide_eq_true (by assumption);obtain ⟨ad189,e189,hx189_0⟩:=Kd.at_int HR0.out x5_1 p189 q189;cases e189;replace p189:=eq_true p189;replace q189:=eq_true q189;have p190:0≤(x5_1:Int):=of_decide_eq_true (by assumption);have q190:x5_1 < (l1.length:Int):=of_decide_eq_true (by assumption);obtain ⟨ad190,e190,hx190_0⟩:=Kd.at_int HR1.out x5_1 p190 q190;cases e190;replace p190:=eq_true p190;replace q190:=eq_true q190;go_wp2
        repeat (go_quiet (fail);try go_wp2)
        go_ret
        exact ⟨by first|rfl|(simp;done)|(simp [*];done),by repeat (first|exact Drawn0.refl _|apply Drawn0.step)⟩
      ·rw [if_neg c6] at H;exact absurd H (by simp)
     ·rw [if_neg c5] at H;exact absurd H (by simp)
    ·rw [if_neg c4] at H;have c4b0:decide (x5_1 < (l0.length:Int))=false:=decide_eq_false c4;clear c4;obtain rfl:=Option.some.inj H;go_wp2
     repeat (go_quiet (fail);try go_wp2)
     go_ret
     exact ⟨by first|rfl|(simp;done)|(simp [*];done),by repeat (first|exact Drawn0.refl _|apply Drawn0.step)⟩
 ·rw [if_neg c3] at H;have c3b0:((l0.length:Int) == (l1.length:Int))=false:=beq_eq_false_iff_ne.mpr c3;have c3b1:((l0.length:Int) != (l1.length:Int))=true:=bne_iff_ne.mpr c3;have c3b2:(l0.length == l1.length)=false:=by first|simpa using c3|(simp at c3 ⊢;omega)
  obtain rfl:=Option.some.inj H
  go_enter Tryz.func19,Tryz.ntmps19
  go_wp2
  repeat (go_quiet (fail);try go_wp2)
  go_ret
  exact ⟨by first|rfl|(simp;done)|(simp [*];done),by repeat (first|exact Drawn0.refl _|apply Drawn0.step)⟩
mutual
def z16.j0:Nat→Int→Bool→Int→Int→Int→List Int→List Int→List (S79)→Option (Int)
 | 0,_,_,_,_,_,_,_,_=>none
 | k+1,x1,x14,xag,xah,xai,xaj,xak,xal=>if x14=true then (some (-1)) else (z16.l0 k x1 (wrap64 ((xak.length:Int) - 1)) xag xah xai xaj xak xal)
def z16.l0:Nat→Int→Int→Int→Int→Int→List Int→List Int→List (S79)→Option (Int)
 | 0,_,_,_,_,_,_,_,_=>none
 | k+1,x1,x5,xag,xah,xai,xaj,xak,xal=>if x5 ≥ 0 then (if 0≤x5 then (if x5 < (xak.length:Int) then (if (rd xak x5) > x1 then (z16.l0 k x1 (wrap64 (x5 - 1)) xag xah xai xaj xak xal) else (some x5)) else (none)) else (none)) else (some x5)
end
def z16.f (k:Nat) (a0_0:Int) (a0_1:Int) (a0_2:Int) (l0_3:List Int) (l0_4:List Int) (l0_5:List (S79)) (a1:Int):Option (Int):=if a1 < 0 then (z16.j0 k a1 true a0_0 a0_1 a0_2 l0_3 l0_4 l0_5) else (z16.j0 k a1 (decide (a1 ≥ (l0_5.length:Int))) a0_0 a0_1 a0_2 l0_3 l0_4 l0_5)
theorem z16.mono_l:∀ k,(∀ y0 y1 y2 y3 y4 y5 y6 y7,LeO (z16.j0 k y0 y1 y2 y3 y4 y5 y6 y7) (z16.j0 (k+1) y0 y1 y2 y3 y4 y5 y6 y7))∧(∀ y0 y1 y2 y3 y4 y5 y6 y7,LeO (z16.l0 k y0 y1 y2 y3 y4 y5 y6 y7) (z16.l0 (k+1) y0 y1 y2 y3 y4 y5 y6 y7))
 | 0=>⟨fun _ _ _ _ _ _ _ _ r h=>by simp [z16.j0] at h,fun _ _ _ _ _ _ _ _ r h=>by simp [z16.l0] at h⟩
 | k+1=>by
  obtain ⟨ih0,ih1⟩:=z16.mono_l k;refine ⟨?_,?_⟩
  ·intro y0 y1 y2 y3 y4 y5 y6 y7;unfold z16.j0
   repeat' first|exact ih0 _ _ _ _ _ _ _ _|exact ih1 _ _ _ _ _ _ _ _|exact LeO.none _|refine LeO.ite ?_ ?_|refine LeO.bind ?_ (fun _=>?_)|exact LeO.refl _
  ·intro y0 y1 y2 y3 y4 y5 y6 y7;unfold z16.l0
   repeat' first|exact ih0 _ _ _ _ _ _ _ _|exact ih1 _ _ _ _ _ _ _ _|exact LeO.none _|refine LeO.ite ?_ ?_|refine LeO.bind ?_ (fun _=>?_)|exact LeO.refl _
theorem z16.mono:∀ a0 a1 a2 a3 a4 a5 a6 k,LeO (z16.f k a0 a1 a2 a3 a4 a5 a6) (z16.f (k+1) a0 a1 a2 a3 a4 a5 a6):=by
 intro a0 a1 a2 a3 a4 a5 a6 k;obtain ⟨ih0,ih1⟩:=z16.mono_l k;unfold z16.f
 repeat' first|exact ih0 _ _ _ _ _ _ _ _|exact ih1 _ _ _ _ _ _ _ _|exact LeO.none _|refine LeO.ite ?_ ?_|refine LeO.bind ?_ (fun _=>?_)|exact LeO.refl _
theorem z16.calls (k:Nat) (a0_0:Int) (a0_1:Int) (a0_2:Int) (A0_3:Option Addr) (c0_3:Nat) (l0_3:List Int) (A0_4:Option Addr) (c0_4:Nat) (l0_4:List Int) (A0_5:Option Addr) (c0_5:Nat) (l0_5:List (S79)) (a1:Int) (r:Int) (w:World) (hr0_3:Kd.C (Kd.int .u8) w A0_3 l0_3.length l0_3) (hc0_3:l0_3.length≤c0_3) (hr0_4:Kd.C (Kd.int .i64) w A0_4 l0_4.length l0_4) (hc0_4:l0_4.length≤c0_4) (hr0_5:Kd.C k79 w A0_5 l0_5.length l0_5) (hc0_5:l0_5.length≤c0_5) (h:z16.f k a0_0 a0_1 a0_2 l0_3 l0_4 l0_5 a1=some r) :
  Calls Tryz.prog 77 #[.agg #[.int .i64 a0_0,.int .i64 a0_1,.int .i64 a0_2,.slice A0_3 l0_3.length c0_3,.slice A0_4 l0_4.length c0_4,.slice A0_5 l0_5.length c0_5],.int .i64 a1] w fun e w'=>e=.returned (.int .i64 r)∧Below w.heap.size w w':=by
 have hu26:=Tryz.underlying26;have HR0_3:=Aside0.mk hr0_3;have HC0_3:=Aside0.mk hc0_3;clear hr0_3 hc0_3;have HR0_4:=Aside0.mk hr0_4;have HC0_4:=Aside0.mk hc0_4;clear hr0_4 hc0_4;have HR0_5:=Aside0.mk hr0_5;have HC0_5:=Aside0.mk hc0_5;clear hr0_5 hc0_5;have HB:=Aside0.mk (Below.refl w.heap.size w);have H:(if a1 < 0 then (z16.j0 k a1 true a0_0 a0_1 a0_2 l0_3 l0_4 l0_5) else (z16.j0 k a1 (decide (a1 ≥ (l0_5.length:Int))) a0_0 a0_1 a0_2 l0_3 l0_4 l0_5))=some r:=h;clear h;have HC3:=Aside0.mk H;clear H
 go_enter Tryz.func77,Tryz.ntmps77
 go_upto_region 1 with (first|((with_reducible refine z15 (N:=2) rfl ?_);(try (refine z20 (by rfl) ?_;dsimp only));refine z1e ?hg (N:=2) ?hd (cs:=#[.int .i64 a0_0,.int .i64 a0_1,.int .i64 a0_2,.slice A0_3 l0_3.length c0_3,.slice A0_4 l0_4.length c0_4,.slice A0_5 l0_5.length c0_5]) (t:=26) ?hr ?_;(case hd=>rfl);(case hg=>rfl);(case hr=>first|(go_simp;done)|(go_simp;rfl));intro gb191 hg w4 hbox hb;have n0_:=Aside0.mk (z0t (by repeat (first|exact HB.out|apply z04|apply z03|apply z05)) hb);have n1_:=Aside0.mk (hbox);have n2_:=Aside0.mk ((by rw [hg];exact (z0o (by repeat (first|exact HB.out|apply z04|apply z03|apply z05))):w.heap.size≤gb191));have n3_:=Aside0.mk ((by rw [hg];exact (z0o (by repeat (first|exact HB.out|apply z04|apply z03|apply z05))):w.heap.size≤gb191));clear HB;have HB:=n0_;have BK191:=n1_;have GW191:=n2_;have GE191:=n3_;clear n0_ n1_ n2_ n3_;clear hb hbox hg))
 (try simp only [Act.put,zq1,zq2,zq3])
 go_cut [14] (fun v14 wc=>∃ (kq:Nat) (x14_2:Bool),v14=.bool x14_2∧Aside0 (z16.j0 kq a1 x14_2 a0_0 a0_1 a0_2 l0_3 l0_4 l0_5=some r)∧Aside0 (kq≤k)∧Aside0 (wc.heap[gb191]?=some (.cells #[.int .i64 a0_0,.int .i64 a0_1,.int .i64 a0_2,(.slice A0_3 l0_3.length c0_3),(.slice A0_4 l0_4.length c0_4),(.slice A0_5 l0_5.length c0_5)] 26 (0,0)))∧Aside0 (Below w.heap.size w wc))
 case first =>
  have H:=HC3.out;clear HC3
  by_cases c5:a1 < 0
  ·rw [if_pos c5] at H;have c5b0:decide (a1 < 0)=true:=decide_eq_true c5;clear c5
   (first|rw [c5b0]|(simp only [i64_w,i32_w];rw [c5b0])|skip)
   have H':=Aside0.mk H;clear H;go_wp2
   go_meet
   case rel=>exact ⟨_,(true),(by first|rfl|(simp;done)|(simp [*];done)),H',⟨by first|omega|exact Nat.le_refl _⟩,⟨by (with_reducible repeat (first|refine z08 ?_ _|refine z09 ?_|refine z06 ?_ _));exact BK191.out⟩,⟨by repeat (first|(with_reducible first|exact HB.out|apply z04|apply z03|apply z05|refine z07 ?_ GE191.out)|exact HB.out)⟩⟩
  ·rw [if_neg c5] at H;have c5b0:decide (a1 < 0)=false:=decide_eq_false c5;clear c5
   (first|rw [c5b0]|(simp only [i64_w,i32_w];rw [c5b0])|skip)
   have H':=Aside0.mk H;clear H;have hcz6_0:w4.cell? ⟨gb191,0,none⟩=some (.int .i64 a0_0):=(z01 BK191.out 0).trans rfl;have hcz6_1:w4.cell? ⟨gb191,1,none⟩=some (.int .i64 a0_1):=(z01 BK191.out 1).trans rfl;have hcz6_2:w4.cell? ⟨gb191,2,none⟩=some (.int .i64 a0_2):=(z01 BK191.out 2).trans rfl;have hcz6_3:w4.cell? ⟨gb191,3,none⟩=some (.slice A0_3 l0_3.length c0_3):=(z01 BK191.out 3).trans rfl;have hcz6_4:w4.cell? ⟨gb191,4,none⟩=some (.slice A0_4 l0_4.length c0_4):=(z01 BK191.out 4).trans rfl;have hcz6_5:w4.cell? ⟨gb191,5,none⟩=some (.slice A0_5 l0_5.length c0_5):=(z01 BK191.out 5).trans rfl;have hfz6_0:=z02 BK191.out 0;have hfz6_1:=z02 BK191.out 1;have hfz6_2:=z02 BK191.out 2;have hfz6_3:=z02 BK191.out 3;have hfz6_4:=z02 BK191.out 4;have hfz6_5:=z02 BK191.out 5;go_wp2
   go_meet
   case rel=>exact ⟨_,(decide (a1 ≥ (l0_5.length:Int))),(by first|rfl|(simp;done)|(simp [*];done)),H',⟨by first|omega|exact Nat.le_refl _⟩,⟨by (with_reducible repeat (first|refine z08 ?_ _|refine z09 ?_|refine z06 ?_ _));exact BK191.out⟩,⟨by repeat (first|(with_reducible first|exact HB.out|apply z04|apply z03|apply z05|refine z07 ?_ GE191.out)|exact HB.out)⟩⟩
 case rest =>
  clear HC3;obtain ⟨kq,x14_2,rfl,HA,HJ2,BK191,HB⟩:=hcut;cases kq with
  | zero=>exact absurd HA.out (by simp [z16.j0])
  | succ kj2 =>
   have H:=HA.out;clear HA;simp only [z16.j0] at H
   by_cases c7:x14_2=true
   ·subst c7;have H1:(some (-1))=some r:=(by rw [if_pos rfl] at H;exact H);clear H;have H:=H1;clear H1;obtain rfl:=Option.some.inj H;go_wp2;go_ret
    exact ⟨by first|rfl|(simp [z0k,z0j] <;> rfl)|(simp [*,z0k,z0j] <;> rfl),by repeat (first|(with_reducible first|exact HB.out|apply z04|apply z03|apply z05|refine z07 ?_ GE191.out)|exact HB.out)⟩
   ·replace c7:=Bool.eq_false_iff.mpr c7;subst c7;have H1:(z16.l0 kj2 a1 (wrap64 ((l0_4.length:Int) - 1)) a0_0 a0_1 a0_2 l0_3 l0_4 l0_5)=some r:=(by rw [if_neg (show ¬ (false=true) by decide)] at H;exact H);clear H;have H:=H1;clear H1;have H':=Aside0.mk H;clear H;have hcz8_0:wc.cell? ⟨gb191,0,none⟩=some (.int .i64 a0_0):=(z01 BK191.out 0).trans rfl;have hcz8_1:wc.cell? ⟨gb191,1,none⟩=some (.int .i64 a0_1):=(z01 BK191.out 1).trans rfl;have hcz8_2:wc.cell? ⟨gb191,2,none⟩=some (.int .i64 a0_2):=(z01 BK191.out 2).trans rfl;have hcz8_3:wc.cell? ⟨gb191,3,none⟩=some (.slice A0_3 l0_3.length c0_3):=(z01 BK191.out 3).trans rfl;have hcz8_4:wc.cell? ⟨gb191,4,none⟩=some (.slice A0_4 l0_4.length c0_4):=(z01 BK191.out 4).trans rfl;have hcz8_5:wc.cell? ⟨gb191,5,none⟩=some (.slice A0_5 l0_5.length c0_5):=(z01 BK191.out 5).trans rfl;have hfz8_0:=z02 BK191.out 0;have hfz8_1:=z02 BK191.out 1;have hfz8_2:=z02 BK191.out 2;have hfz8_3:=z02 BK191.out 3;have hfz8_4:=z02 BK191.out 4;have hfz8_5:=z02 BK191.out 5;go_wp2
    go_loopg [5] kj2 (fun kq v5 w'=>∃ (x5_2:Int),v5=.int .i64 x5_2∧Aside0 (z16.l0 kq a1 x5_2 a0_0 a0_1 a0_2 l0_3 l0_4 l0_5=some r)∧Aside0 (kq≤kj2)∧Aside0 (w'.heap[gb191]?=some (.cells #[.int .i64 a0_0,.int .i64 a0_1,.int .i64 a0_2,(.slice A0_3 l0_3.length c0_3),(.slice A0_4 l0_4.length c0_4),(.slice A0_5 l0_5.length c0_5)] 26 (0,0)))∧Aside0 (Below w.heap.size w w'))
    case atStart=>exact ⟨(wrap64 ((l0_4.length:Int) - 1)),(by first|rfl|(simp;done)|(simp [*];done)),H',⟨Nat.le_refl _⟩,⟨by (with_reducible repeat (first|refine z08 ?_ _|refine z09 ?_|refine z06 ?_ _));exact BK191.out⟩,⟨by repeat (first|(with_reducible first|exact HB.out|apply z04|apply z03|apply z05|refine z07 ?_ GE191.out)|exact HB.out)⟩⟩
    case round =>
     clear H';obtain ⟨x5_2,rfl,HA,HK2,BK191,HB⟩:=hrel;cases gk with
     | zero=>exact absurd HA.out (by simp [z16.l0])
     | succ k2 =>
      have H:=HA.out;clear HA;simp only [z16.l0] at H
      by_cases c9:x5_2 ≥ 0
      ·rw [if_pos c9] at H;have c9b0:decide (0≤x5_2)=true:=decide_eq_true c9;clear c9
       by_cases c10:0≤x5_2
       ·rw [if_pos c10] at H;have c10b0:decide (0≤x5_2)=true:=decide_eq_true c10;clear c10
        by_cases c11:x5_2 < (l0_4.length:Int)
        ·rw [if_pos c11] at H;have c11b0:decide (x5_2 < (l0_4.length:Int))=true:=decide_eq_true c11;clear c11
         by_cases c12:(rd l0_4 x5_2) > a1
         ·rw [if_pos c12] at H;have c12b0:decide (a1 < (rd l0_4 x5_2))=true:=decide_eq_true c12;clear c12;have H':=Aside0.mk H;clear H;have hcz13_0:wr.cell? ⟨gb191,0,none⟩=some (.int .i64 a0_0):=(z01 BK191.out 0).trans rfl;have hcz13_1:wr.cell? ⟨gb191,1,none⟩=some (.int .i64 a0_1):=(z01 BK191.out 1).trans rfl;have hcz13_2:wr.cell? ⟨gb191,2,none⟩=some (.int .i64 a0_2):=(z01 BK191.out 2).trans rfl;have hcz13_3:wr.cell? ⟨gb191,3,none⟩=some (.slice A0_3 l0_3.length c0_3):=(z01 BK191.out 3).trans rfl;have hcz13_4:wr.cell? ⟨gb191,4,none⟩=some (.slice A0_4 l0_4.length c0_4):=(z01 BK191.out 4).trans rfl;have hcz13_5:wr.cell? ⟨gb191,5,none⟩=some (.slice A0_5 l0_5.length c0_5):=(z01 BK191.out 5).trans rfl;have hfz13_0:=z02 BK191.out 0;have hfz13_1:=z02 BK191.out 1;have hfz13_2:=z02 BK191.out 2;have hfz13_3:=z02 BK191.out 3;have hfz13_4:=z02 BK191.out 4;have hfz13_5:=z02 BK191.out 5;have p192:0≤(x5_2:Int):=of_decide_eq_true (by assumption);have q192:x5_2 < (l0_4.length:Int):=of_decide_eq_true (by assumption);obtain ⟨ad192,e192,hx192_0⟩:=Kd.at_int HR0_4.out x5_2 p192 q192;cases e192;replace hx192_0:=(HB.out.cell (World.block_lt_of_cell? w _ hx192_0)).trans hx192_0;replace p192:=eq_true p192;replace q192:=eq_true q192;go_wp2
          go_roundg k2
          case measure=>have:=HJ2.out;have:=HK2.out;omega
          case rel=>exact ⟨(wrap64 (x5_2 - 1)),(by first|rfl|(simp;done)|(simp [*];done)),H',⟨by have:=HJ2.out;have:=HK2.out;omega⟩,⟨by (with_reducible repeat (first|refine z08 ?_ _|refine z09 ?_|refine z06 ?_ _));exact BK191.out⟩,⟨by repeat (first|(with_reducible first|exact HB.out|apply z04|apply z03|apply z05|refine z07 ?_ GE191.out)|exact HB.out)⟩⟩
         ·rw [if_neg c12] at H;have c12b0:decide (a1 < (rd l0_4 x5_2))=false:=decide_eq_false c12;clear c12;obtain rfl:=Option.some.inj H;have hcz14_0:wr.cell? ⟨gb191,0,none⟩=some (.int .i64 a0_0):=(z01 BK191.out 0).trans rfl;have hcz14_1:wr.cell? ⟨gb191,1,none⟩=some (.int .i64 a0_1):=(z01 BK191.out 1).trans rfl;have hcz14_2:wr.cell? ⟨gb191,2,none⟩=some (.int .i64 a0_2):=(z01 BK191.out 2).trans rfl;have hcz14_3:wr.cell? ⟨gb191,3,none⟩=some (.slice A0_3 l0_3.length c0_3):=(z01 BK191.out 3).trans rfl;have hcz14_4:wr.cell? ⟨gb191,4,none⟩=some (.slice A0_4 l0_4.length c0_4):=(z01 BK191.out 4).trans rfl;have hcz14_5:wr.cell? ⟨gb191,5,none⟩=some (.slice A0_5 l0_5.length c0_5):=(z01 BK191.out 5).trans rfl;have hfz14_0:=z02 BK191.out 0;have hfz14_1:=z02 BK191.out 1;have hfz14_2:=z02 BK191.out 2;have hfz14_3:=z02 BK191.out 3;have hfz14_4:=z02 BK191.out 4;have hfz14_5:=z02 BK191.out 5;have p192:0≤(x5_2:Int):=of_decide_eq_true (by assumption);have q192:x5_2 < (l0_4.length:Int):=of_decide_eq_true (by assumption);obtain ⟨ad192,e192,hx192_0⟩:=Kd.at_int HR0_4.out x5_2 p192 q192;cases e192;replace hx192_0:=(HB.out.cell (World.block_lt_of_cell? w _ hx192_0)).trans hx192_0;replace p192:=eq_true p192;replace q192:=eq_true q192;go_wp2;go_ret
          exact ⟨by first|rfl|(simp [z0k,z0j] <;> rfl)|(simp [*,z0k,z0j] <;> rfl),by repeat (first|(with_reducible first|exact HB.out|apply z04|apply z03|apply z05|refine z07 ?_ GE191.out)|exact HB.out)⟩
        ·rw [if_neg c11] at H;exact absurd H (by simp)
       ·rw [if_neg c10] at H;exact absurd H (by simp)
      ·rw [if_neg c9] at H;have c9b0:decide (0≤x5_2)=false:=decide_eq_false c9;clear c9;obtain rfl:=Option.some.inj H;go_wp2;go_ret
       exact ⟨by first|rfl|(simp [z0k,z0j] <;> rfl)|(simp [*,z0k,z0j] <;> rfl),by repeat (first|(with_reducible first|exact HB.out|apply z04|apply z03|apply z05|refine z07 ?_ GE191.out)|exact HB.out)⟩
def z2f.f (a0:Int):Option (Bool):=if a0=0 then (some false) else (if a0=21 then (some false) else (if a0=24 then (some false) else (if a0=25 then (some false) else ((z1z.f a0).bind fun t193=>(some t193)))))
theorem z2f.calls (a0:Int) (r:Bool) (w:World) (h:z2f.f a0=some r) :
  Calls Tryz.prog 107 #[.int .i64 a0] w fun e w'=>e=.returned (.bool r)∧Drawn0 w w':=by
 have H:(if a0=0 then (some false) else (if a0=21 then (some false) else (if a0=24 then (some false) else (if a0=25 then (some false) else ((z1z.f a0).bind fun t193=>(some t193))))))=some r:=h;clear h
 by_cases c2:a0=0
 ·rw [if_pos c2] at H;have c2b0:(a0 == 0)=true:=beq_iff_eq.mpr c2;have c2b1:(a0 != 0)=false:=bne_eq_false_iff_eq.mpr c2;clear c2;obtain rfl:=Option.some.inj H
  go_enter Tryz.func107,Tryz.ntmps107
  go_wp2;go_ret
  exact ⟨by first|rfl|(simp;done)|(simp [*];done),by repeat (first|exact Drawn0.refl _|apply Drawn0.step)⟩
 ·rw [if_neg c2] at H;have c2b0:(a0 == 0)=false:=beq_eq_false_iff_ne.mpr c2;have c2b1:(a0 != 0)=true:=bne_iff_ne.mpr c2
  by_cases c3:a0=21
  ·rw [if_pos c3] at H;have c3b0:(a0 == 21)=true:=beq_iff_eq.mpr c3;have c3b1:(a0 != 21)=false:=bne_eq_false_iff_eq.mpr c3;clear c3;obtain rfl:=Option.some.inj H
   go_enter Tryz.func107,Tryz.ntmps107
   go_wp2;go_ret
   exact ⟨by first|rfl|(simp;done)|(simp [*];done),by repeat (first|exact Drawn0.refl _|apply Drawn0.step)⟩
  ·rw [if_neg c3] at H;have c3b0:(a0 == 21)=false:=beq_eq_false_iff_ne.mpr c3;have c3b1:(a0 != 21)=true:=bne_iff_ne.mpr c3
   by_cases c4:a0=24
   ·rw [if_pos c4] at H;have c4b0:(a0 == 24)=true:=beq_iff_eq.mpr c4;have c4b1:(a0 != 24)=false:=bne_eq_false_iff_eq.mpr c4;clear c4;obtain rfl:=Option.some.inj H
    go_enter Tryz.func107,Tryz.ntmps107
    go_wp2;go_ret
    exact ⟨by first|rfl|(simp;done)|(simp [*];done),by repeat (first|exact Drawn0.refl _|apply Drawn0.step)⟩
   ·rw [if_neg c4] at H;have c4b0:(a0 == 24)=false:=beq_eq_false_iff_ne.mpr c4;have c4b1:(a0 != 24)=true:=bne_iff_ne.mpr c4
    by_cases c5:a0=25
    ·rw [if_pos c5] at H;have c5b0:(a0 == 25)=true:=beq_iff_eq.mpr c5;have c5b1:(a0 != 25)=false:=bne_eq_false_iff_eq.mpr c5;clear c5;obtain rfl:=Option.some.inj H
     go_enter Tryz.func107,Tryz.ntmps107
     go_wp2;go_ret
     exact ⟨by first|rfl|(simp;done)|(simp [*];done),by repeat (first|exact Drawn0.refl _|apply Drawn0.step)⟩
    ·rw [if_neg c5] at H;have c5b0:(a0 == 25)=false:=beq_eq_false_iff_ne.mpr c5;have c5b1:(a0 != 25)=true:=bne_iff_ne.mpr c5;replace H:=Option.bind_eq_some_iff.mp H;obtain ⟨t193,A60,H⟩:=H;skip;have A6:=Aside0.mk A60;clear A60;obtain rfl:=Option.some.inj H
     go_enter Tryz.func107,Tryz.ntmps107
     go_wp2_with (first|((with_reducible refine z0w (f:=101) rfl ?_);refine z19 (some 10) rfl rfl Tryz.func101 (by kernel_rfl) rfl #[.int .i64 a0] rfl (by (try simp only [List.map_toArray,List.map_cons,List.map_nil]);first|done|rfl) ?_;(with_reducible refine (z1z.calls a0 t193 _ A6.out).mono ?_);rintro e w' ⟨rfl,⟨nd,rfl⟩⟩;refine ⟨_,rfl,?_⟩))
     go_ret
     exact ⟨by first|rfl|(simp;done)|(simp [*];done),by repeat (first|exact Drawn0.refl _|apply Drawn0.step)⟩
def z37.f (a0_0:Int) (a0_1:Int) (a0_2:Int) (l0_3:List Int) (l0_4:List Int) (l0_5:List (S79)):Option (Bool):=if (l0_3.length:Int)≤100 then (if (l0_4.length:Int)≤40 then (some (decide ((l0_5.length:Int)≤300))) else (some false)) else (some false)
theorem z37.calls (a0_0:Int) (a0_1:Int) (a0_2:Int) (A0_3:Option Addr) (c0_3:Nat) (l0_3:List Int) (A0_4:Option Addr) (c0_4:Nat) (l0_4:List Int) (A0_5:Option Addr) (c0_5:Nat) (l0_5:List (S79)) (r:Bool) (w:World) (hr0_3:Kd.C (Kd.int .u8) w A0_3 l0_3.length l0_3) (hc0_3:l0_3.length≤c0_3) (hr0_4:Kd.C (Kd.int .i64) w A0_4 l0_4.length l0_4) (hc0_4:l0_4.length≤c0_4) (hr0_5:Kd.C k79 w A0_5 l0_5.length l0_5) (hc0_5:l0_5.length≤c0_5) (h:z37.f a0_0 a0_1 a0_2 l0_3 l0_4 l0_5=some r) :
  Calls Tryz.prog 14 #[.agg #[.int .i64 a0_0,.int .i64 a0_1,.int .i64 a0_2,.slice A0_3 l0_3.length c0_3,.slice A0_4 l0_4.length c0_4,.slice A0_5 l0_5.length c0_5]] w fun e w'=>e=.returned (.bool r)∧Below w.heap.size w w':=by
 have hu26:=Tryz.underlying26;have HR0_3:=Aside0.mk hr0_3;have HC0_3:=Aside0.mk hc0_3;clear hr0_3 hc0_3;have HR0_4:=Aside0.mk hr0_4;have HC0_4:=Aside0.mk hc0_4;clear hr0_4 hc0_4;have HR0_5:=Aside0.mk hr0_5;have HC0_5:=Aside0.mk hc0_5;clear hr0_5 hc0_5;have HB:=Aside0.mk (Below.refl w.heap.size w);have H:(if (l0_3.length:Int)≤100 then (if (l0_4.length:Int)≤40 then (some (decide ((l0_5.length:Int)≤300))) else (some false)) else (some false))=some r:=h;clear h
 by_cases c2:(l0_3.length:Int)≤100
 ·rw [if_pos c2] at H;have c2b0:decide ((l0_3.length:Int)≤100)=true:=decide_eq_true c2;have c2b1:decide (l0_3.length≤100)=true:=decide_eq_true (by omega);clear c2
  by_cases c3:(l0_4.length:Int)≤40
  ·rw [if_pos c3] at H;have c3b0:decide ((l0_4.length:Int)≤40)=true:=decide_eq_true c3;have c3b1:decide (l0_4.length≤40)=true:=decide_eq_true (by omega);clear c3;obtain rfl:=Option.some.inj H
   go_enter Tryz.func14,Tryz.ntmps14
   go_wp2_with (first|((with_reducible refine z15 (N:=1) rfl ?_);(try (refine z20 (by rfl) ?_;dsimp only));refine z1e ?hg (N:=1) ?hd (cs:=#[.int .i64 a0_0,.int .i64 a0_1,.int .i64 a0_2,.slice A0_3 l0_3.length c0_3,.slice A0_4 l0_4.length c0_4,.slice A0_5 l0_5.length c0_5]) (t:=26) ?hr ?_;(case hd=>rfl);(case hg=>rfl);(case hr=>first|(go_simp;done)|(go_simp;rfl));intro gb194 hg w4 hbox hb;have n0_:=Aside0.mk (z0t (by repeat (first|exact HB.out|apply z04|apply z03|apply z05)) hb);have n1_:=Aside0.mk (hbox);have n2_:=Aside0.mk ((by rw [hg];exact (z0o (by repeat (first|exact HB.out|apply z04|apply z03|apply z05))):w.heap.size≤gb194));have n3_:=Aside0.mk ((by rw [hg];exact (z0o (by repeat (first|exact HB.out|apply z04|apply z03|apply z05))):w.heap.size≤gb194));clear HB;have HB:=n0_;have BK194:=n1_;have GW194:=n2_;have GE194:=n3_;clear n0_ n1_ n2_ n3_;clear hb hbox hg;have hcz5_0:w4.cell? ⟨gb194,0,none⟩=some (.int .i64 a0_0):=(z01 BK194.out 0).trans rfl;have hcz5_1:w4.cell? ⟨gb194,1,none⟩=some (.int .i64 a0_1):=(z01 BK194.out 1).trans rfl;have hcz5_2:w4.cell? ⟨gb194,2,none⟩=some (.int .i64 a0_2):=(z01 BK194.out 2).trans rfl;have hcz5_3:w4.cell? ⟨gb194,3,none⟩=some (.slice A0_3 l0_3.length c0_3):=(z01 BK194.out 3).trans rfl;have hcz5_4:w4.cell? ⟨gb194,4,none⟩=some (.slice A0_4 l0_4.length c0_4):=(z01 BK194.out 4).trans rfl;have hcz5_5:w4.cell? ⟨gb194,5,none⟩=some (.slice A0_5 l0_5.length c0_5):=(z01 BK194.out 5).trans rfl;have hfz5_0:=z02 BK194.out 0;have hfz5_1:=z02 BK194.out 1;have hfz5_2:=z02 BK194.out 2;have hfz5_3:=z02 BK194.out 3;have hfz5_4:=z02 BK194.out 4;have hfz5_5:=z02 BK194.out 5))
   go_ret
   exact ⟨by first|rfl|(simp [z0k,z0j] <;> rfl)|(simp [*,z0k,z0j] <;> rfl),by repeat (first|(with_reducible first|exact HB.out|apply z04|apply z03|apply z05|refine z07 ?_ GE194.out)|exact HB.out)⟩
  ·rw [if_neg c3] at H;have c3b0:decide ((l0_4.length:Int)≤40)=false:=decide_eq_false c3;have c3b1:decide (l0_4.length≤40)=false:=decide_eq_false (by omega);clear c3;obtain rfl:=Option.some.inj H
   go_enter Tryz.func14,Tryz.ntmps14
   go_wp2_with (first|((with_reducible refine z15 (N:=1) rfl ?_);(try (refine z20 (by rfl) ?_;dsimp only));refine z1e ?hg (N:=1) ?hd (cs:=#[.int .i64 a0_0,.int .i64 a0_1,.int .i64 a0_2,.slice A0_3 l0_3.length c0_3,.slice A0_4 l0_4.length c0_4,.slice A0_5 l0_5.length c0_5]) (t:=26) ?hr ?_;(case hd=>rfl);(case hg=>rfl);(case hr=>first|(go_simp;done)|(go_simp;rfl));intro gb194 hg w6 hbox hb;have n0_:=Aside0.mk (z0t (by repeat (first|exact HB.out|apply z04|apply z03|apply z05)) hb);have n1_:=Aside0.mk (hbox);have n2_:=Aside0.mk ((by rw [hg];exact (z0o (by repeat (first|exact HB.out|apply z04|apply z03|apply z05))):w.heap.size≤gb194));have n3_:=Aside0.mk ((by rw [hg];exact (z0o (by repeat (first|exact HB.out|apply z04|apply z03|apply z05))):w.heap.size≤gb194));clear HB;have HB:=n0_;have BK194:=n1_;have GW194:=n2_;have GE194:=n3_;clear n0_ n1_ n2_ n3_;clear hb hbox hg;have hcz7_0:w6.cell? ⟨gb194,0,none⟩=some (.int .i64 a0_0):=(z01 BK194.out 0).trans rfl;have hcz7_1:w6.cell? ⟨gb194,1,none⟩=some (.int .i64 a0_1):=(z01 BK194.out 1).trans rfl;have hcz7_2:w6.cell? ⟨gb194,2,none⟩=some (.int .i64 a0_2):=(z01 BK194.out 2).trans rfl;have hcz7_3:w6.cell? ⟨gb194,3,none⟩=some (.slice A0_3 l0_3.length c0_3):=(z01 BK194.out 3).trans rfl;have hcz7_4:w6.cell? ⟨gb194,4,none⟩=some (.slice A0_4 l0_4.length c0_4):=(z01 BK194.out 4).trans rfl;have hcz7_5:w6.cell? ⟨gb194,5,none⟩=some (.slice A0_5 l0_5.length c0_5):=(z01 BK194.out 5).trans rfl;have hfz7_0:=z02 BK194.out 0;have hfz7_1:=z02 BK194.out 1;have hfz7_2:=z02 BK194.out 2;have hfz7_3:=z02 BK194.out 3;have hfz7_4:=z02 BK194.out 4;have hfz7_5:=z02 BK194.out 5))
   go_ret
   exact ⟨by first|rfl|(simp [z0k,z0j] <;> rfl)|(simp [*,z0k,z0j] <;> rfl),by repeat (first|(with_reducible first|exact HB.out|apply z04|apply z03|apply z05|refine z07 ?_ GE194.out)|exact HB.out)⟩
 ·rw [if_neg c2] at H;have c2b0:decide ((l0_3.length:Int)≤100)=false:=decide_eq_false c2;have c2b1:decide (l0_3.length≤100)=false:=decide_eq_false (by omega);clear c2;obtain rfl:=Option.some.inj H
  go_enter Tryz.func14,Tryz.ntmps14
  go_wp2_with (first|((with_reducible refine z15 (N:=1) rfl ?_);(try (refine z20 (by rfl) ?_;dsimp only));refine z1e ?hg (N:=1) ?hd (cs:=#[.int .i64 a0_0,.int .i64 a0_1,.int .i64 a0_2,.slice A0_3 l0_3.length c0_3,.slice A0_4 l0_4.length c0_4,.slice A0_5 l0_5.length c0_5]) (t:=26) ?hr ?_;(case hd=>rfl);(case hg=>rfl);(case hr=>first|(go_simp;done)|(go_simp;rfl));intro gb194 hg w8 hbox hb;have n0_:=Aside0.mk (z0t (by repeat (first|exact HB.out|apply z04|apply z03|apply z05)) hb);have n1_:=Aside0.mk (hbox);have n2_:=Aside0.mk ((by rw [hg];exact (z0o (by repeat (first|exact HB.out|apply z04|apply z03|apply z05))):w.heap.size≤gb194));have n3_:=Aside0.mk ((by rw [hg];exact (z0o (by repeat (first|exact HB.out|apply z04|apply z03|apply z05))):w.heap.size≤gb194));clear HB;have HB:=n0_;have BK194:=n1_;have GW194:=n2_;have GE194:=n3_;clear n0_ n1_ n2_ n3_;clear hb hbox hg;have hcz9_0:w8.cell? ⟨gb194,0,none⟩=some (.int .i64 a0_0):=(z01 BK194.out 0).trans rfl;have hcz9_1:w8.cell? ⟨gb194,1,none⟩=some (.int .i64 a0_1):=(z01 BK194.out 1).trans rfl;have hcz9_2:w8.cell? ⟨gb194,2,none⟩=some (.int .i64 a0_2):=(z01 BK194.out 2).trans rfl;have hcz9_3:w8.cell? ⟨gb194,3,none⟩=some (.slice A0_3 l0_3.length c0_3):=(z01 BK194.out 3).trans rfl;have hcz9_4:w8.cell? ⟨gb194,4,none⟩=some (.slice A0_4 l0_4.length c0_4):=(z01 BK194.out 4).trans rfl;have hcz9_5:w8.cell? ⟨gb194,5,none⟩=some (.slice A0_5 l0_5.length c0_5):=(z01 BK194.out 5).trans rfl;have hfz9_0:=z02 BK194.out 0;have hfz9_1:=z02 BK194.out 1;have hfz9_2:=z02 BK194.out 2;have hfz9_3:=z02 BK194.out 3;have hfz9_4:=z02 BK194.out 4;have hfz9_5:=z02 BK194.out 5))
  go_ret
  exact ⟨by first|rfl|(simp [z0k,z0j] <;> rfl)|(simp [*,z0k,z0j] <;> rfl),by repeat (first|(with_reducible first|exact HB.out|apply z04|apply z03|apply z05|refine z07 ?_ GE194.out)|exact HB.out)⟩
def z0l.f (a0:Int) (a1:Int) (a2:Int):Option (Bool):=if a0 ≥ a1 then (some (decide (a0≤a2))) else (some false)
theorem z0l.calls (a0:Int) (a1:Int) (a2:Int) (r:Bool) (w:World) (h:z0l.f a0 a1 a2=some r) :
  Calls Tryz.prog 56 #[.int .i64 a0,.int .i64 a1,.int .i64 a2] w fun e w'=>e=.returned (.bool r)∧Drawn0 w w':=by
 have H:(if a0 ≥ a1 then (some (decide (a0≤a2))) else (some false))=some r:=h;clear h
 by_cases c4:a0 ≥ a1
 ·rw [if_pos c4] at H;have c4b0:decide (a1≤a0)=true:=decide_eq_true c4;clear c4;obtain rfl:=Option.some.inj H
  go_enter Tryz.func56,Tryz.ntmps56
  go_wp2;go_ret
  exact ⟨by first|rfl|(simp;done)|(simp [*];done),by repeat (first|exact Drawn0.refl _|apply Drawn0.step)⟩
 ·rw [if_neg c4] at H;have c4b0:decide (a1≤a0)=false:=decide_eq_false c4;clear c4;obtain rfl:=Option.some.inj H
  go_enter Tryz.func56,Tryz.ntmps56
  go_wp2;go_ret
  exact ⟨by first|rfl|(simp;done)|(simp [*];done),by repeat (first|exact Drawn0.refl _|apply Drawn0.step)⟩
def goesB (op:Int):Bool:=decide (0≤op∧op≤25∧op≠0∧op≠21∧op≠24∧op≠25)
theorem goes_f (op:Int):z2f.f op=some (goesB op):=by
 unfold z2f.f goesB z1z.f
 by_cases h0:op=0
 ·simp [h0]
 by_cases h1:op=21
 ·simp [h1]
 by_cases h2:op=24
 ·simp [h2]
 by_cases h3:op=25
 ·simp [h3]
 rw [if_neg h0,if_neg h1,if_neg h2,if_neg h3]
 by_cases h4:op ≥ 0
 ·simp only [if_pos h4,Option.bind_some,Option.some.injEq,decide_eq_decide];omega
 ·simp only [if_neg h4,Option.bind_some,Option.some.injEq]
  symm
  rw [decide_eq_false_iff_not];omega
def z2o (i:S79) (nf:Nat) (lo hi:Int) (x:Nat):Bool :=
 (goesB i.f0 && decide (hi≤(x:Int)+1)) || if i.f0=21∨i.f0=22 then decide (i.f4 < lo) || decide (i.f4 ≥ hi) else if i.f0=23 then decide (i.f4 ≥ (nf:Int)) else false
theorem heap_new_ (w:World) (o:Obj):(w.alloc o).heap[w.heap.size]?=some o:=by
 show (w.heap.push o)[w.heap.size]?=some o;simp
theorem stray1_calls (k:Nat) (m s i:Int) (A3:Option Addr) (c3:Nat) (data:List Int) (A4:Option Addr) (c4:Nat) (funs:List Int) (A5:Option Addr) (c5:Nat) (code:List S79) (b x:Nat) (f lo hi:Int) (W:World)
  (hb:W.heap[b]?=some (.cells #[.int .i64 m,.int .i64 s,.int .i64 i,.slice A3 data.length c3,.slice A4 funs.length c4,.slice A5 code.length c5] 26 (0,0)))
  (hr3:Kd.C (Kd.int .u8) W A3 data.length data) (hc3:data.length≤c3) (hr4:Kd.C (Kd.int .i64) W A4 funs.length funs) (hc4:funs.length≤c4) (hr5:Kd.C k79 W A5 code.length code) (hc5:code.length≤c5)
  (hx:x < code.length) (hlen:code.length≤256) (hfl:funs.length≤16) (hfun:z16.f k m s i data funs code x=some f) (hends:z31.f m s i data funs code f=some (lo,hi))
  (hlo:0≤lo∧lo≤9223372036854775807) (hhi:0≤hi∧hi≤9223372036854775807) :
  Calls Tryz.prog 105 #[.int .i64 x,.pointer (some ⟨b,0,none⟩)] W fun e w'=>e=.returned (.bool (z2o (z0a code x) funs.length lo hi x))∧Below W.heap.size W w':=by
 have hFUN:=fun W1 (h:Below W.heap.size W W1)=>z16.calls k m s i A3 c3 data A4 c4 funs A5 c5 code x f W1 (Kd.C_below hr3 h) hc3 (Kd.C_below hr4 h) hc4 (Kd.C_below hr5 h) hc5 hfun
 have hENDS:=fun W1 (h:Below W.heap.size W W1)=>z31.calls m s i A3 c3 data A4 c4 funs A5 c5 code f lo hi W1 (Kd.C_below hr3 h) hc3 (Kd.C_below hr4 h) hc4 (Kd.C_below hr5 h) hc5 hends
 obtain ⟨ad,e5,hx0,hx1,hx2,hx3,hx4⟩:=at_T79 hr5 (x:Int) (by omega) (by omega);cases e5;have HFUN:=Aside0.mk hFUN;have HENDS:=Aside0.mk hENDS;have BK:=Aside0.mk hb;have hbl:b < W.heap.size:=(Array.getElem?_eq_some_iff.1 hb).1;have hg0:goesB (z0a code x).f0=goesB (z0a code x).f0:=rfl;have HG:=Lib.hid (goes_f (z0a code x).f0);have hcz0:=z01 BK.out 0;have hcz1:=z01 BK.out 1;have hcz2:=z01 BK.out 2;have hcz3:=z01 BK.out 3;have hcz4:=z01 BK.out 4;have hcz5:W.cell? ⟨b,5,none⟩=some (.slice (some ad) code.length c5):=(z01 BK.out 5).trans rfl;obtain ⟨I,hI⟩:∃ I,z0a code x=I:=⟨_,rfl⟩;rw [hI] at hx0 hx1 hx2 hx3 hx4 HG ⊢;have hp0:(0≤(x:Int))=True:=eq_true (by omega);have hp1:((x:Int) < (code.length:Int))=True:=eq_true (by omega);have hp2:x < code.length:=hx;rw [Int.toNat_natCast] at hx0 hx1 hx2 hx3 hx4;clear hFUN hENDS hfun hends hr3 hr4 hr5 hc3 hc4 hc5 hb hg0 hI
 go_enter Tryz.func105,Tryz.ntmps105
 go_upto_region 2 with (fail)
 obtain ⟨W1,hW1⟩:∃ W1,W.alloc (Obj.cells #[.int .i64 I.f0,.int .i64 I.f1,.int .i64 I.f2,.int .i64 I.f3,.int .u64 I.f4] 79)=W1:=⟨_,rfl⟩;have HB1:Aside0 (Below W.heap.size W W1):=⟨by rw [← hW1];exact (Below.refl _ _).alloc (Nat.le_refl _) _⟩;have BI1:Aside0 (W1.heap[W.heap.size]?=some (.cells #[.int .i64 I.f0,.int .i64 I.f1,.int .i64 I.f2,.int .i64 I.f3,.int .u64 I.f4] 79 (0,0))):=⟨by rw [← hW1];exact heap_new_ W _⟩;have BIL:Aside0 (W.heap.size < W1.heap.size):=⟨by rw [← hW1];show _ < (W.heap.push _).size;simp⟩;have BK1:Aside0 (W1.heap[b]?=some (.cells #[.int .i64 m,.int .i64 s,.int .i64 i,.slice A3 data.length c3,.slice A4 funs.length c4,.slice (some ad) code.length c5] 26 (0,0))):=⟨(HB1.out.block b hbl).trans BK.out⟩;simp only [hW1];clear hW1 hcz0 hcz1 hcz2 hcz3 hcz4 hcz5 hx0 hx1 hx2 hx3 hx4;refine z27 (n:=10) (S:=fun w'=>w'.cell? ⟨b,0,none⟩=some (.int .i64 m)∧w'.cell? ⟨b,1,none⟩=some (.int .i64 s)∧w'.cell? ⟨b,2,none⟩=some (.int .i64 i)∧w'.cell? ⟨b,3,none⟩=some (.slice A3 data.length c3)∧w'.cell? ⟨b,4,none⟩=some (.slice A4 funs.length c4)∧w'.cell? ⟨b,5,none⟩=some (.slice (some ad) code.length c5)) (ds:=[4]) #[zf,zf,zf,zf,zf,zf,zf,zf,zf,zf] (by kernel_rfl) rfl rfl ⟨z01 BK1.out 0,z01 BK1.out 1,z01 BK1.out 2,z01 BK1.out 3,z01 BK1.out 4,z01 BK1.out 5⟩ (fun hHeld=>?_);refine pure_ (i:=2) (N:=some 15) (v:=?_) (a':=?_) #[zf,zf,zt,zf,zf,zf,zf,zf,zf,zf] rfl rfl (by kernel_rfl) (fun _ _ _ h=>h) (Or.inl ⟨by rfl,?_⟩) ?_ ?_;rotate_left
 ·intro w';go_simp;with_reducible rfl
 rotate_left
 ·simp only [Act.put,zq1,zq2,zq3,i64_w,i32_w];rfl
 refine take_ (i:=0) (N:=some 13) (v:=?_) (a':=?_) #[zt,zf,zt,zf,zf,zf,zf,zf,zf,zf] rfl rfl (by kernel_rfl) (fun _ _ _ h=>h) (Or.inl ⟨by rfl,?_⟩) hHeld ?_ ?_;rotate_left
 ·rintro w' ⟨s0,s1,s2,s3,s4,s5⟩;go_simp;with_reducible rfl
 rotate_left
 ·simp only [Act.put,zq1,zq2,zq3,i64_w,i32_w];rfl
 refine take_ (i:=1) (N:=some 14) (v:=?_) (a':=?_) #[zt,zt,zt,zf,zf,zf,zf,zf,zf,zf] rfl rfl (by kernel_rfl) (fun _ _ _ h=>h) (Or.inl ⟨by rfl,?_⟩) hHeld ?_ ?_;rotate_left
 ·rintro w' ⟨s0,s1,s2,s3,s4,s5⟩;go_simp;with_reducible rfl
 rotate_left
 ·simp only [Act.put,zq1,zq2,zq3,i64_w,i32_w];rfl
 refine one_ (i:=3) (N:=some 16) #[zt,zt,zt,zt,zf,zf,zf,zf,zf,zf] rfl rfl (by kernel_rfl) (by decide) (fun K hK=>?_);refine goes_ Tryz.func77 (by kernel_rfl) rfl #[.agg #[.int .i64 m,.int .i64 s,.int .i64 i,.slice A3 data.length c3,.slice A4 funs.length c4,.slice (some ad) code.length c5],.int .i64 x] (by rfl) rfl rfl (by simp only [List.map_toArray,List.map_cons,List.map_nil];rfl) ?_;refine (HFUN.out _ (z12 HB1.out)).mono ?_;rintro e w5 ⟨rfl,hb5⟩;refine ⟨_,rfl,?_⟩;have HB5:=Aside0.mk (z0x (z12 HB1.out) (z12 HB1.out).size hb5);have BI5:=Aside0.mk ((hb5.block _ BIL.out).trans BI1.out);have BK5:=Aside0.mk ((hb5.block b (Nat.lt_of_lt_of_le hbl HB1.out.size)).trans BK1.out);have HS5:=Aside0.mk hb5.size;clear hb5;refine hK.out _ _ ⟨z01 BK5.out 0,z01 BK5.out 1,z01 BK5.out 2,z01 BK5.out 3,z01 BK5.out 4,z01 BK5.out 5⟩ (fun hHeld=>?_);clear hK K;refine norm_ (a':=?_) ?_ ?_;rotate_left
 ·show Act.put _ (some 16) _=_;simp only [Act.put,zq1,zq2,zq3,i64_w,i32_w];rfl
 refine last_ (i:=4) (N:=some 17) #[zt,zt,zt,zt,zt,zf,zf,zf,zf,zf] rfl rfl (by kernel_rfl) (by decide) (fun K hK=>?_);refine goes_ Tryz.func106 (by kernel_rfl) rfl #[.agg #[.int .i64 m,.int .i64 s,.int .i64 i,.slice A3 data.length c3,.slice A4 funs.length c4,.slice (some ad) code.length c5],.int .i64 f] (by rfl) rfl rfl (by simp only [List.map_toArray,List.map_cons,List.map_nil];rfl) ?_;refine (HENDS.out _ HB5.out).mono ?_;rintro e w6 ⟨rfl,hb6⟩;refine ⟨_,rfl,?_⟩;have HB6:=Aside0.mk (z0x HB5.out HB5.out.size hb6);have BI6:=Aside0.mk ((hb6.block _ (Nat.lt_of_lt_of_le BIL.out HS5.out)).trans BI5.out);have BK6:=Aside0.mk ((hb6.block b (Nat.lt_of_lt_of_le hbl HB5.out.size)).trans BK5.out);clear hb6;refine hK.out _ _ ?_;clear hK K;refine norm_ (a':=?_) ?_ ?_;rotate_left
 ·show Act.put _ (some 17) _=_;simp only [Act.put,zq1,zq2,zq3,i64_w,i32_w];rfl
 refine pure_ (i:=5) (N:=some 12) (v:=?_) (a':=?_) #[zt,zt,zt,zt,zt,zt,zf,zf,zf,zf] rfl rfl (by kernel_rfl) (fun _ _ _ h=>h) (Or.inl ⟨by rfl,?_⟩) ?_ ?_;rotate_left
 ·intro w';go_simp;with_reducible rfl
 rotate_left
 ·simp only [Act.put,zq1,zq2,zq3,i64_w,i32_w];rfl
 refine pure_ (i:=6) (N:=some 18) (v:=?_) (a':=?_) #[zt,zt,zt,zt,zt,zt,zt,zf,zf,zf] rfl rfl (by kernel_rfl) (fun _ _ _ h=>h) (Or.inl ⟨by rfl,?_⟩) ?_ ?_;rotate_left
 ·intro w';go_simp;with_reducible rfl
 rotate_left
 ·simp only [Act.put,zq1,zq2,zq3,i64_w,i32_w];rfl
 refine pure_ (i:=7) (N:=some 19) (v:=?_) (a':=?_) #[zt,zt,zt,zt,zt,zt,zt,zt,zf,zf] rfl rfl (by kernel_rfl) (fun _ _ _ h=>h) (Or.inl ⟨by rfl,?_⟩) ?_ ?_;rotate_left
 ·intro w';go_simp;with_reducible rfl
 rotate_left
 ·simp only [Act.put,zq1,zq2,zq3,i64_w,i32_w];rfl
 refine pure_ (i:=8) (N:=some 5) (v:=?_) (a':=?_) #[zt,zt,zt,zt,zt,zt,zt,zt,zt,zf] rfl rfl (by kernel_rfl) (fun _ _ _ h=>h) (Or.inl ⟨by rfl,?_⟩) ?_ ?_;rotate_left
 ·intro w';go_simp;with_reducible rfl
 rotate_left
 ·simp only [Act.put,zq1,zq2,zq3,i64_w,i32_w];rfl
 refine pure_ (i:=9) (N:=some 6) (v:=?_) (a':=?_) #[zt,zt,zt,zt,zt,zt,zt,zt,zt,zt] rfl rfl (by kernel_rfl) (fun _ _ _ h=>h) (Or.inl ⟨by rfl,?_⟩) ?_ ?_;rotate_left
 ·intro w';go_simp;with_reducible rfl
 rotate_left
 ·simp only [Act.put,zq1,zq2,zq3,i64_w,i32_w];rfl
 refine done_ (by kernel_rfl) ?_;have hi0:=z01 BI6.out 0;have hi4:=z01 BI6.out 4;have hk4:=z01 BK6.out 4;have hend:∀ (r:Bool) (nd:Nat),z2o I funs.length lo hi x=r→Ending.returned (.bool r)=Ending.returned (.bool (z2o I funs.length lo hi x))∧Below W.heap.size W (w6.drewN nd):=fun r nd h=>⟨by rw [h],z03 HB6.out nd⟩
 have hend0:∀ (r:Bool),z2o I funs.length lo hi x=r→Ending.returned (.bool r)=Ending.returned (.bool (z2o I funs.length lo hi x))∧Below W.heap.size W w6:=fun r h=>⟨by rw [h],HB6.out⟩
 have HE:=Aside0.mk hend;have HX:=Aside0.mk hx;clear hHeld hend hend0 HFUN HENDS;have hw1:IntKind.u64.wrap lo=lo:=by unfold IntKind.wrap;simp [IntKind.bits,IntKind.signed];omega
 have hw2:IntKind.u64.wrap hi=hi:=by unfold IntKind.wrap;simp [IntKind.bits,IntKind.signed];omega
 have hw3:IntKind.u64.wrap (funs.length:Int)=(funs.length:Int):=by unfold IntKind.wrap;simp [IntKind.bits,IntKind.signed];omega
 cases hgv:goesB I.f0 with
 | true =>
  have hgc:=HG.out;rw [hgv] at hgc;have HGC:=Lib.hid (z2f.calls I.f0 true w6 hgc);have HGV:=Lib.hid hgv;clear hgc hgv
  by_cases hh:hi≤(x:Int)+1
  ·have hd:decide (hi≤(x:Int)+1)=true:=decide_eq_true hh
   go_wp2_with (go_at_call 107;refine HGC.out.mono ?_;rintro e w' ⟨rfl,nd,rfl⟩)
   go_ret
   exact HE.out _ _ (by unfold z2o;rw [HGV.out,hd];rfl)
  ·have hd:decide (hi≤(x:Int)+1)=false:=decide_eq_false hh;clear hh
   go_wp2_with (go_at_call 107;refine HGC.out.mono ?_;rintro e w' ⟨rfl,nd,rfl⟩)
   all_goals
    go_ret
    exact HE.out _ _ (by unfold z2o;rw [HGV.out,hd];simp_all [beq_iff_eq])
 | false =>
  have hgc:=HG.out;rw [hgv] at hgc;have HGC:=Lib.hid (z2f.calls I.f0 false w6 hgc);have HGV:=Lib.hid hgv;clear hgc hgv
  go_wp2_with (go_at_call 107;refine HGC.out.mono ?_;rintro e w' ⟨rfl,nd,rfl⟩)
  all_goals
   go_ret
   exact HE.out _ _ (by unfold z2o;rw [HGV.out];simp_all [beq_iff_eq])
attribute [local go_sem] z1w z1x z23 z26 z1r z1q z1u z1v
theorem eqA79 (d:Nat) (w:World) (x0 y0:Int) (x1 y1:Int) (x2 y2:Int) (x3 y3:Int) (x4 y4:Int) :
  (Op.equalIn (d+2) 79 (.agg #[.int .i64 x0,.int .i64 x1,.int .i64 x2,.int .i64 x3,.int .u64 x4]) (.agg #[.int .i64 y0,.int .i64 y1,.int .i64 y2,.int .i64 y3,.int .u64 y4])).run Tryz.prog w=.ok (x0 == y0 && (x1 == y1 && (x2 == y2 && (x3 == y3 && (x4 == y4))))) w:=by
 refine eqA_of Tryz.underlying79 (by kernel_rfl) ?_;refine eqf_cons (by rfl) (by go_simp;rfl) (by go_simp;rfl) (by go_simp) ?_;refine eqf_cons (by rfl) (by go_simp;rfl) (by go_simp;rfl) (by go_simp) ?_;refine eqf_cons (by rfl) (by go_simp;rfl) (by go_simp;rfl) (by go_simp) ?_;refine eqf_cons (by rfl) (by go_simp;rfl) (by go_simp;rfl) (by go_simp) ?_;exact eqf_last (by rfl) (by go_simp;rfl) (by go_simp;rfl) (by go_simp)
end Go.Proofs.YtcbnhfnnjkkceaaGreat.X
end
