/- For the statement of the row : what its proof needs of the text M8. -/
import Derived.Defers
import Derived.Laws.Pointers
import Derived.Laws.LoneSync
import Derived.RegionTactic
import Derived.RegionCalls
import Derived.ChangeAlike
import Derived.Test.YtcbnhfnnjkkceaaGreatOM1
import Derived.Test.YtcbnhfnnjkkceaaGreatOM2
import Derived.Test.YtcbnhfnnjkkceaaGreatOM3
import Derived.Test.YtcbnhfnnjkkceaaGreatOM4
import Derived.Test.YtcbnhfnnjkkceaaGreatOM5
import Derived.Test.YtcbnhfnnjkkceaaGreatOM7
set_option maxRecDepth 100000
set_option linter.unusedSimpArgs false
set_option linter.unusedVariables false

section
namespace Go.Proofs.YtcbnhfnnjkkceaaGreat.X
open Go.RowKit Go.Proofs.YtcbnhfnnjkkceaaGreatW.PrintWords Go.Proofs.YtcbnhfnnjkkceaaGreatW.PrintLast Go.Proofs.YtcbnhfnnjkkceaaGreatW.PrintMore Go.Proofs.YtcbnhfnnjkkceaaGreat.Gr
set_option maxHeartbeats 16000000 in
theorem make_calls {w:World} {g B0:Nat} {p:Im} {dv fv cv:Value} (hp:Rt p)
  (hg:w.heap[g]?=some (.cells (z1m p dv fv cv 0 1 (fun _=>.map none)) 97 (0,0))) (hgp:GrP w B0 p dv fv cv) :
  Calls Tryz.prog 88 #[.pointer (some ⟨g,0,none⟩)] w fun e w'=>e=.returned (.tuple #[])∧∃ bs n V,Tab Tryz.prog 3 w' (w.heap.size+1) bs n V (rowsG p)∧n < 1000000∧MkW w g B0 p dv fv cv bs w':=by
 have HG:=Aside0.mk hg;have HGP:=Aside0.mk hgp;have HRT:=Aside0.mk hp;have hglt:=z0s hg;have hn256:=hp.fits.2.2.1;have hn16:=hp.fits.2.1;clear hg hgp;have hmm:=@run_makeMap Tryz.prog;refine calls_of_wp_ends Tryz.func88 rfl ?_;simp only [Tryz.ntmps88,List.size_toArray,List.length_cons,List.length_nil,Nat.reduceAdd,Nat.reduceSub,Array.replicate_succ,Array.replicate_zero,List.push_toArray,List.append_toArray,List.nil_append,List.cons_append]
 go_upto_region 2 with (fail)
 obtain ⟨w1,hW1⟩:∃ w1,w.alloc (Obj.cells #[.pointer (some ⟨g,0,none⟩)] 29)=w1:=⟨_,rfl⟩;have ST0:Aside0 (MkSt w w.heap.size g p dv fv cv 0 0 (fun _=>0) w1):=⟨by
  rw [← hW1];refine ⟨z14 w _,(z06 HG.out _).trans (by simp),fun t _ h=>by simp at h,fun _ _ _ _ h=>by simp at h,Fr.of_grown (World.grownBy_alloc w _ none) (by simp),by show _≤(w.heap.push _).size;simp,rfl,hglt,fun t h=>by omega⟩⟩
 simp only [hW1];clear hW1;refine z27 (n:=20) (S:=fun w'=>w'.cell? ⟨w.heap.size,0,none⟩=some (.pointer (some ⟨g,0,none⟩))) (ds:=[]) #[zf,zf,zf,zf,zf,zf,zf,zf,zf,zf,zf,zf,zf,zf,zf,zf,zf,zf,zf,zf] (by kernel_rfl) rfl rfl (cell_of_one ST0.out.box) (fun hHeld=>?_);have ST1:Aside0 (MkSt w w.heap.size g p dv fv cv 0 0 (fun _=>0) w1.drew):=⟨ST0.out.drew⟩;clear ST0;have ST0:=ST1;clear ST1;generalize w1.drew=wd at ST0 hHeld ⊢;refine take_ (i:=0) (N:=some 10) (v:=?_) (a':=?_) #[zt,zf,zf,zf,zf,zf,zf,zf,zf,zf,zf,zf,zf,zf,zf,zf,zf,zf,zf,zf] rfl rfl (by kernel_rfl) (fun _ _ _ h=>h) (Or.inl ⟨by rfl,?_⟩) hHeld ?_ ?_;rotate_left
 ·intro w' s0;go_simp;with_reducible rfl
 rotate_left
 ·simp only [Act.put,zq1,zq2,zq3,i64_w,i32_w];rfl
 refine take_ (i:=1) (N:=some 11) (v:=?_) (a':=?_) #[zt,zt,zf,zf,zf,zf,zf,zf,zf,zf,zf,zf,zf,zf,zf,zf,zf,zf,zf,zf] rfl rfl (by kernel_rfl) (fun _ _ _ h=>h) (Or.inl ⟨by rfl,?_⟩) hHeld ?_ ?_;rotate_left
 ·intro w' s0;go_simp;with_reducible rfl
 rotate_left
 ·simp only [Act.put,zq1,zq2,zq3,i64_w,i32_w];rfl
 refine take_ (i:=2) (N:=some 12) (v:=?_) (a':=?_) #[zt,zt,zt,zf,zf,zf,zf,zf,zf,zf,zf,zf,zf,zf,zf,zf,zf,zf,zf,zf] rfl rfl (by kernel_rfl) (fun _ _ _ h=>h) (Or.inl ⟨by rfl,?_⟩) hHeld ?_ ?_;rotate_left
 ·intro w' s0;go_simp;with_reducible rfl
 rotate_left
 ·simp only [Act.put,zq1,zq2,zq3,i64_w,i32_w];rfl
 refine take_ (i:=3) (N:=some 13) (v:=?_) (a':=?_) #[zt,zt,zt,zt,zf,zf,zf,zf,zf,zf,zf,zf,zf,zf,zf,zf,zf,zf,zf,zf] rfl rfl (by kernel_rfl) (fun _ _ _ h=>h) (Or.inl ⟨by rfl,?_⟩) hHeld ?_ ?_;rotate_left
 ·intro w' s0;go_simp;with_reducible rfl
 rotate_left
 ·simp only [Act.put,zq1,zq2,zq3,i64_w,i32_w];rfl
 refine join_ (σ:=Nat→Nat) 3 #[zt,zt,zt,zt,zt,zt,zt,zt,zt,zt,zt,zt,zt,zt,zt,zt,zt,zf,zf,zf] (fun s_=>[(14,.map (some (s_ 0))),(15,.map (some (s_ 1))),(16,.map (some (s_ 2))),(17,.map (some (s_ 3))),(18,.pointer (some ⟨g,0,none⟩)),(19,.pointer (some ⟨g,9,none⟩)),(20,.pointer (some ⟨g,0,none⟩)),(21,.pointer (some ⟨g,10,none⟩)),(22,.pointer (some ⟨g,0,none⟩)),(23,.pointer (some ⟨g,11,none⟩))]) (fun s_ w'=>MkSt w w.heap.size g p dv fv cv 15 3 s_ w') ?_ ?_;rotate_left
 ·intro hJ4_5_6_7_10_13_16;refine join_ (σ:=Nat→Nat) 4 #[zt,zt,zt,zt,zt,zt,zt,zt,zt,zt,zt,zt,zt,zt,zt,zt,zf,zf,zf,zf] (fun s_=>[(14,.map (some (s_ 0))),(15,.map (some (s_ 1))),(16,.map (some (s_ 2))),(17,.map (some (s_ 3))),(18,.pointer (some ⟨g,0,none⟩)),(19,.pointer (some ⟨g,9,none⟩)),(20,.pointer (some ⟨g,0,none⟩)),(21,.pointer (some ⟨g,10,none⟩)),(22,.pointer (some ⟨g,0,none⟩)),(23,.pointer (some ⟨g,11,none⟩))]) (fun s_ w'=>MkSt w w.heap.size g p dv fv cv 15 2 s_ w') ?_ ?_;rotate_left
  ·intro hJ4_5_6_7_10_13;refine join_ (σ:=Nat→Nat) 4 #[zt,zt,zt,zt,zt,zt,zt,zf,zt,zt,zt,zt,zt,zt,zt,zt,zt,zf,zf,zf] (fun s_=>[(14,.map (some (s_ 0))),(15,.map (some (s_ 1))),(16,.map (some (s_ 2))),(18,.pointer (some ⟨g,0,none⟩)),(19,.pointer (some ⟨g,9,none⟩)),(20,.pointer (some ⟨g,0,none⟩)),(21,.pointer (some ⟨g,10,none⟩)),(22,.pointer (some ⟨g,0,none⟩)),(23,.pointer (some ⟨g,11,none⟩))]) (fun s_ w'=>MkSt w w.heap.size g p dv fv cv 7 3 s_ w') ?_ ?_;rotate_left
   ·intro hJ4_5_6_10_13_16;refine join_ (σ:=Nat→Nat) 7 #[zt,zt,zt,zt,zt,zt,zt,zt,zt,zt,zt,zt,zt,zf,zf,zf,zf,zf,zf,zf] (fun s_=>[(14,.map (some (s_ 0))),(15,.map (some (s_ 1))),(16,.map (some (s_ 2))),(17,.map (some (s_ 3))),(18,.pointer (some ⟨g,0,none⟩)),(19,.pointer (some ⟨g,9,none⟩)),(20,.pointer (some ⟨g,0,none⟩)),(21,.pointer (some ⟨g,10,none⟩))]) (fun s_ w'=>MkSt w w.heap.size g p dv fv cv 15 1 s_ w') ?_ ?_;rotate_left
    ·intro hJ4_5_6_7_10;refine join_ (σ:=Nat→Nat) 5 #[zt,zt,zt,zt,zt,zt,zt,zf,zt,zt,zt,zt,zt,zt,zt,zt,zf,zf,zf,zf] (fun s_=>[(14,.map (some (s_ 0))),(15,.map (some (s_ 1))),(16,.map (some (s_ 2))),(18,.pointer (some ⟨g,0,none⟩)),(19,.pointer (some ⟨g,9,none⟩)),(20,.pointer (some ⟨g,0,none⟩)),(21,.pointer (some ⟨g,10,none⟩)),(22,.pointer (some ⟨g,0,none⟩)),(23,.pointer (some ⟨g,11,none⟩))]) (fun s_ w'=>MkSt w w.heap.size g p dv fv cv 7 2 s_ w') ?_ ?_;rotate_left
     ·intro hJ4_5_6_10_13;refine join_ (σ:=Nat→Nat) 7 #[zt,zt,zt,zt,zt,zt,zf,zt,zt,zt,zt,zt,zt,zt,zf,zf,zf,zf,zf,zf] (fun s_=>[(14,.map (some (s_ 0))),(15,.map (some (s_ 1))),(17,.map (some (s_ 3))),(18,.pointer (some ⟨g,0,none⟩)),(19,.pointer (some ⟨g,9,none⟩)),(20,.pointer (some ⟨g,0,none⟩)),(21,.pointer (some ⟨g,10,none⟩))]) (fun s_ w'=>MkSt w w.heap.size g p dv fv cv 11 2 s_ w') ?_ ?_;rotate_left
      ·intro hJ4_5_7_10_13;refine join_ (σ:=Nat→Nat) 10 #[zt,zt,zt,zt,zt,zt,zt,zt,zt,zt,zf,zf,zf,zf,zf,zf,zf,zf,zf,zf] (fun s_=>[(14,.map (some (s_ 0))),(15,.map (some (s_ 1))),(16,.map (some (s_ 2))),(17,.map (some (s_ 3))),(18,.pointer (some ⟨g,0,none⟩)),(19,.pointer (some ⟨g,9,none⟩))]) (fun s_ w'=>MkSt w w.heap.size g p dv fv cv 15 0 s_ w') ?_ ?_;rotate_left
       ·intro hJ4_5_6_7;refine join_ (σ:=Nat→Nat) 8 #[zt,zt,zt,zt,zt,zt,zt,zf,zt,zt,zt,zt,zt,zf,zf,zf,zf,zf,zf,zf] (fun s_=>[(14,.map (some (s_ 0))),(15,.map (some (s_ 1))),(16,.map (some (s_ 2))),(18,.pointer (some ⟨g,0,none⟩)),(19,.pointer (some ⟨g,9,none⟩)),(20,.pointer (some ⟨g,0,none⟩)),(21,.pointer (some ⟨g,10,none⟩))]) (fun s_ w'=>MkSt w w.heap.size g p dv fv cv 7 1 s_ w') ?_ ?_;rotate_left
        ·intro hJ4_5_6_10;refine join_ (σ:=Nat→Nat) 8 #[zt,zt,zt,zt,zt,zt,zf,zt,zt,zt,zt,zt,zt,zf,zf,zf,zf,zf,zf,zf] (fun s_=>[(14,.map (some (s_ 0))),(15,.map (some (s_ 1))),(17,.map (some (s_ 3))),(18,.pointer (some ⟨g,0,none⟩)),(19,.pointer (some ⟨g,9,none⟩)),(20,.pointer (some ⟨g,0,none⟩)),(21,.pointer (some ⟨g,10,none⟩))]) (fun s_ w'=>MkSt w w.heap.size g p dv fv cv 11 1 s_ w') ?_ ?_;rotate_left
         ·intro hJ4_5_7_10;refine join_ (σ:=Nat→Nat) 8 #[zt,zt,zt,zt,zt,zt,zf,zf,zt,zt,zt,zt,zt,zt,zf,zf,zf,zf,zf,zf] (fun s_=>[(14,.map (some (s_ 0))),(15,.map (some (s_ 1))),(18,.pointer (some ⟨g,0,none⟩)),(19,.pointer (some ⟨g,9,none⟩)),(20,.pointer (some ⟨g,0,none⟩)),(21,.pointer (some ⟨g,10,none⟩))]) (fun s_ w'=>MkSt w w.heap.size g p dv fv cv 3 2 s_ w') ?_ ?_;rotate_left
          ·intro hJ4_5_10_13;refine join_ (σ:=Nat→Nat) 10 #[zt,zt,zt,zt,zt,zf,zt,zt,zt,zt,zt,zf,zf,zf,zf,zf,zf,zf,zf,zf] (fun s_=>[(14,.map (some (s_ 0))),(16,.map (some (s_ 2))),(17,.map (some (s_ 3))),(18,.pointer (some ⟨g,0,none⟩)),(19,.pointer (some ⟨g,9,none⟩))]) (fun s_ w'=>MkSt w w.heap.size g p dv fv cv 13 1 s_ w') ?_ ?_;rotate_left
           ·intro hJ4_6_7_10;refine join_ (σ:=Nat→Nat) 11 #[zt,zt,zt,zt,zt,zt,zt,zf,zt,zt,zf,zf,zf,zf,zf,zf,zf,zf,zf,zf] (fun s_=>[(14,.map (some (s_ 0))),(15,.map (some (s_ 1))),(16,.map (some (s_ 2))),(18,.pointer (some ⟨g,0,none⟩)),(19,.pointer (some ⟨g,9,none⟩))]) (fun s_ w'=>MkSt w w.heap.size g p dv fv cv 7 0 s_ w') ?_ ?_;rotate_left
            ·intro hJ4_5_6;refine join_ (σ:=Nat→Nat) 11 #[zt,zt,zt,zt,zt,zt,zf,zt,zt,zt,zf,zf,zf,zf,zf,zf,zf,zf,zf,zf] (fun s_=>[(14,.map (some (s_ 0))),(15,.map (some (s_ 1))),(17,.map (some (s_ 3))),(18,.pointer (some ⟨g,0,none⟩)),(19,.pointer (some ⟨g,9,none⟩))]) (fun s_ w'=>MkSt w w.heap.size g p dv fv cv 11 0 s_ w') ?_ ?_;rotate_left
             ·intro hJ4_5_7;refine join_ (σ:=Nat→Nat) 9 #[zt,zt,zt,zt,zt,zt,zf,zf,zt,zt,zt,zt,zt,zf,zf,zf,zf,zf,zf,zf] (fun s_=>[(14,.map (some (s_ 0))),(15,.map (some (s_ 1))),(18,.pointer (some ⟨g,0,none⟩)),(19,.pointer (some ⟨g,9,none⟩)),(20,.pointer (some ⟨g,0,none⟩)),(21,.pointer (some ⟨g,10,none⟩))]) (fun s_ w'=>MkSt w w.heap.size g p dv fv cv 3 1 s_ w') ?_ ?_;rotate_left
              ·intro hJ4_5_10;refine join_ (σ:=Nat→Nat) 11 #[zt,zt,zt,zt,zt,zf,zt,zt,zt,zt,zf,zf,zf,zf,zf,zf,zf,zf,zf,zf] (fun s_=>[(14,.map (some (s_ 0))),(16,.map (some (s_ 2))),(17,.map (some (s_ 3))),(18,.pointer (some ⟨g,0,none⟩)),(19,.pointer (some ⟨g,9,none⟩))]) (fun s_ w'=>MkSt w w.heap.size g p dv fv cv 13 0 s_ w') ?_ ?_;rotate_left
               ·intro hJ4_6_7;refine join_ (σ:=Nat→Nat) 11 #[zt,zt,zt,zt,zt,zf,zt,zf,zt,zt,zt,zf,zf,zf,zf,zf,zf,zf,zf,zf] (fun s_=>[(14,.map (some (s_ 0))),(16,.map (some (s_ 2))),(18,.pointer (some ⟨g,0,none⟩)),(19,.pointer (some ⟨g,9,none⟩))]) (fun s_ w'=>MkSt w w.heap.size g p dv fv cv 5 1 s_ w') ?_ ?_;rotate_left
                ·intro hJ4_6_10;refine join_ (σ:=Nat→Nat) 11 #[zt,zt,zt,zt,zt,zf,zf,zt,zt,zt,zt,zf,zf,zf,zf,zf,zf,zf,zf,zf] (fun s_=>[(14,.map (some (s_ 0))),(17,.map (some (s_ 3))),(18,.pointer (some ⟨g,0,none⟩)),(19,.pointer (some ⟨g,9,none⟩))]) (fun s_ w'=>MkSt w w.heap.size g p dv fv cv 9 1 s_ w') ?_ ?_;rotate_left
                 ·intro hJ4_7_10;refine join_ (σ:=Nat→Nat) 13 #[zt,zt,zt,zt,zf,zt,zt,zt,zf,zf,zf,zf,zf,zf,zf,zf,zf,zf,zf,zf] (fun s_=>[(15,.map (some (s_ 1))),(16,.map (some (s_ 2))),(17,.map (some (s_ 3)))]) (fun s_ w'=>MkSt w w.heap.size g p dv fv cv 14 0 s_ w') ?_ ?_;rotate_left
                  ·intro hJ5_6_7;refine join_ (σ:=Nat→Nat) 12 #[zt,zt,zt,zt,zt,zt,zf,zf,zt,zt,zf,zf,zf,zf,zf,zf,zf,zf,zf,zf] (fun s_=>[(14,.map (some (s_ 0))),(15,.map (some (s_ 1))),(18,.pointer (some ⟨g,0,none⟩)),(19,.pointer (some ⟨g,9,none⟩))]) (fun s_ w'=>MkSt w w.heap.size g p dv fv cv 3 0 s_ w') ?_ ?_;rotate_left
                   ·intro hJ4_5;refine join_ (σ:=Nat→Nat) 12 #[zt,zt,zt,zt,zt,zf,zt,zf,zt,zt,zf,zf,zf,zf,zf,zf,zf,zf,zf,zf] (fun s_=>[(14,.map (some (s_ 0))),(16,.map (some (s_ 2))),(18,.pointer (some ⟨g,0,none⟩)),(19,.pointer (some ⟨g,9,none⟩))]) (fun s_ w'=>MkSt w w.heap.size g p dv fv cv 5 0 s_ w') ?_ ?_;rotate_left
                    ·intro hJ4_6;refine join_ (σ:=Nat→Nat) 12 #[zt,zt,zt,zt,zt,zf,zf,zt,zt,zt,zf,zf,zf,zf,zf,zf,zf,zf,zf,zf] (fun s_=>[(14,.map (some (s_ 0))),(17,.map (some (s_ 3))),(18,.pointer (some ⟨g,0,none⟩)),(19,.pointer (some ⟨g,9,none⟩))]) (fun s_ w'=>MkSt w w.heap.size g p dv fv cv 9 0 s_ w') ?_ ?_;rotate_left
                     ·intro hJ4_7;refine join_ (σ:=Nat→Nat) 12 #[zt,zt,zt,zt,zt,zf,zf,zf,zt,zt,zt,zf,zf,zf,zf,zf,zf,zf,zf,zf] (fun s_=>[(14,.map (some (s_ 0))),(18,.pointer (some ⟨g,0,none⟩)),(19,.pointer (some ⟨g,9,none⟩))]) (fun s_ w'=>MkSt w w.heap.size g p dv fv cv 1 1 s_ w') ?_ ?_;rotate_left
                      ·intro hJ4_10;refine join_ (σ:=Nat→Nat) 14 #[zt,zt,zt,zt,zf,zt,zt,zf,zf,zf,zf,zf,zf,zf,zf,zf,zf,zf,zf,zf] (fun s_=>[(15,.map (some (s_ 1))),(16,.map (some (s_ 2)))]) (fun s_ w'=>MkSt w w.heap.size g p dv fv cv 6 0 s_ w') ?_ ?_;rotate_left
                       ·intro hJ5_6;refine join_ (σ:=Nat→Nat) 14 #[zt,zt,zt,zt,zf,zt,zf,zt,zf,zf,zf,zf,zf,zf,zf,zf,zf,zf,zf,zf] (fun s_=>[(15,.map (some (s_ 1))),(17,.map (some (s_ 3)))]) (fun s_ w'=>MkSt w w.heap.size g p dv fv cv 10 0 s_ w') ?_ ?_;rotate_left
                        ·intro hJ5_7;refine join_ (σ:=Nat→Nat) 14 #[zt,zt,zt,zt,zf,zf,zt,zt,zf,zf,zf,zf,zf,zf,zf,zf,zf,zf,zf,zf] (fun s_=>[(16,.map (some (s_ 2))),(17,.map (some (s_ 3)))]) (fun s_ w'=>MkSt w w.heap.size g p dv fv cv 12 0 s_ w') ?_ ?_;rotate_left
                         ·intro hJ6_7;refine join_ (σ:=Nat→Nat) 13 #[zt,zt,zt,zt,zt,zf,zf,zf,zt,zt,zf,zf,zf,zf,zf,zf,zf,zf,zf,zf] (fun s_=>[(14,.map (some (s_ 0))),(18,.pointer (some ⟨g,0,none⟩)),(19,.pointer (some ⟨g,9,none⟩))]) (fun s_ w'=>MkSt w w.heap.size g p dv fv cv 1 0 s_ w') ?_ ?_;rotate_left
                          ·intro hJ4;refine join_ (σ:=Nat→Nat) 15 #[zt,zt,zt,zt,zf,zt,zf,zf,zf,zf,zf,zf,zf,zf,zf,zf,zf,zf,zf,zf] (fun s_=>[(15,.map (some (s_ 1)))]) (fun s_ w'=>MkSt w w.heap.size g p dv fv cv 2 0 s_ w') ?_ ?_;rotate_left
                           ·intro hJ5;refine join_ (σ:=Nat→Nat) 15 #[zt,zt,zt,zt,zf,zf,zt,zf,zf,zf,zf,zf,zf,zf,zf,zf,zf,zf,zf,zf] (fun s_=>[(16,.map (some (s_ 2)))]) (fun s_ w'=>MkSt w w.heap.size g p dv fv cv 4 0 s_ w') ?_ ?_;rotate_left
                            ·intro hJ6;refine join_ (σ:=Nat→Nat) 15 #[zt,zt,zt,zt,zf,zf,zf,zt,zf,zf,zf,zf,zf,zf,zf,zf,zf,zf,zf,zf] (fun s_=>[(17,.map (some (s_ 3)))]) (fun s_ w'=>MkSt w w.heap.size g p dv fv cv 8 0 s_ w') ?_ ?_;rotate_left
                             ·intro hJ7;refine four_ (i:=4) (j:=5) (k:=6) (m:=7) (Ni:=some 14) (Nj:=some 15) (Nk:=some 16) (Nm:=some 17) #[zt,zt,zt,zt,zt,zf,zf,zf,zf,zf,zf,zf,zf,zf,zf,zf,zf,zf,zf,zf] #[zt,zt,zt,zt,zf,zt,zf,zf,zf,zf,zf,zf,zf,zf,zf,zf,zf,zf,zf,zf] #[zt,zt,zt,zt,zf,zf,zt,zf,zf,zf,zf,zf,zf,zf,zf,zf,zf,zf,zf,zf] #[zt,zt,zt,zt,zf,zf,zf,zt,zf,zf,zf,zf,zf,zf,zf,zf,zf,zf,zf,zf] rfl rfl rfl rfl rfl rfl rfl rfl (by kernel_rfl) (by decide) (by decide) (by decide) (by decide) (fun K hK=>?_) (fun K hK=>?_) (fun K hK=>?_) (fun K hK=>?_)
                              ·skip;refine z1c (w1:=?_) (v:=?_) (by rfl) rfl ?_ ?_;rotate_left 2
                               ·go_simp;constructor
                                ·rfl
                                ·rfl
                               refine hK.out _ _ (cell_of_one (ST0.out.make 0 (by omega) (by decide) rfl).box) (fun hHeld=>?_);clear hK K;refine norm_ (a':=?_) ?_ ?_;rotate_left
                               ·show Act.put _ (some 14) _=_;simp only [Act.put,zq1,zq2,zq3,i64_w,i32_w];rfl
                               refine pure_ (i:=8) (N:=some 18) (v:=?_) (a':=?_) #[zt,zt,zt,zt,zt,zf,zf,zf,zt,zf,zf,zf,zf,zf,zf,zf,zf,zf,zf,zf] rfl rfl (by kernel_rfl) (fun _ _ _ h=>h) (Or.inl ⟨by rfl,?_⟩) ?_ ?_;rotate_left
                               ·intro w';go_simp;with_reducible rfl
                               rotate_left
                               ·simp only [Act.put,zq1,zq2,zq3,i64_w,i32_w];rfl
                               refine pure_ (i:=9) (N:=some 19) (v:=?_) (a':=?_) #[zt,zt,zt,zt,zt,zf,zf,zf,zt,zt,zf,zf,zf,zf,zf,zf,zf,zf,zf,zf] rfl rfl (by kernel_rfl) (fun _ _ _ h=>h) (Or.inl ⟨by rfl,?_⟩) ?_ ?_;rotate_left
                               ·intro w';go_simp;with_reducible rfl
                               rotate_left
                               ·simp only [Act.put,zq1,zq2,zq3,i64_w,i32_w];rfl
                               exact norm_ (by first|(simp only [z0p,Act.put,zq1,zq2,zq3];done)|(simp only [z0p,Act.put,zq1,zq2,zq3];rfl)) (hJ4 (fun t=>if t=0 then wd.heap.size else (fun _=>0) t) _ (ST0.out.make 0 (by omega) (by decide) rfl))
                              ·skip;refine z1c (w1:=?_) (v:=?_) (by rfl) rfl ?_ ?_;rotate_left 2
                               ·go_simp;constructor
                                ·rfl
                                ·rfl
                               refine hK.out _ _ (cell_of_one (ST0.out.make 1 (by omega) (by decide) rfl).box) (fun hHeld=>?_);clear hK K;refine norm_ (a':=?_) ?_ ?_;rotate_left
                               ·show Act.put _ (some 15) _=_;simp only [Act.put,zq1,zq2,zq3,i64_w,i32_w];rfl
                               exact norm_ (by first|(simp only [z0p,Act.put,zq1,zq2,zq3];done)|(simp only [z0p,Act.put,zq1,zq2,zq3];rfl)) (hJ5 (fun t=>if t=1 then wd.heap.size else (fun _=>0) t) _ (ST0.out.make 1 (by omega) (by decide) rfl))
                              ·skip;refine z1c (w1:=?_) (v:=?_) (by rfl) rfl ?_ ?_;rotate_left 2
                               ·go_simp;constructor
                                ·rfl
                                ·rfl
                               refine hK.out _ _ (cell_of_one (ST0.out.make 2 (by omega) (by decide) rfl).box) (fun hHeld=>?_);clear hK K;refine norm_ (a':=?_) ?_ ?_;rotate_left
                               ·show Act.put _ (some 16) _=_;simp only [Act.put,zq1,zq2,zq3,i64_w,i32_w];rfl
                               exact norm_ (by first|(simp only [z0p,Act.put,zq1,zq2,zq3];done)|(simp only [z0p,Act.put,zq1,zq2,zq3];rfl)) (hJ6 (fun t=>if t=2 then wd.heap.size else (fun _=>0) t) _ (ST0.out.make 2 (by omega) (by decide) rfl))
                              ·skip;refine z1c (w1:=?_) (v:=?_) (by rfl) rfl ?_ ?_;rotate_left 2
                               ·go_simp;constructor
                                ·rfl
                                ·rfl
                               refine hK.out _ _ (cell_of_one (ST0.out.make 3 (by omega) (by decide) rfl).box) (fun hHeld=>?_);clear hK K;refine norm_ (a':=?_) ?_ ?_;rotate_left
                               ·show Act.put _ (some 17) _=_;simp only [Act.put,zq1,zq2,zq3,i64_w,i32_w];rfl
                               exact norm_ (by first|(simp only [z0p,Act.put,zq1,zq2,zq3];done)|(simp only [z0p,Act.put,zq1,zq2,zq3];rfl)) (hJ7 (fun t=>if t=3 then wd.heap.size else (fun _=>0) t) _ (ST0.out.make 3 (by omega) (by decide) rfl))
                             ·skip;rintro s_ wj hst_;have hHeld:=cell_of_one hst_.box;have HST:=Aside0.mk hst_;clear hst_;refine norm_ (a':=?_) ?_ ?_;rotate_left
                              ·simp only [z0p,Act.put,zq1,zq2,zq3];rfl
                              refine three_ (i:=4) (j:=5) (k:=6) (Ni:=some 14) (Nj:=some 15) (Nk:=some 16) #[zt,zt,zt,zt,zt,zf,zf,zt,zf,zf,zf,zf,zf,zf,zf,zf,zf,zf,zf,zf] #[zt,zt,zt,zt,zf,zt,zf,zt,zf,zf,zf,zf,zf,zf,zf,zf,zf,zf,zf,zf] #[zt,zt,zt,zt,zf,zf,zt,zt,zf,zf,zf,zf,zf,zf,zf,zf,zf,zf,zf,zf] rfl rfl rfl rfl rfl rfl (by kernel_rfl) (by decide) (by decide) (by decide) (fun K hK=>?_) (fun K hK=>?_) (fun K hK=>?_)
                              ·skip;refine z1c (w1:=?_) (v:=?_) (by rfl) rfl ?_ ?_;rotate_left 2
                               ·go_simp;constructor
                                ·rfl
                                ·rfl
                               refine hK.out _ _ (cell_of_one (HST.out.make 0 (by omega) (by decide) rfl).box) (fun hHeld=>?_);clear hK K;refine norm_ (a':=?_) ?_ ?_;rotate_left
                               ·show Act.put _ (some 14) _=_;simp only [Act.put,zq1,zq2,zq3,i64_w,i32_w];rfl
                               refine pure_ (i:=8) (N:=some 18) (v:=?_) (a':=?_) #[zt,zt,zt,zt,zt,zf,zf,zt,zt,zf,zf,zf,zf,zf,zf,zf,zf,zf,zf,zf] rfl rfl (by kernel_rfl) (fun _ _ _ h=>h) (Or.inl ⟨by rfl,?_⟩) ?_ ?_;rotate_left
                               ·intro w';go_simp;with_reducible rfl
                               rotate_left
                               ·simp only [Act.put,zq1,zq2,zq3,i64_w,i32_w];rfl
                               refine pure_ (i:=9) (N:=some 19) (v:=?_) (a':=?_) #[zt,zt,zt,zt,zt,zf,zf,zt,zt,zt,zf,zf,zf,zf,zf,zf,zf,zf,zf,zf] rfl rfl (by kernel_rfl) (fun _ _ _ h=>h) (Or.inl ⟨by rfl,?_⟩) ?_ ?_;rotate_left
                               ·intro w';go_simp;with_reducible rfl
                               rotate_left
                               ·simp only [Act.put,zq1,zq2,zq3,i64_w,i32_w];rfl
                               exact norm_ (by first|(simp only [z0p,Act.put,zq1,zq2,zq3];done)|(simp only [z0p,Act.put,zq1,zq2,zq3];rfl)) (hJ4_7 (fun t=>if t=0 then wj.heap.size else s_ t) _ (HST.out.make 0 (by omega) (by decide) rfl))
                              ·skip;refine z1c (w1:=?_) (v:=?_) (by rfl) rfl ?_ ?_;rotate_left 2
                               ·go_simp;constructor
                                ·rfl
                                ·rfl
                               refine hK.out _ _ (cell_of_one (HST.out.make 1 (by omega) (by decide) rfl).box) (fun hHeld=>?_);clear hK K;refine norm_ (a':=?_) ?_ ?_;rotate_left
                               ·show Act.put _ (some 15) _=_;simp only [Act.put,zq1,zq2,zq3,i64_w,i32_w];rfl
                               exact norm_ (by first|(simp only [z0p,Act.put,zq1,zq2,zq3];done)|(simp only [z0p,Act.put,zq1,zq2,zq3];rfl)) (hJ5_7 (fun t=>if t=1 then wj.heap.size else s_ t) _ (HST.out.make 1 (by omega) (by decide) rfl))
                              ·skip;refine z1c (w1:=?_) (v:=?_) (by rfl) rfl ?_ ?_;rotate_left 2
                               ·go_simp;constructor
                                ·rfl
                                ·rfl
                               refine hK.out _ _ (cell_of_one (HST.out.make 2 (by omega) (by decide) rfl).box) (fun hHeld=>?_);clear hK K;refine norm_ (a':=?_) ?_ ?_;rotate_left
                               ·show Act.put _ (some 16) _=_;simp only [Act.put,zq1,zq2,zq3,i64_w,i32_w];rfl
                               exact norm_ (by first|(simp only [z0p,Act.put,zq1,zq2,zq3];done)|(simp only [z0p,Act.put,zq1,zq2,zq3];rfl)) (hJ6_7 (fun t=>if t=2 then wj.heap.size else s_ t) _ (HST.out.make 2 (by omega) (by decide) rfl))
                            ·skip;rintro s_ wj hst_;have hHeld:=cell_of_one hst_.box;have HST:=Aside0.mk hst_;clear hst_;refine norm_ (a':=?_) ?_ ?_;rotate_left
                             ·simp only [z0p,Act.put,zq1,zq2,zq3];rfl
                             refine three_ (i:=4) (j:=5) (k:=7) (Ni:=some 14) (Nj:=some 15) (Nk:=some 17) #[zt,zt,zt,zt,zt,zf,zt,zf,zf,zf,zf,zf,zf,zf,zf,zf,zf,zf,zf,zf] #[zt,zt,zt,zt,zf,zt,zt,zf,zf,zf,zf,zf,zf,zf,zf,zf,zf,zf,zf,zf] #[zt,zt,zt,zt,zf,zf,zt,zt,zf,zf,zf,zf,zf,zf,zf,zf,zf,zf,zf,zf] rfl rfl rfl rfl rfl rfl (by kernel_rfl) (by decide) (by decide) (by decide) (fun K hK=>?_) (fun K hK=>?_) (fun K hK=>?_)
                             ·skip;refine z1c (w1:=?_) (v:=?_) (by rfl) rfl ?_ ?_;rotate_left 2
                              ·go_simp;constructor
                               ·rfl
                               ·rfl
                              refine hK.out _ _ (cell_of_one (HST.out.make 0 (by omega) (by decide) rfl).box) (fun hHeld=>?_);clear hK K;refine norm_ (a':=?_) ?_ ?_;rotate_left
                              ·show Act.put _ (some 14) _=_;simp only [Act.put,zq1,zq2,zq3,i64_w,i32_w];rfl
                              refine pure_ (i:=8) (N:=some 18) (v:=?_) (a':=?_) #[zt,zt,zt,zt,zt,zf,zt,zf,zt,zf,zf,zf,zf,zf,zf,zf,zf,zf,zf,zf] rfl rfl (by kernel_rfl) (fun _ _ _ h=>h) (Or.inl ⟨by rfl,?_⟩) ?_ ?_;rotate_left
                              ·intro w';go_simp;with_reducible rfl
                              rotate_left
                              ·simp only [Act.put,zq1,zq2,zq3,i64_w,i32_w];rfl
                              refine pure_ (i:=9) (N:=some 19) (v:=?_) (a':=?_) #[zt,zt,zt,zt,zt,zf,zt,zf,zt,zt,zf,zf,zf,zf,zf,zf,zf,zf,zf,zf] rfl rfl (by kernel_rfl) (fun _ _ _ h=>h) (Or.inl ⟨by rfl,?_⟩) ?_ ?_;rotate_left
                              ·intro w';go_simp;with_reducible rfl
                              rotate_left
                              ·simp only [Act.put,zq1,zq2,zq3,i64_w,i32_w];rfl
                              exact norm_ (by first|(simp only [z0p,Act.put,zq1,zq2,zq3];done)|(simp only [z0p,Act.put,zq1,zq2,zq3];rfl)) (hJ4_6 (fun t=>if t=0 then wj.heap.size else s_ t) _ (HST.out.make 0 (by omega) (by decide) rfl))
                             ·skip;refine z1c (w1:=?_) (v:=?_) (by rfl) rfl ?_ ?_;rotate_left 2
                              ·go_simp;constructor
                               ·rfl
                               ·rfl
                              refine hK.out _ _ (cell_of_one (HST.out.make 1 (by omega) (by decide) rfl).box) (fun hHeld=>?_);clear hK K;refine norm_ (a':=?_) ?_ ?_;rotate_left
                              ·show Act.put _ (some 15) _=_;simp only [Act.put,zq1,zq2,zq3,i64_w,i32_w];rfl
                              exact norm_ (by first|(simp only [z0p,Act.put,zq1,zq2,zq3];done)|(simp only [z0p,Act.put,zq1,zq2,zq3];rfl)) (hJ5_6 (fun t=>if t=1 then wj.heap.size else s_ t) _ (HST.out.make 1 (by omega) (by decide) rfl))
                             ·skip;refine z1c (w1:=?_) (v:=?_) (by rfl) rfl ?_ ?_;rotate_left 2
                              ·go_simp;constructor
                               ·rfl
                               ·rfl
                              refine hK.out _ _ (cell_of_one (HST.out.make 3 (by omega) (by decide) rfl).box) (fun hHeld=>?_);clear hK K;refine norm_ (a':=?_) ?_ ?_;rotate_left
                              ·show Act.put _ (some 17) _=_;simp only [Act.put,zq1,zq2,zq3,i64_w,i32_w];rfl
                              exact norm_ (by first|(simp only [z0p,Act.put,zq1,zq2,zq3];done)|(simp only [z0p,Act.put,zq1,zq2,zq3];rfl)) (hJ6_7 (fun t=>if t=3 then wj.heap.size else s_ t) _ (HST.out.make 3 (by omega) (by decide) rfl))
                           ·skip;rintro s_ wj hst_;have hHeld:=cell_of_one hst_.box;have HST:=Aside0.mk hst_;clear hst_;refine norm_ (a':=?_) ?_ ?_;rotate_left
                            ·simp only [z0p,Act.put,zq1,zq2,zq3];rfl
                            refine three_ (i:=4) (j:=6) (k:=7) (Ni:=some 14) (Nj:=some 16) (Nk:=some 17) #[zt,zt,zt,zt,zt,zt,zf,zf,zf,zf,zf,zf,zf,zf,zf,zf,zf,zf,zf,zf] #[zt,zt,zt,zt,zf,zt,zt,zf,zf,zf,zf,zf,zf,zf,zf,zf,zf,zf,zf,zf] #[zt,zt,zt,zt,zf,zt,zf,zt,zf,zf,zf,zf,zf,zf,zf,zf,zf,zf,zf,zf] rfl rfl rfl rfl rfl rfl (by kernel_rfl) (by decide) (by decide) (by decide) (fun K hK=>?_) (fun K hK=>?_) (fun K hK=>?_)
                            ·skip;refine z1c (w1:=?_) (v:=?_) (by rfl) rfl ?_ ?_;rotate_left 2
                             ·go_simp;constructor
                              ·rfl
                              ·rfl
                             refine hK.out _ _ (cell_of_one (HST.out.make 0 (by omega) (by decide) rfl).box) (fun hHeld=>?_);clear hK K;refine norm_ (a':=?_) ?_ ?_;rotate_left
                             ·show Act.put _ (some 14) _=_;simp only [Act.put,zq1,zq2,zq3,i64_w,i32_w];rfl
                             refine pure_ (i:=8) (N:=some 18) (v:=?_) (a':=?_) #[zt,zt,zt,zt,zt,zt,zf,zf,zt,zf,zf,zf,zf,zf,zf,zf,zf,zf,zf,zf] rfl rfl (by kernel_rfl) (fun _ _ _ h=>h) (Or.inl ⟨by rfl,?_⟩) ?_ ?_;rotate_left
                             ·intro w';go_simp;with_reducible rfl
                             rotate_left
                             ·simp only [Act.put,zq1,zq2,zq3,i64_w,i32_w];rfl
                             refine pure_ (i:=9) (N:=some 19) (v:=?_) (a':=?_) #[zt,zt,zt,zt,zt,zt,zf,zf,zt,zt,zf,zf,zf,zf,zf,zf,zf,zf,zf,zf] rfl rfl (by kernel_rfl) (fun _ _ _ h=>h) (Or.inl ⟨by rfl,?_⟩) ?_ ?_;rotate_left
                             ·intro w';go_simp;with_reducible rfl
                             rotate_left
                             ·simp only [Act.put,zq1,zq2,zq3,i64_w,i32_w];rfl
                             exact norm_ (by first|(simp only [z0p,Act.put,zq1,zq2,zq3];done)|(simp only [z0p,Act.put,zq1,zq2,zq3];rfl)) (hJ4_5 (fun t=>if t=0 then wj.heap.size else s_ t) _ (HST.out.make 0 (by omega) (by decide) rfl))
                            ·skip;refine z1c (w1:=?_) (v:=?_) (by rfl) rfl ?_ ?_;rotate_left 2
                             ·go_simp;constructor
                              ·rfl
                              ·rfl
                             refine hK.out _ _ (cell_of_one (HST.out.make 2 (by omega) (by decide) rfl).box) (fun hHeld=>?_);clear hK K;refine norm_ (a':=?_) ?_ ?_;rotate_left
                             ·show Act.put _ (some 16) _=_;simp only [Act.put,zq1,zq2,zq3,i64_w,i32_w];rfl
                             exact norm_ (by first|(simp only [z0p,Act.put,zq1,zq2,zq3];done)|(simp only [z0p,Act.put,zq1,zq2,zq3];rfl)) (hJ5_6 (fun t=>if t=2 then wj.heap.size else s_ t) _ (HST.out.make 2 (by omega) (by decide) rfl))
                            ·skip;refine z1c (w1:=?_) (v:=?_) (by rfl) rfl ?_ ?_;rotate_left 2
                             ·go_simp;constructor
                              ·rfl
                              ·rfl
                             refine hK.out _ _ (cell_of_one (HST.out.make 3 (by omega) (by decide) rfl).box) (fun hHeld=>?_);clear hK K;refine norm_ (a':=?_) ?_ ?_;rotate_left
                             ·show Act.put _ (some 17) _=_;simp only [Act.put,zq1,zq2,zq3,i64_w,i32_w];rfl
                             exact norm_ (by first|(simp only [z0p,Act.put,zq1,zq2,zq3];done)|(simp only [z0p,Act.put,zq1,zq2,zq3];rfl)) (hJ5_7 (fun t=>if t=3 then wj.heap.size else s_ t) _ (HST.out.make 3 (by omega) (by decide) rfl))
                          ·skip;rintro s_ wj hst_;have hHeld:=cell_of_one hst_.box;have HST:=Aside0.mk hst_;clear hst_;refine norm_ (a':=?_) ?_ ?_;rotate_left
                           ·simp only [z0p,Act.put,zq1,zq2,zq3];rfl
                           refine four_ (i:=5) (j:=6) (k:=7) (m:=10) (Ni:=some 15) (Nj:=some 16) (Nk:=some 17) (Nm:=none) #[zt,zt,zt,zt,zt,zt,zf,zf,zt,zt,zf,zf,zf,zf,zf,zf,zf,zf,zf,zf] #[zt,zt,zt,zt,zt,zf,zt,zf,zt,zt,zf,zf,zf,zf,zf,zf,zf,zf,zf,zf] #[zt,zt,zt,zt,zt,zf,zf,zt,zt,zt,zf,zf,zf,zf,zf,zf,zf,zf,zf,zf] #[zt,zt,zt,zt,zt,zf,zf,zf,zt,zt,zt,zf,zf,zf,zf,zf,zf,zf,zf,zf] rfl rfl rfl rfl rfl rfl rfl rfl (by kernel_rfl) (by decide) (by decide) (by decide) (by decide) (fun K hK=>?_) (fun K hK=>?_) (fun K hK=>?_) (fun K hK=>?_)
                           ·skip;refine z1c (w1:=?_) (v:=?_) (by rfl) rfl ?_ ?_;rotate_left 2
                            ·go_simp;constructor
                             ·rfl
                             ·rfl
                            refine hK.out _ _ (cell_of_one (HST.out.make 1 (by omega) (by decide) rfl).box) (fun hHeld=>?_);clear hK K;refine norm_ (a':=?_) ?_ ?_;rotate_left
                            ·show Act.put _ (some 15) _=_;simp only [Act.put,zq1,zq2,zq3,i64_w,i32_w];rfl
                            exact norm_ (by first|(simp only [z0p,Act.put,zq1,zq2,zq3];done)|(simp only [z0p,Act.put,zq1,zq2,zq3];rfl)) (hJ4_5 (fun t=>if t=1 then wj.heap.size else s_ t) _ (HST.out.make 1 (by omega) (by decide) rfl))
                           ·skip;refine z1c (w1:=?_) (v:=?_) (by rfl) rfl ?_ ?_;rotate_left 2
                            ·go_simp;constructor
                             ·rfl
                             ·rfl
                            refine hK.out _ _ (cell_of_one (HST.out.make 2 (by omega) (by decide) rfl).box) (fun hHeld=>?_);clear hK K;refine norm_ (a':=?_) ?_ ?_;rotate_left
                            ·show Act.put _ (some 16) _=_;simp only [Act.put,zq1,zq2,zq3,i64_w,i32_w];rfl
                            exact norm_ (by first|(simp only [z0p,Act.put,zq1,zq2,zq3];done)|(simp only [z0p,Act.put,zq1,zq2,zq3];rfl)) (hJ4_6 (fun t=>if t=2 then wj.heap.size else s_ t) _ (HST.out.make 2 (by omega) (by decide) rfl))
                           ·skip;refine z1c (w1:=?_) (v:=?_) (by rfl) rfl ?_ ?_;rotate_left 2
                            ·go_simp;constructor
                             ·rfl
                             ·rfl
                            refine hK.out _ _ (cell_of_one (HST.out.make 3 (by omega) (by decide) rfl).box) (fun hHeld=>?_);clear hK K;refine norm_ (a':=?_) ?_ ?_;rotate_left
                            ·show Act.put _ (some 17) _=_;simp only [Act.put,zq1,zq2,zq3,i64_w,i32_w];rfl
                            exact norm_ (by first|(simp only [z0p,Act.put,zq1,zq2,zq3];done)|(simp only [z0p,Act.put,zq1,zq2,zq3];rfl)) (hJ4_7 (fun t=>if t=3 then wj.heap.size else s_ t) _ (HST.out.make 3 (by omega) (by decide) rfl))
                           ·skip;have c_:wj.cell? ⟨g,9,none⟩=some (.map none):=(z01 HST.out.cells 9).trans rfl;have f_:=z02 HST.out.cells 9;refine skip_ (w1:=?_) (by rfl) rfl ?_ ?_;rotate_left
                            ·go_simp;rfl
                            refine hK.out _ _ (cell_of_one (HST.out.store 0 (by omega) rfl (by decide)).box) (fun hHeld=>?_);clear hK K;exact norm_ (by first|(simp only [z0p,Act.put,zq1,zq2,zq3];done)|(simp only [z0p,Act.put,zq1,zq2,zq3];rfl)) (hJ4_10 s_ _ (HST.out.store 0 (by omega) rfl (by decide)))
                         ·skip;rintro s_ wj hst_;have hHeld:=cell_of_one hst_.box;have HST:=Aside0.mk hst_;clear hst_;refine norm_ (a':=?_) ?_ ?_;rotate_left
                          ·simp only [z0p,Act.put,zq1,zq2,zq3];rfl
                          refine two_ (i:=4) (j:=5) (Ni:=some 14) (Nj:=some 15) #[zt,zt,zt,zt,zt,zf,zt,zt,zf,zf,zf,zf,zf,zf,zf,zf,zf,zf,zf,zf] #[zt,zt,zt,zt,zf,zt,zt,zt,zf,zf,zf,zf,zf,zf,zf,zf,zf,zf,zf,zf] rfl rfl rfl rfl (by kernel_rfl) (by decide) (by decide) (fun K hK=>?_) (fun K hK=>?_)
                          ·skip;refine z1c (w1:=?_) (v:=?_) (by rfl) rfl ?_ ?_;rotate_left 2
                           ·go_simp;constructor
                            ·rfl
                            ·rfl
                           refine hK.out _ _ (cell_of_one (HST.out.make 0 (by omega) (by decide) rfl).box) (fun hHeld=>?_);clear hK K;refine norm_ (a':=?_) ?_ ?_;rotate_left
                           ·show Act.put _ (some 14) _=_;simp only [Act.put,zq1,zq2,zq3,i64_w,i32_w];rfl
                           refine pure_ (i:=8) (N:=some 18) (v:=?_) (a':=?_) #[zt,zt,zt,zt,zt,zf,zt,zt,zt,zf,zf,zf,zf,zf,zf,zf,zf,zf,zf,zf] rfl rfl (by kernel_rfl) (fun _ _ _ h=>h) (Or.inl ⟨by rfl,?_⟩) ?_ ?_;rotate_left
                           ·intro w';go_simp;with_reducible rfl
                           rotate_left
                           ·simp only [Act.put,zq1,zq2,zq3,i64_w,i32_w];rfl
                           refine pure_ (i:=9) (N:=some 19) (v:=?_) (a':=?_) #[zt,zt,zt,zt,zt,zf,zt,zt,zt,zt,zf,zf,zf,zf,zf,zf,zf,zf,zf,zf] rfl rfl (by kernel_rfl) (fun _ _ _ h=>h) (Or.inl ⟨by rfl,?_⟩) ?_ ?_;rotate_left
                           ·intro w';go_simp;with_reducible rfl
                           rotate_left
                           ·simp only [Act.put,zq1,zq2,zq3,i64_w,i32_w];rfl
                           exact norm_ (by first|(simp only [z0p,Act.put,zq1,zq2,zq3];done)|(simp only [z0p,Act.put,zq1,zq2,zq3];rfl)) (hJ4_6_7 (fun t=>if t=0 then wj.heap.size else s_ t) _ (HST.out.make 0 (by omega) (by decide) rfl))
                          ·skip;refine z1c (w1:=?_) (v:=?_) (by rfl) rfl ?_ ?_;rotate_left 2
                           ·go_simp;constructor
                            ·rfl
                            ·rfl
                           refine hK.out _ _ (cell_of_one (HST.out.make 1 (by omega) (by decide) rfl).box) (fun hHeld=>?_);clear hK K;refine norm_ (a':=?_) ?_ ?_;rotate_left
                           ·show Act.put _ (some 15) _=_;simp only [Act.put,zq1,zq2,zq3,i64_w,i32_w];rfl
                           exact norm_ (by first|(simp only [z0p,Act.put,zq1,zq2,zq3];done)|(simp only [z0p,Act.put,zq1,zq2,zq3];rfl)) (hJ5_6_7 (fun t=>if t=1 then wj.heap.size else s_ t) _ (HST.out.make 1 (by omega) (by decide) rfl))
                        ·skip;rintro s_ wj hst_;have hHeld:=cell_of_one hst_.box;have HST:=Aside0.mk hst_;clear hst_;refine norm_ (a':=?_) ?_ ?_;rotate_left
                         ·simp only [z0p,Act.put,zq1,zq2,zq3];rfl
                         refine two_ (i:=4) (j:=6) (Ni:=some 14) (Nj:=some 16) #[zt,zt,zt,zt,zt,zt,zf,zt,zf,zf,zf,zf,zf,zf,zf,zf,zf,zf,zf,zf] #[zt,zt,zt,zt,zf,zt,zt,zt,zf,zf,zf,zf,zf,zf,zf,zf,zf,zf,zf,zf] rfl rfl rfl rfl (by kernel_rfl) (by decide) (by decide) (fun K hK=>?_) (fun K hK=>?_)
                         ·skip;refine z1c (w1:=?_) (v:=?_) (by rfl) rfl ?_ ?_;rotate_left 2
                          ·go_simp;constructor
                           ·rfl
                           ·rfl
                          refine hK.out _ _ (cell_of_one (HST.out.make 0 (by omega) (by decide) rfl).box) (fun hHeld=>?_);clear hK K;refine norm_ (a':=?_) ?_ ?_;rotate_left
                          ·show Act.put _ (some 14) _=_;simp only [Act.put,zq1,zq2,zq3,i64_w,i32_w];rfl
                          refine pure_ (i:=8) (N:=some 18) (v:=?_) (a':=?_) #[zt,zt,zt,zt,zt,zt,zf,zt,zt,zf,zf,zf,zf,zf,zf,zf,zf,zf,zf,zf] rfl rfl (by kernel_rfl) (fun _ _ _ h=>h) (Or.inl ⟨by rfl,?_⟩) ?_ ?_;rotate_left
                          ·intro w';go_simp;with_reducible rfl
                          rotate_left
                          ·simp only [Act.put,zq1,zq2,zq3,i64_w,i32_w];rfl
                          refine pure_ (i:=9) (N:=some 19) (v:=?_) (a':=?_) #[zt,zt,zt,zt,zt,zt,zf,zt,zt,zt,zf,zf,zf,zf,zf,zf,zf,zf,zf,zf] rfl rfl (by kernel_rfl) (fun _ _ _ h=>h) (Or.inl ⟨by rfl,?_⟩) ?_ ?_;rotate_left
                          ·intro w';go_simp;with_reducible rfl
                          rotate_left
                          ·simp only [Act.put,zq1,zq2,zq3,i64_w,i32_w];rfl
                          exact norm_ (by first|(simp only [z0p,Act.put,zq1,zq2,zq3];done)|(simp only [z0p,Act.put,zq1,zq2,zq3];rfl)) (hJ4_5_7 (fun t=>if t=0 then wj.heap.size else s_ t) _ (HST.out.make 0 (by omega) (by decide) rfl))
                         ·skip;refine z1c (w1:=?_) (v:=?_) (by rfl) rfl ?_ ?_;rotate_left 2
                          ·go_simp;constructor
                           ·rfl
                           ·rfl
                          refine hK.out _ _ (cell_of_one (HST.out.make 2 (by omega) (by decide) rfl).box) (fun hHeld=>?_);clear hK K;refine norm_ (a':=?_) ?_ ?_;rotate_left
                          ·show Act.put _ (some 16) _=_;simp only [Act.put,zq1,zq2,zq3,i64_w,i32_w];rfl
                          exact norm_ (by first|(simp only [z0p,Act.put,zq1,zq2,zq3];done)|(simp only [z0p,Act.put,zq1,zq2,zq3];rfl)) (hJ5_6_7 (fun t=>if t=2 then wj.heap.size else s_ t) _ (HST.out.make 2 (by omega) (by decide) rfl))
                       ·skip;rintro s_ wj hst_;have hHeld:=cell_of_one hst_.box;have HST:=Aside0.mk hst_;clear hst_;refine norm_ (a':=?_) ?_ ?_;rotate_left
                        ·simp only [z0p,Act.put,zq1,zq2,zq3];rfl
                        refine two_ (i:=4) (j:=7) (Ni:=some 14) (Nj:=some 17) #[zt,zt,zt,zt,zt,zt,zt,zf,zf,zf,zf,zf,zf,zf,zf,zf,zf,zf,zf,zf] #[zt,zt,zt,zt,zf,zt,zt,zt,zf,zf,zf,zf,zf,zf,zf,zf,zf,zf,zf,zf] rfl rfl rfl rfl (by kernel_rfl) (by decide) (by decide) (fun K hK=>?_) (fun K hK=>?_)
                        ·skip;refine z1c (w1:=?_) (v:=?_) (by rfl) rfl ?_ ?_;rotate_left 2
                         ·go_simp;constructor
                          ·rfl
                          ·rfl
                         refine hK.out _ _ (cell_of_one (HST.out.make 0 (by omega) (by decide) rfl).box) (fun hHeld=>?_);clear hK K;refine norm_ (a':=?_) ?_ ?_;rotate_left
                         ·show Act.put _ (some 14) _=_;simp only [Act.put,zq1,zq2,zq3,i64_w,i32_w];rfl
                         refine pure_ (i:=8) (N:=some 18) (v:=?_) (a':=?_) #[zt,zt,zt,zt,zt,zt,zt,zf,zt,zf,zf,zf,zf,zf,zf,zf,zf,zf,zf,zf] rfl rfl (by kernel_rfl) (fun _ _ _ h=>h) (Or.inl ⟨by rfl,?_⟩) ?_ ?_;rotate_left
                         ·intro w';go_simp;with_reducible rfl
                         rotate_left
                         ·simp only [Act.put,zq1,zq2,zq3,i64_w,i32_w];rfl
                         refine pure_ (i:=9) (N:=some 19) (v:=?_) (a':=?_) #[zt,zt,zt,zt,zt,zt,zt,zf,zt,zt,zf,zf,zf,zf,zf,zf,zf,zf,zf,zf] rfl rfl (by kernel_rfl) (fun _ _ _ h=>h) (Or.inl ⟨by rfl,?_⟩) ?_ ?_;rotate_left
                         ·intro w';go_simp;with_reducible rfl
                         rotate_left
                         ·simp only [Act.put,zq1,zq2,zq3,i64_w,i32_w];rfl
                         exact norm_ (by first|(simp only [z0p,Act.put,zq1,zq2,zq3];done)|(simp only [z0p,Act.put,zq1,zq2,zq3];rfl)) (hJ4_5_6 (fun t=>if t=0 then wj.heap.size else s_ t) _ (HST.out.make 0 (by omega) (by decide) rfl))
                        ·skip;refine z1c (w1:=?_) (v:=?_) (by rfl) rfl ?_ ?_;rotate_left 2
                         ·go_simp;constructor
                          ·rfl
                          ·rfl
                         refine hK.out _ _ (cell_of_one (HST.out.make 3 (by omega) (by decide) rfl).box) (fun hHeld=>?_);clear hK K;refine norm_ (a':=?_) ?_ ?_;rotate_left
                         ·show Act.put _ (some 17) _=_;simp only [Act.put,zq1,zq2,zq3,i64_w,i32_w];rfl
                         exact norm_ (by first|(simp only [z0p,Act.put,zq1,zq2,zq3];done)|(simp only [z0p,Act.put,zq1,zq2,zq3];rfl)) (hJ5_6_7 (fun t=>if t=3 then wj.heap.size else s_ t) _ (HST.out.make 3 (by omega) (by decide) rfl))
                      ·skip;rintro s_ wj hst_;have hHeld:=cell_of_one hst_.box;have HST:=Aside0.mk hst_;clear hst_;refine norm_ (a':=?_) ?_ ?_;rotate_left
                       ·simp only [z0p,Act.put,zq1,zq2,zq3];rfl
                       refine three_ (i:=5) (j:=6) (k:=7) (Ni:=some 15) (Nj:=some 16) (Nk:=some 17) #[zt,zt,zt,zt,zt,zt,zf,zf,zt,zt,zt,zf,zf,zf,zf,zf,zf,zf,zf,zf] #[zt,zt,zt,zt,zt,zf,zt,zf,zt,zt,zt,zf,zf,zf,zf,zf,zf,zf,zf,zf] #[zt,zt,zt,zt,zt,zf,zf,zt,zt,zt,zt,zf,zf,zf,zf,zf,zf,zf,zf,zf] rfl rfl rfl rfl rfl rfl (by kernel_rfl) (by decide) (by decide) (by decide) (fun K hK=>?_) (fun K hK=>?_) (fun K hK=>?_)
                       ·skip;refine z1c (w1:=?_) (v:=?_) (by rfl) rfl ?_ ?_;rotate_left 2
                        ·go_simp;constructor
                         ·rfl
                         ·rfl
                        refine hK.out _ _ (cell_of_one (HST.out.make 1 (by omega) (by decide) rfl).box) (fun hHeld=>?_);clear hK K;refine norm_ (a':=?_) ?_ ?_;rotate_left
                        ·show Act.put _ (some 15) _=_;simp only [Act.put,zq1,zq2,zq3,i64_w,i32_w];rfl
                        refine pure_ (i:=11) (N:=some 20) (v:=?_) (a':=?_) #[zt,zt,zt,zt,zt,zt,zf,zf,zt,zt,zt,zt,zf,zf,zf,zf,zf,zf,zf,zf] rfl rfl (by kernel_rfl) (fun _ _ _ h=>h) (Or.inl ⟨by rfl,?_⟩) ?_ ?_;rotate_left
                        ·intro w';go_simp;with_reducible rfl
                        rotate_left
                        ·simp only [Act.put,zq1,zq2,zq3,i64_w,i32_w];rfl
                        refine pure_ (i:=12) (N:=some 21) (v:=?_) (a':=?_) #[zt,zt,zt,zt,zt,zt,zf,zf,zt,zt,zt,zt,zt,zf,zf,zf,zf,zf,zf,zf] rfl rfl (by kernel_rfl) (fun _ _ _ h=>h) (Or.inl ⟨by rfl,?_⟩) ?_ ?_;rotate_left
                        ·intro w';go_simp;with_reducible rfl
                        rotate_left
                        ·simp only [Act.put,zq1,zq2,zq3,i64_w,i32_w];rfl
                        exact norm_ (by first|(simp only [z0p,Act.put,zq1,zq2,zq3];done)|(simp only [z0p,Act.put,zq1,zq2,zq3];rfl)) (hJ4_5_10 (fun t=>if t=1 then wj.heap.size else s_ t) _ (HST.out.make 1 (by omega) (by decide) rfl))
                       ·skip;refine z1c (w1:=?_) (v:=?_) (by rfl) rfl ?_ ?_;rotate_left 2
                        ·go_simp;constructor
                         ·rfl
                         ·rfl
                        refine hK.out _ _ (cell_of_one (HST.out.make 2 (by omega) (by decide) rfl).box) (fun hHeld=>?_);clear hK K;refine norm_ (a':=?_) ?_ ?_;rotate_left
                        ·show Act.put _ (some 16) _=_;simp only [Act.put,zq1,zq2,zq3,i64_w,i32_w];rfl
                        exact norm_ (by first|(simp only [z0p,Act.put,zq1,zq2,zq3];done)|(simp only [z0p,Act.put,zq1,zq2,zq3];rfl)) (hJ4_6_10 (fun t=>if t=2 then wj.heap.size else s_ t) _ (HST.out.make 2 (by omega) (by decide) rfl))
                       ·skip;refine z1c (w1:=?_) (v:=?_) (by rfl) rfl ?_ ?_;rotate_left 2
                        ·go_simp;constructor
                         ·rfl
                         ·rfl
                        refine hK.out _ _ (cell_of_one (HST.out.make 3 (by omega) (by decide) rfl).box) (fun hHeld=>?_);clear hK K;refine norm_ (a':=?_) ?_ ?_;rotate_left
                        ·show Act.put _ (some 17) _=_;simp only [Act.put,zq1,zq2,zq3,i64_w,i32_w];rfl
                        exact norm_ (by first|(simp only [z0p,Act.put,zq1,zq2,zq3];done)|(simp only [z0p,Act.put,zq1,zq2,zq3];rfl)) (hJ4_7_10 (fun t=>if t=3 then wj.heap.size else s_ t) _ (HST.out.make 3 (by omega) (by decide) rfl))
                     ·skip;rintro s_ wj hst_;have hHeld:=cell_of_one hst_.box;have HST:=Aside0.mk hst_;clear hst_;refine norm_ (a':=?_) ?_ ?_;rotate_left
                      ·simp only [z0p,Act.put,zq1,zq2,zq3];rfl
                      refine three_ (i:=5) (j:=6) (k:=10) (Ni:=some 15) (Nj:=some 16) (Nk:=none) #[zt,zt,zt,zt,zt,zt,zf,zt,zt,zt,zf,zf,zf,zf,zf,zf,zf,zf,zf,zf] #[zt,zt,zt,zt,zt,zf,zt,zt,zt,zt,zf,zf,zf,zf,zf,zf,zf,zf,zf,zf] #[zt,zt,zt,zt,zt,zf,zf,zt,zt,zt,zt,zf,zf,zf,zf,zf,zf,zf,zf,zf] rfl rfl rfl rfl rfl rfl (by kernel_rfl) (by decide) (by decide) (by decide) (fun K hK=>?_) (fun K hK=>?_) (fun K hK=>?_)
                      ·skip;refine z1c (w1:=?_) (v:=?_) (by rfl) rfl ?_ ?_;rotate_left 2
                       ·go_simp;constructor
                        ·rfl
                        ·rfl
                       refine hK.out _ _ (cell_of_one (HST.out.make 1 (by omega) (by decide) rfl).box) (fun hHeld=>?_);clear hK K;refine norm_ (a':=?_) ?_ ?_;rotate_left
                       ·show Act.put _ (some 15) _=_;simp only [Act.put,zq1,zq2,zq3,i64_w,i32_w];rfl
                       exact norm_ (by first|(simp only [z0p,Act.put,zq1,zq2,zq3];done)|(simp only [z0p,Act.put,zq1,zq2,zq3];rfl)) (hJ4_5_7 (fun t=>if t=1 then wj.heap.size else s_ t) _ (HST.out.make 1 (by omega) (by decide) rfl))
                      ·skip;refine z1c (w1:=?_) (v:=?_) (by rfl) rfl ?_ ?_;rotate_left 2
                       ·go_simp;constructor
                        ·rfl
                        ·rfl
                       refine hK.out _ _ (cell_of_one (HST.out.make 2 (by omega) (by decide) rfl).box) (fun hHeld=>?_);clear hK K;refine norm_ (a':=?_) ?_ ?_;rotate_left
                       ·show Act.put _ (some 16) _=_;simp only [Act.put,zq1,zq2,zq3,i64_w,i32_w];rfl
                       exact norm_ (by first|(simp only [z0p,Act.put,zq1,zq2,zq3];done)|(simp only [z0p,Act.put,zq1,zq2,zq3];rfl)) (hJ4_6_7 (fun t=>if t=2 then wj.heap.size else s_ t) _ (HST.out.make 2 (by omega) (by decide) rfl))
                      ·skip;have c_:wj.cell? ⟨g,9,none⟩=some (.map none):=(z01 HST.out.cells 9).trans rfl;have f_:=z02 HST.out.cells 9;refine skip_ (w1:=?_) (by rfl) rfl ?_ ?_;rotate_left
                       ·go_simp;rfl
                       refine hK.out _ _ (cell_of_one (HST.out.store 0 (by omega) rfl (by decide)).box) (fun hHeld=>?_);clear hK K;exact norm_ (by first|(simp only [z0p,Act.put,zq1,zq2,zq3];done)|(simp only [z0p,Act.put,zq1,zq2,zq3];rfl)) (hJ4_7_10 s_ _ (HST.out.store 0 (by omega) rfl (by decide)))
                    ·skip;rintro s_ wj hst_;have hHeld:=cell_of_one hst_.box;have HST:=Aside0.mk hst_;clear hst_;refine norm_ (a':=?_) ?_ ?_;rotate_left
                     ·simp only [z0p,Act.put,zq1,zq2,zq3];rfl
                     refine three_ (i:=5) (j:=7) (k:=10) (Ni:=some 15) (Nj:=some 17) (Nk:=none) #[zt,zt,zt,zt,zt,zt,zt,zf,zt,zt,zf,zf,zf,zf,zf,zf,zf,zf,zf,zf] #[zt,zt,zt,zt,zt,zf,zt,zt,zt,zt,zf,zf,zf,zf,zf,zf,zf,zf,zf,zf] #[zt,zt,zt,zt,zt,zf,zt,zf,zt,zt,zt,zf,zf,zf,zf,zf,zf,zf,zf,zf] rfl rfl rfl rfl rfl rfl (by kernel_rfl) (by decide) (by decide) (by decide) (fun K hK=>?_) (fun K hK=>?_) (fun K hK=>?_)
                     ·skip;refine z1c (w1:=?_) (v:=?_) (by rfl) rfl ?_ ?_;rotate_left 2
                      ·go_simp;constructor
                       ·rfl
                       ·rfl
                      refine hK.out _ _ (cell_of_one (HST.out.make 1 (by omega) (by decide) rfl).box) (fun hHeld=>?_);clear hK K;refine norm_ (a':=?_) ?_ ?_;rotate_left
                      ·show Act.put _ (some 15) _=_;simp only [Act.put,zq1,zq2,zq3,i64_w,i32_w];rfl
                      exact norm_ (by first|(simp only [z0p,Act.put,zq1,zq2,zq3];done)|(simp only [z0p,Act.put,zq1,zq2,zq3];rfl)) (hJ4_5_6 (fun t=>if t=1 then wj.heap.size else s_ t) _ (HST.out.make 1 (by omega) (by decide) rfl))
                     ·skip;refine z1c (w1:=?_) (v:=?_) (by rfl) rfl ?_ ?_;rotate_left 2
                      ·go_simp;constructor
                       ·rfl
                       ·rfl
                      refine hK.out _ _ (cell_of_one (HST.out.make 3 (by omega) (by decide) rfl).box) (fun hHeld=>?_);clear hK K;refine norm_ (a':=?_) ?_ ?_;rotate_left
                      ·show Act.put _ (some 17) _=_;simp only [Act.put,zq1,zq2,zq3,i64_w,i32_w];rfl
                      exact norm_ (by first|(simp only [z0p,Act.put,zq1,zq2,zq3];done)|(simp only [z0p,Act.put,zq1,zq2,zq3];rfl)) (hJ4_6_7 (fun t=>if t=3 then wj.heap.size else s_ t) _ (HST.out.make 3 (by omega) (by decide) rfl))
                     ·skip;have c_:wj.cell? ⟨g,9,none⟩=some (.map none):=(z01 HST.out.cells 9).trans rfl;have f_:=z02 HST.out.cells 9;refine skip_ (w1:=?_) (by rfl) rfl ?_ ?_;rotate_left
                      ·go_simp;rfl
                      refine hK.out _ _ (cell_of_one (HST.out.store 0 (by omega) rfl (by decide)).box) (fun hHeld=>?_);clear hK K;exact norm_ (by first|(simp only [z0p,Act.put,zq1,zq2,zq3];done)|(simp only [z0p,Act.put,zq1,zq2,zq3];rfl)) (hJ4_6_10 s_ _ (HST.out.store 0 (by omega) rfl (by decide)))
                   ·skip;rintro s_ wj hst_;have hHeld:=cell_of_one hst_.box;have HST:=Aside0.mk hst_;clear hst_;refine norm_ (a':=?_) ?_ ?_;rotate_left
                    ·simp only [z0p,Act.put,zq1,zq2,zq3];rfl
                    refine three_ (i:=6) (j:=7) (k:=10) (Ni:=some 16) (Nj:=some 17) (Nk:=none) #[zt,zt,zt,zt,zt,zt,zt,zf,zt,zt,zf,zf,zf,zf,zf,zf,zf,zf,zf,zf] #[zt,zt,zt,zt,zt,zt,zf,zt,zt,zt,zf,zf,zf,zf,zf,zf,zf,zf,zf,zf] #[zt,zt,zt,zt,zt,zt,zf,zf,zt,zt,zt,zf,zf,zf,zf,zf,zf,zf,zf,zf] rfl rfl rfl rfl rfl rfl (by kernel_rfl) (by decide) (by decide) (by decide) (fun K hK=>?_) (fun K hK=>?_) (fun K hK=>?_)
                    ·skip;refine z1c (w1:=?_) (v:=?_) (by rfl) rfl ?_ ?_;rotate_left 2
                     ·go_simp;constructor
                      ·rfl
                      ·rfl
                     refine hK.out _ _ (cell_of_one (HST.out.make 2 (by omega) (by decide) rfl).box) (fun hHeld=>?_);clear hK K;refine norm_ (a':=?_) ?_ ?_;rotate_left
                     ·show Act.put _ (some 16) _=_;simp only [Act.put,zq1,zq2,zq3,i64_w,i32_w];rfl
                     exact norm_ (by first|(simp only [z0p,Act.put,zq1,zq2,zq3];done)|(simp only [z0p,Act.put,zq1,zq2,zq3];rfl)) (hJ4_5_6 (fun t=>if t=2 then wj.heap.size else s_ t) _ (HST.out.make 2 (by omega) (by decide) rfl))
                    ·skip;refine z1c (w1:=?_) (v:=?_) (by rfl) rfl ?_ ?_;rotate_left 2
                     ·go_simp;constructor
                      ·rfl
                      ·rfl
                     refine hK.out _ _ (cell_of_one (HST.out.make 3 (by omega) (by decide) rfl).box) (fun hHeld=>?_);clear hK K;refine norm_ (a':=?_) ?_ ?_;rotate_left
                     ·show Act.put _ (some 17) _=_;simp only [Act.put,zq1,zq2,zq3,i64_w,i32_w];rfl
                     exact norm_ (by first|(simp only [z0p,Act.put,zq1,zq2,zq3];done)|(simp only [z0p,Act.put,zq1,zq2,zq3];rfl)) (hJ4_5_7 (fun t=>if t=3 then wj.heap.size else s_ t) _ (HST.out.make 3 (by omega) (by decide) rfl))
                    ·skip;have c_:wj.cell? ⟨g,9,none⟩=some (.map none):=(z01 HST.out.cells 9).trans rfl;have f_:=z02 HST.out.cells 9;refine skip_ (w1:=?_) (by rfl) rfl ?_ ?_;rotate_left
                     ·go_simp;rfl
                     refine hK.out _ _ (cell_of_one (HST.out.store 0 (by omega) rfl (by decide)).box) (fun hHeld=>?_);clear hK K;refine pure_ (i:=11) (N:=some 20) (v:=?_) (a':=?_) #[zt,zt,zt,zt,zt,zt,zf,zf,zt,zt,zt,zt,zf,zf,zf,zf,zf,zf,zf,zf] rfl rfl (by kernel_rfl) (fun _ _ _ h=>h) (Or.inl ⟨by rfl,?_⟩) ?_ ?_;rotate_left
                     ·intro w';go_simp;with_reducible rfl
                     rotate_left
                     ·simp only [Act.put,zq1,zq2,zq3,i64_w,i32_w];rfl
                     refine pure_ (i:=12) (N:=some 21) (v:=?_) (a':=?_) #[zt,zt,zt,zt,zt,zt,zf,zf,zt,zt,zt,zt,zt,zf,zf,zf,zf,zf,zf,zf] rfl rfl (by kernel_rfl) (fun _ _ _ h=>h) (Or.inl ⟨by rfl,?_⟩) ?_ ?_;rotate_left
                     ·intro w';go_simp;with_reducible rfl
                     rotate_left
                     ·simp only [Act.put,zq1,zq2,zq3,i64_w,i32_w];rfl
                     exact norm_ (by first|(simp only [z0p,Act.put,zq1,zq2,zq3];done)|(simp only [z0p,Act.put,zq1,zq2,zq3];rfl)) (hJ4_5_10 s_ _ (HST.out.store 0 (by omega) rfl (by decide)))
                  ·skip;rintro s_ wj hst_;have hHeld:=cell_of_one hst_.box;have HST:=Aside0.mk hst_;clear hst_;refine norm_ (a':=?_) ?_ ?_;rotate_left
                   ·simp only [z0p,Act.put,zq1,zq2,zq3];rfl
                   refine one_ (i:=4) (N:=some 14) #[zt,zt,zt,zt,zt,zt,zt,zt,zf,zf,zf,zf,zf,zf,zf,zf,zf,zf,zf,zf] rfl rfl (by kernel_rfl) (by decide) (fun K hK=>?_);refine z1c (w1:=?_) (v:=?_) (by rfl) rfl ?_ ?_;rotate_left 2
                   ·go_simp;constructor
                    ·rfl
                    ·rfl
                   refine hK.out _ _ (cell_of_one (HST.out.make 0 (by omega) (by decide) rfl).box) (fun hHeld=>?_);clear hK K;refine norm_ (a':=?_) ?_ ?_;rotate_left
                   ·show Act.put _ (some 14) _=_;simp only [Act.put,zq1,zq2,zq3,i64_w,i32_w];rfl
                   refine pure_ (i:=8) (N:=some 18) (v:=?_) (a':=?_) #[zt,zt,zt,zt,zt,zt,zt,zt,zt,zf,zf,zf,zf,zf,zf,zf,zf,zf,zf,zf] rfl rfl (by kernel_rfl) (fun _ _ _ h=>h) (Or.inl ⟨by rfl,?_⟩) ?_ ?_;rotate_left
                   ·intro w';go_simp;with_reducible rfl
                   rotate_left
                   ·simp only [Act.put,zq1,zq2,zq3,i64_w,i32_w];rfl
                   refine pure_ (i:=9) (N:=some 19) (v:=?_) (a':=?_) #[zt,zt,zt,zt,zt,zt,zt,zt,zt,zt,zf,zf,zf,zf,zf,zf,zf,zf,zf,zf] rfl rfl (by kernel_rfl) (fun _ _ _ h=>h) (Or.inl ⟨by rfl,?_⟩) ?_ ?_;rotate_left
                   ·intro w';go_simp;with_reducible rfl
                   rotate_left
                   ·simp only [Act.put,zq1,zq2,zq3,i64_w,i32_w];rfl
                   exact norm_ (by first|(simp only [z0p,Act.put,zq1,zq2,zq3];done)|(simp only [z0p,Act.put,zq1,zq2,zq3];rfl)) (hJ4_5_6_7 (fun t=>if t=0 then wj.heap.size else s_ t) _ (HST.out.make 0 (by omega) (by decide) rfl))
                 ·skip;rintro s_ wj hst_;have hHeld:=cell_of_one hst_.box;have HST:=Aside0.mk hst_;clear hst_;refine norm_ (a':=?_) ?_ ?_;rotate_left
                  ·simp only [z0p,Act.put,zq1,zq2,zq3];rfl
                  refine two_ (i:=5) (j:=6) (Ni:=some 15) (Nj:=some 16) #[zt,zt,zt,zt,zt,zt,zf,zt,zt,zt,zt,zf,zf,zf,zf,zf,zf,zf,zf,zf] #[zt,zt,zt,zt,zt,zf,zt,zt,zt,zt,zt,zf,zf,zf,zf,zf,zf,zf,zf,zf] rfl rfl rfl rfl (by kernel_rfl) (by decide) (by decide) (fun K hK=>?_) (fun K hK=>?_)
                  ·skip;refine z1c (w1:=?_) (v:=?_) (by rfl) rfl ?_ ?_;rotate_left 2
                   ·go_simp;constructor
                    ·rfl
                    ·rfl
                   refine hK.out _ _ (cell_of_one (HST.out.make 1 (by omega) (by decide) rfl).box) (fun hHeld=>?_);clear hK K;refine norm_ (a':=?_) ?_ ?_;rotate_left
                   ·show Act.put _ (some 15) _=_;simp only [Act.put,zq1,zq2,zq3,i64_w,i32_w];rfl
                   refine pure_ (i:=11) (N:=some 20) (v:=?_) (a':=?_) #[zt,zt,zt,zt,zt,zt,zf,zt,zt,zt,zt,zt,zf,zf,zf,zf,zf,zf,zf,zf] rfl rfl (by kernel_rfl) (fun _ _ _ h=>h) (Or.inl ⟨by rfl,?_⟩) ?_ ?_;rotate_left
                   ·intro w';go_simp;with_reducible rfl
                   rotate_left
                   ·simp only [Act.put,zq1,zq2,zq3,i64_w,i32_w];rfl
                   refine pure_ (i:=12) (N:=some 21) (v:=?_) (a':=?_) #[zt,zt,zt,zt,zt,zt,zf,zt,zt,zt,zt,zt,zt,zf,zf,zf,zf,zf,zf,zf] rfl rfl (by kernel_rfl) (fun _ _ _ h=>h) (Or.inl ⟨by rfl,?_⟩) ?_ ?_;rotate_left
                   ·intro w';go_simp;with_reducible rfl
                   rotate_left
                   ·simp only [Act.put,zq1,zq2,zq3,i64_w,i32_w];rfl
                   exact norm_ (by first|(simp only [z0p,Act.put,zq1,zq2,zq3];done)|(simp only [z0p,Act.put,zq1,zq2,zq3];rfl)) (hJ4_5_7_10 (fun t=>if t=1 then wj.heap.size else s_ t) _ (HST.out.make 1 (by omega) (by decide) rfl))
                  ·skip;refine z1c (w1:=?_) (v:=?_) (by rfl) rfl ?_ ?_;rotate_left 2
                   ·go_simp;constructor
                    ·rfl
                    ·rfl
                   refine hK.out _ _ (cell_of_one (HST.out.make 2 (by omega) (by decide) rfl).box) (fun hHeld=>?_);clear hK K;refine norm_ (a':=?_) ?_ ?_;rotate_left
                   ·show Act.put _ (some 16) _=_;simp only [Act.put,zq1,zq2,zq3,i64_w,i32_w];rfl
                   exact norm_ (by first|(simp only [z0p,Act.put,zq1,zq2,zq3];done)|(simp only [z0p,Act.put,zq1,zq2,zq3];rfl)) (hJ4_6_7_10 (fun t=>if t=2 then wj.heap.size else s_ t) _ (HST.out.make 2 (by omega) (by decide) rfl))
                ·skip;rintro s_ wj hst_;have hHeld:=cell_of_one hst_.box;have HST:=Aside0.mk hst_;clear hst_;refine norm_ (a':=?_) ?_ ?_;rotate_left
                 ·simp only [z0p,Act.put,zq1,zq2,zq3];rfl
                 refine two_ (i:=5) (j:=7) (Ni:=some 15) (Nj:=some 17) #[zt,zt,zt,zt,zt,zt,zt,zf,zt,zt,zt,zf,zf,zf,zf,zf,zf,zf,zf,zf] #[zt,zt,zt,zt,zt,zf,zt,zt,zt,zt,zt,zf,zf,zf,zf,zf,zf,zf,zf,zf] rfl rfl rfl rfl (by kernel_rfl) (by decide) (by decide) (fun K hK=>?_) (fun K hK=>?_)
                 ·skip;refine z1c (w1:=?_) (v:=?_) (by rfl) rfl ?_ ?_;rotate_left 2
                  ·go_simp;constructor
                   ·rfl
                   ·rfl
                  refine hK.out _ _ (cell_of_one (HST.out.make 1 (by omega) (by decide) rfl).box) (fun hHeld=>?_);clear hK K;refine norm_ (a':=?_) ?_ ?_;rotate_left
                  ·show Act.put _ (some 15) _=_;simp only [Act.put,zq1,zq2,zq3,i64_w,i32_w];rfl
                  refine pure_ (i:=11) (N:=some 20) (v:=?_) (a':=?_) #[zt,zt,zt,zt,zt,zt,zt,zf,zt,zt,zt,zt,zf,zf,zf,zf,zf,zf,zf,zf] rfl rfl (by kernel_rfl) (fun _ _ _ h=>h) (Or.inl ⟨by rfl,?_⟩) ?_ ?_;rotate_left
                  ·intro w';go_simp;with_reducible rfl
                  rotate_left
                  ·simp only [Act.put,zq1,zq2,zq3,i64_w,i32_w];rfl
                  refine pure_ (i:=12) (N:=some 21) (v:=?_) (a':=?_) #[zt,zt,zt,zt,zt,zt,zt,zf,zt,zt,zt,zt,zt,zf,zf,zf,zf,zf,zf,zf] rfl rfl (by kernel_rfl) (fun _ _ _ h=>h) (Or.inl ⟨by rfl,?_⟩) ?_ ?_;rotate_left
                  ·intro w';go_simp;with_reducible rfl
                  rotate_left
                  ·simp only [Act.put,zq1,zq2,zq3,i64_w,i32_w];rfl
                  exact norm_ (by first|(simp only [z0p,Act.put,zq1,zq2,zq3];done)|(simp only [z0p,Act.put,zq1,zq2,zq3];rfl)) (hJ4_5_6_10 (fun t=>if t=1 then wj.heap.size else s_ t) _ (HST.out.make 1 (by omega) (by decide) rfl))
                 ·skip;refine z1c (w1:=?_) (v:=?_) (by rfl) rfl ?_ ?_;rotate_left 2
                  ·go_simp;constructor
                   ·rfl
                   ·rfl
                  refine hK.out _ _ (cell_of_one (HST.out.make 3 (by omega) (by decide) rfl).box) (fun hHeld=>?_);clear hK K;refine norm_ (a':=?_) ?_ ?_;rotate_left
                  ·show Act.put _ (some 17) _=_;simp only [Act.put,zq1,zq2,zq3,i64_w,i32_w];rfl
                  exact norm_ (by first|(simp only [z0p,Act.put,zq1,zq2,zq3];done)|(simp only [z0p,Act.put,zq1,zq2,zq3];rfl)) (hJ4_6_7_10 (fun t=>if t=3 then wj.heap.size else s_ t) _ (HST.out.make 3 (by omega) (by decide) rfl))
               ·skip;rintro s_ wj hst_;have hHeld:=cell_of_one hst_.box;have HST:=Aside0.mk hst_;clear hst_;refine norm_ (a':=?_) ?_ ?_;rotate_left
                ·simp only [z0p,Act.put,zq1,zq2,zq3];rfl
                refine two_ (i:=5) (j:=10) (Ni:=some 15) (Nj:=none) #[zt,zt,zt,zt,zt,zt,zt,zt,zt,zt,zf,zf,zf,zf,zf,zf,zf,zf,zf,zf] #[zt,zt,zt,zt,zt,zf,zt,zt,zt,zt,zt,zf,zf,zf,zf,zf,zf,zf,zf,zf] rfl rfl rfl rfl (by kernel_rfl) (by decide) (by decide) (fun K hK=>?_) (fun K hK=>?_)
                ·skip;refine z1c (w1:=?_) (v:=?_) (by rfl) rfl ?_ ?_;rotate_left 2
                 ·go_simp;constructor
                  ·rfl
                  ·rfl
                 refine hK.out _ _ (cell_of_one (HST.out.make 1 (by omega) (by decide) rfl).box) (fun hHeld=>?_);clear hK K;refine norm_ (a':=?_) ?_ ?_;rotate_left
                 ·show Act.put _ (some 15) _=_;simp only [Act.put,zq1,zq2,zq3,i64_w,i32_w];rfl
                 exact norm_ (by first|(simp only [z0p,Act.put,zq1,zq2,zq3];done)|(simp only [z0p,Act.put,zq1,zq2,zq3];rfl)) (hJ4_5_6_7 (fun t=>if t=1 then wj.heap.size else s_ t) _ (HST.out.make 1 (by omega) (by decide) rfl))
                ·skip;have c_:wj.cell? ⟨g,9,none⟩=some (.map none):=(z01 HST.out.cells 9).trans rfl;have f_:=z02 HST.out.cells 9;refine skip_ (w1:=?_) (by rfl) rfl ?_ ?_;rotate_left
                 ·go_simp;rfl
                 refine hK.out _ _ (cell_of_one (HST.out.store 0 (by omega) rfl (by decide)).box) (fun hHeld=>?_);clear hK K;exact norm_ (by first|(simp only [z0p,Act.put,zq1,zq2,zq3];done)|(simp only [z0p,Act.put,zq1,zq2,zq3];rfl)) (hJ4_6_7_10 s_ _ (HST.out.store 0 (by omega) rfl (by decide)))
              ·skip;rintro s_ wj hst_;have hHeld:=cell_of_one hst_.box;have HST:=Aside0.mk hst_;clear hst_;refine norm_ (a':=?_) ?_ ?_;rotate_left
               ·simp only [z0p,Act.put,zq1,zq2,zq3];rfl
               refine three_ (i:=6) (j:=7) (k:=13) (Ni:=some 16) (Nj:=some 17) (Nk:=none) #[zt,zt,zt,zt,zt,zt,zt,zf,zt,zt,zt,zt,zt,zf,zf,zf,zf,zf,zf,zf] #[zt,zt,zt,zt,zt,zt,zf,zt,zt,zt,zt,zt,zt,zf,zf,zf,zf,zf,zf,zf] #[zt,zt,zt,zt,zt,zt,zf,zf,zt,zt,zt,zt,zt,zt,zf,zf,zf,zf,zf,zf] rfl rfl rfl rfl rfl rfl (by kernel_rfl) (by decide) (by decide) (by decide) (fun K hK=>?_) (fun K hK=>?_) (fun K hK=>?_)
               ·skip;refine z1c (w1:=?_) (v:=?_) (by rfl) rfl ?_ ?_;rotate_left 2
                ·go_simp;constructor
                 ·rfl
                 ·rfl
                refine hK.out _ _ (cell_of_one (HST.out.make 2 (by omega) (by decide) rfl).box) (fun hHeld=>?_);clear hK K;refine norm_ (a':=?_) ?_ ?_;rotate_left
                ·show Act.put _ (some 16) _=_;simp only [Act.put,zq1,zq2,zq3,i64_w,i32_w];rfl
                exact norm_ (by first|(simp only [z0p,Act.put,zq1,zq2,zq3];done)|(simp only [z0p,Act.put,zq1,zq2,zq3];rfl)) (hJ4_5_6_10 (fun t=>if t=2 then wj.heap.size else s_ t) _ (HST.out.make 2 (by omega) (by decide) rfl))
               ·skip;refine z1c (w1:=?_) (v:=?_) (by rfl) rfl ?_ ?_;rotate_left 2
                ·go_simp;constructor
                 ·rfl
                 ·rfl
                refine hK.out _ _ (cell_of_one (HST.out.make 3 (by omega) (by decide) rfl).box) (fun hHeld=>?_);clear hK K;refine norm_ (a':=?_) ?_ ?_;rotate_left
                ·show Act.put _ (some 17) _=_;simp only [Act.put,zq1,zq2,zq3,i64_w,i32_w];rfl
                exact norm_ (by first|(simp only [z0p,Act.put,zq1,zq2,zq3];done)|(simp only [z0p,Act.put,zq1,zq2,zq3];rfl)) (hJ4_5_7_10 (fun t=>if t=3 then wj.heap.size else s_ t) _ (HST.out.make 3 (by omega) (by decide) rfl))
               ·skip;have c_:wj.cell? ⟨g,10,none⟩=some (.map none):=(z01 HST.out.cells 10).trans rfl;have f_:=z02 HST.out.cells 10;refine skip_ (w1:=?_) (by rfl) rfl ?_ ?_;rotate_left
                ·go_simp;rfl
                refine hK.out _ _ (cell_of_one (HST.out.store 1 (by omega) rfl (by decide)).box) (fun hHeld=>?_);clear hK K;exact norm_ (by first|(simp only [z0p,Act.put,zq1,zq2,zq3];done)|(simp only [z0p,Act.put,zq1,zq2,zq3];rfl)) (hJ4_5_10_13 s_ _ (HST.out.store 1 (by omega) rfl (by decide)))
             ·skip;rintro s_ wj hst_;have hHeld:=cell_of_one hst_.box;have HST:=Aside0.mk hst_;clear hst_;refine norm_ (a':=?_) ?_ ?_;rotate_left
              ·simp only [z0p,Act.put,zq1,zq2,zq3];rfl
              refine two_ (i:=6) (j:=10) (Ni:=some 16) (Nj:=none) #[zt,zt,zt,zt,zt,zt,zt,zt,zt,zt,zf,zf,zf,zf,zf,zf,zf,zf,zf,zf] #[zt,zt,zt,zt,zt,zt,zf,zt,zt,zt,zt,zf,zf,zf,zf,zf,zf,zf,zf,zf] rfl rfl rfl rfl (by kernel_rfl) (by decide) (by decide) (fun K hK=>?_) (fun K hK=>?_)
              ·skip;refine z1c (w1:=?_) (v:=?_) (by rfl) rfl ?_ ?_;rotate_left 2
               ·go_simp;constructor
                ·rfl
                ·rfl
               refine hK.out _ _ (cell_of_one (HST.out.make 2 (by omega) (by decide) rfl).box) (fun hHeld=>?_);clear hK K;refine norm_ (a':=?_) ?_ ?_;rotate_left
               ·show Act.put _ (some 16) _=_;simp only [Act.put,zq1,zq2,zq3,i64_w,i32_w];rfl
               exact norm_ (by first|(simp only [z0p,Act.put,zq1,zq2,zq3];done)|(simp only [z0p,Act.put,zq1,zq2,zq3];rfl)) (hJ4_5_6_7 (fun t=>if t=2 then wj.heap.size else s_ t) _ (HST.out.make 2 (by omega) (by decide) rfl))
              ·skip;have c_:wj.cell? ⟨g,9,none⟩=some (.map none):=(z01 HST.out.cells 9).trans rfl;have f_:=z02 HST.out.cells 9;refine skip_ (w1:=?_) (by rfl) rfl ?_ ?_;rotate_left
               ·go_simp;rfl
               refine hK.out _ _ (cell_of_one (HST.out.store 0 (by omega) rfl (by decide)).box) (fun hHeld=>?_);clear hK K;refine pure_ (i:=11) (N:=some 20) (v:=?_) (a':=?_) #[zt,zt,zt,zt,zt,zt,zf,zt,zt,zt,zt,zt,zf,zf,zf,zf,zf,zf,zf,zf] rfl rfl (by kernel_rfl) (fun _ _ _ h=>h) (Or.inl ⟨by rfl,?_⟩) ?_ ?_;rotate_left
               ·intro w';go_simp;with_reducible rfl
               rotate_left
               ·simp only [Act.put,zq1,zq2,zq3,i64_w,i32_w];rfl
               refine pure_ (i:=12) (N:=some 21) (v:=?_) (a':=?_) #[zt,zt,zt,zt,zt,zt,zf,zt,zt,zt,zt,zt,zt,zf,zf,zf,zf,zf,zf,zf] rfl rfl (by kernel_rfl) (fun _ _ _ h=>h) (Or.inl ⟨by rfl,?_⟩) ?_ ?_;rotate_left
               ·intro w';go_simp;with_reducible rfl
               rotate_left
               ·simp only [Act.put,zq1,zq2,zq3,i64_w,i32_w];rfl
               exact norm_ (by first|(simp only [z0p,Act.put,zq1,zq2,zq3];done)|(simp only [z0p,Act.put,zq1,zq2,zq3];rfl)) (hJ4_5_7_10 s_ _ (HST.out.store 0 (by omega) rfl (by decide)))
            ·skip;rintro s_ wj hst_;have hHeld:=cell_of_one hst_.box;have HST:=Aside0.mk hst_;clear hst_;refine norm_ (a':=?_) ?_ ?_;rotate_left
             ·simp only [z0p,Act.put,zq1,zq2,zq3];rfl
             refine two_ (i:=7) (j:=10) (Ni:=some 17) (Nj:=none) #[zt,zt,zt,zt,zt,zt,zt,zt,zt,zt,zf,zf,zf,zf,zf,zf,zf,zf,zf,zf] #[zt,zt,zt,zt,zt,zt,zt,zf,zt,zt,zt,zf,zf,zf,zf,zf,zf,zf,zf,zf] rfl rfl rfl rfl (by kernel_rfl) (by decide) (by decide) (fun K hK=>?_) (fun K hK=>?_)
             ·skip;refine z1c (w1:=?_) (v:=?_) (by rfl) rfl ?_ ?_;rotate_left 2
              ·go_simp;constructor
               ·rfl
               ·rfl
              refine hK.out _ _ (cell_of_one (HST.out.make 3 (by omega) (by decide) rfl).box) (fun hHeld=>?_);clear hK K;refine norm_ (a':=?_) ?_ ?_;rotate_left
              ·show Act.put _ (some 17) _=_;simp only [Act.put,zq1,zq2,zq3,i64_w,i32_w];rfl
              exact norm_ (by first|(simp only [z0p,Act.put,zq1,zq2,zq3];done)|(simp only [z0p,Act.put,zq1,zq2,zq3];rfl)) (hJ4_5_6_7 (fun t=>if t=3 then wj.heap.size else s_ t) _ (HST.out.make 3 (by omega) (by decide) rfl))
             ·skip;have c_:wj.cell? ⟨g,9,none⟩=some (.map none):=(z01 HST.out.cells 9).trans rfl;have f_:=z02 HST.out.cells 9;refine skip_ (w1:=?_) (by rfl) rfl ?_ ?_;rotate_left
              ·go_simp;rfl
              refine hK.out _ _ (cell_of_one (HST.out.store 0 (by omega) rfl (by decide)).box) (fun hHeld=>?_);clear hK K;refine pure_ (i:=11) (N:=some 20) (v:=?_) (a':=?_) #[zt,zt,zt,zt,zt,zt,zt,zf,zt,zt,zt,zt,zf,zf,zf,zf,zf,zf,zf,zf] rfl rfl (by kernel_rfl) (fun _ _ _ h=>h) (Or.inl ⟨by rfl,?_⟩) ?_ ?_;rotate_left
              ·intro w';go_simp;with_reducible rfl
              rotate_left
              ·simp only [Act.put,zq1,zq2,zq3,i64_w,i32_w];rfl
              refine pure_ (i:=12) (N:=some 21) (v:=?_) (a':=?_) #[zt,zt,zt,zt,zt,zt,zt,zf,zt,zt,zt,zt,zt,zf,zf,zf,zf,zf,zf,zf] rfl rfl (by kernel_rfl) (fun _ _ _ h=>h) (Or.inl ⟨by rfl,?_⟩) ?_ ?_;rotate_left
              ·intro w';go_simp;with_reducible rfl
              rotate_left
              ·simp only [Act.put,zq1,zq2,zq3,i64_w,i32_w];rfl
              exact norm_ (by first|(simp only [z0p,Act.put,zq1,zq2,zq3];done)|(simp only [z0p,Act.put,zq1,zq2,zq3];rfl)) (hJ4_5_6_10 s_ _ (HST.out.store 0 (by omega) rfl (by decide)))
           ·skip;rintro s_ wj hst_;have hHeld:=cell_of_one hst_.box;have HST:=Aside0.mk hst_;clear hst_;refine norm_ (a':=?_) ?_ ?_;rotate_left
            ·simp only [z0p,Act.put,zq1,zq2,zq3];rfl
            refine one_ (i:=5) (N:=some 15) #[zt,zt,zt,zt,zt,zt,zt,zt,zt,zt,zt,zf,zf,zf,zf,zf,zf,zf,zf,zf] rfl rfl (by kernel_rfl) (by decide) (fun K hK=>?_);refine z1c (w1:=?_) (v:=?_) (by rfl) rfl ?_ ?_;rotate_left 2
            ·go_simp;constructor
             ·rfl
             ·rfl
            refine hK.out _ _ (cell_of_one (HST.out.make 1 (by omega) (by decide) rfl).box) (fun hHeld=>?_);clear hK K;refine norm_ (a':=?_) ?_ ?_;rotate_left
            ·show Act.put _ (some 15) _=_;simp only [Act.put,zq1,zq2,zq3,i64_w,i32_w];rfl
            refine pure_ (i:=11) (N:=some 20) (v:=?_) (a':=?_) #[zt,zt,zt,zt,zt,zt,zt,zt,zt,zt,zt,zt,zf,zf,zf,zf,zf,zf,zf,zf] rfl rfl (by kernel_rfl) (fun _ _ _ h=>h) (Or.inl ⟨by rfl,?_⟩) ?_ ?_;rotate_left
            ·intro w';go_simp;with_reducible rfl
            rotate_left
            ·simp only [Act.put,zq1,zq2,zq3,i64_w,i32_w];rfl
            refine pure_ (i:=12) (N:=some 21) (v:=?_) (a':=?_) #[zt,zt,zt,zt,zt,zt,zt,zt,zt,zt,zt,zt,zt,zf,zf,zf,zf,zf,zf,zf] rfl rfl (by kernel_rfl) (fun _ _ _ h=>h) (Or.inl ⟨by rfl,?_⟩) ?_ ?_;rotate_left
            ·intro w';go_simp;with_reducible rfl
            rotate_left
            ·simp only [Act.put,zq1,zq2,zq3,i64_w,i32_w];rfl
            exact norm_ (by first|(simp only [z0p,Act.put,zq1,zq2,zq3];done)|(simp only [z0p,Act.put,zq1,zq2,zq3];rfl)) (hJ4_5_6_7_10 (fun t=>if t=1 then wj.heap.size else s_ t) _ (HST.out.make 1 (by omega) (by decide) rfl))
          ·skip;rintro s_ wj hst_;have hHeld:=cell_of_one hst_.box;have HST:=Aside0.mk hst_;clear hst_;refine norm_ (a':=?_) ?_ ?_;rotate_left
           ·simp only [z0p,Act.put,zq1,zq2,zq3];rfl
           refine two_ (i:=6) (j:=7) (Ni:=some 16) (Nj:=some 17) #[zt,zt,zt,zt,zt,zt,zt,zf,zt,zt,zt,zt,zt,zt,zf,zf,zf,zf,zf,zf] #[zt,zt,zt,zt,zt,zt,zf,zt,zt,zt,zt,zt,zt,zt,zf,zf,zf,zf,zf,zf] rfl rfl rfl rfl (by kernel_rfl) (by decide) (by decide) (fun K hK=>?_) (fun K hK=>?_)
           ·skip;refine z1c (w1:=?_) (v:=?_) (by rfl) rfl ?_ ?_;rotate_left 2
            ·go_simp;constructor
             ·rfl
             ·rfl
            refine hK.out _ _ (cell_of_one (HST.out.make 2 (by omega) (by decide) rfl).box) (fun hHeld=>?_);clear hK K;refine norm_ (a':=?_) ?_ ?_;rotate_left
            ·show Act.put _ (some 16) _=_;simp only [Act.put,zq1,zq2,zq3,i64_w,i32_w];rfl
            refine pure_ (i:=14) (N:=some 22) (v:=?_) (a':=?_) #[zt,zt,zt,zt,zt,zt,zt,zf,zt,zt,zt,zt,zt,zt,zt,zf,zf,zf,zf,zf] rfl rfl (by kernel_rfl) (fun _ _ _ h=>h) (Or.inl ⟨by rfl,?_⟩) ?_ ?_;rotate_left
            ·intro w';go_simp;with_reducible rfl
            rotate_left
            ·simp only [Act.put,zq1,zq2,zq3,i64_w,i32_w];rfl
            refine pure_ (i:=15) (N:=some 23) (v:=?_) (a':=?_) #[zt,zt,zt,zt,zt,zt,zt,zf,zt,zt,zt,zt,zt,zt,zt,zt,zf,zf,zf,zf] rfl rfl (by kernel_rfl) (fun _ _ _ h=>h) (Or.inl ⟨by rfl,?_⟩) ?_ ?_;rotate_left
            ·intro w';go_simp;with_reducible rfl
            rotate_left
            ·simp only [Act.put,zq1,zq2,zq3,i64_w,i32_w];rfl
            exact norm_ (by first|(simp only [z0p,Act.put,zq1,zq2,zq3];done)|(simp only [z0p,Act.put,zq1,zq2,zq3];rfl)) (hJ4_5_6_10_13 (fun t=>if t=2 then wj.heap.size else s_ t) _ (HST.out.make 2 (by omega) (by decide) rfl))
           ·skip;refine z1c (w1:=?_) (v:=?_) (by rfl) rfl ?_ ?_;rotate_left 2
            ·go_simp;constructor
             ·rfl
             ·rfl
            refine hK.out _ _ (cell_of_one (HST.out.make 3 (by omega) (by decide) rfl).box) (fun hHeld=>?_);clear hK K;refine norm_ (a':=?_) ?_ ?_;rotate_left
            ·show Act.put _ (some 17) _=_;simp only [Act.put,zq1,zq2,zq3,i64_w,i32_w];rfl
            exact norm_ (by first|(simp only [z0p,Act.put,zq1,zq2,zq3];done)|(simp only [z0p,Act.put,zq1,zq2,zq3];rfl)) (hJ4_5_7_10_13 (fun t=>if t=3 then wj.heap.size else s_ t) _ (HST.out.make 3 (by omega) (by decide) rfl))
         ·skip;rintro s_ wj hst_;have hHeld:=cell_of_one hst_.box;have HST:=Aside0.mk hst_;clear hst_;refine norm_ (a':=?_) ?_ ?_;rotate_left
          ·simp only [z0p,Act.put,zq1,zq2,zq3];rfl
          refine two_ (i:=6) (j:=13) (Ni:=some 16) (Nj:=none) #[zt,zt,zt,zt,zt,zt,zt,zt,zt,zt,zt,zt,zt,zf,zf,zf,zf,zf,zf,zf] #[zt,zt,zt,zt,zt,zt,zf,zt,zt,zt,zt,zt,zt,zt,zf,zf,zf,zf,zf,zf] rfl rfl rfl rfl (by kernel_rfl) (by decide) (by decide) (fun K hK=>?_) (fun K hK=>?_)
          ·skip;refine z1c (w1:=?_) (v:=?_) (by rfl) rfl ?_ ?_;rotate_left 2
           ·go_simp;constructor
            ·rfl
            ·rfl
           refine hK.out _ _ (cell_of_one (HST.out.make 2 (by omega) (by decide) rfl).box) (fun hHeld=>?_);clear hK K;refine norm_ (a':=?_) ?_ ?_;rotate_left
           ·show Act.put _ (some 16) _=_;simp only [Act.put,zq1,zq2,zq3,i64_w,i32_w];rfl
           exact norm_ (by first|(simp only [z0p,Act.put,zq1,zq2,zq3];done)|(simp only [z0p,Act.put,zq1,zq2,zq3];rfl)) (hJ4_5_6_7_10 (fun t=>if t=2 then wj.heap.size else s_ t) _ (HST.out.make 2 (by omega) (by decide) rfl))
          ·skip;have c_:wj.cell? ⟨g,10,none⟩=some (.map none):=(z01 HST.out.cells 10).trans rfl;have f_:=z02 HST.out.cells 10;refine skip_ (w1:=?_) (by rfl) rfl ?_ ?_;rotate_left
           ·go_simp;rfl
           refine hK.out _ _ (cell_of_one (HST.out.store 1 (by omega) rfl (by decide)).box) (fun hHeld=>?_);clear hK K;exact norm_ (by first|(simp only [z0p,Act.put,zq1,zq2,zq3];done)|(simp only [z0p,Act.put,zq1,zq2,zq3];rfl)) (hJ4_5_7_10_13 s_ _ (HST.out.store 1 (by omega) rfl (by decide)))
        ·skip;rintro s_ wj hst_;have hHeld:=cell_of_one hst_.box;have HST:=Aside0.mk hst_;clear hst_;refine norm_ (a':=?_) ?_ ?_;rotate_left
         ·simp only [z0p,Act.put,zq1,zq2,zq3];rfl
         refine two_ (i:=7) (j:=13) (Ni:=some 17) (Nj:=none) #[zt,zt,zt,zt,zt,zt,zt,zt,zt,zt,zt,zt,zt,zf,zf,zf,zf,zf,zf,zf] #[zt,zt,zt,zt,zt,zt,zt,zf,zt,zt,zt,zt,zt,zt,zf,zf,zf,zf,zf,zf] rfl rfl rfl rfl (by kernel_rfl) (by decide) (by decide) (fun K hK=>?_) (fun K hK=>?_)
         ·skip;refine z1c (w1:=?_) (v:=?_) (by rfl) rfl ?_ ?_;rotate_left 2
          ·go_simp;constructor
           ·rfl
           ·rfl
          refine hK.out _ _ (cell_of_one (HST.out.make 3 (by omega) (by decide) rfl).box) (fun hHeld=>?_);clear hK K;refine norm_ (a':=?_) ?_ ?_;rotate_left
          ·show Act.put _ (some 17) _=_;simp only [Act.put,zq1,zq2,zq3,i64_w,i32_w];rfl
          exact norm_ (by first|(simp only [z0p,Act.put,zq1,zq2,zq3];done)|(simp only [z0p,Act.put,zq1,zq2,zq3];rfl)) (hJ4_5_6_7_10 (fun t=>if t=3 then wj.heap.size else s_ t) _ (HST.out.make 3 (by omega) (by decide) rfl))
         ·skip;have c_:wj.cell? ⟨g,10,none⟩=some (.map none):=(z01 HST.out.cells 10).trans rfl;have f_:=z02 HST.out.cells 10;refine skip_ (w1:=?_) (by rfl) rfl ?_ ?_;rotate_left
          ·go_simp;rfl
          refine hK.out _ _ (cell_of_one (HST.out.store 1 (by omega) rfl (by decide)).box) (fun hHeld=>?_);clear hK K;refine pure_ (i:=14) (N:=some 22) (v:=?_) (a':=?_) #[zt,zt,zt,zt,zt,zt,zt,zf,zt,zt,zt,zt,zt,zt,zt,zf,zf,zf,zf,zf] rfl rfl (by kernel_rfl) (fun _ _ _ h=>h) (Or.inl ⟨by rfl,?_⟩) ?_ ?_;rotate_left
          ·intro w';go_simp;with_reducible rfl
          rotate_left
          ·simp only [Act.put,zq1,zq2,zq3,i64_w,i32_w];rfl
          refine pure_ (i:=15) (N:=some 23) (v:=?_) (a':=?_) #[zt,zt,zt,zt,zt,zt,zt,zf,zt,zt,zt,zt,zt,zt,zt,zt,zf,zf,zf,zf] rfl rfl (by kernel_rfl) (fun _ _ _ h=>h) (Or.inl ⟨by rfl,?_⟩) ?_ ?_;rotate_left
          ·intro w';go_simp;with_reducible rfl
          rotate_left
          ·simp only [Act.put,zq1,zq2,zq3,i64_w,i32_w];rfl
          exact norm_ (by first|(simp only [z0p,Act.put,zq1,zq2,zq3];done)|(simp only [z0p,Act.put,zq1,zq2,zq3];rfl)) (hJ4_5_6_10_13 s_ _ (HST.out.store 1 (by omega) rfl (by decide)))
       ·skip;rintro s_ wj hst_;have hHeld:=cell_of_one hst_.box;have HST:=Aside0.mk hst_;clear hst_;refine norm_ (a':=?_) ?_ ?_;rotate_left
        ·simp only [z0p,Act.put,zq1,zq2,zq3];rfl
        refine one_ (i:=10) (N:=none) #[zt,zt,zt,zt,zt,zt,zt,zt,zt,zt,zt,zf,zf,zf,zf,zf,zf,zf,zf,zf] rfl rfl (by kernel_rfl) (by decide) (fun K hK=>?_);have c_:wj.cell? ⟨g,9,none⟩=some (.map none):=(z01 HST.out.cells 9).trans rfl;have f_:=z02 HST.out.cells 9;refine skip_ (w1:=?_) (by rfl) rfl ?_ ?_;rotate_left
        ·go_simp;rfl
        refine hK.out _ _ (cell_of_one (HST.out.store 0 (by omega) rfl (by decide)).box) (fun hHeld=>?_);clear hK K;refine pure_ (i:=11) (N:=some 20) (v:=?_) (a':=?_) #[zt,zt,zt,zt,zt,zt,zt,zt,zt,zt,zt,zt,zf,zf,zf,zf,zf,zf,zf,zf] rfl rfl (by kernel_rfl) (fun _ _ _ h=>h) (Or.inl ⟨by rfl,?_⟩) ?_ ?_;rotate_left
        ·intro w';go_simp;with_reducible rfl
        rotate_left
        ·simp only [Act.put,zq1,zq2,zq3,i64_w,i32_w];rfl
        refine pure_ (i:=12) (N:=some 21) (v:=?_) (a':=?_) #[zt,zt,zt,zt,zt,zt,zt,zt,zt,zt,zt,zt,zt,zf,zf,zf,zf,zf,zf,zf] rfl rfl (by kernel_rfl) (fun _ _ _ h=>h) (Or.inl ⟨by rfl,?_⟩) ?_ ?_;rotate_left
        ·intro w';go_simp;with_reducible rfl
        rotate_left
        ·simp only [Act.put,zq1,zq2,zq3,i64_w,i32_w];rfl
        exact norm_ (by first|(simp only [z0p,Act.put,zq1,zq2,zq3];done)|(simp only [z0p,Act.put,zq1,zq2,zq3];rfl)) (hJ4_5_6_7_10 s_ _ (HST.out.store 0 (by omega) rfl (by decide)))
      ·skip;rintro s_ wj hst_;have hHeld:=cell_of_one hst_.box;have HST:=Aside0.mk hst_;clear hst_;refine norm_ (a':=?_) ?_ ?_;rotate_left
       ·simp only [z0p,Act.put,zq1,zq2,zq3];rfl
       refine one_ (i:=6) (N:=some 16) #[zt,zt,zt,zt,zt,zt,zt,zt,zt,zt,zt,zt,zt,zt,zf,zf,zf,zf,zf,zf] rfl rfl (by kernel_rfl) (by decide) (fun K hK=>?_);refine z1c (w1:=?_) (v:=?_) (by rfl) rfl ?_ ?_;rotate_left 2
       ·go_simp;constructor
        ·rfl
        ·rfl
       refine hK.out _ _ (cell_of_one (HST.out.make 2 (by omega) (by decide) rfl).box) (fun hHeld=>?_);clear hK K;refine norm_ (a':=?_) ?_ ?_;rotate_left
       ·show Act.put _ (some 16) _=_;simp only [Act.put,zq1,zq2,zq3,i64_w,i32_w];rfl
       refine pure_ (i:=14) (N:=some 22) (v:=?_) (a':=?_) #[zt,zt,zt,zt,zt,zt,zt,zt,zt,zt,zt,zt,zt,zt,zt,zf,zf,zf,zf,zf] rfl rfl (by kernel_rfl) (fun _ _ _ h=>h) (Or.inl ⟨by rfl,?_⟩) ?_ ?_;rotate_left
       ·intro w';go_simp;with_reducible rfl
       rotate_left
       ·simp only [Act.put,zq1,zq2,zq3,i64_w,i32_w];rfl
       refine pure_ (i:=15) (N:=some 23) (v:=?_) (a':=?_) #[zt,zt,zt,zt,zt,zt,zt,zt,zt,zt,zt,zt,zt,zt,zt,zt,zf,zf,zf,zf] rfl rfl (by kernel_rfl) (fun _ _ _ h=>h) (Or.inl ⟨by rfl,?_⟩) ?_ ?_;rotate_left
       ·intro w';go_simp;with_reducible rfl
       rotate_left
       ·simp only [Act.put,zq1,zq2,zq3,i64_w,i32_w];rfl
       exact norm_ (by first|(simp only [z0p,Act.put,zq1,zq2,zq3];done)|(simp only [z0p,Act.put,zq1,zq2,zq3];rfl)) (hJ4_5_6_7_10_13 (fun t=>if t=2 then wj.heap.size else s_ t) _ (HST.out.make 2 (by omega) (by decide) rfl))
     ·skip;rintro s_ wj hst_;have hHeld:=cell_of_one hst_.box;have HST:=Aside0.mk hst_;clear hst_;refine norm_ (a':=?_) ?_ ?_;rotate_left
      ·simp only [z0p,Act.put,zq1,zq2,zq3];rfl
      refine two_ (i:=7) (j:=16) (Ni:=some 17) (Nj:=none) #[zt,zt,zt,zt,zt,zt,zt,zt,zt,zt,zt,zt,zt,zt,zt,zt,zf,zf,zf,zf] #[zt,zt,zt,zt,zt,zt,zt,zf,zt,zt,zt,zt,zt,zt,zt,zt,zt,zf,zf,zf] rfl rfl rfl rfl (by kernel_rfl) (by decide) (by decide) (fun K hK=>?_) (fun K hK=>?_)
      ·skip;refine z1c (w1:=?_) (v:=?_) (by rfl) rfl ?_ ?_;rotate_left 2
       ·go_simp;constructor
        ·rfl
        ·rfl
       refine hK.out _ _ (cell_of_one (HST.out.make 3 (by omega) (by decide) rfl).box) (fun hHeld=>?_);clear hK K;refine norm_ (a':=?_) ?_ ?_;rotate_left
       ·show Act.put _ (some 17) _=_;simp only [Act.put,zq1,zq2,zq3,i64_w,i32_w];rfl
       exact norm_ (by first|(simp only [z0p,Act.put,zq1,zq2,zq3];done)|(simp only [z0p,Act.put,zq1,zq2,zq3];rfl)) (hJ4_5_6_7_10_13 (fun t=>if t=3 then wj.heap.size else s_ t) _ (HST.out.make 3 (by omega) (by decide) rfl))
      ·skip;have c_:wj.cell? ⟨g,11,none⟩=some (.map none):=(z01 HST.out.cells 11).trans rfl;have f_:=z02 HST.out.cells 11;refine skip_ (w1:=?_) (by rfl) rfl ?_ ?_;rotate_left
       ·go_simp;rfl
       refine hK.out _ _ (cell_of_one (HST.out.store 2 (by omega) rfl (by decide)).box) (fun hHeld=>?_);clear hK K;exact norm_ (by first|(simp only [z0p,Act.put,zq1,zq2,zq3];done)|(simp only [z0p,Act.put,zq1,zq2,zq3];rfl)) (hJ4_5_6_10_13_16 s_ _ (HST.out.store 2 (by omega) rfl (by decide)))
    ·skip;rintro s_ wj hst_;have hHeld:=cell_of_one hst_.box;have HST:=Aside0.mk hst_;clear hst_;refine norm_ (a':=?_) ?_ ?_;rotate_left
     ·simp only [z0p,Act.put,zq1,zq2,zq3];rfl
     refine one_ (i:=13) (N:=none) #[zt,zt,zt,zt,zt,zt,zt,zt,zt,zt,zt,zt,zt,zt,zf,zf,zf,zf,zf,zf] rfl rfl (by kernel_rfl) (by decide) (fun K hK=>?_);have c_:wj.cell? ⟨g,10,none⟩=some (.map none):=(z01 HST.out.cells 10).trans rfl;have f_:=z02 HST.out.cells 10;refine skip_ (w1:=?_) (by rfl) rfl ?_ ?_;rotate_left
     ·go_simp;rfl
     refine hK.out _ _ (cell_of_one (HST.out.store 1 (by omega) rfl (by decide)).box) (fun hHeld=>?_);clear hK K;refine pure_ (i:=14) (N:=some 22) (v:=?_) (a':=?_) #[zt,zt,zt,zt,zt,zt,zt,zt,zt,zt,zt,zt,zt,zt,zt,zf,zf,zf,zf,zf] rfl rfl (by kernel_rfl) (fun _ _ _ h=>h) (Or.inl ⟨by rfl,?_⟩) ?_ ?_;rotate_left
     ·intro w';go_simp;with_reducible rfl
     rotate_left
     ·simp only [Act.put,zq1,zq2,zq3,i64_w,i32_w];rfl
     refine pure_ (i:=15) (N:=some 23) (v:=?_) (a':=?_) #[zt,zt,zt,zt,zt,zt,zt,zt,zt,zt,zt,zt,zt,zt,zt,zt,zf,zf,zf,zf] rfl rfl (by kernel_rfl) (fun _ _ _ h=>h) (Or.inl ⟨by rfl,?_⟩) ?_ ?_;rotate_left
     ·intro w';go_simp;with_reducible rfl
     rotate_left
     ·simp only [Act.put,zq1,zq2,zq3,i64_w,i32_w];rfl
     exact norm_ (by first|(simp only [z0p,Act.put,zq1,zq2,zq3];done)|(simp only [z0p,Act.put,zq1,zq2,zq3];rfl)) (hJ4_5_6_7_10_13 s_ _ (HST.out.store 1 (by omega) rfl (by decide)))
   ·skip;rintro s_ wj hst_;have hHeld:=cell_of_one hst_.box;have HST:=Aside0.mk hst_;clear hst_;refine norm_ (a':=?_) ?_ ?_;rotate_left
    ·simp only [z0p,Act.put,zq1,zq2,zq3];rfl
    refine one_ (i:=7) (N:=some 17) #[zt,zt,zt,zt,zt,zt,zt,zt,zt,zt,zt,zt,zt,zt,zt,zt,zt,zf,zf,zf] rfl rfl (by kernel_rfl) (by decide) (fun K hK=>?_);refine z1c (w1:=?_) (v:=?_) (by rfl) rfl ?_ ?_;rotate_left 2
    ·go_simp;constructor
     ·rfl
     ·rfl
    refine hK.out _ _ (cell_of_one (HST.out.make 3 (by omega) (by decide) rfl).box) (fun hHeld=>?_);clear hK K;refine norm_ (a':=?_) ?_ ?_;rotate_left
    ·show Act.put _ (some 17) _=_;simp only [Act.put,zq1,zq2,zq3,i64_w,i32_w];rfl
    exact norm_ (by first|(simp only [z0p,Act.put,zq1,zq2,zq3];done)|(simp only [z0p,Act.put,zq1,zq2,zq3];rfl)) (hJ4_5_6_7_10_13_16 (fun t=>if t=3 then wj.heap.size else s_ t) _ (HST.out.make 3 (by omega) (by decide) rfl))
  ·skip;rintro s_ wj hst_;have hHeld:=cell_of_one hst_.box;have HST:=Aside0.mk hst_;clear hst_;refine norm_ (a':=?_) ?_ ?_;rotate_left
   ·simp only [z0p,Act.put,zq1,zq2,zq3];rfl
   refine one_ (i:=16) (N:=none) #[zt,zt,zt,zt,zt,zt,zt,zt,zt,zt,zt,zt,zt,zt,zt,zt,zt,zf,zf,zf] rfl rfl (by kernel_rfl) (by decide) (fun K hK=>?_);have c_:wj.cell? ⟨g,11,none⟩=some (.map none):=(z01 HST.out.cells 11).trans rfl;have f_:=z02 HST.out.cells 11;refine skip_ (w1:=?_) (by rfl) rfl ?_ ?_;rotate_left
   ·go_simp;rfl
   refine hK.out _ _ (cell_of_one (HST.out.store 2 (by omega) rfl (by decide)).box) (fun hHeld=>?_);clear hK K;exact norm_ (by first|(simp only [z0p,Act.put,zq1,zq2,zq3];done)|(simp only [z0p,Act.put,zq1,zq2,zq3];rfl)) (hJ4_5_6_7_10_13_16 s_ _ (HST.out.store 2 (by omega) rfl (by decide)))
 rintro s_ wj hst_;have hHeld:=cell_of_one hst_.box;have HST:=Aside0.mk hst_;clear hst_;refine norm_ (a':=?_) ?_ ?_;rotate_left
 ·simp only [z0p,Act.put,zq1,zq2,zq3];rfl
 refine pure_ (i:=17) (N:=some 24) (v:=?_) (a':=?_) #[zt,zt,zt,zt,zt,zt,zt,zt,zt,zt,zt,zt,zt,zt,zt,zt,zt,zt,zf,zf] rfl rfl (by kernel_rfl) (fun _ _ _ h=>h) (Or.inl ⟨by rfl,?_⟩) ?_ ?_;rotate_left
 ·intro w';go_simp;with_reducible rfl
 rotate_left
 ·simp only [Act.put,zq1,zq2,zq3,i64_w,i32_w];rfl
 refine pure_ (i:=18) (N:=some 25) (v:=?_) (a':=?_) #[zt,zt,zt,zt,zt,zt,zt,zt,zt,zt,zt,zt,zt,zt,zt,zt,zt,zt,zt,zf] rfl rfl (by kernel_rfl) (fun _ _ _ h=>h) (Or.inl ⟨by rfl,?_⟩) ?_ ?_;rotate_left
 ·intro w';go_simp;with_reducible rfl
 rotate_left
 ·simp only [Act.put,zq1,zq2,zq3,i64_w,i32_w];rfl
 refine one_ (i:=19) (N:=none) #[zt,zt,zt,zt,zt,zt,zt,zt,zt,zt,zt,zt,zt,zt,zt,zt,zt,zt,zt,zt] rfl rfl (by kernel_rfl) (by decide) (fun K hK=>?_);have c_:wj.cell? ⟨g,12,none⟩=some (.map none):=(z01 HST.out.cells 12).trans rfl;have f_:=z02 HST.out.cells 12;have HS4:=Aside0.mk (HST.out.store 3 (by omega) rfl (by decide));refine skip_ (w1:=?_) (by rfl) rfl ?_ ?_;rotate_left
 ·go_simp;rfl
 refine hK.out _ _ (cell_of_one HS4.out.box) (fun hHeld=>?_);clear hK K;refine done_ (by kernel_rfl) ?_;obtain ⟨Ad,nd,cd,ed⟩:∃ A n c,dv=.slice A n c:=by obtain ⟨A,c,h⟩:=Kd.R_slice HGP.out.d;exact ⟨_,_,_,h⟩
 obtain ⟨Af,nf,cf,ef⟩:∃ A n c,fv=.slice A n c:=by obtain ⟨A,c,h⟩:=Kd.R_slice HGP.out.f;exact ⟨_,_,_,h⟩
 obtain ⟨Ac,nc,cc,ec⟩:∃ A n c,cv=.slice A n c:=by obtain ⟨A,c,h⟩:=Kd.R_slice HGP.out.c;exact ⟨_,_,_,h⟩
 subst ed;subst ef;subst ec;obtain rfl:=(Kd.R_reads' HGP.out.d).1;obtain rfl:=(Kd.R_reads' HGP.out.f).1;obtain rfl:=(Kd.R_reads' HGP.out.c).1;have HW:=Aside0.mk (HS4.out.mkw HG.out HGP.out);have HT0:=Aside0.mk HS4.out.tab.1;generalize (wj.setCell ⟨g,12,none⟩ (.map (some (s_ 3))))=w2 at HW HT0 hHeld ⊢;clear HS4 HST hHeld HG HGP hmm ST0 c_ f_;obtain ⟨bs,rfl⟩:∃ bs,bs=s_:=⟨_,rfl⟩;have hFUN:=fun (k:Int) (W:World) (hW:MkW w g B0 p (.slice Ad p.f3.length cd) (.slice Af p.f4.length cf) (.slice Ac p.f5.length cc) bs W)=>z16.calls (p.f4.length+2) p.f0 p.f1 p.f2 Ad cd p.f3 Af cf p.f4 Ac cc p.f5 k (funP p.f4 p.f5.length k) W (Kd.R_reads' hW.grp.d).2.2 (Kd.R_reads' hW.grp.d).2.1 (Kd.R_reads' hW.grp.f).2.2 (Kd.R_reads' hW.grp.f).2.1 (Kd.R_reads' hW.grp.c).2.2 (Kd.R_reads' hW.grp.c).2.1 (imageFun_f p.f0 p.f1 p.f2 p.f3 p.f4 p.f5 k (by omega) (by omega))
 have HFUN0:=Aside0.mk hFUN;clear hFUN;have c5:w2.cell? ⟨g,5,none⟩=some (.slice Ac p.f5.length cc):=(z01 HW.out.cells 5).trans rfl;have c0:=cell_of_one HW.out.box;go_wp2;clear c0 c5
 go_loopw [32] (fun v32 wr=>∃ (k n:Nat) (V:Nat→Int→Value) (G:Nat→Int→List Int),v32=.int .i64 k∧Aside0 (k≤p.f5.length)∧Aside0 (n≤k)∧Aside0 (MkW w g B0 p (.slice Ad p.f3.length cd) (.slice Af p.f4.length cf) (.slice Ac p.f5.length cc) bs wr)∧Aside0 (Tab Tryz.prog 3 wr (w.heap.size+1) bs n V G)∧Aside0 (TabOk G (E1 p k)))
  (fun i _=>p.f5.length - (intOf i).toNat)
 case atStart=>exact ⟨0,0,_,_,rfl,⟨Nat.zero_le _⟩,⟨Nat.le_refl _⟩,HW,HT0,⟨E1_start p⟩⟩
 case round =>
  clear HW HT0;obtain ⟨k,n,V,G,rfl,hk,hn,hW,hT,hOk⟩:=hrel;have hk:=hk.out
  by_cases hlt:k < p.f5.length
  ·obtain ⟨wo,rfl⟩:∃ wo:World,wo=wr:=⟨_,rfl⟩;have hkd:decide ((k:Int) < (p.f5.length:Int))=true:=decide_eq_true (by omega);obtain ⟨ad,e5,hx0,hx1,hx2,hx3,hx4⟩:=at_T79 (Kd.R_reads' hW.out.grp.c).2.2 (k:Int) (by omega) (by omega);cases e5;obtain ⟨I,hI⟩:∃ I,z0a p.f5 k=I:=⟨_,rfl⟩;rw [hI] at hx0 hx1 hx2 hx3 hx4;have hp0:(0≤(k:Int))=True:=eq_true (by omega);have hp1:((k:Int) < (p.f5.length:Int))=True:=eq_true (by omega);rw [Int.toNat_natCast] at hx0 hx1 hx2 hx3 hx4;have HI:=Lib.hid hI;clear hI
   go_upto_region 6 with (fail)
   have HW3:=Aside0.mk (hW.out.below (z04 (Below.refl wo.heap.size wo) (.cells #[.int .i64 I.f0,.int .i64 I.f1,.int .i64 I.f2,.int .i64 I.f3,.int .u64 I.f4] 79)));have BI3:=Aside0.mk (z14 wo (.cells #[.int .i64 I.f0,.int .i64 I.f1,.int .i64 I.f2,.int .i64 I.f3,.int .u64 I.f4] 79));have HT3:=Aside0.mk (hT.out.alloc (.cells #[.int .i64 I.f0,.int .i64 I.f1,.int .i64 I.f2,.int .i64 I.f3,.int .u64 I.f4] 79));have HSZ:=Aside0.mk HW3.out.size;generalize wo.alloc (.cells #[.int .i64 I.f0,.int .i64 I.f1,.int .i64 I.f2,.int .i64 I.f3,.int .u64 I.f4] 79)=w3 at HW3 BI3 HT3 HSZ ⊢;generalize wo.heap.size=bi at BI3 ⊢;have hop:opA p k=I.f0:=congrArg (·.f0) HI.out;have him:immA p k=I.f4:=congrArg (·.f4) HI.out;have hkw:Gr.wfI (k:Int):=Gr.wfI_of (by omega);have HFUN:Aside0 (∀ (W:World),MkW w g B0 p (.slice Ad p.f3.length cd) (.slice Af p.f4.length cf) (.slice (some ad) p.f5.length cc) bs W→_):=⟨fun W hW=>HFUN0.out k W hW⟩;clear hx0 hx1 hx2 hx3 hx4 hW hT;have d0:=z01 BI3.out 0
   by_cases h23:I.f0=23
   ·have hz23:(I.f0 == 23)=true:=(by simpa using h23);have hcal:=HRT.out.cal k (by omega) (by omega) (hop.trans h23);rw [him] at hcal;have hwr:IntKind.i64.wrap I.f4=I.f4:=IntWalk.i64_in _ (by omega);have HPUT:=Aside0.mk (put_calls (HT3.out.drew) (t:=2) (by omega) (Gr.wfI_of (x:=I.f4) (by omega)) hkw (by have:=hn.out;omega) (Nat.le_trans HSZ.out (Nat.le_refl _)));have HOK:=Aside0.mk (E1_call hOk.out (by omega) (hop.trans h23));rw [him] at HOK
    go_upto_region 8 with (fail)
    clear d0;refine z27 (n:=9) (S:=fun w'=>w'.cell? ⟨w.heap.size,0,none⟩=some (.pointer (some ⟨g,0,none⟩))∧w'.cell? ⟨g,11,none⟩=some (.map (some (bs 2)))∧w'.cell? ⟨bi,4,none⟩=some (.int .u64 I.f4)) (ds:=[8]) #[zf,zf,zf,zf,zf,zf,zf,zf,zf] (by kernel_rfl) rfl rfl ⟨cell_of_one HW3.out.box,(z01 HW3.out.cells 11).trans rfl,z01 BI3.out 4⟩ (fun hHeld=>?_);refine pure_ (i:=4) (N:=some 45) (v:=?_) (a':=?_) #[zf,zf,zf,zf,zt,zf,zf,zf,zf] rfl rfl (by kernel_rfl) (fun _ _ _ h=>h) (Or.inl ⟨by rfl,?_⟩) ?_ ?_;rotate_left
    ·intro w';go_simp;with_reducible rfl
    rotate_left
    ·simp only [Act.put,zq1,zq2,zq3,i64_w,i32_w];rfl
    refine pure_ (i:=7) (N:=some 48) (v:=?_) (a':=?_) #[zf,zf,zf,zf,zt,zf,zf,zt,zf] rfl rfl (by kernel_rfl) (fun _ _ _ h=>h) (Or.inl ⟨by rfl,?_⟩) ?_ ?_;rotate_left
    ·intro w';go_simp;with_reducible rfl
    rotate_left
    ·simp only [Act.put,zq1,zq2,zq3,i64_w,i32_w];rfl
    refine take_ (i:=0) (N:=some 41) (v:=?_) (a':=?_) #[zt,zf,zf,zf,zt,zf,zf,zt,zf] rfl rfl (by kernel_rfl) (fun _ _ _ h=>h) (Or.inl ⟨by rfl,?_⟩) hHeld ?_ ?_;rotate_left
    ·rintro w' ⟨s0,s1,s2⟩;go_simp;with_reducible rfl
    rotate_left
    ·simp only [Act.put,zq1,zq2,zq3,i64_w,i32_w];rfl
    refine pure_ (i:=1) (N:=some 42) (v:=?_) (a':=?_) #[zt,zt,zf,zf,zt,zf,zf,zt,zf] rfl rfl (by kernel_rfl) (fun _ _ _ h=>h) (Or.inl ⟨by rfl,?_⟩) ?_ ?_;rotate_left
    ·intro w';go_simp;with_reducible rfl
    rotate_left
    ·simp only [Act.put,zq1,zq2,zq3,i64_w,i32_w];rfl
    refine pure_ (i:=2) (N:=some 43) (v:=?_) (a':=?_) #[zt,zt,zt,zf,zt,zf,zf,zt,zf] rfl rfl (by kernel_rfl) (fun _ _ _ h=>h) (Or.inl ⟨by rfl,?_⟩) ?_ ?_;rotate_left
    ·intro w';go_simp;with_reducible rfl
    rotate_left
    ·simp only [Act.put,zq1,zq2,zq3,i64_w,i32_w];rfl
    refine take_ (i:=3) (N:=some 44) (v:=?_) (a':=?_) #[zt,zt,zt,zt,zt,zf,zf,zt,zf] rfl rfl (by kernel_rfl) (fun _ _ _ h=>h) (Or.inl ⟨by rfl,?_⟩) hHeld ?_ ?_;rotate_left
    ·rintro w' ⟨s0,s1,s2⟩;go_simp;with_reducible rfl
    rotate_left
    ·simp only [Act.put,zq1,zq2,zq3,i64_w,i32_w];rfl
    refine take_ (i:=5) (N:=some 46) (v:=?_) (a':=?_) #[zt,zt,zt,zt,zt,zt,zf,zt,zf] rfl rfl (by kernel_rfl) (fun _ _ _ h=>h) (Or.inl ⟨by rfl,?_⟩) hHeld ?_ ?_;rotate_left
    ·rintro w' ⟨s0,s1,s2⟩;go_simp;with_reducible rfl
    rotate_left
    ·simp only [Act.put,zq1,zq2,zq3,i64_w,i32_w];rfl
    refine pure_ (i:=6) (N:=some 47) (v:=?_) (a':=?_) #[zt,zt,zt,zt,zt,zt,zt,zt,zf] rfl rfl (by kernel_rfl) (fun _ _ _ h=>h) (Or.inl ⟨by rfl,?_⟩) ?_ ?_;rotate_left
    ·intro w';go_simp;with_reducible rfl
    rotate_left
    ·simp only [Act.put,zq1,zq2,zq3,i64_w,i32_w];rfl
    refine last_ (i:=8) (N:=some 49) #[zt,zt,zt,zt,zt,zt,zt,zt,zt] rfl rfl (by kernel_rfl) (by decide) (fun K hK=>?_);refine goes_ Tryz.func114 (by kernel_rfl) rfl #[.map (some (bs 2)),.int .i64 I.f4,.int .i64 k] (by rfl) rfl rfl (by simp only [List.map_toArray,List.map_cons,List.map_nil];rfl) ?_;refine HPUT.out.mono ?_;rintro e w4 ⟨rfl,hT4,hf4,_⟩;refine ⟨_,rfl,?_⟩;have HT4:=Aside0.mk hT4;have HW4:=Aside0.mk ((HW3.out.below (z12 (Below.refl _ _))).step hf4);clear hT4 hf4;refine hK.out _ _ ?_;clear hK K;refine norm_ (a':=?_) ?_ ?_;rotate_left
    ·show Act.put _ (some 49) _=_;simp only [Act.put,zq1,zq2,zq3,i64_w,i32_w];rfl
    refine done_ (by kernel_rfl) ?_;obtain ⟨V4,hT4,_⟩:=HT4.out;have HT4:=Aside0.mk hT4;clear hT4;go_wp2
    go_roundw
    case rel=>exact ⟨k+1,n+1,_,_,by go_num,⟨by omega⟩,⟨by have:=hn.out;omega⟩,HW4,HT4,HOK⟩
    case measure=>simp [intOf];omega
   ·have hz23:(I.f0 == 23)=false:=(by simpa using h23)
    by_cases h24:I.f0=24
    ·have hz24:(I.f0 == 24)=true:=(by simpa using h24);have hfp:=funP_in HRT.out.fits (x:=k) (by omega) (by omega);have HPUT:Aside0 (∀ W,Below w3.heap.size w3 W→Calls Tryz.prog 114 #[.map (some (bs 3)),.int .i64 (funP p.f4 p.f5.length k),.int .i64 k] W (PutPost W (w.heap.size+1) bs n V G 3 (funP p.f4 p.f5.length k) k)) :=
      ⟨fun W hB=>put_calls (HT3.out.fr (Fr.of_below hB) (fun i h1 hin=>by have:=(HT3.out.in_lt hin).2.1;omega)) (t:=3) (by omega) (Gr.wfI_of (by omega)) hkw (by have:=hn.out;omega) (Nat.le_trans HSZ.out hB.size)⟩
     have HOK:=Aside0.mk (E1_back hOk.out (by omega) (hop.trans h24))
     go_upto_region 10 with (fail)
     clear d0;refine z27 (n:=12) (S:=fun w'=>w'.cell? ⟨w.heap.size,0,none⟩=some (.pointer (some ⟨g,0,none⟩))∧w'.cell? ⟨g,12,none⟩=some (.map (some (bs 3)))∧w'.cell? ⟨g,0,none⟩=some (.int .i64 p.f0)∧w'.cell? ⟨g,1,none⟩=some (.int .i64 p.f1)∧w'.cell? ⟨g,2,none⟩=some (.int .i64 p.f2)∧w'.cell? ⟨g,3,none⟩=some (.slice Ad p.f3.length cd)∧w'.cell? ⟨g,4,none⟩=some (.slice Af p.f4.length cf)∧w'.cell? ⟨g,5,none⟩=some (.slice (some ad) p.f5.length cc)) (ds:=[11]) #[zf,zf,zf,zf,zf,zf,zf,zf,zf,zf,zf,zf] (by kernel_rfl) rfl rfl ⟨cell_of_one HW3.out.box,(z01 HW3.out.cells 12).trans rfl,(z01 HW3.out.cells 0).trans rfl,(z01 HW3.out.cells 1).trans rfl,(z01 HW3.out.cells 2).trans rfl,(z01 HW3.out.cells 3).trans rfl,(z01 HW3.out.cells 4).trans rfl,(z01 HW3.out.cells 5).trans rfl⟩ (fun hHeld=>?_);refine pure_ (i:=8) (N:=some 60) (v:=?_) (a':=?_) #[zf,zf,zf,zf,zf,zf,zf,zf,zt,zf,zf,zf] rfl rfl (by kernel_rfl) (fun _ _ _ h=>h) (Or.inl ⟨by rfl,?_⟩) ?_ ?_;rotate_left
     ·intro w';go_simp;with_reducible rfl
     rotate_left
     ·simp only [Act.put,zq1,zq2,zq3,i64_w,i32_w];rfl
     refine pure_ (i:=10) (N:=some 62) (v:=?_) (a':=?_) #[zf,zf,zf,zf,zf,zf,zf,zf,zt,zf,zt,zf] rfl rfl (by kernel_rfl) (fun _ _ _ h=>h) (Or.inl ⟨by rfl,?_⟩) ?_ ?_;rotate_left
     ·intro w';go_simp;with_reducible rfl
     rotate_left
     ·simp only [Act.put,zq1,zq2,zq3,i64_w,i32_w];rfl
     refine take_ (i:=0) (N:=some 52) (v:=?_) (a':=?_) #[zt,zf,zf,zf,zf,zf,zf,zf,zt,zf,zt,zf] rfl rfl (by kernel_rfl) (fun _ _ _ h=>h) (Or.inl ⟨by rfl,?_⟩) hHeld ?_ ?_;rotate_left
     ·rintro w' ⟨s0,s1,s2,s3,s4,s5,s6,s7⟩;go_simp;with_reducible rfl
     rotate_left
     ·simp only [Act.put,zq1,zq2,zq3,i64_w,i32_w];rfl
     refine pure_ (i:=1) (N:=some 53) (v:=?_) (a':=?_) #[zt,zt,zf,zf,zf,zf,zf,zf,zt,zf,zt,zf] rfl rfl (by kernel_rfl) (fun _ _ _ h=>h) (Or.inl ⟨by rfl,?_⟩) ?_ ?_;rotate_left
     ·intro w';go_simp;with_reducible rfl
     rotate_left
     ·simp only [Act.put,zq1,zq2,zq3,i64_w,i32_w];rfl
     refine pure_ (i:=2) (N:=some 54) (v:=?_) (a':=?_) #[zt,zt,zt,zf,zf,zf,zf,zf,zt,zf,zt,zf] rfl rfl (by kernel_rfl) (fun _ _ _ h=>h) (Or.inl ⟨by rfl,?_⟩) ?_ ?_;rotate_left
     ·intro w';go_simp;with_reducible rfl
     rotate_left
     ·simp only [Act.put,zq1,zq2,zq3,i64_w,i32_w];rfl
     refine take_ (i:=3) (N:=some 55) (v:=?_) (a':=?_) #[zt,zt,zt,zt,zf,zf,zf,zf,zt,zf,zt,zf] rfl rfl (by kernel_rfl) (fun _ _ _ h=>h) (Or.inl ⟨by rfl,?_⟩) hHeld ?_ ?_;rotate_left
     ·rintro w' ⟨s0,s1,s2,s3,s4,s5,s6,s7⟩;go_simp;with_reducible rfl
     rotate_left
     ·simp only [Act.put,zq1,zq2,zq3,i64_w,i32_w];rfl
     refine take_ (i:=4) (N:=some 56) (v:=?_) (a':=?_) #[zt,zt,zt,zt,zt,zf,zf,zf,zt,zf,zt,zf] rfl rfl (by kernel_rfl) (fun _ _ _ h=>h) (Or.inl ⟨by rfl,?_⟩) hHeld ?_ ?_;rotate_left
     ·rintro w' ⟨s0,s1,s2,s3,s4,s5,s6,s7⟩;go_simp;with_reducible rfl
     rotate_left
     ·simp only [Act.put,zq1,zq2,zq3,i64_w,i32_w];rfl
     refine pure_ (i:=5) (N:=some 57) (v:=?_) (a':=?_) #[zt,zt,zt,zt,zt,zt,zf,zf,zt,zf,zt,zf] rfl rfl (by kernel_rfl) (fun _ _ _ h=>h) (Or.inl ⟨by rfl,?_⟩) ?_ ?_;rotate_left
     ·intro w';go_simp;with_reducible rfl
     rotate_left
     ·simp only [Act.put,zq1,zq2,zq3,i64_w,i32_w];rfl
     refine pure_ (i:=6) (N:=some 58) (v:=?_) (a':=?_) #[zt,zt,zt,zt,zt,zt,zt,zf,zt,zf,zt,zf] rfl rfl (by kernel_rfl) (fun _ _ _ h=>h) (Or.inl ⟨by rfl,?_⟩) ?_ ?_;rotate_left
     ·intro w';go_simp;with_reducible rfl
     rotate_left
     ·simp only [Act.put,zq1,zq2,zq3,i64_w,i32_w];rfl
     refine take_ (i:=7) (N:=some 59) (v:=?_) (a':=?_) #[zt,zt,zt,zt,zt,zt,zt,zt,zt,zf,zt,zf] rfl rfl (by kernel_rfl) (fun _ _ _ h=>h) (Or.inl ⟨by rfl,?_⟩) hHeld ?_ ?_;rotate_left
     ·rintro w' ⟨s0,s1,s2,s3,s4,s5,s6,s7⟩;go_simp;with_reducible rfl
     rotate_left
     ·simp only [Act.put,zq1,zq2,zq3,i64_w,i32_w];rfl
     refine one_ (i:=9) (N:=some 61) #[zt,zt,zt,zt,zt,zt,zt,zt,zt,zt,zt,zf] rfl rfl (by kernel_rfl) (by decide) (fun K hK=>?_);refine goes_ Tryz.func77 (by kernel_rfl) rfl #[.agg #[.int .i64 p.f0,.int .i64 p.f1,.int .i64 p.f2,.slice Ad p.f3.length cd,.slice Af p.f4.length cf,.slice (some ad) p.f5.length cc],.int .i64 k] (by rfl) rfl rfl (by simp only [List.map_toArray,List.map_cons,List.map_nil];rfl) ?_;refine (HFUN.out _ (HW3.out.below (z12 (Below.refl _ _)))).mono ?_;rintro e w4 ⟨rfl,hb4⟩;refine ⟨_,rfl,?_⟩;have HB4:=Aside0.mk (z0x (z12 (Below.refl w3.heap.size w3)) (Nat.le_refl _) hb4);have HW4:=Aside0.mk (HW3.out.below HB4.out);clear hb4;refine hK.out _ _ ⟨cell_of_one HW4.out.box,(z01 HW4.out.cells 12).trans rfl,(z01 HW4.out.cells 0).trans rfl,(z01 HW4.out.cells 1).trans rfl,(z01 HW4.out.cells 2).trans rfl,(z01 HW4.out.cells 3).trans rfl,(z01 HW4.out.cells 4).trans rfl,(z01 HW4.out.cells 5).trans rfl⟩ (fun hHeld=>?_);clear hK K;refine norm_ (a':=?_) ?_ ?_;rotate_left
     ·show Act.put _ (some 61) _=_;simp only [Act.put,zq1,zq2,zq3,i64_w,i32_w];rfl
     refine last_ (i:=11) (N:=some 63) #[zt,zt,zt,zt,zt,zt,zt,zt,zt,zt,zt,zt] rfl rfl (by kernel_rfl) (by decide) (fun K hK=>?_);refine goes_ Tryz.func114 (by kernel_rfl) rfl #[.map (some (bs 3)),.int .i64 (funP p.f4 p.f5.length k),.int .i64 k] (by rfl) rfl rfl (by simp only [List.map_toArray,List.map_cons,List.map_nil];rfl) ?_;refine (HPUT.out _ HB4.out).mono ?_;rintro e w5 ⟨rfl,hT5,hf5,_⟩;refine ⟨_,rfl,?_⟩;have HT5:=Aside0.mk hT5;have HW5:=Aside0.mk (HW4.out.step hf5);clear hT5 hf5;refine hK.out _ _ ?_;clear hK K;refine norm_ (a':=?_) ?_ ?_;rotate_left
     ·show Act.put _ (some 63) _=_;simp only [Act.put,zq1,zq2,zq3,i64_w,i32_w];rfl
     refine done_ (by kernel_rfl) ?_;obtain ⟨V5,hT5,_⟩:=HT5.out;have HT5:=Aside0.mk hT5;clear hT5;go_wp2
     go_roundw
     case rel=>exact ⟨k+1,n+1,_,_,by go_num,⟨by omega⟩,⟨by have:=hn.out;omega⟩,HW5,HT5,HOK⟩
     case measure=>simp [intOf];omega
    ·have hz24:(I.f0 == 24)=false:=(by simpa using h24);have HOK:=Aside0.mk (E1_other hOk.out (fun e=>h23 (hop.symm.trans e)) (fun e=>h24 (hop.symm.trans e)));go_wp2
     go_roundw
     case rel=>exact ⟨k+1,n,_,_,by go_num,⟨by omega⟩,⟨by have:=hn.out;omega⟩,HW3,HT3,HOK⟩
     case measure=>simp [intOf];omega
  ·have ek:k=p.f5.length:=by omega
   subst ek;have hkd:decide ((p.f5.length:Int) < (p.f5.length:Int))=false:=decide_eq_false (by omega);have hmf:∀ (fn:Fn) (first cap:Array Value) (w:World),(Instr.makeFunc fn first cap).run Tryz.prog w=.ok (.func fn first cap) w:=fun _ _ _ _=>rfl
   have HOK0:=Aside0.mk (E2_start hOk.out);have c5:wr.cell? ⟨g,5,none⟩=some (.slice Ac p.f5.length cc):=(z01 hW.out.cells 5).trans rfl;have c0:=cell_of_one hW.out.box;go_wp2;clear c0 c5 hkd hlt
   go_loopw [72] (fun v72 wq=>∃ (k n:Nat) (V:Nat→Int→Value) (G:Nat→Int→List Int),v72=.int .i64 k∧Aside0 (k≤p.f5.length)∧Aside0 (n≤300+600 * k)∧Aside0 (MkW w g B0 p (.slice Ad p.f3.length cd) (.slice Af p.f4.length cf) (.slice Ac p.f5.length cc) bs wq)∧Aside0 (Tab Tryz.prog 3 wq (w.heap.size+1) bs n V G)∧Aside0 (TabOk G (E2 p k [])))
    (fun i _=>p.f5.length - (intOf i).toNat)
   case atStart=>exact ⟨0,_,_,_,rfl,⟨Nat.zero_le _⟩,⟨by have:=hn.out;omega⟩,hW,hT,HOK0⟩
   case round =>
    clear hW hT hOk hn HOK0 hk hmf;obtain ⟨k,n,V,G,rfl,hk,hn,hW,hT,HO⟩:=hrel;have hk:=hk.out
    by_cases hlt:k < p.f5.length
    ·obtain ⟨wo,rfl⟩:∃ wo:World,wo=wr:=⟨_,rfl⟩;have hkd:decide ((k:Int) < (p.f5.length:Int))=true:=decide_eq_true (by omega);obtain ⟨ad,e5,hx0,hx1,hx2,hx3,hx4⟩:=at_T79 (Kd.R_reads' hW.out.grp.c).2.2 (k:Int) (by omega) (by omega);cases e5;obtain ⟨I,hI⟩:∃ I,z0a p.f5 k=I:=⟨_,rfl⟩;rw [hI] at hx0 hx1 hx2 hx3 hx4;have hp0:(0≤(k:Int))=True:=eq_true (by omega);have hp1:((k:Int) < (p.f5.length:Int))=True:=eq_true (by omega);rw [Int.toNat_natCast] at hx0 hx1 hx2 hx3 hx4;have HI:=Lib.hid hI;clear hI
     go_upto_region 16 with (fail)
     have HW3:=Aside0.mk (hW.out.below (z04 (Below.refl wo.heap.size wo) (.cells #[.int .i64 I.f0,.int .i64 I.f1,.int .i64 I.f2,.int .i64 I.f3,.int .u64 I.f4] 79)));have BI3:=Aside0.mk (z14 wo (.cells #[.int .i64 I.f0,.int .i64 I.f1,.int .i64 I.f2,.int .i64 I.f3,.int .u64 I.f4] 79));have HT3:=Aside0.mk (hT.out.alloc (.cells #[.int .i64 I.f0,.int .i64 I.f1,.int .i64 I.f2,.int .i64 I.f3,.int .u64 I.f4] 79));have HSZ:=Aside0.mk HW3.out.size;generalize wo.alloc (.cells #[.int .i64 I.f0,.int .i64 I.f1,.int .i64 I.f2,.int .i64 I.f3,.int .u64 I.f4] 79)=w3 at HW3 BI3 HT3 HSZ ⊢;generalize wo.heap.size=bi at BI3 ⊢;have hop:opA p k=I.f0:=congrArg (·.f0) HI.out;have him:immA p k=I.f4:=congrArg (·.f4) HI.out;have hkw:Gr.wfI (k:Int):=Gr.wfI_of (by omega);have hw1:IntKind.i64.wrap ((k:Int)+1)=(k:Int)+1:=IntWalk.i64_in _ (by omega);have HFUN:Aside0 (∀ (W:World),MkW w g B0 p (.slice Ad p.f3.length cd) (.slice Af p.f4.length cf) (.slice (some ad) p.f5.length cc) bs W→_):=⟨fun W hW=>HFUN0.out k W hW⟩;have HEDGE:Aside0 (∀ (W:World) (a b:Int) (n:Nat) (V:Nat→Int→Value) (G:Nat→Int→List Int),MkW w g B0 p (.slice Ad p.f3.length cd) (.slice Af p.f4.length cf) (.slice (some ad) p.f5.length cc) bs W→Tab Tryz.prog 3 W (w.heap.size+1) bs n V G→Gr.wfI a→Gr.wfI b→n < 900000 →
       Calls Tryz.prog 115 #[.int .i64 a,.int .i64 b,.pointer (some ⟨w.heap.size,0,none⟩)] W (MkPost W (w.heap.size+1) bs (n+2) V (edgeG G a b))) :=
      ⟨fun W a b n V G hW hT ha hb hn=>edge_calls hW.box hW.cells (by omega) (by omega) hT ha hb hn hW.size⟩
     clear hx0 hx1 hx2 hx3 hx4 hW hT;have d0:=z01 BI3.out 0;have d4:=z01 BI3.out 4
     by_cases h21:I.f0=21
     ·have hz21:(I.f0 == 21)=true:=(by simpa using h21);have hj:=HRT.out.jmp k (by omega) (by omega) (.inl (hop.trans h21));rw [him] at hj;have hwr:IntKind.i64.wrap I.f4=I.f4:=IntWalk.i64_in _ (by omega);have hgv:goesB I.f0=false:=(by rw [h21];decide);have HBB:=Aside0.mk (fun y=>him ▸ isB_jump (p:=p) (k:=(k:Int)) (by omega) (by omega) (hop.trans h21) y);clear h21 hop him
      go_wp2_with fail
      clear d0 d4;refine (HEDGE.out _ k I.f4 _ _ _ HW3.out HT3.out hkw (Gr.wfI_of (by omega)) (by have:=hn.out;omega)).mono ?_;rintro e w4 ⟨rfl,⟨Vw4,hT_,hV_⟩,hf_,hk_⟩;have HWw4:=Aside0.mk (HW3.out.step hf_);have BIw4:=Aside0.mk (hk_ bi _ _ _ BI3.out (by decide));have HTw4:=Aside0.mk hT_;have HOw4:=Aside0.mk (E2_edge HO.out I.f4);have d0:=z01 BIw4.out 0;clear hT_ hV_ hf_ hk_;have HGC:=Lib.hid (z2f.calls I.f0 false w4 ((goes_f I.f0).trans (congrArg some hgv)))
      go_wp2_with (go_at_call 107;refine HGC.out.mono ?_;rintro e w' ⟨rfl,nd,rfl⟩)
      have HX:=Aside0.mk (HWw4.out.below (z2a (Below.refl _ _) nd));have HY:=Aside0.mk (HTw4.out.drewN nd)
      go_roundw
      case rel=>exact ⟨k+1,_,_,_,by go_num,⟨by omega⟩,⟨by have:=hn.out;show n+2≤300+600 * (k+1);omega⟩,HX,HY,⟨E2_next HOw4.out (by omega) (HBB.out)⟩⟩
      case measure=>simp [intOf];omega
     ·have hz21:(I.f0 == 21)=false:=(by simpa using h21)
      by_cases h22:I.f0=22
      ·have hz22:(I.f0 == 22)=true:=(by simpa using h22);have hj:=HRT.out.jmp k (by omega) (by omega) (.inr (hop.trans h22));rw [him] at hj;have hwr:IntKind.i64.wrap I.f4=I.f4:=IntWalk.i64_in _ (by omega);have hgv:goesB I.f0=true:=(by rw [h22];decide);have hne:(I.f0 != 23)=true:=(by rw [h22];decide);have HBB:=Aside0.mk (fun y=>him ▸ isB_branch (p:=p) (k:=(k:Int)) (by omega) (by omega) (hop.trans h22) y);clear h21 h22 hop him
       go_wp2_with fail
       clear d0 d4;refine (HEDGE.out _ k I.f4 _ _ _ HW3.out HT3.out hkw (Gr.wfI_of (by omega)) (by have:=hn.out;omega)).mono ?_;rintro e w4 ⟨rfl,⟨Vw4,hT_,hV_⟩,hf_,hk_⟩;have HWw4:=Aside0.mk (HW3.out.step hf_);have BIw4:=Aside0.mk (hk_ bi _ _ _ BI3.out (by decide));have HTw4:=Aside0.mk hT_;have HOw4:=Aside0.mk (E2_edge HO.out I.f4);have d0:=z01 BIw4.out 0;clear hT_ hV_ hf_ hk_;have HGC:=Lib.hid (z2f.calls I.f0 true w4 ((goes_f I.f0).trans (congrArg some hgv)))
       go_wp2_with (go_at_call 107;refine HGC.out.mono ?_;rintro e w' ⟨rfl,nd,rfl⟩)
       have HX4:=Aside0.mk (HWw4.out.below (z2a (Below.refl _ _) nd));have HY4:=Aside0.mk (HTw4.out.drewN nd);have BX4:Aside0 ((w4.drewN nd).heap[bi]?=_):=⟨BIw4.out⟩;have HOS:=HO;clear HO;have HO:=HOw4;refine (HEDGE.out _ k ((k:Int)+1) _ _ _ HX4.out HY4.out hkw (Gr.wfI_of (by omega)) (by have:=hn.out;omega)).mono ?_;rintro e w5 ⟨rfl,⟨Vw5,hT_,hV_⟩,hf_,hk_⟩;have HWw5:=Aside0.mk (HX4.out.step hf_);have BIw5:=Aside0.mk (hk_ bi _ _ _ BX4.out (by decide));have HTw5:=Aside0.mk hT_;have HOw5:=Aside0.mk (E2_edge HO.out ((k:Int)+1));have d0:=z01 BIw5.out 0;clear hT_ hV_ hf_ hk_;go_wp2;have HX:=HWw5;have HY:=HTw5
       go_roundw
       case rel=>exact ⟨k+1,_,_,_,by go_num,⟨by omega⟩,⟨by have:=hn.out;show n+2+2≤300+600 * (k+1);omega⟩,HX,HY,⟨E2_next HOw5.out (by omega) (HBB.out)⟩⟩
       case measure=>simp [intOf];omega
      ·have hz22:(I.f0 == 22)=false:=(by simpa using h22)
       by_cases h23:I.f0=23
       ·have hz23:(I.f0 == 23)=true:=(by simpa using h23);have hcal:=HRT.out.cal k (by omega) (by omega) (hop.trans h23);rw [him] at hcal;have hrf:=rd_fits HRT.out.fits hcal.1 hcal.2;obtain ⟨af,ef,hxf⟩:=Kd.at_int (Kd.R_reads' HW3.out.grp.f).2.2 I.f4 hcal.1 hcal.2;cases ef;have hq0:(0≤I.f4)=True:=eq_true (by omega);have hq1:(I.f4 < (p.f4.length:Int))=True:=eq_true (by omega);have hgv:goesB I.f0=true:=(by rw [h23];decide);have hne:(I.f0 != 23)=false:=(by rw [h23];decide);have HBB:=Aside0.mk (fun y=>him ▸ isB_call (p:=p) (k:=(k:Int)) (by omega) (by omega) (hop.trans h23) y);clear h21 h22 h23 hop him;have HX3:=Aside0.mk (HW3.out.below (z12 (Below.refl _ _)));have HY3:=Aside0.mk HT3.out.drew
        go_upto_region 21 with (fail)
        clear d0 d4;refine z27 (n:=12) (S:=fun w'=>w'.cell? ⟨w.heap.size,0,none⟩=some (.pointer (some ⟨g,0,none⟩))∧w'.cell? ⟨g,4,none⟩=some (.slice (some af) p.f4.length cf)∧w'.cell? ⟨bi,4,none⟩=some (.int .u64 I.f4)∧w'.cell? (af.add I.f4.toNat)=some (.int .i64 (rd p.f4 I.f4))) (ds:=[11]) #[zf,zf,zf,zf,zf,zf,zf,zf,zf,zf,zf,zf] (by kernel_rfl) rfl rfl ⟨cell_of_one HW3.out.box,(z01 HW3.out.cells 4).trans rfl,z01 BI3.out 4,hxf⟩ (fun hHeld=>?_);refine pure_ (i:=0) (N:=some 90) (v:=?_) (a':=?_) #[zt,zf,zf,zf,zf,zf,zf,zf,zf,zf,zf,zf] rfl rfl (by kernel_rfl) (fun _ _ _ h=>h) (Or.inl ⟨by rfl,?_⟩) ?_ ?_;rotate_left
        ·intro w';go_simp;with_reducible rfl
        rotate_left
        ·simp only [Act.put,zq1,zq2,zq3,i64_w,i32_w];rfl
        refine pure_ (i:=1) (N:=some 91) (v:=?_) (a':=?_) #[zt,zt,zf,zf,zf,zf,zf,zf,zf,zf,zf,zf] rfl rfl (by kernel_rfl) (fun _ _ _ h=>h) (Or.inl ⟨by rfl,?_⟩) ?_ ?_;rotate_left
        ·intro w';go_simp;with_reducible rfl
        rotate_left
        ·simp only [Act.put,zq1,zq2,zq3,i64_w,i32_w];rfl
        refine pure_ (i:=7) (N:=some 97) (v:=?_) (a':=?_) #[zt,zt,zf,zf,zf,zf,zf,zt,zf,zf,zf,zf] rfl rfl (by kernel_rfl) (fun _ _ _ h=>h) (Or.inl ⟨by rfl,?_⟩) ?_ ?_;rotate_left
        ·intro w';go_simp;with_reducible rfl
        rotate_left
        ·simp only [Act.put,zq1,zq2,zq3,i64_w,i32_w];rfl
        refine take_ (i:=2) (N:=some 92) (v:=?_) (a':=?_) #[zt,zt,zt,zf,zf,zf,zf,zt,zf,zf,zf,zf] rfl rfl (by kernel_rfl) (fun _ _ _ h=>h) (Or.inl ⟨by rfl,?_⟩) hHeld ?_ ?_;rotate_left
        ·rintro w' ⟨s0,s1,s2,s3⟩;go_simp;with_reducible rfl
        rotate_left
        ·simp only [Act.put,zq1,zq2,zq3,i64_w,i32_w];rfl
        refine pure_ (i:=3) (N:=some 93) (v:=?_) (a':=?_) #[zt,zt,zt,zt,zf,zf,zf,zt,zf,zf,zf,zf] rfl rfl (by kernel_rfl) (fun _ _ _ h=>h) (Or.inl ⟨by rfl,?_⟩) ?_ ?_;rotate_left
        ·intro w';go_simp;with_reducible rfl
        rotate_left
        ·simp only [Act.put,zq1,zq2,zq3,i64_w,i32_w];rfl
        refine pure_ (i:=4) (N:=some 94) (v:=?_) (a':=?_) #[zt,zt,zt,zt,zt,zf,zf,zt,zf,zf,zf,zf] rfl rfl (by kernel_rfl) (fun _ _ _ h=>h) (Or.inl ⟨by rfl,?_⟩) ?_ ?_;rotate_left
        ·intro w';go_simp;with_reducible rfl
        rotate_left
        ·simp only [Act.put,zq1,zq2,zq3,i64_w,i32_w];rfl
        refine pure_ (i:=5) (N:=some 95) (v:=?_) (a':=?_) #[zt,zt,zt,zt,zt,zt,zf,zt,zf,zf,zf,zf] rfl rfl (by kernel_rfl) (fun _ _ _ h=>h) (Or.inl ⟨by rfl,?_⟩) ?_ ?_;rotate_left
        ·intro w';go_simp;with_reducible rfl
        rotate_left
        ·simp only [Act.put,zq1,zq2,zq3,i64_w,i32_w];rfl
        refine take_ (i:=6) (N:=some 96) (v:=?_) (a':=?_) #[zt,zt,zt,zt,zt,zt,zt,zt,zf,zf,zf,zf] rfl rfl (by kernel_rfl) (fun _ _ _ h=>h) (Or.inl ⟨by rfl,?_⟩) hHeld ?_ ?_;rotate_left
        ·rintro w' ⟨s0,s1,s2,s3⟩;go_simp;with_reducible rfl
        rotate_left
        ·simp only [Act.put,zq1,zq2,zq3,i64_w,i32_w];rfl
        refine take_ (i:=8) (N:=some 98) (v:=?_) (a':=?_) #[zt,zt,zt,zt,zt,zt,zt,zt,zt,zf,zf,zf] rfl rfl (by kernel_rfl) (fun _ _ _ h=>h) (Or.inl ⟨by rfl,?_⟩) hHeld ?_ ?_;rotate_left
        ·rintro w' ⟨s0,s1,s2,s3⟩;go_simp;with_reducible rfl
        rotate_left
        ·simp only [Act.put,zq1,zq2,zq3,i64_w,i32_w];rfl
        refine pure_ (i:=9) (N:=some 99) (v:=?_) (a':=?_) #[zt,zt,zt,zt,zt,zt,zt,zt,zt,zt,zf,zf] rfl rfl (by kernel_rfl) (fun _ _ _ h=>h) (Or.inl ⟨by rfl,?_⟩) ?_ ?_;rotate_left
        ·intro w';go_simp;with_reducible rfl
        rotate_left
        ·simp only [Act.put,zq1,zq2,zq3,i64_w,i32_w];rfl
        refine take_ (i:=10) (N:=some 100) (v:=?_) (a':=?_) #[zt,zt,zt,zt,zt,zt,zt,zt,zt,zt,zt,zf] rfl rfl (by kernel_rfl) (fun _ _ _ h=>h) (Or.inl ⟨by rfl,?_⟩) hHeld ?_ ?_;rotate_left
        ·rintro w' ⟨s0,s1,s2,s3⟩;go_simp;with_reducible rfl
        rotate_left
        ·simp only [Act.put,zq1,zq2,zq3,i64_w,i32_w];rfl
        refine last_ (i:=11) (N:=some 101) #[zt,zt,zt,zt,zt,zt,zt,zt,zt,zt,zt,zt] rfl rfl (by kernel_rfl) (by decide) (fun K hK=>?_);refine goesC_ (cap:=#[.pointer (some ⟨w.heap.size,0,none⟩)]) Tryz.func115 (by kernel_rfl) rfl #[.int .i64 k,.int .i64 (rd p.f4 I.f4),.pointer (some ⟨w.heap.size,0,none⟩)] (by rfl) rfl rfl (by rfl) (by simp only [List.map_toArray,List.map_cons,List.map_nil];rfl) ?_;refine (HEDGE.out _ k (rd p.f4 I.f4) _ _ _ HX3.out HY3.out hkw (Gr.wfI_of (by omega)) (by have:=hn.out;omega)).mono ?_;rintro e w4 ⟨rfl,⟨Vw4,hT_,hV_⟩,hf_,hk_⟩;refine ⟨_,rfl,?_⟩;have HWw4:=Aside0.mk (HX3.out.step hf_);have BIw4:=Aside0.mk (hk_ bi _ _ _ BI3.out (by decide));have HTw4:=Aside0.mk hT_;have HOw4:=Aside0.mk (E2_edge HO.out (rd p.f4 I.f4));have d0:=z01 BIw4.out 0;clear hT_ hV_ hf_ hk_;refine hK.out _ _ ?_;clear hK K;refine norm_ (a':=?_) ?_ ?_;rotate_left
        ·show Act.put _ (some 101) _=_;simp only [Act.put,zq1,zq2,zq3,i64_w,i32_w];rfl
        refine done_ (by kernel_rfl) ?_;clear hxf hq0 hq1;have HGC:=Lib.hid (z2f.calls I.f0 true w4 ((goes_f I.f0).trans (congrArg some hgv)))
        go_wp2_with (go_at_call 107;refine HGC.out.mono ?_;rintro e w' ⟨rfl,nd,rfl⟩)
        have HX:=Aside0.mk (HWw4.out.below (z2a (Below.refl _ _) nd));have HY:=Aside0.mk (HTw4.out.drewN nd)
        go_roundw
        case rel=>exact ⟨k+1,_,_,_,by go_num,⟨by omega⟩,⟨by have:=hn.out;show n+2≤300+600 * (k+1);omega⟩,HX,HY,⟨E2_next HOw4.out (by omega) (HBB.out)⟩⟩
        case measure=>simp [intOf];omega
       ·have hz23:(I.f0 == 23)=false:=(by simpa using h23)
        by_cases h24:I.f0=24
        ·have hz24:(I.f0 == 24)=true:=(by simpa using h24);have hfp:=funP_in HRT.out.fits (x:=k) (by omega) (by omega);obtain ⟨fv_,hfv⟩:∃ f,funP p.f4 p.f5.length k=f:=⟨_,rfl⟩;rw [hfv] at hfp HFUN;have hfw:Gr.wfI fv_:=Gr.wfI_of (by omega);have hrow:=HT3.out.rows 2 fv_ (by omega) hfw;have hst:=E2_sites HO.out hfw;have hnd:=(HO.out 2 fv_ (by omega) hfw).1;obtain ⟨zs,hzs⟩:∃ zs,G 2 fv_=zs:=⟨_,rfl⟩;rw [hzs] at hrow hst hnd;have hzl:zs.length≤256:=Nat.le_trans (nodup_le hnd (fun z hz=>⟨((hst z).1 hz).1,((hst z).1 hz).2.1⟩)) hn256;have HZB:Aside0 (∀ z ∈ zs,0≤z∧z < 256):=⟨fun z hz=>by have:=(hst z).1 hz;omega⟩;obtain ⟨Az,cz,ez⟩:=Kd.R_slice (ints_R hrow);have HLK:Aside0 (∀ W,Below w3.heap.size w3 W→(Instr.lookup 95 (.map (some (bs 2))) (.int .i64 fv_) false).run Tryz.prog W=.ok (.slice Az zs.length cz) W) :=
          ⟨fun W hB=>by
           have hm:=HT3.out.maps 2 (by omega);have:=(hm.at_ (hB.block (bs 2) hm.lt)).look mt hfw;rw [ez] at this;exact this⟩
         have hgv:goesB I.f0=false:=(by rw [h24];decide);have HBB:=Aside0.mk (fun y=>isB_back (p:=p) (k:=(k:Int)) (by omega) (by omega) (hop.trans h24) (fun z=>(hst z).trans (by rw [hfv])) y);have HEZ:=Lib.hid ez;have HZS:=Lib.hid hzs;have HFV:=Lib.hid hfv;clear h21 h22 h23 h24 hop him hrow hst hnd ez hzs hfv hfp
         go_upto_region 23 with (fail)
         clear d0 d4;refine z27 (n:=13) (S:=fun w'=>w'.cell? ⟨w.heap.size,0,none⟩=some (.pointer (some ⟨g,0,none⟩))∧w'.cell? ⟨g,11,none⟩=some (.map (some (bs 2)))∧w'.cell? ⟨g,0,none⟩=some (.int .i64 p.f0)∧w'.cell? ⟨g,1,none⟩=some (.int .i64 p.f1)∧w'.cell? ⟨g,2,none⟩=some (.int .i64 p.f2)∧w'.cell? ⟨g,3,none⟩=some (.slice Ad p.f3.length cd)∧w'.cell? ⟨g,4,none⟩=some (.slice Af p.f4.length cf)∧w'.cell? ⟨g,5,none⟩=some (.slice (some ad) p.f5.length cc)∧(Instr.lookup 95 (.map (some (bs 2))) (.int .i64 fv_) false).run Tryz.prog w'=.ok (.slice Az zs.length cz) w') (ds:=[10]) #[zf,zf,zf,zf,zf,zf,zf,zf,zf,zf,zf,zf,zf] (by kernel_rfl) rfl rfl ⟨cell_of_one HW3.out.box,(z01 HW3.out.cells 11).trans rfl,(z01 HW3.out.cells 0).trans rfl,(z01 HW3.out.cells 1).trans rfl,(z01 HW3.out.cells 2).trans rfl,(z01 HW3.out.cells 3).trans rfl,(z01 HW3.out.cells 4).trans rfl,(z01 HW3.out.cells 5).trans rfl,HLK.out _ (z12 (Below.refl _ _))⟩ (fun hHeld=>?_);refine pure_ (i:=8) (N:=some 112) (v:=?_) (a':=?_) #[zf,zf,zf,zf,zf,zf,zf,zf,zt,zf,zf,zf,zf] rfl rfl (by kernel_rfl) (fun _ _ _ h=>h) (Or.inl ⟨by rfl,?_⟩) ?_ ?_;rotate_left
         ·intro w';go_simp;with_reducible rfl
         rotate_left
         ·simp only [Act.put,zq1,zq2,zq3,i64_w,i32_w];rfl
         refine pure_ (i:=12) (N:=some 116) (v:=?_) (a':=?_) #[zf,zf,zf,zf,zf,zf,zf,zf,zt,zf,zf,zf,zt] rfl rfl (by kernel_rfl) (fun _ _ _ h=>h) (Or.inl ⟨by rfl,?_⟩) ?_ ?_;rotate_left
         ·intro w';go_simp;with_reducible rfl
         rotate_left
         ·simp only [Act.put,zq1,zq2,zq3,i64_w,i32_w];rfl
         refine take_ (i:=0) (N:=some 104) (v:=?_) (a':=?_) #[zt,zf,zf,zf,zf,zf,zf,zf,zt,zf,zf,zf,zt] rfl rfl (by kernel_rfl) (fun _ _ _ h=>h) (Or.inl ⟨by rfl,?_⟩) hHeld ?_ ?_;rotate_left
         ·rintro w' ⟨s0,s1,s2,s3,s4,s5,s6,s7,s8⟩;go_simp;with_reducible rfl
         rotate_left
         ·simp only [Act.put,zq1,zq2,zq3,i64_w,i32_w];rfl
         refine pure_ (i:=1) (N:=some 105) (v:=?_) (a':=?_) #[zt,zt,zf,zf,zf,zf,zf,zf,zt,zf,zf,zf,zt] rfl rfl (by kernel_rfl) (fun _ _ _ h=>h) (Or.inl ⟨by rfl,?_⟩) ?_ ?_;rotate_left
         ·intro w';go_simp;with_reducible rfl
         rotate_left
         ·simp only [Act.put,zq1,zq2,zq3,i64_w,i32_w];rfl
         refine pure_ (i:=2) (N:=some 106) (v:=?_) (a':=?_) #[zt,zt,zt,zf,zf,zf,zf,zf,zt,zf,zf,zf,zt] rfl rfl (by kernel_rfl) (fun _ _ _ h=>h) (Or.inl ⟨by rfl,?_⟩) ?_ ?_;rotate_left
         ·intro w';go_simp;with_reducible rfl
         rotate_left
         ·simp only [Act.put,zq1,zq2,zq3,i64_w,i32_w];rfl
         refine take_ (i:=3) (N:=some 107) (v:=?_) (a':=?_) #[zt,zt,zt,zt,zf,zf,zf,zf,zt,zf,zf,zf,zt] rfl rfl (by kernel_rfl) (fun _ _ _ h=>h) (Or.inl ⟨by rfl,?_⟩) hHeld ?_ ?_;rotate_left
         ·rintro w' ⟨s0,s1,s2,s3,s4,s5,s6,s7,s8⟩;go_simp;with_reducible rfl
         rotate_left
         ·simp only [Act.put,zq1,zq2,zq3,i64_w,i32_w];rfl
         refine take_ (i:=4) (N:=some 108) (v:=?_) (a':=?_) #[zt,zt,zt,zt,zt,zf,zf,zf,zt,zf,zf,zf,zt] rfl rfl (by kernel_rfl) (fun _ _ _ h=>h) (Or.inl ⟨by rfl,?_⟩) hHeld ?_ ?_;rotate_left
         ·rintro w' ⟨s0,s1,s2,s3,s4,s5,s6,s7,s8⟩;go_simp;with_reducible rfl
         rotate_left
         ·simp only [Act.put,zq1,zq2,zq3,i64_w,i32_w];rfl
         refine pure_ (i:=5) (N:=some 109) (v:=?_) (a':=?_) #[zt,zt,zt,zt,zt,zt,zf,zf,zt,zf,zf,zf,zt] rfl rfl (by kernel_rfl) (fun _ _ _ h=>h) (Or.inl ⟨by rfl,?_⟩) ?_ ?_;rotate_left
         ·intro w';go_simp;with_reducible rfl
         rotate_left
         ·simp only [Act.put,zq1,zq2,zq3,i64_w,i32_w];rfl
         refine pure_ (i:=6) (N:=some 110) (v:=?_) (a':=?_) #[zt,zt,zt,zt,zt,zt,zt,zf,zt,zf,zf,zf,zt] rfl rfl (by kernel_rfl) (fun _ _ _ h=>h) (Or.inl ⟨by rfl,?_⟩) ?_ ?_;rotate_left
         ·intro w';go_simp;with_reducible rfl
         rotate_left
         ·simp only [Act.put,zq1,zq2,zq3,i64_w,i32_w];rfl
         refine take_ (i:=7) (N:=some 111) (v:=?_) (a':=?_) #[zt,zt,zt,zt,zt,zt,zt,zt,zt,zf,zf,zf,zt] rfl rfl (by kernel_rfl) (fun _ _ _ h=>h) (Or.inl ⟨by rfl,?_⟩) hHeld ?_ ?_;rotate_left
         ·rintro w' ⟨s0,s1,s2,s3,s4,s5,s6,s7,s8⟩;go_simp;with_reducible rfl
         rotate_left
         ·simp only [Act.put,zq1,zq2,zq3,i64_w,i32_w];rfl
         refine one_ (i:=9) (N:=some 113) #[zt,zt,zt,zt,zt,zt,zt,zt,zt,zt,zf,zf,zt] rfl rfl (by kernel_rfl) (by decide) (fun K hK=>?_);refine goes_ Tryz.func77 (by kernel_rfl) rfl #[.agg #[.int .i64 p.f0,.int .i64 p.f1,.int .i64 p.f2,.slice Ad p.f3.length cd,.slice Af p.f4.length cf,.slice (some ad) p.f5.length cc],.int .i64 k] (by rfl) rfl rfl (by simp only [List.map_toArray,List.map_cons,List.map_nil];rfl) ?_;refine (HFUN.out _ (HW3.out.below (z12 (Below.refl _ _)))).mono ?_;rintro e w4 ⟨rfl,hb4⟩;refine ⟨_,rfl,?_⟩;have HB4:=Aside0.mk (z0x (z12 (Below.refl w3.heap.size w3)) (Nat.le_refl _) hb4);have HW4:=Aside0.mk (HW3.out.below HB4.out);clear hb4;refine hK.out _ _ ⟨cell_of_one HW4.out.box,(z01 HW4.out.cells 11).trans rfl,(z01 HW4.out.cells 0).trans rfl,(z01 HW4.out.cells 1).trans rfl,(z01 HW4.out.cells 2).trans rfl,(z01 HW4.out.cells 3).trans rfl,(z01 HW4.out.cells 4).trans rfl,(z01 HW4.out.cells 5).trans rfl,HLK.out _ HB4.out⟩ (fun hHeld=>?_);clear hK K;refine norm_ (a':=?_) ?_ ?_;rotate_left
         ·show Act.put _ (some 113) _=_;simp only [Act.put,zq1,zq2,zq3,i64_w,i32_w];rfl
         refine last_ (i:=10) (N:=some 114) #[zt,zt,zt,zt,zt,zt,zt,zt,zt,zt,zt,zf,zt] rfl rfl (by kernel_rfl) (by decide) (fun K hK=>?_);refine z1c (w1:=?_) (v:=?_) (by rfl) rfl ?_ ?_;rotate_left 2
         ·go_simp;constructor
          ·rfl
          ·rfl
         refine hK.out _ _ ?_;clear hK K;refine norm_ (a':=?_) ?_ ?_;rotate_left
         ·show Act.put _ (some 114) _=_;simp only [Act.put,zq1,zq2,zq3,i64_w,i32_w];rfl
         refine pure_ (i:=11) (N:=some 115) (v:=?_) (a':=?_) #[zt,zt,zt,zt,zt,zt,zt,zt,zt,zt,zt,zt,zt] rfl rfl (by kernel_rfl) (fun _ _ _ h=>h) (Or.inl ⟨by rfl,?_⟩) ?_ ?_;rotate_left
         ·intro w';go_simp;with_reducible rfl
         rotate_left
         ·simp only [Act.put,zq1,zq2,zq3,i64_w,i32_w];rfl
         refine done_ (by kernel_rfl) ?_;have BI4:=Aside0.mk ((HB4.out.block bi (z0s BI3.out)).trans BI3.out);have HT4:=Aside0.mk (HT3.out.fr (Fr.of_below HB4.out) (fun i h1 hin=>by have:=(HT3.out.in_lt hin).2.1;omega));have HOa:Aside0 (TabOk G (E2 p k ((zs.take 0).map (·+1)))):=⟨HO.out⟩;clear HLK HFUN;go_wp2
         go_loopw [116] (fun v116 wi=>∃ (j m:Nat) (V':Nat→Int→Value) (G':Nat→Int→List Int),v116=.int .i64 j∧Aside0 (j≤zs.length)∧Aside0 (m≤n+2 * j)∧Aside0 (MkW w g B0 p (.slice Ad p.f3.length cd) (.slice Af p.f4.length cf) (.slice (some ad) p.f5.length cc) bs wi)∧Aside0 (Tab Tryz.prog 3 wi (w.heap.size+1) bs m V' G')∧Aside0 (TabOk G' (E2 p k ((zs.take j).map (·+1))))∧Aside0 (wi.heap[bi]?=some (.cells #[.int .i64 I.f0,.int .i64 I.f1,.int .i64 I.f2,.int .i64 I.f3,.int .u64 I.f4] 79 (0,0)))∧Aside0 (V' 2 fv_=.slice Az zs.length cz)∧Aside0 (G' 2 fv_=zs))
          (fun i _=>zs.length - (intOf i).toNat)
         case atStart=>exact ⟨0,n,V,G,rfl,⟨Nat.zero_le _⟩,⟨by omega⟩,HW4,HT4,HOa,BI4,⟨HEZ.out⟩,⟨HZS.out⟩⟩
         case round =>
          clear HW4 HT4 HOa BI4 HB4 HW3 BI3 HT3 HSZ;obtain ⟨j,m,V',G',rfl,hj,hm,hWi,hTi,hOi,hBi,hVi,hGi⟩:=hrel;have hj:=hj.out
          by_cases hjl:j < zs.length
          ·obtain ⟨wv,rfl⟩:∃ wv:World,wv=wr:=⟨_,rfl⟩;have hjd:decide ((j:Int) < (zs.length:Int))=true:=decide_eq_true (by omega);have hrow:=hTi.out.rows 2 fv_ (by omega) hfw;rw [hVi.out,hGi.out] at hrow;obtain ⟨az,eaz,hxz⟩:=Kd.at_int (Kd.R_reads' (ints_R hrow)).2.2 (j:Int) (by omega) (by omega);rw [Int.toNat_natCast] at hxz;cases eaz;have hzj:rd zs (j:Int)=zs[j]'hjl:=(by unfold rd;simp [List.getD_eq_getElem?_getD,List.getElem?_eq_getElem hjl]);rw [hzj] at hxz;have hzb:=HZB.out _ (List.getElem_mem hjl);obtain ⟨z,hz⟩:∃ z,zs[j]'hjl=z:=⟨_,rfl⟩;rw [hz] at hxz hzb;have HZ:=Lib.hid hz;have hwz:IntKind.i64.wrap (z+1)=z+1:=IntWalk.i64_in _ (by omega);have hp2:(0≤(j:Int))=True:=eq_true (by omega);have hp3:((j:Int) < (zs.length:Int))=True:=eq_true (by omega);clear hrow hzj hz
           go_wp2_with fail
           refine (HEDGE.out _ k (z+1) _ _ _ hWi.out hTi.out hkw (Gr.wfI_of (by omega)) (by have:=hn.out;have:=hm.out;omega)).mono ?_;rintro e w6 ⟨rfl,⟨V6,hT_,hV_⟩,hf_,hk_⟩;have HW6:=Aside0.mk (hWi.out.step hf_);have BI6:=Aside0.mk (hk_ bi _ _ _ hBi.out (by decide));have HT6:=Aside0.mk hT_;have HO6:=Aside0.mk (E2_edge hOi.out (z+1));have HV6:=Aside0.mk ((hV_ 2 fv_ (by omega)).trans hVi.out);clear hT_ hV_ hf_ hk_ hxz;go_wp2
           go_roundw
           case rel =>
            refine ⟨j+1,m+2,_,_,by go_num,⟨by omega⟩,⟨by have:=hm.out;omega⟩,HW6,HT6,⟨?_⟩,BI6,HV6,⟨?_⟩⟩
            ·have:=HO6.out;rw [List.take_succ_eq_append_getElem hjl,List.map_append,List.map_cons,List.map_nil,HZ.out];exact this
            ·show edgeG G' k (z+1) 2 fv_=zs;unfold edgeG putG;rw [z29 _ _ (.inl (by decide)),z29 _ _ (.inl (by decide))];exact hGi.out
           case measure=>simp [intOf];omega
          ·have hjd:decide ((j:Int) < (zs.length:Int))=false:=decide_eq_false (by omega);have d0:=z01 hBi.out 0;have HOw4:Aside0 (TabOk G' (E2 p k (zs.map (·+1)))):=⟨by
            have:=hOi.out;rw [List.take_of_length_le (by omega)] at this;exact this⟩
           have hml:m≤n+2 * 256:=(by have:=hm.out;omega);have HGC:=Lib.hid (z2f.calls I.f0 false wr ((goes_f I.f0).trans (congrArg some hgv)))
           go_wp2_with (go_at_call 107;refine HGC.out.mono ?_;rintro e w' ⟨rfl,nd,rfl⟩)
           have HX:=Aside0.mk (hWi.out.below (z2a (Below.refl _ _) nd));have HY:=Aside0.mk (hTi.out.drewN nd)
           go_roundw
           case rel=>exact ⟨k+1,_,_,_,by go_num,⟨by omega⟩,⟨by have:=hn.out;show m≤300+600 * (k+1);omega⟩,HX,HY,⟨E2_next HOw4.out (by omega) (HBB.out)⟩⟩
           case measure=>simp [intOf];omega
        ·have hz24:(I.f0 == 24)=false:=(by simpa using h24);cases hgv:goesB I.f0 with
         | false =>
          have HBB:=Aside0.mk (fun y=>isB_ends (p:=p) (k:=(k:Int)) (by rw [hop];exact hgv) (by rw [hop];exact h21) (by rw [hop];exact h22) (by rw [hop];exact h23) (by rw [hop];exact h24) y);have HOw4:=HO;clear h21 h22 h23 h24 hop him;have HGC:=Lib.hid (z2f.calls I.f0 false w3 ((goes_f I.f0).trans (congrArg some hgv)))
          go_wp2_with (go_at_call 107;refine HGC.out.mono ?_;rintro e w' ⟨rfl,nd,rfl⟩)
          have HX:=Aside0.mk (HW3.out.below (z2a (Below.refl _ _) nd));have HY:=Aside0.mk (HT3.out.drewN nd)
          go_roundw
          case rel=>exact ⟨k+1,_,_,_,by go_num,⟨by omega⟩,⟨by have:=hn.out;show n≤300+600 * (k+1);omega⟩,HX,HY,⟨E2_next HOw4.out (by omega) (HBB.out)⟩⟩
          case measure=>simp [intOf];omega
         | true =>
          have hne:(I.f0 != 23)=true:=(by simpa using h23);have HBB:=Aside0.mk (fun y=>isB_goes (p:=p) (k:=(k:Int)) (by omega) (by omega) (by rw [hop];exact hgv) (by rw [hop];exact h21) (by rw [hop];exact h22) (by rw [hop];exact h23) (by rw [hop];exact h24) y);have HOw4:=HO;have HWw4:=HW3;have HTw4:=HT3;have BIw4:=BI3;clear h21 h22 h23 h24 hop him;have HGC:=Lib.hid (z2f.calls I.f0 true w3 ((goes_f I.f0).trans (congrArg some hgv)))
          go_wp2_with (go_at_call 107;refine HGC.out.mono ?_;rintro e w' ⟨rfl,nd,rfl⟩)
          have HX4:=Aside0.mk (HWw4.out.below (z2a (Below.refl _ _) nd));have HY4:=Aside0.mk (HTw4.out.drewN nd);have BX4:Aside0 ((w3.drewN nd).heap[bi]?=_):=⟨BIw4.out⟩;have HOS:=HO;clear HO;have HO:=HOw4;refine (HEDGE.out _ k ((k:Int)+1) _ _ _ HX4.out HY4.out hkw (Gr.wfI_of (by omega)) (by have:=hn.out;omega)).mono ?_;rintro e w5 ⟨rfl,⟨Vw5,hT_,hV_⟩,hf_,hk_⟩;have HWw5:=Aside0.mk (HX4.out.step hf_);have BIw5:=Aside0.mk (hk_ bi _ _ _ BX4.out (by decide));have HTw5:=Aside0.mk hT_;have HOw5:=Aside0.mk (E2_edge HO.out ((k:Int)+1));have d0:=z01 BIw5.out 0;clear hT_ hV_ hf_ hk_;go_wp2;have HX:=HWw5;have HY:=HTw5
          go_roundw
          case rel=>exact ⟨k+1,_,_,_,by go_num,⟨by omega⟩,⟨by have:=hn.out;show n+2≤300+600 * (k+1);omega⟩,HX,HY,⟨E2_next HOw5.out (by omega) (HBB.out)⟩⟩
          case measure=>simp [intOf];omega
    ·have ek:k=p.f5.length:=(by omega);subst ek;have hkd:decide ((p.f5.length:Int) < (p.f5.length:Int))=false:=decide_eq_false (by omega);go_wp2;show Leaves _ _ _ _ _ _ _;refine leaves_cons (f:=113) (args:=#[.pointer (some ⟨g,0,none⟩)]) (by simp) (by simp [go_sem]) ?_;refine (sort_calls hW.out.cells (by omega) hT.out (by have:=hn.out;omega) hW.out.size).mono ?_;rintro e u' w'' ⟨rfl,rfl,hTs,hFs⟩;simp only [Leaves,settle,results,Tryz.results88];refine ⟨.tuple #[],by simp,rfl,bs,n,V,hTs.ext fun t x ht hx=>srtG_eq HO.out ht hx,by have:=hn.out;omega,hW.out.step hFs⟩
theorem race_disable (w:World):(callFunc 176 #[]).run Tryz.prog w=.ok (.value (.tuple #[])) w:=run_call_mark0 Tryz.func176 (by kernel_rfl) (by kernel_rfl) (by kernel_rfl) .disable (by kernel_rfl) w
theorem race_enable (w:World):(callFunc 178 #[]).run Tryz.prog w=.ok (.value (.tuple #[])) w:=run_call_mark0 Tryz.func178 (by kernel_rfl) (by kernel_rfl) (by kernel_rfl) .enable (by kernel_rfl) w
theorem race_acquire (a:Addr) (w:World):(callFunc 179 #[.pointer (some a)]).run Tryz.prog w=.ok (.value (.tuple #[])) w:=run_call_marked Tryz.func179 (by kernel_rfl) (by kernel_rfl) (by kernel_rfl) .acquire (by kernel_rfl) a w
theorem race_merge (a:Addr) (w:World):(callFunc 181 #[.pointer (some a)]).run Tryz.prog w=.ok (.value (.tuple #[])) w:=run_call_marked Tryz.func181 (by kernel_rfl) (by kernel_rfl) (by kernel_rfl) .releaseMerge (by kernel_rfl) a w
theorem store_deferred (a:Addr) (x:Value) (u:FrameMode) (w:World) (hc:w.cell? a=some x) (hz:w.frozen? a=false) :
  CallsD Tryz.prog 147 #[.pointer (some a),.bool true] u w fun e u' w'=>u'=u∧(e=.returned (.tuple #[])∧w'=w.drew.setCell a (.int .u32 1)):=by
 have hc':w.drew.cell? a=some x:=by go_simp
 have hz':w.drew.frozen? a=false:=by go_simp
 have hst:=run_call_store (P:=Tryz.prog) Tryz.func162 (by kernel_rfl) (by kernel_rfl) (by kernel_rfl) (by kernel_rfl) (k:=.u32) (y:=1) hc' hz'
 go_enter_d Tryz.func147,Tryz.ntmps147
 go_wp2
 go_region_calls
 all_goals (go_end0;exact ⟨rfl,rfl⟩)
set_option maxHeartbeats 1600000 in
theorem unlock_deferred (a:Addr) (u:FrameMode) (w:World) (hc:w.cell? a=some (.int .i32 1)) (hz:w.frozen? a=false) :
  CallsD Tryz.prog 146 #[.pointer (some a)] u w fun e u' w'=>u'=u∧(e=.returned (.tuple #[])∧w'=w.setCell a (.int .i32 0)):=by
 have hd:=race_disable;have he:=race_enable;have hr:=race_merge;have hadd:=run_call_add (P:=Tryz.prog) Tryz.func182 (by kernel_rfl) (by kernel_rfl) (by kernel_rfl) .i32 (by kernel_rfl) (y:=-1) (s:=0) hc hz (by simp [go_sem];rfl);have hcv:=run_convert_to_unsafe (P:=Tryz.prog) (src:=201) (dst:=205) Tryz.underlying201 Tryz.underlying205 (by kernel_rfl) hc
 go_enter_d Tryz.func146,Tryz.ntmps146
 go_wp2;go_end0
 go_wp2;go_end0
 exact ⟨rfl,rfl⟩
set_option maxHeartbeats 1600000 in
theorem lock_free (a:Addr) (w:World) (hc:w.cell? a=some (.int .i32 0)) (hz:w.frozen? a=false) :
  Calls Tryz.prog 145 #[.pointer (some a)] w fun e w'=>e=.returned (.tuple #[])∧w'=w.setCell a (.int .i32 1):=by
 have hd:=race_disable;have he:=race_enable;have ha:=race_acquire;have hcas:=run_call_cas_hit (P:=Tryz.prog) Tryz.func177 (by kernel_rfl) (by kernel_rfl) (by kernel_rfl) .i32 (by kernel_rfl) (y:=1) hc hz;have hc':(w.setCell a (.int .i32 1)).cell? a=some (.int .i32 1):=World.cell?_setCell_same w a _ hc;have hcv:=run_convert_to_unsafe (P:=Tryz.prog) (src:=201) (dst:=205) Tryz.underlying201 Tryz.underlying205 (by kernel_rfl) hc'
 go_enter Tryz.func145,Tryz.ntmps145
 go_wp2;first|go_end0|(simp only [Exit.inBlock,Exit.then];refine bodyPost_ret (results_none rfl _ _ _) rfl ?_)|refine bodyPost_ret (results_none rfl _ _ _) rfl ?_
 go_wp2;go_end0
 exact ⟨rfl,rfl⟩
theorem load_calls (a:Addr) (d:Int) (b:Bool) (w:World) (h0:w.cell? a=some (.int .u32 d)) (hd:(d != 0)=b) :
  Calls Tryz.prog 111 #[.pointer (some a)] w fun e w'=>e=.returned (.bool b)∧w'=w:=by
 subst hd;have hl:=run_call_load (P:=Tryz.prog) Tryz.func144 (by kernel_rfl) (by kernel_rfl) (by kernel_rfl) .u32 (by kernel_rfl) h0
 go_enter Tryz.func111,Tryz.ntmps111
 go_wp2;go_ret
 exact ⟨rfl,rfl⟩
theorem set_size (w:World) (a:Addr) (v:Value):(w.setCell a v).heap.size=w.heap.size:=by simp [World.setCell]
theorem grCells_done (p:Im) (dv fv cv:Value) (done st:Int) (m:Nat→Value) (x:Int):(z1m p dv fv cv done st m).setIfInBounds 6 (.int .u32 x)=z1m p dv fv cv x st m:=rfl
theorem grCells_state (p:Im) (dv fv cv:Value) (done st:Int) (m:Nat→Value) (x:Int):(z1m p dv fv cv done st m).setIfInBounds 7 (.int .i32 x)=z1m p dv fv cv done x m:=rfl
def GrM (w:World) (g B:Nat) (p:Im):Prop:=B≤g∧∃ dv fv cv bs n V,GrP w B p dv fv cv∧w.heap[g]?=some (.cells (z1m p dv fv cv 1 0 (fun t=>.map (some (bs t)))) 97 (0,0))∧Tab Tryz.prog 3 w B bs n V (rowsG p)∧n < 1000000
theorem GrM.gr {w:World} {g B:Nat} {p:Im} (h:GrM w g B p):Gr w g B p:=by
 obtain ⟨h0,dv,fv,cv,bs,n,V,h1,h2,h3,h4⟩:=h;exact ⟨h0,dv,fv,cv,h1,.inr ⟨bs,n,V,h2,h3,h4⟩⟩
theorem Gr.tabLower {w:World} {B B' n:Nat} {bs:Nat→Nat} {V:Nat→Int→Value} {G:Nat→Int→List Int} (ht:Tab Tryz.prog 3 w B bs n V G) (hB:B'≤B):Tab Tryz.prog 3 w B' bs n V G :=
 ⟨ht.maps,ht.inj,fun t h1=>Nat.le_trans hB (ht.lo t h1),fun t x h1 h2=>by
  have h3:=ht.rows t x h1 h2;exact ⟨⟨h3.1.1,by
   rcases h3.1.2 with h4|⟨a,b,c,e1,e2,r⟩
   ·exact .inl h4
   ·exact .inr ⟨a,b,c,e1,Nat.le_trans hB e2,r⟩⟩,h3.2⟩,ht.apart,ht.len⟩
def GrY (w:World) (g B:Nat) (p:Im) (Y:Nat→Prop):Prop:=B≤g∧∃ dv fv cv,GrP w B p dv fv cv∧(∀ k,dv.ownBlock=some k∨fv.ownBlock=some k∨cv.ownBlock=some k→Y k) ∧
 (w.heap[g]?=some (.cells (z1m p dv fv cv 0 0 (fun _=>.map none)) 97 (0,0)) ∨
  ∃ bs n V,w.heap[g]?=some (.cells (z1m p dv fv cv 1 0 (fun t=>.map (some (bs t)))) 97 (0,0))∧Tab Tryz.prog 3 w B bs n V (rowsG p)∧n < 1000000∧∀ i,Tab.In bs V i→Y i)
section
variable {w w1:World} {g B:Nat} {p:Im} {Y Y':Nat→Prop}
theorem GrY.gr (h:GrY w g B p Y):Gr w g B p:=by
 obtain ⟨h0,dv,fv,cv,h1,_,h2|⟨bs,n,V,h2,h3,h4,_⟩⟩:=h
 ·exact ⟨h0,dv,fv,cv,h1,.inl h2⟩
 ·exact ⟨h0,dv,fv,cv,h1,.inr ⟨bs,n,V,h2,h3,h4⟩⟩
theorem GrY.of_gr (h:Gr w g B p):GrY w g B p (fun i=>i < w.heap.size):=by
 obtain ⟨h0,dv,fv,cv,h1,h2⟩:=h;have hg:∃ c,w.heap[g]?=some (.cells c 97 (0,0)):=by
  rcases h2 with h2|⟨bs,n,V,h2,_⟩
  ·exact ⟨_,h2⟩
  ·exact ⟨_,h2⟩
 obtain ⟨c,hc⟩:=hg;refine ⟨h0,dv,fv,cv,h1,fun k hk=>(h1.ne hc hk).1,?_⟩
 rcases h2 with h2|⟨bs,n,V,h2,h3,h4⟩
 ·exact .inl h2
 ·exact .inr ⟨bs,n,V,h2,h3,h4,fun i hi=>(h3.in_lt hi).2.1⟩
theorem GrY.mono (h:GrY w g B p Y) (hY:∀ i,Y i→Y' i):GrY w g B p Y':=by
 obtain ⟨h0,dv,fv,cv,h1,h2,h3|⟨bs,n,V,h3,h4,h5,h6⟩⟩:=h
 ·exact ⟨h0,dv,fv,cv,h1,fun k hk=>hY k (h2 k hk),.inl h3⟩
 ·exact ⟨h0,dv,fv,cv,h1,fun k hk=>hY k (h2 k hk),.inr ⟨bs,n,V,h3,h4,h5,fun i hi=>hY i (h6 i hi)⟩⟩
theorem GrY.keep (h:GrY w g B p Y) (hk:∀ i,i < w.heap.size→i=g∨Y i→w1.heap[i]?=w.heap[i]?):GrY w1 g B p Y:=by
 obtain ⟨h0,dv,fv,cv,h1,h2,h3⟩:=h;have hg:∃ c,w.heap[g]?=some (.cells c 97 (0,0)):=by
  rcases h3 with h3|⟨bs,n,V,h3,_⟩
  ·exact ⟨_,h3⟩
  ·exact ⟨_,h3⟩
 obtain ⟨c,hc⟩:=hg;have hgg:=hk g (z0s hc) (.inl rfl);refine ⟨h0,dv,fv,cv,h1.keep fun k hk2=>hk k (h1.ne hc hk2).1 (.inr (h2 k hk2)),h2,?_⟩
 rcases h3 with h3|⟨bs,n,V,h3,h4,h5,h6⟩
 ·exact .inl (hgg.trans h3)
 ·exact .inr ⟨bs,n,V,hgg.trans h3,h4.keep fun i hi=>hk i (h4.in_lt hi).2.1 (.inr (h6 i hi)),h5,h6⟩
theorem GrY.below (h:GrY w g B p Y) (hb:Below w.heap.size w w1):GrY w1 g B p Y:=h.keep fun i hi _=>hb.block i hi
theorem GrY.unmade {dv fv cv:Value} (h:GrY w g B p Y) (hh:w.heap[g]?=some (.cells (z1m p dv fv cv 0 0 (fun _=>.map none)) 97 (0,0))):∀ k,dv.ownBlock=some k∨fv.ownBlock=some k∨cv.ownBlock=some k→Y k:=by
 obtain ⟨h0,dv',fv',cv',h1,h2,h3|⟨bs,n,V,h3,_⟩⟩:=h
 ·rw [hh] at h3;simp only [z1m,Option.some.injEq,Obj.cells.injEq,Array.mk.injEq,List.cons.injEq,and_true,true_and] at h3;obtain ⟨rfl,rfl,rfl⟩:=h3;exact h2
 ·rw [hh] at h3;simp [z1m] at h3
end
set_option maxHeartbeats 4000000 in
theorem slow_calls {w:World} {g B:Nat} {p:Im} {dv fv cv:Value} (hp:Rt p) (hB:B≤g)
  (hg:w.heap[g]?=some (.cells (z1m p dv fv cv 0 0 (fun _=>.map none)) 97 (0,0))) (hgp:GrP w B p dv fv cv) :
  Calls Tryz.prog 112 #[.pointer (some ⟨g,6,none⟩),.func (.func 88) #[.pointer (some ⟨g,0,none⟩)] #[]] w fun e w'=>e=.returned (.tuple #[])∧GrM w' g B p∧Fr w w' (fun i=>i=g)∧∀ Y:Nat→Prop,(∀ k,dv.ownBlock=some k∨fv.ownBlock=some k∨cv.ownBlock=some k→Y k)→GrY w' g B p (fun i=>Y i∨w.heap.size≤i):=by
 have h7:w.cell? ⟨g,7,none⟩=some (.int .i32 0):=(z01 hg 7).trans rfl;have f7:w.frozen? ⟨g,7,none⟩=false:=z02 hg 7;have hg1:=z1d hg 7 (.int .i32 1);rw [grCells_state] at hg1;have hgp1:GrP (w.setCell ⟨g,7,none⟩ (.int .i32 1)) B p dv fv cv:=hgp.keep fun k hk=>Below.heap_setCell w ⟨g,7,none⟩ _ k (hgp.ne hg hk).2
 have hf1:Fr w (w.setCell ⟨g,7,none⟩ (.int .i32 1)) (fun i=>i=g):=⟨rfl,rfl,rfl,by simp [World.setCell],fun i _ hi=>Below.heap_setCell w ⟨g,7,none⟩ _ i hi⟩;have HMK:=Aside0.mk (make_calls hp hg1 hgp1);have HF1:=Aside0.mk hf1;have h6:(w.setCell ⟨g,7,none⟩ (.int .i32 1)).cell? ⟨g,6,none⟩=some (.int .u32 0):=(z01 hg1 6).trans rfl;have hlt:=z0s hg;clear hg hgp hg1 hgp1 hf1
 go_enter_defers Tryz.func112,Tryz.ntmps112
 go_wp2_with (first|(go_at_call 111;refine (load_calls _ 0 false _ h6 rfl).mono ?_;rintro e w' ⟨rfl,rfl⟩)|(go_at_call 145;refine (lock_free ⟨g,7,none⟩ _ h7 f7).mono ?_;rintro e w' ⟨rfl,rfl⟩)|(go_at_call 88;refine HMK.out.mono ?_;rintro e w2 ⟨rfl,bs,n,V,hT,hn,hW⟩))
 have hcells:=hW.cells;have hfr:=hW.fr;have hgrp:=hW.grp;have hne:∀ k,dv.ownBlock=some k∨fv.ownBlock=some k∨cv.ownBlock=some k→k≠g:=fun k hk=>(hgrp.ne hcells hk).2
 have hT1:Tab Tryz.prog 3 w2 (w.heap.size+1) bs n V (rowsG p):=by
  have:(w.setCell ⟨g,7,none⟩ (.int .i32 1)).heap.size=w.heap.size:=by simp [World.setCell]
  rw [← this];exact hT
 have hnin:¬ Tab.In bs V g:=fun hi=>by have:=(hT1.in_lt hi).1;omega
 have d6:w2.cell? ⟨g,6,none⟩=some (.int .u32 0):=(z01 hcells 6).trans rfl;have z6:w2.frozen? ⟨g,6,none⟩=false:=z02 hcells 6;have hs6:(w2.drew.setCell ⟨g,6,none⟩ (.int .u32 1)).heap[g]?=_:=z1d (w:=w2.drew) hcells 6 (.int .u32 1);rw [grCells_done] at hs6;have hs7:=z1d hs6 7 (.int .i32 0);rw [grCells_state] at hs7;show Leaves _ _ _ _ _ _ _;refine leaves_cons (f:=147) (args:=#[.pointer (some ⟨g,6,none⟩),.bool true]) (by simp) (by simp [go_sem]) ?_;refine (store_deferred ⟨g,6,none⟩ (.int .u32 0) .returning _ d6 z6).mono ?_;rintro e u' w'' ⟨rfl,rfl,rfl⟩;refine leaves_cons (f:=146) (args:=#[.pointer (some ⟨g,7,none⟩)]) (by simp [settle]) (by simp [go_sem]) ?_;refine (unlock_deferred ⟨g,7,none⟩ _ _ ((z01 hs6 7).trans rfl) (z02 hs6 7)).mono ?_;rintro e u' w'' ⟨rfl,rfl,rfl⟩;have hk:∀ i,i≠g→((w2.drew.setCell ⟨g,6,none⟩ (.int .u32 1)).setCell ⟨g,7,none⟩ (.int .i32 0)).heap[i]?=w2.heap[i]?:=fun i hi =>
  (Below.heap_setCell _ ⟨g,7,none⟩ _ i hi).trans (Below.heap_setCell w2.drew ⟨g,6,none⟩ _ i hi)
 simp only [Leaves,settle,results,Tryz.results112];have hgrp3:=hgrp.keep fun k hk2=>hk k (hne k hk2)
 have ht3:Tab Tryz.prog 3 _ B bs n V (rowsG p):=Gr.tabLower (hT1.keep fun i hi=>hk i fun e=>hnin (e ▸ hi)) (by omega);refine ⟨.tuple #[],by simp,rfl,⟨hB,dv,fv,cv,bs,n,V,hgrp3,hs7,ht3,hn⟩,?_,fun Y hY=>⟨hB,dv,fv,cv,hgrp3,fun k hk2=>.inl (hY k hk2),.inr ⟨bs,n,V,hs7,ht3,hn,fun i hi=>.inr (by have:=(hT1.in_lt hi).1;omega)⟩⟩⟩;have hsz:(w.setCell ⟨g,7,none⟩ (.int .i32 1)).heap.size=w.heap.size:=by simp [World.setCell]
 refine (HF1.out.trans (hfr.mono fun i h1 h2=>?_)).trans ⟨rfl,rfl,rfl,by rw [set_size,set_size];exact Nat.le_refl _,fun i _ hi=>hk i hi⟩
 rcases h2 with h2|h2
 ·exact h2
 ·omega
set_option maxHeartbeats 1600000 in
theorem do_calls2 {w:World} {g B:Nat} {p:Im} (hp:Rt p) (hg:Gr w g B p) :
  Calls Tryz.prog 87 #[.pointer (some ⟨g,6,none⟩),.func (.func 88) #[.pointer (some ⟨g,0,none⟩)] #[]] w fun e w'=>e=.returned (.tuple #[])∧GrM w' g B p∧Fr w w' (fun i=>i=g)∧∀ Y,GrY w g B p Y→GrY w' g B p (fun i=>Y i∨w.heap.size≤i):=by
 have hnot:∀ (x:Bool) (w:World),(Op.unary .not (.bool x)).run Tryz.prog w=.ok (.bool (!x)) w:=fun _ _=>rfl
 obtain ⟨hB,dv,fv,cv,hgp,hh|⟨bs,n,V,hh,ht,hn⟩⟩:=hg
 ·have HS:=Aside0.mk (slow_calls hp hB hh hgp);have HYU:Aside0 (∀ Y,GrY w g B p Y→∀ k,dv.ownBlock=some k∨fv.ownBlock=some k∨cv.ownBlock=some k→Y k):=⟨fun Y hY=>hY.unmade hh⟩;have h6:w.cell? ⟨g,6,none⟩=some (.int .u32 0):=(z01 hh 6).trans rfl;clear hgp hh
  go_enter Tryz.func87,Tryz.ntmps87
  go_wp2_with (first|(go_at_call 111;refine (load_calls _ 0 false _ h6 rfl).mono ?_;rintro e w' ⟨rfl,rfl⟩)|(go_at_call 112;refine HS.out.mono ?_;rintro e w2 ⟨rfl,h1,h2,h3⟩))
  go_end0
  exact ⟨rfl,h1,h2,fun Y hY=>h3 Y (HYU.out Y hY)⟩
 ·have HG:Aside0 (GrM w g B p):=⟨⟨hB,dv,fv,cv,bs,n,V,hgp,hh,ht,hn⟩⟩;have h6:w.cell? ⟨g,6,none⟩=some (.int .u32 1):=(z01 hh 6).trans rfl;clear hgp hh ht
  go_enter Tryz.func87,Tryz.ntmps87
  go_wp2_with (go_at_call 111;refine (load_calls _ 1 true _ h6 rfl).mono ?_;rintro e w' ⟨rfl,rfl⟩)
  go_end0
  exact ⟨rfl,HG.out,Fr.refl _ _,fun Y hY=>hY.mono fun i hi=>.inl hi⟩
end Go.Proofs.YtcbnhfnnjkkceaaGreat.X
end
