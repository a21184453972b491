/- For the statement of the row ClauseBack: what its proof needs of the text ClLaw14P. -/
import Derived.Test.YtnknoaolbjofiaaDoorKB4

set_option linter.unusedVariables false
set_option linter.unusedSimpArgs false
namespace Go.Proofs.YtnknoaolbjofiaaDoor.Cl
theorem Der.mono {l l' : List (List Int)} (h : ∀ c ∈ l, c ∈ l') {fr fr' : List Int} (hf : ∀ z ∈ fr, z ∈ fr') {x : Int} (hd : Der l fr x) : Der l' fr' x := fun S hs hS => hd S (fun z hz => hs z (hf z hz)) fun c hc => hS c (h c hc)
theorem Fails.mono {l l' : List (List Int)} (h : ∀ c ∈ l, c ∈ l') {fr fr' : List Int} (hf : ∀ z ∈ fr, z ∈ fr') (hd : Fails l fr) : Fails l' fr' := by
  rcases hd with ⟨x, h1, h2⟩ | ⟨c, hc, hy⟩
  · exact .inl ⟨x, h1.mono h hf, h2.mono h hf⟩
  · exact .inr ⟨c, h c hc, fun y hy' => (hy y hy').mono h hf⟩
/-- What follows stands among what was given, or in a clause. -/
theorem Der.stands {l : List (List Int)} {fr : List Int} {x : Int} (h : Der l fr x) : x ∈ fr ∨ ∃ c ∈ l, x ∈ c :=
  h (fun z => z ∈ fr ∨ ∃ c ∈ l, z ∈ c) (fun _ hz => .inl hz) fun c hc x hx _ => .inr ⟨c, hc, hx⟩
theorem Der.right {l : List (List Int)} {fr : List Int} (hl : lRight l = true) (hf : cRight fr = true) {x : Int} (h : Der l fr x) : litOk x = true := by
  rcases h.stands with h | ⟨c, hc, hx⟩
  · exact List.all_eq_true.1 hf x h
  · exact List.all_eq_true.1 (cRight_of hl hc) x hx
end Go.Proofs.YtnknoaolbjofiaaDoor.Cl
