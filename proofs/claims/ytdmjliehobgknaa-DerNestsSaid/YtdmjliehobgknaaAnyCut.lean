/- A region that draws its order, cut in its midst: what follows is walked once, for all worlds of which a statement holds. -/
import Derived.Test.YtdmjliehobgknaaCx
namespace Go.Proofs.Ytdmjliehobgknaa

theorem tail_cut {I T : World → Prop} {G : Prop} (h1 : (∀ W, I W → T W) → G) (h2 : ∀ W, I W → T W) : G := h1 h2
theorem tail_cut2 {I T : World → List Value → List Value → Prop} {G : Prop} (h1 : (∀ W a b, I W a b → T W a b) → G) (h2 : ∀ W a b, I W a b → T W a b) : G := h1 h2
theorem any_listed {P : Program} {md : Region.Mode} {ops : Array Oper} {Q : Exit → Act → World → Prop} {fuel : Nat} {l l' : Array Bool} {a : Act} {w : World} (e : l' = l) (h : wpAny P md ops Q fuel l' a w) : wpAny P md ops Q fuel l a w := e ▸ h
end Go.Proofs.Ytdmjliehobgknaa
