/- Short names for the laws that the printed walks use most. -/
import Derived.Test.YtkliakcegihikaaGreatExA
namespace Go.Proofs.YtkliakcegihikaaGreat.Ax
theorem ct {α : Type} {b : Bool} {x y r : α} (h : b = true) (k : cond b x y = r) : x = r := cond_t h k
theorem cf {α : Type} {b : Bool} {x y r : α} (h : b = false) (k : cond b x y = r) : y = r := cond_f h k
theorem si {α : Type} {a b : α} (h : some a = some b) : a = b := Option.some.inj h
theorem bs {α β : Type} {o : Option α} {f : α → Option β} {r : β} (h : o.bind f = some r) : ∃ x, o = some x ∧ f x = some r := bind_some h
theorem aq {H : Nat → Option ABlk} {gs zs bs : List Nat} {x y : AV} (h : x = y := by (conv => lhs; whnf) <;> rfl) (hy : y.ni = true := by rfl) : ArgR H gs zs bs x y := argE h hy
end Go.Proofs.YtkliakcegihikaaGreat.Ax
