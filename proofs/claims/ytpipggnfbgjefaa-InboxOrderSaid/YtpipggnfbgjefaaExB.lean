/- Cells of simple values; further small laws for printed walks. Nothing of the dump is used here. -/
import Derived.Test.YtpipggnfbgjefaaExA
namespace Go.Proofs.Ytpipggnfbgjefaa.Ex
open Go.RowKit Go.Proofs.Ytpipggnfbgjefaa.Ax
set_option linter.unusedVariables false
set_option linter.unusedSimpArgs false

def iA (n : Int) : List AV := [.int .i64 n]
def kA (k : IntKind) (n : Int) : List AV := [.int k n]
def bA (b : Bool) : List AV := [.bool b]
theorem ixL_at {α : Type} {l : List α} {i : Int} {x : α} {m : Nat} (h : ixL l i = some x) (hm : i = m) : l[m]? = some x := by
  obtain ⟨m', h1, h2⟩ := ixL_some h
  obtain rfl : m = m' := by omega
  exact h2
theorem st_q {α : Type} {enc : α → List AV} {l : List α} {i : Int} {m : Nat} {x x' : α} {xs : List (List AV)} {cs : List AV} {j n : Nat} {K : List (List AV) → Prop} (hm : i = m) (h : l[m]? = some x) (e : xs = l.map enc) (hn : j + n ≤ (enc x).length) (hs : spliceA (enc x) j cs = enc x') (hK : K ((l.set i.toNat x').map enc)) : ∃ c, xs[m]? = some c ∧ j + n ≤ c.length ∧ ∃ zs : List (List AV), xs.set m (spliceA c j cs) = zs ∧ K zs := by
  obtain rfl : i.toNat = m := by omega
  exact Ax.st_q h e hn hs hK
/-- append to rows told cell by cell -/
theorem ap_raw {α : Type} {l y z : List α} {xs ys : List (List AV)} {eb : Nat} {K : List (List AV) → Prop} (h : apL l y = some z) (e1 : xs.length = l.length) (e2 : ys.length = y.length) (hb : eb ≤ 8388608) (hK : K (xs ++ ys)) : (xs.length + ys.length) * eb ≤ 140737488355328 ∧ xs.length + ys.length ≤ maxLen ∧ ∃ zs : List (List AV), xs ++ ys = zs ∧ K zs := by
  obtain ⟨h1, rfl⟩ := apL_some h
  rw [← e1, ← e2] at h1
  refine ⟨?_, by unfold maxLen; omega, _, rfl, hK⟩
  have := Nat.mul_le_mul h1 hb
  omega
def shrF (k : IntKind) (x y : Int) : Int := x.fdiv (2 ^ (min y.toNat k.bits))
theorem shr_q {k yk : IntKind} {x y : Int} (h : ¬ y < 0) : (Op.shift .shr k x yk y : Sem Value) = Sem.pure (.int k (shrF k x y)) := by
  unfold Op.shift
  rw [if_neg h]
  rfl
/-- what is known of a part of a row -/
structure SubF {α : Type} (enc : α → List AV) (l z : List α) (n m : Nat) : Prop where
  lo : n ≤ m
  le : m ≤ (l.map enc).length
  eq : z = (l.drop n).take (m - n)
/-- insertion into a row -/
def insL {α : Type} (l : List α) (i : Int) (y : List α) : Option (List α) := if 0 ≤ i ∧ i ≤ l.length ∧ 0 < y.length ∧ l.length + y.length ≤ 16777216 then some (l.take i.toNat ++ y ++ l.drop i.toNat) else none
theorem insL_some {α : Type} {l y z : List α} {i : Int} (h : insL l i y = some z) : ∃ k : Nat, i = k ∧ k ≤ l.length ∧ 0 < y.length ∧ l.length + y.length ≤ 16777216 ∧ z = l.take k ++ y ++ l.drop k := by
  unfold insL at h
  split at h
  · rename_i c
    exact ⟨i.toNat, by omega, by omega, c.2.2.1, c.2.2.2, (Option.some.inj h).symm⟩
  · cases h
end Go.Proofs.Ytpipggnfbgjefaa.Ex
