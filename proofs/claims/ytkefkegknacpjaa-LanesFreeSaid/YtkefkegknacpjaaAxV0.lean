/- Values worked out before a walk goes on. Nothing of the dump is used here. -/
import Derived.Test.YtkefkegknacpjaaAxU
namespace Go.Proofs.Ytkefkegknacpjaa.Ax
open Go.RowKit
set_option linter.unusedVariables false
set_option linter.unusedSimpArgs false

def forceN : Nat → (Nat → Prop) → Prop
  | 0, K => K 0
  | n + 1, K => K (n + 1)

theorem forceN_iff {n : Nat} {K : Nat → Prop} : forceN n K ↔ K n := by cases n <;> exact Iff.rfl

/-- the head of a value is worked out before the walk goes on -/
def forceH : AV → (AV → Prop) → Prop
  | .ptr id j, K => forceN id fun id => K (.ptr id j)
  | .eptr id sz i j, K => forceN id fun id => K (.eptr id sz i j)
  | .osl id, K => forceN id fun id => K (.osl id)
  | .sub id a b c d, K => forceN id fun id => K (.sub id a b c d)
  | .any, K => K .any
  | .int k n, K => K (.int k n)
  | .tru, K => K .tru
  | .fls, K => K .fls
  | .bool b, K => K (.bool b)
  | .str s, K => K (.str s)
  | .nilp, K => K .nilp
  | .val v, K => K (.val v)
  | .nils, K => K .nils
  | .iptr c, K => K (.iptr c)
  | .lst sz xs, K => K (.lst sz xs)
  | .agg c, K => K (.agg c)
  | .tup c, K => K (.tup c)
  | .fn f c, K => K (.fn f c)

theorem forceH_iff {v : AV} {K : AV → Prop} : forceH v K ↔ K v := by
  cases v <;> first
    | exact Iff.rfl
    | exact forceN_iff (K := fun id => K (.ptr id _))
    | exact forceN_iff (K := fun id => K (.eptr id _ _ _))
    | exact forceN_iff (K := fun id => K (.osl id))
    | exact forceN_iff (K := fun id => K (.sub id _ _ _ _))

def forceL : List AV → (List AV → Prop) → Prop
  | [], K => K []
  | v :: l, K => forceH v fun v => forceL l fun l => K (v :: l)

theorem forceL_iff : ∀ {l : List AV} {K : List AV → Prop}, forceL l K ↔ K l
  | [], K => Iff.rfl
  | v :: l, K => forceH_iff.trans forceL_iff

def forceC : List (List AV) → (List (List AV) → Prop) → Prop
  | [], K => K []
  | c :: l, K => forceL c fun c => forceC l fun l => K (c :: l)

theorem forceC_iff : ∀ {l : List (List AV)} {K : List (List AV) → Prop}, forceC l K ↔ K l
  | [], K => Iff.rfl
  | c :: l, K => forceL_iff.trans forceC_iff

end Go.Proofs.Ytkefkegknacpjaa.Ax
