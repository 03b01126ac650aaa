/- Chapter 24: the set of plates. -/
import Derived.Test.YtkajegjghfbgaaaMpD
import Derived.Test.YtkajegjghfbgaaaChecked
namespace Go.Proofs.Ytkajegjghfbgaaa.Ex
open Go.RowKit Go.Proofs.Ytkajegjghfbgaaa.Ax Go.Maps
set_option linter.unusedVariables false
set_option linter.unusedSimpArgs false

def mpR (E : List Plate) : Obj → Prop := MpR Try.prog 59 4 mpK E
theorem mp_law : Keyed Try.prog 59 := Keyed.of_law (deep_law_laid (by kernel_rfl) (m := 3) (by omega) (of_decide_eq_true (by kernel_rfl)) (by kernel_rfl) (by rw [Try.underlying59]))
theorem mp_key (x : Plate) (h : mpW x = true) : keyOf Try.prog 59 (.agg #[.int .i64 x.Lead, .int .i64 x.Airline, .int .i64 x.Serial]) = some (mpK x) := by
  unfold mpW at h
  simp only [Bool.and_eq_true] at h
  obtain ⟨⟨h1, h2⟩, h3⟩ := h
  exact key3 Try.underlying59 (by kernel_rfl) (by kernel_rfl) Try.underlying3 (by kernel_rfl) rfl rfl rfl rfl rfl rfl rfl rfl rfl (of_decide_eq_true (by kernel_rfl)) h1 h2 h3
theorem mp_mk {g : Nat} {o : Oper} {σ : ASt} (ho : o.op = .makeMap 87 none) : OpOK Try.prog g o σ ⟨.mp σ.n, [(σ.n, some (.obj (mpR [])))], [], σ.n + 1⟩ := mk_map ho _ _ _
theorem mp_up {g : Nat} {o : Oper} {σ : ASt} {m kx vx : Operand} {id : Nat} {E E' : List Plate} {x : Plate} (ho : o.op = .mapUpdate 87 m kx vx) (hm : ev σ.env m = .mp id) (hH : σ.H id = some (.obj (mpR E))) (hk : ev σ.env kx = .agg (encPlate x)) (hv : ev σ.env vx = .tru) (h : mpL mpW E x = some E') :
    OpOK Try.prog g o σ ⟨.any, [(id, some (.obj (mpR E')))], [], σ.n⟩ := by
  refine up_map (enc := encPlate) (vv := fun x => #[.int .i64 x.Lead, .int .i64 x.Airline, .int .i64 x.Serial]) mp_law Try.underlying87 Try.underlying4 mp_key (fun x w F β v hv => ?_) ho hm hH hk hv h
  cases hv with
  | agg _ cs k1 k2 =>
    have hs : cs.size = 3 := by simpa [encPlate] using k1.symm
    obtain ⟨a, b, c, rfl⟩ : ∃ a b c, cs = #[a, b, c] := by
      refine ⟨cs[0], cs[1], cs[2], ?_⟩
      apply Array.ext
      · simpa using hs
      · intro i h1 h2
        have : i < 3 := by omega
        match i, this with
        | 0, _ => rfl
        | 1, _ => rfl
        | 2, _ => rfl
    have e0 := k2 0 _ a rfl rfl
    have e1 := k2 1 _ b rfl rfl
    have e2 := k2 2 _ c rfl rfl
    cases e0
    cases e1
    cases e2
    rfl
theorem mp_len {g : Nat} {o : Oper} {σ : ASt} {x : Operand} {id : Nat} {E : List Plate} (ho : o.op = .call { callee := .builtin .len, args := #[x], argTypes := #[87] }) (hm : ev σ.env x = .mp id) (hH : σ.H id = some (.obj (mpR E))) : OpOK Try.prog g o σ ⟨.int .i64 (mpN mpK E), [], [id], σ.n⟩ :=
  len_map Try.underlying87 (fun _ => trivial) ho hm hH
end Go.Proofs.Ytkajegjghfbgaaa.Ex
