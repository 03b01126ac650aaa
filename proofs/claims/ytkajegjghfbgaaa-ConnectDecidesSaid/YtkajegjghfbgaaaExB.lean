/- Cells of simple values; further small laws for printed walks. Nothing of the dump is used here. -/
import Derived.Test.YtkajegjghfbgaaaExA
namespace Go.Proofs.Ytkajegjghfbgaaa.Ex
open Go.RowKit Go.Proofs.Ytkajegjghfbgaaa.Ax
set_option linter.unusedVariables false
set_option linter.unusedSimpArgs false

def iA (n : Int) : List AV := [.int .i64 n]
def kA (k : IntKind) (n : Int) : List AV := [.int k n]
def sA (s : ByteArray) : List AV := [.str s]
def bA (b : Bool) : List AV := [.bool b]
def lA {α : Type} (sz : Nat) (enc : α → List AV) (l : List α) : List AV := [.lst sz (l.map enc)]

theorem ixL_at {α : Type} {l : List α} {i : Int} {x : α} {m : Nat} (h : ixL l i = some x) (hm : i = m) : l[m]? = some x := by
  obtain ⟨m', h1, h2⟩ := ixL_some h
  obtain rfl : m = m' := by omega
  exact h2
theorem set_at {α : Type} {l : List α} {i : Int} {x x' : α} {m : Nat} (h : l[m]? = some x) (hm : i = m) : (l.set i.toNat x')[m]? = some x' := by
  obtain rfl : i.toNat = m := by omega
  rw [List.getElem?_set_self (List.getElem?_eq_some_iff.1 h).1]
theorem st_q {α : Type} {enc : α → List AV} {l : List α} {i : Int} {m : Nat} {x x' : α} {xs : List (List AV)} {cs : List AV} {j n : Nat} {K : List (List AV) → Prop} (hm : i = m) (h : l[m]? = some x) (e : xs = l.map enc) (hn : j + n ≤ (enc x).length) (hs : spliceA (enc x) j cs = enc x') (hK : K ((l.set i.toNat x').map enc)) : ∃ c, xs[m]? = some c ∧ j + n ≤ c.length ∧ ∃ zs : List (List AV), xs.set m (spliceA c j cs) = zs ∧ K zs := by
  obtain rfl : i.toNat = m := by omega
  exact Ax.st_q h e hn hs hK
theorem sls_q11 {s z : ByteArray} {a b : Int} {K : Nat → Nat → Prop} (h : slS s a b = some z) (hK : ∀ n m : Nat, s.extract n m = z → K n m) : ∃ n : Nat, a = n ∧ ∃ m : Nat, b = m ∧ n ≤ m ∧ m ≤ s.size ∧ K n m := sls_q h hK
theorem sls_all {s z : ByteArray} {a b : Int} (h : slS s a b = some z) : ∃ n : Nat, a = n ∧ ∃ m : Nat, b = m ∧ n ≤ m ∧ m ≤ s.size ∧ s.extract n m = z := sls_q h (fun _ _ e => e)
theorem sls_q10 {s z : ByteArray} {a : Int} {K : Nat → Prop} (h : slS s a (s.size : Int) = some z) (hK : ∀ n : Nat, s.extract n s.size = z → K n) : ∃ n : Nat, a = n ∧ n ≤ s.size ∧ s.size ≤ s.size ∧ K n := by
  obtain ⟨n, h1, m, h2, h3, h4, h5⟩ := sls_all h
  obtain rfl : s.size = m := by omega
  exact ⟨n, h1, h3, h4, hK n h5⟩
theorem sls_q01 {s z : ByteArray} {b : Int} {K : Nat → Prop} (h : slS s 0 b = some z) (hK : ∀ m : Nat, s.extract 0 m = z → K m) : ∃ m : Nat, b = m ∧ 0 ≤ m ∧ m ≤ s.size ∧ K m := by
  obtain ⟨n, h1, m, h2, h3, h4, h5⟩ := sls_all h
  obtain rfl : n = 0 := by omega
  exact ⟨m, h2, h3, h4, hK m h5⟩
theorem catS_some {a b z : ByteArray} (h : catS a b = some z) : ((a.size + b.size : Nat) : Int) ≤ IntKind.i64.max ∧ a ++ b = z := by
  unfold catS at h
  split at h
  · cases h; exact ⟨by assumption, rfl⟩
  · cases h
theorem sl_q2 {α : Type} {enc : α → List AV} {l z : List α} {xs : List (List AV)} {K : List (List AV) → Prop} (h : slL l 0 (l.length : Int) = some z) (e : xs = l.map enc) (hK : K (z.map enc)) : 0 ≤ xs.length ∧ xs.length ≤ xs.length ∧ ∃ ys : List (List AV), (xs.drop 0).take (xs.length - 0) = ys ∧ K ys := by
  obtain ⟨n, h1, h2⟩ := sl_q1 h e hK
  obtain rfl : n = 0 := by omega
  exact h2
/-- append to rows told cell by cell -/
theorem ap_raw {α : Type} {l y z : List α} {xs ys : List (List AV)} {eb : Nat} {K : List (List AV) → Prop} (h : apL l y = some z) (e1 : xs.length = l.length) (e2 : ys.length = y.length) (hb : eb ≤ 8388608) (hK : K (xs ++ ys)) : (xs.length + ys.length) * eb ≤ 140737488355328 ∧ xs.length + ys.length ≤ maxLen ∧ ∃ zs : List (List AV), xs ++ ys = zs ∧ K zs := by
  obtain ⟨h1, rfl⟩ := apL_some h
  rw [← e1, ← e2] at h1
  refine ⟨?_, by unfold maxLen; omega, _, rfl, hK⟩
  have := Nat.mul_le_mul h1 hb
  omega
theorem mk_r {α : Type} {n : Int} {z : α} {l : List α} {ez : List AV} {eb : Nat} {K : List (List AV) → Prop} (h : mkL n z = some l) (hb : eb ≤ 8388608) (hK : K (List.replicate n.toNat ez)) : ∃ m : Nat, n = m ∧ n = m ∧ eb * m ≤ 281474976710656 ∧ m ≤ maxLen ∧ ∃ zs : List (List AV), List.replicate m ez = zs ∧ K zs := by
  unfold mkL at h
  split at h
  · rename_i k
    refine ⟨n.toNat, by omega, by omega, ?_, by unfold maxLen; omega, _, rfl, hK⟩
    have : n.toNat ≤ 16777216 := by omega
    have := Nat.mul_le_mul hb this
    omega
  · cases h
theorem mkL_val {α : Type} {n : Int} {z : α} {l : List α} (h : mkL n z = some l) : l = List.replicate n.toNat z := by
  unfold mkL at h
  split at h
  · exact (Option.some.inj h).symm
  · cases h

def shrF (k : IntKind) (x y : Int) : Int := x.fdiv (2 ^ (min y.toNat k.bits))
def shlF (k : IntKind) (x y : Int) : Int := k.wrap (x * 2 ^ (min y.toNat k.bits))
theorem shr_q {k yk : IntKind} {x y : Int} (h : ¬ y < 0) : (Op.shift .shr k x yk y : Sem Value) = Sem.pure (.int k (shrF k x y)) := by
  unfold Op.shift
  rw [if_neg h]
  rfl
theorem shl_q {k yk : IntKind} {x y : Int} (h : ¬ y < 0) : (Op.shift .shl k x yk y : Sem Value) = Sem.pure (.int k (shlF k x y)) := by
  unfold Op.shift
  rw [if_neg h]
  rfl
def andF (k : IntKind) (x y : Int) : Int := k.wrap (BitVec.ofInt k.bits x &&& BitVec.ofInt k.bits y).toNat
def orF (k : IntKind) (x y : Int) : Int := k.wrap (BitVec.ofInt k.bits x ||| BitVec.ofInt k.bits y).toNat
def xorF (k : IntKind) (x y : Int) : Int := k.wrap (BitVec.ofInt k.bits x ^^^ BitVec.ofInt k.bits y).toNat
def andNotF (k : IntKind) (x y : Int) : Int := k.wrap (BitVec.ofInt k.bits x &&& ~~~ BitVec.ofInt k.bits y).toNat
theorem and_q {k : IntKind} {x y : Int} : (Op.intBits .and k x y : Sem Value) = Sem.pure (.int k (andF k x y)) := rfl
theorem or_q {k : IntKind} {x y : Int} : (Op.intBits .or k x y : Sem Value) = Sem.pure (.int k (orF k x y)) := rfl
theorem xor_q {k : IntKind} {x y : Int} : (Op.intBits .xor k x y : Sem Value) = Sem.pure (.int k (xorF k x y)) := rfl
theorem andNot_q {k : IntKind} {x y : Int} : (Op.intBits .andNot k x y : Sem Value) = Sem.pure (.int k (andNotF k x y)) := rfl
/-- a number that is no less than 0 -/
def ng (b : Int) : Option Unit := if b < 0 then none else some ()
theorem ng_some {b : Int} {u : Unit} (h : ng b = some u) : ¬ b < 0 := by
  unfold ng at h
  split at h
  · cases h
  · assumption

/-- what is known of a part of a row -/
structure SubF {α : Type} (enc : α → List AV) (l z : List α) (n m : Nat) : Prop where
  lo : n ≤ m
  le : m ≤ (l.map enc).length
  eq : z = (l.drop n).take (m - n)
theorem sub_lo {α : Type} {enc : α → List AV} {l z : List α} {n m : Nat} (f : SubF enc l z n m) : n ≤ m := f.lo
theorem sub_le {α : Type} {enc : α → List AV} {l z : List α} {n m : Nat} (f : SubF enc l z n m) : m ≤ (l.map enc).length := f.le
theorem sub_part {α : Type} {enc : α → List AV} {l z : List α} {n m : Nat} (f : SubF enc l z n m) : ((l.map enc).drop n).take (m - n) = z.map enc := by rw [f.eq, List.map_take, List.map_drop]
theorem sub_take {α : Type} {enc : α → List AV} {l z : List α} {m : Nat} (f : SubF enc l z 0 m) : (l.map enc).take m = z.map enc := by rw [f.eq, List.drop_zero, Nat.sub_zero, List.map_take]
theorem sub_len {α : Type} {enc : α → List AV} {l z : List α} {n m : Nat} (f : SubF enc l z n m) : ((m - n : Nat) : Int) = (z.length : Int) := by
  have := f.le
  rw [List.length_map] at this
  rw [f.eq, List.length_take, List.length_drop, Nat.min_eq_left (by omega)]
theorem sub_all {α : Type} {enc : α → List AV} {l z : List α} {a b : Int} (h : slL l a b = some z) : ∃ n : Nat, a = n ∧ ∃ m : Nat, b = m ∧ SubF enc l z n m := by
  obtain ⟨h1, h2, h3, h4⟩ := slL_some h
  exact ⟨a.toNat, by omega, b.toNat, by omega, by omega, by rw [List.length_map]; omega, h4⟩
theorem sub_q11 {α : Type} {enc : α → List AV} {l z : List α} {a b : Int} {xs : List (List AV)} {K : Nat → Nat → Prop} (h : slL l a b = some z) (e : xs = l.map enc) (hK : ∀ n m, SubF enc l z n m → K n m) : ∃ n : Nat, a = n ∧ ∃ m : Nat, b = m ∧ n ≤ m ∧ m ≤ xs.length ∧ K n m := by
  obtain ⟨n, h1, m, h2, f⟩ := sub_all (enc := enc) h
  subst e
  exact ⟨n, h1, m, h2, f.lo, f.le, hK n m f⟩
theorem sub_q01 {α : Type} {enc : α → List AV} {l z : List α} {b : Int} {xs : List (List AV)} {K : Nat → Prop} (h : slL l 0 b = some z) (e : xs = l.map enc) (hK : ∀ m, SubF enc l z 0 m → K m) : ∃ m : Nat, b = m ∧ 0 ≤ m ∧ m ≤ xs.length ∧ K m := by
  obtain ⟨n, h1, m, h2, f⟩ := sub_all (enc := enc) h
  obtain rfl : n = 0 := by omega
  subst e
  exact ⟨m, h2, f.lo, f.le, hK m f⟩
theorem sub_q10 {α : Type} {enc : α → List AV} {l z : List α} {a : Int} {xs : List (List AV)} {K : Nat → Prop} (h : slL l a (l.length : Int) = some z) (e : xs = l.map enc) (hK : ∀ n, SubF enc l z n (l.map enc).length → K n) : ∃ n : Nat, a = n ∧ n ≤ xs.length ∧ xs.length ≤ xs.length ∧ K n := by
  obtain ⟨n, h1, m, h2, f⟩ := sub_all (enc := enc) h
  obtain rfl : m = (l.map enc).length := by rw [List.length_map]; omega
  subst e
  exact ⟨n, h1, f.lo, f.le, hK n f⟩
theorem sub_q00 {α : Type} {enc : α → List AV} {l z : List α} {xs : List (List AV)} {K : Prop} (h : slL l 0 (l.length : Int) = some z) (e : xs = l.map enc) (hK : SubF enc l z 0 (l.map enc).length → K) : 0 ≤ xs.length ∧ xs.length ≤ xs.length ∧ K := by
  obtain ⟨n, h1, m, h2, f⟩ := sub_all (enc := enc) h
  obtain rfl : n = 0 := by omega
  obtain rfl : m = (l.map enc).length := by rw [List.length_map]; omega
  subst e
  exact ⟨Nat.zero_le _, Nat.le_refl _, hK f⟩
theorem sub_q01m {α : Type} {enc : α → List AV} {l z : List α} {b : Int} {xs : List (List AV)} {K : Nat → Nat → Prop} (h : slL l 0 b = some z) (e : xs = l.map enc) (hK : ∀ m, SubF enc l z 0 m → K m m) : ∃ m : Nat, b = m ∧ ∃ q : Nat, b = q ∧ 0 ≤ m ∧ m ≤ q ∧ q ≤ xs.length ∧ K m q := by
  obtain ⟨n, h1, m, h2, f⟩ := sub_all (enc := enc) h
  obtain rfl : n = 0 := by omega
  subst e
  exact ⟨m, h2, m, h2, f.lo, Nat.le_refl _, f.le, hK m f⟩
/-- the first elements of a read slice, without room behind them -/
theorem slc_q {α : Type} {enc : α → List AV} {l z : List α} {b : Int} {xs : List (List AV)} {K : Nat → List (List AV) → Prop} (h : slL l 0 b = some z) (e : xs = l.map enc) (hK : ∀ m, K m (z.map enc)) : ∃ m : Nat, b = m ∧ ∃ q : Nat, b = q ∧ m = q ∧ m ≤ xs.length ∧ ∃ ys : List (List AV), xs.take m = ys ∧ K m ys := by
  obtain ⟨h1, h2, h3, rfl⟩ := slL_some h
  subst e
  refine ⟨b.toNat, by omega, b.toNat, by omega, rfl, by rw [List.length_map]; omega, _, ?_, hK b.toNat⟩
  simp only [Int.toNat_zero, List.drop_zero, Nat.sub_zero, List.map_take]
theorem em_nil {α : Type} {enc : α → List AV} {l : List α} (h : l.map enc = []) : l.isEmpty = true := by cases l <;> simp_all
theorem em_ne {α : Type} {enc : α → List AV} {l : List α} (h : l.map enc ≠ []) : l.isEmpty = false := by cases l <;> simp_all
/-- copy of a row into a row of the same length -/
def cpL {α : Type} (l y : List α) : Option (List α) := if y.length = l.length then some y else none
theorem cpL_some {α : Type} {l y z : List α} (h : cpL l y = some z) : y.length = l.length ∧ z = y := by
  unfold cpL at h
  split at h
  · exact ⟨by assumption, (Option.some.inj h).symm⟩
  · cases h
theorem cp_q {α : Type} {enc : α → List AV} {l y z : List α} {xs ys : List (List AV)} {K : List (List AV) → Int → Prop} (h : cpL l y = some z) (e1 : xs.length = l.length) (e2 : ys = y.map enc) (hK : K (z.map enc) (z.length : Int)) :
    ys.length ≤ xs.length ∧ ∃ (zs : List (List AV)) (n : Int), ys ++ xs.drop ys.length = zs ∧ ((ys.length : Nat) : Int) = n ∧ K zs n := by
  obtain ⟨h1, rfl⟩ := cpL_some h
  subst e2
  refine ⟨by rw [List.length_map]; omega, _, _, ?_, by rw [List.length_map], hK⟩
  rw [List.drop_eq_nil_of_le (by rw [List.length_map]; omega), List.append_nil]
/-- insertion into a row -/
def insL {α : Type} (l : List α) (i : Int) (y : List α) : Option (List α) := if 0 ≤ i ∧ i ≤ l.length ∧ 0 < y.length ∧ l.length + y.length ≤ 16777216 then some (l.take i.toNat ++ y ++ l.drop i.toNat) else none
theorem insL_some {α : Type} {l y z : List α} {i : Int} (h : insL l i y = some z) : ∃ k : Nat, i = k ∧ k ≤ l.length ∧ 0 < y.length ∧ l.length + y.length ≤ 16777216 ∧ z = l.take k ++ y ++ l.drop k := by
  unfold insL at h
  split at h
  · rename_i c
    exact ⟨i.toNat, by omega, by omega, c.2.2.1, c.2.2.2, (Option.some.inj h).symm⟩
  · cases h
end Go.Proofs.Ytkajegjghfbgaaa.Ex
