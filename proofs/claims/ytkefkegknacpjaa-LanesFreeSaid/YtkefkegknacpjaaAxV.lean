/- The abstract walk of one operation. Nothing of the dump is used here. -/
import Derived.Test.YtkefkegknacpjaaAxV0
import Derived.Test.YtkefkegknacpjaaAxO2
import Derived.Test.YtkefkegknacpjaaAxG2
namespace Go.Proofs.Ytkefkegknacpjaa.Ax
open Go.RowKit
set_option linter.unusedVariables false
set_option linter.unusedSimpArgs false

/-- blocks that a call only reads: lent (then what comes back leads to none of them), or given up -/
def LendOK (up : Bool) (g : Nat) (bs : List Nat) (res : AV) (G' : List ABlk) : Prop := match up with
  | true => True
  | false => bs = [] ∨ (res.flat = true ∧ ∀ b ∈ G', b.flat)

/-- a call that has its contract: what is handed over (args', G; gs granted, bs only read), what comes back (res, G') -/
structure CallOK (P : Program) (f : FuncId) (args : List AV) (H : Nat → Option ABlk) (n : Nat) (args' : List AV) (gs bs : List Nat) (G G' : List ABlk) (res : AV) (Gc : List ABlk) (g : Nat) (up : Bool) (m : Nat) : Prop where
  fn : ∃ fn bd, P.funcs[f]? = some fn ∧ fn.name ≠ "runtime.NumGoroutine" ∧ fn.body = some bd
  len : args.length = args'.length
  args : ∀ (t : Nat) (u u' : AV), args[t]? = some u → args'[t]? = some u' → ArgR H gs [] bs u u'
  gl : gs.length = G.length
  gk : ∀ (k id : Nat) (b : ABlk), gs[k]? = some id → G[k]? = some b → H id = some (b.ren (rho gs n (G'.length - G.length)))
  nd : ∀ (i j id : Nat), gs[i]? = some id → gs[j]? = some id → i = j
  dis : ∀ id ∈ gs, id ∉ bs
  gc : Gc = G'.map (ABlk.ren (rho gs n (G'.length - G.length)))
  le : G.length ≤ G'.length
  flat : LendOK up g bs res G'
  ac : AC P f args' G res G'
  m : G'.length - G.length = m

def intIx : AV → Nat → Prop := fun v m => ∃ k, v = .int k m

def boolOf : AV → Option Bool
  | .tru => some true
  | .fls => some false
  | .bool b => some b
  | _ => none

def eqB (op : BinOp) (r : Bool) : Bool := match op with
  | .eql => r
  | _ => !r

def isEq : BinOp → Bool
  | .eql | .neq => true
  | _ => false

/-- the bound of a slice expression: n -/
def boundP (env : Nat → AV) (x : Option Operand) (d : Nat) (K : Nat → Prop) : Prop := match x with
  | none => K d
  | some x => match ev env x with
    | .int _ i => ∃ n : Nat, i = n ∧ K n
    | _ => False

theorem boundP_ok {env : Nat → AV} {x : Option Operand} {d : Nat} {K : Nat → Prop} (h : boundP env x d K) : ∃ n, BoundA env x d n ∧ K n := by
  unfold boundP at h
  split at h
  · exact ⟨d, rfl, h⟩
  · rename_i y
    split at h
    · rename_i k i e
      obtain ⟨n, rfl, hk⟩ := h
      exact ⟨n, ⟨k, e⟩, hk⟩
    · exact h.elim

def sameN (a b : Nat) (K : Prop) : Prop := match Nat.beq a b with
  | true => K
  | false => False

theorem sameN_ok {a b : Nat} {K : Prop} (h : sameN a b K) : a = b ∧ K := by
  unfold sameN at h
  split at h
  · rename_i e; exact ⟨Nat.eq_of_beq_eq_true e, h⟩
  · exact h.elim

def contP (H : Nat → Option ABlk) (v : AV) (sz : Nat) (K : List (List AV) → List Nat → Prop) : Prop := match v with
  | .nils => K [] []
  | .lst sz' ys => sameN sz' sz (K ys [])
  | .osl id => match H id with
    | some (.row sz' ys) => sameN sz' sz (K ys [id])
    | _ => False
  | .sub id sz' lo hi mx => match H id with
    | some (.row sz2 xs) => sameN sz' sz <| sameN sz2 sz <| lo ≤ hi ∧ hi ≤ xs.length ∧ (∀ m, mx = some m → hi ≤ m) ∧ K ((xs.drop lo).take (hi - lo)) [id]
    | _ => False
  | _ => False

theorem contP_ok {H : Nat → Option ABlk} {v : AV} {sz : Nat} {K : List (List AV) → List Nat → Prop} (h : contP H v sz K) : ∃ ys ids, Cont H v sz ys ids ∧ K ys ids := by
  unfold contP at h
  split at h
  · exact ⟨[], [], .inl ⟨rfl, rfl, rfl⟩, h⟩
  · replace h := sameN_ok h; obtain ⟨rfl, h⟩ := h; exact ⟨_, [], .inr (.inl ⟨rfl, rfl⟩), h⟩
  · split at h
    · rename_i e; replace h := sameN_ok h; obtain ⟨rfl, h⟩ := h; exact ⟨_, _, .inr (.inr (.inl ⟨_, rfl, e, rfl⟩)), h⟩
    · exact h.elim
  · split at h
    · rename_i e; replace h := sameN_ok h; obtain ⟨rfl, h⟩ := h; replace h := sameN_ok h; obtain ⟨rfl, h1, h2, h3, h⟩ := h; exact ⟨_, _, .inr (.inr (.inr ⟨_, _, _, _, _, rfl, e, h1, h2, h3, rfl, rfl⟩)), h⟩
    · exact h.elim
  · exact h.elim

def ownP (H : Nat → Option ABlk) (g : Nat) (v : AV) (sz : Nat) (K : List (List AV) → List (Nat × Option ABlk) → Prop) : Prop := match v with
  | .nils => K [] []
  | .osl id => match H id with
    | some (.row sz' xs) => sameN sz' sz (K xs [(id, none)])
    | _ => False
  | .sub id sz' lo hi (some m) => match H id with
    | some (.row sz2 xs) => sameN sz' sz <| sameN sz2 sz <| lo = 0 ∧ m = hi ∧ hi ≤ xs.length ∧ K (xs.take hi) [(id, none)]
    | _ => False
  | .sub id sz' lo hi none => match H id with
    | some (.row sz2 xs) => sameN sz' sz <| sameN sz2 sz <| lo = 0 ∧ hi ≤ xs.length ∧ K (xs.take hi) [(id, none)]
    | _ => False
  | _ => False

theorem ownP_ok {H : Nat → Option ABlk} {g : Nat} {v : AV} {sz : Nat} {K : List (List AV) → List (Nat × Option ABlk) → Prop} (h : ownP H g v sz K) : ∃ xs wr, OwnS H g v sz xs wr ∧ K xs wr := by
  unfold ownP at h
  split at h
  · exact ⟨[], [], .inl ⟨rfl, rfl, rfl⟩, h⟩
  · split at h
    · rename_i e1; replace h := sameN_ok h; obtain ⟨rfl, h⟩ := h; exact ⟨_, _, .inr (.inl ⟨_, rfl, e1, rfl⟩), h⟩
    · exact h.elim
  · split at h
    · rename_i e1; replace h := sameN_ok h; obtain ⟨rfl, h⟩ := h; replace h := sameN_ok h; obtain ⟨rfl, rfl, rfl, h1, h⟩ := h; exact ⟨_, _, .inr (.inr ⟨_, _, _, _, rfl, e1, h1, rfl, .inr rfl, rfl⟩), h⟩
    · exact h.elim
  · split at h
    · rename_i e1; replace h := sameN_ok h; obtain ⟨rfl, h⟩ := h; replace h := sameN_ok h; obtain ⟨rfl, rfl, h1, h⟩ := h; exact ⟨_, _, .inr (.inr ⟨_, _, _, _, rfl, e1, h1, rfl, .inl rfl, rfl⟩), h⟩
    · exact h.elim
  · exact h.elim

/-- is it a slice of bytes? -/
def bytesTy (tab : Tab) (s : TypeId) : Bool := match tab s with
  | some tj => match tj.d with
    | .slc e _ _ _ => match tab e with
      | some te => match te.d with
        | .int .u8 => true
        | _ => false
      | none => false
    | _ => false
  | none => false

theorem bytesTy_ok {tab : Tab} {s : TypeId} (h : bytesTy tab s = true) : ∃ tj e sz eb ez te, tab s = some tj ∧ tj.d = .slc e sz eb ez ∧ tab e = some te ∧ te.d = .int .u8 := by
  unfold bytesTy at h
  split at h
  · rename_i tj h1
    split at h
    · rename_i e sz eb ez h2
      split at h
      · rename_i te h3
        split at h
        · rename_i h4
          exact ⟨tj, e, sz, eb, ez, te, h1, h2, h3, h4⟩
        · cases h
      · cases h
    · cases h
  · cases h

def upL : Bool → List Nat → List (Nat × Option ABlk)
  | true, bs => giveUp bs
  | false, _ => []

/-- is there a row of its own among the cells? -/
def hasOsl : List AV → Bool
  | [] => false
  | .osl _ :: _ | .nils :: _ | .tru :: _ | .fls :: _ => true
  | .any :: l | .int _ _ :: l | .bool _ :: l | .str _ :: l | .nilp :: l | .val _ :: l | .ptr _ _ :: l | .eptr _ _ _ _ :: l | .iptr _ :: l | .lst _ _ :: l | .sub _ _ _ _ _ :: l | .agg _ :: l | .tup _ :: l | .fn _ _ :: l => hasOsl l

/-- the cells, their rows only read from now on -/
def frzP (H : Nat → Option ABlk) : List AV → (List AV → List Nat → Prop) → Prop
  | [], K => K [] []
  | .osl id :: l, K => match H id with
    | some (.row sz ys) => (∀ c ∈ ys, AV.niL c = true) ∧ frzP H l fun l' ids => K (.lst sz ys :: l') (id :: ids)
    | _ => False
  | .nils :: l, K => ∃ sz : Nat, frzP H l fun l' ids => K (.lst sz [] :: l') ids
  | .tru :: l, K => frzP H l fun l' ids => K (.bool true :: l') ids
  | .fls :: l, K => frzP H l fun l' ids => K (.bool false :: l') ids
  | .int k n :: l, K => frzP H l fun l' ids => K (.int k n :: l') ids
  | .bool b :: l, K => frzP H l fun l' ids => K (.bool b :: l') ids
  | .str s :: l, K => frzP H l fun l' ids => K (.str s :: l') ids
  | .lst sz xs :: l, K => frzP H l fun l' ids => K (.lst sz xs :: l') ids
  | .nilp :: l, K => frzP H l fun l' ids => K (.nilp :: l') ids
  | .val v :: l, K => frzP H l fun l' ids => K (.val v :: l') ids
  | .iptr c :: l, K => frzP H l fun l' ids => K (.iptr c :: l') ids
  | .any :: _, _ | .ptr _ _ :: _, _ | .eptr _ _ _ _ :: _, _ | .sub _ _ _ _ _ :: _, _ | .agg _ :: _, _ | .tup _ :: _, _ | .fn _ _ :: _, _ => False

theorem ArgR.more {H : Nat → Option ABlk} {gs zs bs bs' : List Nat} {x y : AV} (h : ArgR H gs zs bs x y) (hb : ∀ i ∈ bs, i ∈ bs') : ArgR H gs zs bs' x y := by
  induction h with
  | any x => exact .any x
  | ni x hx => exact .ni x hx
  | tru => exact .tru
  | fls => exact .fls
  | nils sz => exact .nils sz
  | nilz k hk => exact .nilz k hk
  | ptr id j k hk => exact .ptr id j k hk
  | eptr id sz i j k hk => exact .eptr id sz i j k hk
  | oslg id k hk => exact .oslg id k hk
  | osl id sz xs hm hH hn => exact .osl id sz xs (hb _ hm) hH hn
  | oslr id sz xs xs' hm hH hl hcl hn hone _ ih => exact .oslr id sz xs xs' (hb _ hm) hH hl hcl hn hone ih
  | sub id sz lo hi mx xs hm hH hn l1 l2 l3 => exact .sub id sz lo hi mx xs (hb _ hm) hH hn l1 l2 l3
  | ibox id j c hm hH h1 hn => exact .ibox id j c (hb _ hm) hH h1 hn
  | irow id sz i j xs c hm hH hc hn => exact .irow id sz i j xs c (hb _ hm) hH hc hn
  | agg c c' h1 _ ih => exact .agg c c' h1 ih
  | tup c c' h1 _ ih => exact .tup c c' h1 ih
  | fn f c c' h1 _ ih => exact .fn f c c' h1 ih

theorem frzP_ok {H : Nat → Option ABlk} : ∀ {c : List AV} {K : List AV → List Nat → Prop}, frzP H c K → ∃ c' ids, FrzL H c c' ids ∧ K c' ids
  | [], K, h => ⟨[], [], ⟨rfl, fun j u u' e => by simp at e⟩, h⟩
  | u :: l, K, h => by
    have step : ∀ {u' : AV} {ids0 : List Nat}, ArgR H [] [] ids0 u u' → (frzP H l fun l' ids => K (u' :: l') (ids0 ++ ids)) → ∃ c' ids, FrzL H (u :: l) c' ids ∧ K c' ids := fun {u' ids0} hu hk => by
      obtain ⟨c', ids, ⟨h1, h2⟩, h3⟩ := frzP_ok hk
      refine ⟨u' :: c', ids0 ++ ids, ⟨by simp [h1], fun j x x' hx hx' => ?_⟩, h3⟩
      cases j with
      | zero => simp at hx hx'; subst hx; subst hx'; exact hu.more (fun i hi => List.mem_append_left _ hi)
      | succ j => exact (h2 j x x' (by simpa using hx) (by simpa using hx')).more (fun i hi => List.mem_append_right _ hi)
    cases u
    case nils =>
      obtain ⟨sz, h⟩ := h
      exact step (ids0 := []) (.nils sz) h
    case tru => exact step (ids0 := []) .tru h
    case fls => exact step (ids0 := []) .fls h
    case osl id =>
      simp only [frzP] at h
      split at h
      · rename_i sz ys e
        exact step (ids0 := [id]) (.osl id sz ys (by simp) e h.1) h.2
      · exact h.elim
    all_goals first | exact step (ids0 := []) (.ni _ rfl) h | exact False.elim h

/-- one operation -/
def awp1 (P : Program) (tab : Tab) (g : Nat) (o : Oper) (σ : ASt) (K : Eff → Prop) : Prop := match σ with
  | ⟨env, H, nn⟩ =>
  match o.op with
  | .move x => K ⟨ev env x, [], [], nn⟩
  | .assign x => K ⟨ev env x, [], [], nn⟩
  | .pick c x y => match ev env c with
    | .tru => K ⟨ev env x, [], [], nn⟩
    | .fls => K ⟨ev env y, [], [], nn⟩
    | _ => False
  | .extract x i => match ev env x with
    | .tup vs => match vs[i]? with
      | some v => K ⟨v, [], [], nn⟩
      | none => False
    | _ => False
  | .field t x i => match tab t with
    | some ti => match ti.d, ev env x with
      | .struct fs, .agg c => match fs[i]? with
        | some (off, n, b) => partA c off n b (fun v => K ⟨v, [], [], nn⟩)
        | none => False
      | _, _ => False
    | none => False
  | .build t parts => match tab t with
    | some ti => match ti.d with
      | .struct fs => match fillA (structPlaces fs) ti.zero (parts.toList.map fun p => (p.1, ev env p.2)) with
        | some c => K ⟨.agg c, [], [], nn⟩
        | none => False
      | _ => False
    | none => False
  | .buildSlice t n parts => match tab t with
    | some ti => match ti.d with
      | .slc _ sz _ ez => match fillA ((List.range n).map fun i => (i * sz, sz)) (List.replicate (n * sz) .any) (parts.toList.map fun p => (p.1, ev env p.2)) with
        | some c => match Nat.beq ez.length sz && Nat.ble (n * sz) 16777216 && Nat.ble n 16777216 && c.all AV.one && Nat.beq c.length (n * sz) with
          | true => forceC (chunkA sz n c) fun r => K ⟨.osl nn, [(nn, some (.row sz r))], [], nn + 1⟩
          | false => False
        | none => False
      | _ => False
    | none => False
  | .box _ x => match (ev env x).okc with
    | true => K ⟨.ptr nn 0, [(nn, some (.box (ev env x).cells))], [], nn + 1⟩
    | false => False
  | .alloc t => match tab t with
    | some ti => K ⟨.ptr nn 0, [(nn, some (.box ti.zero))], [], nn + 1⟩
    | none => False
  | .load t x => match tab t with
    | some ti => match ev env x with
      | .iptr c => partA c 0 ti.size ti.agg (fun v => K ⟨v, [], [], nn⟩)
      | .ptr id j => match H id with
        | some (.box c) => partA c j ti.size ti.agg (fun v => K ⟨v, [], [id], nn⟩)
        | _ => False
      | .eptr id sz i j => match H id with
        | some (.row sz' xs) => sameN sz' sz <| ∃ c, xs[i]? = some c ∧ partA c j ti.size ti.agg (fun v => K ⟨v, [], [id], nn⟩)
        | _ => False
      | _ => False
    | none => False
  | .store t p x => match tab t with
    | some ti => match (ev env x).okc && (ev env x).cells.all AV.one && Nat.beq (ev env x).cells.length ti.size with
      | true => match ev env p with
        | .ptr id j => match H id with
          | some (.box c) => match Nat.ble (j + ti.size) c.length with
            | true => K ⟨.any, [(id, some (.box (spliceA c j (ev env x).cells)))], [], nn⟩
            | false => False
          | _ => False
        | .eptr id sz i j => match H id with
          | some (.row sz' xs) => match hasOsl (ev env x).cells with
            | false => sameN sz' sz <| ∃ c, xs[i]? = some c ∧ j + ti.size ≤ c.length ∧ ∃ zs : List (List AV), xs.set i (spliceA c j (ev env x).cells) = zs ∧ K ⟨.any, [(id, some (.row sz zs))], [], nn⟩
            | true => sameN sz' sz <| frzP H (ev env x).cells fun cs ids => match cs.all AV.one && Nat.beq cs.length ti.size && !ids.contains id with
              | true => ∃ c, xs[i]? = some c ∧ j + ti.size ≤ c.length ∧ ∃ zs : List (List AV), xs.set i (spliceA c j cs) = zs ∧ K ⟨.any, giveUp ids ++ [(id, some (.row sz zs))], ids, nn⟩
              | false => False
          | _ => False
        | _ => False
      | false => False
    | none => False
  | .nilCheck x => match ev env x with
    | .ptr .. | .eptr .. | .iptr .. => K ⟨ev env x, [], [], nn⟩
    | _ => False
  | .binOp op t x y _ => match ev env x, ev env y with
    | .agg c, .agg e => match tab t with
      | some ti => match ti.eqk with
        | some ks => match matchK ks c && isEq op, eqCells c e with
          | true, some r => K ⟨.bool (eqB op r), [], [], nn⟩
          | _, _ => False
        | none => False
      | none => False
    | u, v => match isEq op, bval u, bval v with
      | true, some a, some b => match tab t with
        | some ti => match ti.d with
          | .bool => K ⟨.bool (eqB op (a == b)), [], [], nn⟩
          | _ => False
        | none => False
      | _, _, _ => binA op u v (fun r => K ⟨r, [], [], nn⟩)
  | .unOp op _ x => match op, ev env x with
    | .not, .tru => K ⟨.fls, [], [], nn⟩
    | .not, .fls => K ⟨.tru, [], [], nn⟩
    | .not, .bool b => K ⟨.bool (!b), [], [], nn⟩
    | .neg, .int k n => ∃ z, k.wrap (0 - n) = z ∧ K ⟨.int k z, [], [], nn⟩
    | _, _ => False
  | .convert s t x => match tab s, tab t with
    | some _, some ti => match ti.d, ev env x with
      | .int k, .int _ n => ∃ z, k.wrap n = z ∧ K ⟨.int k z, [], [], nn⟩
      | .str, v => match bytesTy tab s with
        | true => contP H v 1 fun ys ids => ∃ ns : List Int, (ys = ns.map fun n => [.int .u8 n]) ∧ K ⟨.str (bytesF ns), [], ids, nn⟩
        | false => False
      | _, _ => False
    | _, _ => False
  | .makeFunc fn first cap => match fn, first with
    | .func f, ⟨[]⟩ => K ⟨.fn f (cap.toList.map (ev env)), [], [], nn⟩
    | _, _ => False
  | .makeSlice t l c => match tab t with
    | some ti => match ti.d, ev env l, ev env c with
      | .slc _ sz eb ez, .int _ i, .int _ j => match Nat.beq ez.length sz && ez.all AV.one with
        | true => ∃ m : Nat, i = m ∧ j = m ∧ eb * m ≤ 281474976710656 ∧ m ≤ maxLen ∧ ∃ zs : List (List AV), List.replicate m ez = zs ∧ K ⟨.osl nn, [(nn, some (.row sz zs))], [], nn + 1⟩
        | false => False
      | _, _, _ => False
    | none => False
  | .fieldAddr t x i => match tab t with
    | some ti => match ti.d with
      | .struct fs => match fs[i]? with
        | some (off, _ + 1, _) => match ev env x with
          | .ptr id j => K ⟨.ptr id (j + off), [], [], nn⟩
          | .eptr id sz k j => K ⟨.eptr id sz k (j + off), [], [], nn⟩
          | .iptr c => K ⟨.iptr (c.drop off), [], [], nn⟩
          | _ => False
        | _ => False
      | _ => False
    | none => False
  | .indexAddr t x ix => match tab t with
    | some ti => match ti.d, ev env ix with
      | .slc _ sz _ _, .int _ i => match ev env x with
        | .lst sz' xs => sameN sz' sz <| ∃ (m : Nat) (c : List AV), i = m ∧ xs[m]? = some c ∧ K ⟨.iptr c, [], [], nn⟩
        | .osl id => match H id with
          | some (.row sz' xs) => sameN sz' sz <| ∃ m : Nat, i = m ∧ m < xs.length ∧ K ⟨.eptr id sz m 0, [], [id], nn⟩
          | _ => False
        | _ => False
      | .arr n sz _, .int _ i => match ev env x with
        | .ptr id j => ∃ m : Nat, i = m ∧ m < n ∧ K ⟨.ptr id (j + m * sz), [], [], nn⟩
        | .eptr id s q j => ∃ m : Nat, i = m ∧ m < n ∧ K ⟨.eptr id s q (j + m * sz), [], [], nn⟩
        | .iptr c => ∃ m : Nat, i = m ∧ m < n ∧ K ⟨.iptr (c.drop (m * sz)), [], [], nn⟩
        | _ => False
      | _, _ => False
    | none => False
  | .index t x ix => match tab t with
    | some ti => match ti.d, ev env x, ev env ix with
      | .str, .str s, .int _ i => ∃ (m : Nat) (b : UInt8), i = m ∧ s[m]? = some b ∧ K ⟨.int .u8 b.toNat, [], [], nn⟩
      | .arr n sz g, .agg c, .int _ i => ∃ m : Nat, i = m ∧ m < n ∧ partA c (m * sz) sz g fun v => K ⟨v, [], [], nn⟩
      | _, _, _ => False
    | none => False
  | .slice t x lo hi mx => match tab t with
    | some ti => match ti.d with
      | .str => match mx, ev env x with
        | none, .str s => boundP env lo 0 fun l => boundP env hi s.size fun h => l ≤ h ∧ h ≤ s.size ∧ K ⟨.str (s.extract l h), [], [], nn⟩
        | _, _ => False
      | .slc _ sz _ _ => match ev env x with
        | .lst sz' xs => match mx with
          | none => sameN sz' sz <| boundP env lo 0 fun l => boundP env hi xs.length fun h => l ≤ h ∧ h ≤ xs.length ∧ ∃ ys : List (List AV), (xs.drop l).take (h - l) = ys ∧ K ⟨.lst sz ys, [], [], nn⟩
          | some _ => False
        | .nils => match mx with
          | none => boundP env lo 0 fun l => boundP env hi 0 fun h => l ≤ h ∧ h ≤ 0 ∧ K ⟨.lst sz [], [], [], nn⟩
          | some _ => False
        | .osl id => match H id with
          | some (.row sz' xs) => match mx with
            | none => sameN sz' sz <| boundP env lo 0 fun l => boundP env hi xs.length fun h => l ≤ h ∧ h ≤ xs.length ∧ K ⟨.sub id sz l h none, [], [id], nn⟩
            | some q => match hi with
              | some _ => sameN sz' sz <| boundP env lo 0 fun l => boundP env hi xs.length fun h => boundP env (some q) 0 fun m => l ≤ h ∧ h ≤ m ∧ m ≤ xs.length ∧ K ⟨.sub id sz l h (some m), [], [id], nn⟩
              | none => False
          | _ => False
        | _ => False
      | _ => False
    | none => False
  | .call c => match c.callee, c.args, c.argTypes with
    | .builtin .len, ⟨[x]⟩, ⟨[t]⟩ => match tab t with
      | some ti => match ti.d, ev env x with
        | .str, .str s => K ⟨.int .i64 s.size, [], [], nn⟩
        | .slc .., .lst _ xs => ∃ z : Int, ((xs.length : Nat) : Int) = z ∧ K ⟨.int .i64 z, [], [], nn⟩
        | .slc .., .nils => K ⟨.int .i64 (0 : Nat), [], [], nn⟩
        | .slc .., .osl id => match H id with
          | some (.row _ xs) => ∃ z : Int, ((xs.length : Nat) : Int) = z ∧ K ⟨.int .i64 z, [], [id], nn⟩
          | _ => False
        | .slc .., .sub _ _ lo hi _ => ∃ z : Int, ((hi - lo : Nat) : Int) = z ∧ K ⟨.int .i64 z, [], [], nn⟩
        | .arr n _ _, _ => K ⟨.int .i64 n, [], [], nn⟩
        | _, _ => False
      | none => False
    | .builtin .min, ⟨[x, y]⟩, _ => match ev env x, ev env y with
      | .int k m, .int _ n => K ⟨.int k (if n < m then n else m), [], [], nn⟩
      | _, _ => False
    | .builtin .max, ⟨[x, y]⟩, _ => match ev env x, ev env y with
      | .int k m, .int _ n => K ⟨.int k (if m < n then n else m), [], [], nn⟩
      | _, _ => False
    | .builtin .append, ⟨[s, x]⟩, ⟨[t, t']⟩ => match Nat.beq t' t with
      | true => match tab t with
        | some ti => match ti.d with
          | .slc _ sz eb ez => match Nat.beq ez.length sz with
            | true => ownP H g (ev env s) sz fun xs wr => contP H (ev env x) sz fun ys ids => (xs.length + ys.length) * eb ≤ 140737488355328 ∧ xs.length + ys.length ≤ maxLen ∧
                ∃ zs : List (List AV), xs ++ ys = zs ∧ K ⟨.osl nn, wr ++ [(nn, some (.row sz zs))], ids, nn + 1⟩
            | false => False
          | _ => False
        | none => False
      | false => False
    | .builtin .copy, ⟨[d, x]⟩, ⟨[t, _]⟩ => match tab t with
      | some ti => match ti.d with
        | .slc _ sz eb ez => match Nat.beq ez.length sz with
          | true => match ev env d with
            | .osl id => match H id with
              | some (.row sz' xs) => sameN sz' sz <| contP H (ev env x) sz fun ys ids => ys.length ≤ xs.length ∧ ∃ (zs : List (List AV)) (z : Int), ys ++ xs.drop ys.length = zs ∧ ((ys.length : Nat) : Int) = z ∧
                  K ⟨.int .i64 z, [(id, some (.row sz zs))], ids, nn⟩
              | _ => False
            | _ => False
          | false => False
        | _ => False
      | none => False
    | .value fx, xs, _ => match ev env fx with
      | .fn f cap => ∃ (args' : List AV) (gs bs : List Nat) (G G' : List ABlk) (res : AV) (Gc : List ABlk) (up : Bool) (m : Nat), CallOK P f (xs.toList.map (ev env) ++ cap) H nn args' gs bs G G' res Gc g up m ∧
          K ⟨res.ren (rho gs nn m), namesC (rho gs nn m) 0 Gc ++ upL up bs, gs ++ bs, nn + m + 1⟩
      | _ => False
    | _, _, _ => False
  | _ => False
end Go.Proofs.Ytkefkegknacpjaa.Ax
