/- The statement AuthorityNeverSaid: the law's Go function returns true for every input that can be read, and each argument reads afterwards as before. No condition. -/
import Derived.Test.YtbiofbmjonmglaaDoorCards
import Derived.Test.YtbiofbmjonmglaaDoorTie
import Derived.Test.YtbiofbmjonmglaaDoorAu4
import Derived.Test.YtbiofbmjonmglaaDoorExQAuthorityNever
import Derived.WalkKit
import Derived.ProofKit
import Derived.OpenShut
import Derived.ShutString
import Derived.ChangeOld
import Derived.Below
import Derived.Deep.DeepHandedRow
import Derived.Lib.LaidTab
namespace Go.Proofs.YtbiofbmjonmglaaDoor.authorityNeverCard
open Go.ChangeShapes Go.WideShapes Go.ChangeAt Go.RowKit
open Go.ChangeMaps (open_string shut_string)
open Go.Proofs.YtbiofbmjonmglaaDoor.Ax (RV AC)
set_option linter.unusedVariables false

theorem own : ownKnob Tryd.prog.godebug = none := by kernel_rfl
theorem laidOut : laidOutB Tryd.prog = true := by kernel_rfl

def IsRow (k : IntKind) (w : World) (a : Option Addr) (len cap : Nat) (zs : List Int) : Prop :=
  (a = none ∧ len = 0 ∧ cap = 0 ∧ zs = []) ∨
  ∃ x, a = some x ∧ len ≤ cap ∧ cap ≤ maxLen ∧ zs.length = cap ∧ (∀ i, i < zs.length → w.cell? (x.add i) = some (.int k (zs.getD i 0))) ∧ ∀ n ∈ zs, (Lit.int k n).wf = true

theorem gTab : Tryd.prog.globalNamed "baggage/authority.exceptions" = some 0 := by kernel_rfl
theorem gTabType : (Tryd.prog.globals[0]?).map (·.type) = some 98 := by kernel_rfl
theorem cellsT : Tryd.prog.cellsOf 98 = 4 := by kernel_rfl
theorem cellsE : Tryd.prog.cellsOf 3 = 1 := by kernel_rfl
theorem table {W : World} (h : laidMetH Tryd.prog Rows.authorityNeverRow.laid W) : Lib.TabIs Tryd.prog W "baggage/authority.exceptions" .i64 [0,3,4,5] :=
  Lib.tabIs_of_head (rest := []) gTab gTabType Tryd.underlying98 Tryd.underlying3 cellsE cellsT h
theorem walk (c0 : Array Value) (a1 : Option Addr) (len1 cap1 : Nat) (z1 : List Int) (c2 : Array Value) (a3 : Int) (a4 : Bool) (w : World) (w0 : ∃ x : Ex.Facts, Ex.Q_Facts x ∧ RV w (fun b => b < w.heap.size) Ax.noB (.agg (Ex.encFacts x)) (.agg c0)) (w1 : IsRow .i64 w a1 len1 cap1 z1) (w2 : ∃ x : Ex.Flight, Ex.Q_Flight x ∧ RV w (fun b => b < w.heap.size) Ax.noB (.agg (Ex.encFlight x)) (.agg c2)) (w3 : (Lit.int .i64 a3).wf = true) (hgl : Ax.GloR w (fun b => b < w.heap.size)) :
    Calls Tryd.prog 5 #[.agg c0, .slice a1 len1 cap1, .agg c2, .int .i64 a3, .bool a4] w fun e w' => e = .returned (.bool true) ∧ Below w.heap.size w w' := by
  obtain ⟨x0, q0, hx0⟩ := w0; obtain ⟨l1, hl1, rfl⟩ := ints_of_row w1; obtain ⟨x2, q2, hx2⟩ := w2; exact Ex.law_call (args := [.agg (Ex.encFacts x0), .lst 1 (l1.map Ex.iA), .agg (Ex.encFlight x2), .int .i64 a3, .bool a4]) (vals := [.agg c0, .slice a1 _ cap1, .agg c2, .int .i64 a3, .bool a4]) (Ex.law26_AuthorityNever_ac x0 l1 x2 a3 a4 true (Ex.never_okQ x0 l1 x2 a3 a4 q0 q2)) rfl ⟨hx0, Ex.rv_ints hl1, hx2, .int _ _, .bool _, trivial⟩ hgl

set_option maxRecDepth 100000 in
theorem contract (H : Type) (enc : TypeId × Value → H) (W : World) (base : Nat) (args : Array Value) (ds gs : List (DataW H)) (before : List MemPlace)
    (hval0 : ∀ (j : Nat) t v, Tryd.f5.params[j]? = some t → args[j]? = some v → Value.okWide Tryd.prog W .any base t v)
    (hW : DataW.Whole enc Tryd.prog Tryd.f5.params.toList Rows.authorityNeverSpec.vars false W args.toList ds gs before) (hL : laidMetH Tryd.prog Rows.authorityNeverRow.laid W) :
    Calls Tryd.prog 5 args W fun e W' => ∃ v, e = .returned v ∧ Rows.authorityNeverSpec.post enc Tryd.prog Tryd.f5 false true false false W args v W' := by
  have hval : ∀ (j : Nat) t v, Tryd.f5.params[j]? = some t → args[j]? = some v → Value.okWide Tryd.prog W .any base t v := hval0
  have hW' := hW
  obtain ⟨p, q, hA0, hV, rfl, hfz, hnd⟩ := hW
  have hA : DataW.TrodAll enc Tryd.prog W 0 (fun _ => true) true Tryd.f5.params.toList args.toList ds p := hA0
  rw [Tryd.params5] at hA hval
  obtain ⟨v0, vs0, d0, ds0, p0, q0, hargs, rfl, rfl, h0, r0⟩ := trodAll_cons hA
  obtain ⟨v1, vs1, d1, ds1, p1, q1, rfl, rfl, rfl, h1, r1⟩ := trodAll_cons r0
  obtain ⟨v2, vs2, d2, ds2, p2, q2, rfl, rfl, rfl, h2, r2⟩ := trodAll_cons r1
  obtain ⟨v3, vs3, d3, ds3, p3, q3, rfl, rfl, rfl, h3, r3⟩ := trodAll_cons r2
  obtain ⟨v4, vs4, d4, ds4, p4, q4, rfl, rfl, rfl, h4, r4⟩ := trodAll_cons r3
  obtain ⟨rfl, rfl, rfl⟩ := trodAll_nil r4
  obtain rfl : args = #[v0, v1, v2, v3, v4] := by cases args; simp_all
  obtain ⟨rfl, rfl⟩ := trodVars_none hV
  obtain ⟨c0, rfl, _⟩ := okWide_struct Tryd.underlying32 (hval 0 _ v0 rfl rfl)
  have k0 := h0
  have lt0 : ∀ x ∈ p0, x.block < W.heap.size := by obtain ⟨m, hm⟩ := k0; exact DataW.trod_lt m _ _ _ hm
  have w0 : ∃ x : Ex.Facts, Ex.Q_Facts x ∧ RV W (fun b => b < W.heap.size) Ax.noB (.agg (Ex.encFacts x)) (.agg c0) := Ex.agg_open (n := 8) (ks := Ex.k_Facts) Ex.encFacts Ex.Q_Facts Ex.dec_Facts (by kernel_rfl) h0
  obtain ⟨a1, len1, cap1, rfl⟩ := okWide_slice Tryd.underlying35 (hval 1 _ v1 rfl rfl)
  have k1 := h1
  have lt1 : ∀ x ∈ p1, x.block < W.heap.size := by obtain ⟨m, hm⟩ := k1; exact DataW.trod_lt m _ _ _ hm
  obtain ⟨z1, w1⟩ : ∃ zs, IsRow .i64 W a1 len1 cap1 zs := by
    obtain ⟨fuel, hf⟩ := h1
    rcases open_ints Tryd.underlying35 Tryd.underlying3 (by kernel_rfl) hf with ⟨hcs, _⟩ | ⟨x, l, c, zs, hcs, _, hl, hm, hz, _, hcell, hwz⟩
    · simp [Value.cells] at hcs
      obtain ⟨rfl, rfl, rfl⟩ := hcs
      exact ⟨[], .inl ⟨rfl, rfl, rfl, rfl⟩⟩
    · simp [Value.cells] at hcs
      obtain ⟨rfl, rfl, rfl⟩ := hcs
      exact ⟨zs, .inr ⟨_, rfl, hl, hm, by simpa using hz, hcell, hwz⟩⟩
  obtain ⟨c2, rfl, _⟩ := okWide_struct Tryd.underlying25 (hval 2 _ v2 rfl rfl)
  have k2 := h2
  have lt2 : ∀ x ∈ p2, x.block < W.heap.size := by obtain ⟨m, hm⟩ := k2; exact DataW.trod_lt m _ _ _ hm
  have w2 : ∃ x : Ex.Flight, Ex.Q_Flight x ∧ RV W (fun b => b < W.heap.size) Ax.noB (.agg (Ex.encFlight x)) (.agg c2) := Ex.agg_open (n := 8) (ks := Ex.k_Flight) Ex.encFlight Ex.Q_Flight Ex.dec_Flight (by kernel_rfl) h2
  obtain ⟨a3, rfl, rfl, rfl, w3⟩ := open_int Tryd.underlying3 (hval 3 _ v3 rfl rfl) h3
  obtain ⟨a4, rfl, rfl, rfl⟩ := open_bool Tryd.underlying4 (hval 4 _ v4 rfl rfl) h4
  clear hA0 hval0
  refine (walk c0 a1 len1 cap1 z1 c2 a3 a4 W w0 w1 w2 w3 (Ex.glo26 fun j hj => (table hL).cell gTab j (by simpa using hj))).mono fun e W' ⟨he, bel⟩ => ?_
  subst he
  exact ⟨_, rfl, _, _, _, [], _, [], hW', trodAll_mk1 (shut_bool Tryd.underlying4 _), (trodAll_cons_mk (Below.trod laidOut (by kernel_rfl) (of_decide_eq_true (by kernel_rfl)) k0 bel lt0) (trodAll_cons_mk (Below.trod laidOut (by kernel_rfl) (of_decide_eq_true (by kernel_rfl)) k1 bel lt1) (trodAll_cons_mk (Below.trod laidOut (by kernel_rfl) (of_decide_eq_true (by kernel_rfl)) k2 bel lt2) (trodAll_cons_mk (shut_int Tryd.underlying3 w3) (trodAll_cons_mk (shut_bool Tryd.underlying4 _) trodAll_mk0))))), rfl, bel.frame _, fun h => by cases h⟩

/-- a world for the witness -/
noncomputable def laidWorld (os : Os) : World :=
  { World.holding Tryd.prog os ⟨#[], #[], []⟩ with heap := (World.holding Tryd.prog os ⟨#[], #[], []⟩).heap.modify 0 fun
      | .cells _ t frozen => .cells #[.int .i64 0, .int .i64 3, .int .i64 4, .int .i64 5] t frozen
      | o => o }
theorem laid_met (os : Os) : laidMet Tryd.prog Rows.authorityNeverRow.laid ((laidWorld os).forCall (fun _ _ => 0) ⟨#[], #[.agg #[.bool false, .int .i64 0, .int .i64 0, .int .i64 0, .string .empty, .int .i64 0, .string .empty, .int .i64 0, .string .empty, .string .empty, .string .empty, .int .i64 0, .string .empty, .int .i64 0, .string .empty, .string .empty, .slice none 0 0, .int .i64 0, .int .i64 0, .int .i64 0, .bool false, .string .empty, .string .empty, .int .i64 0, .string .empty, .bool false, .int .i64 0, .bool false], .slice none 0 0, .agg #[.string .empty, .int .i64 0, .string .empty, .int .i64 0], .int .i64 0, .bool false], []⟩).memory :=
  laidMet_of_run' 8 (by kernel_rfl) (by kernel_rfl)
theorem reads (os : Os) {H : Type} (enc : TypeId × Value → H) : ∃ ds gs places, DataW.whole enc Tryd.prog ((laidWorld os).forCall (fun _ _ => 0) ⟨#[], #[.agg #[.bool false, .int .i64 0, .int .i64 0, .int .i64 0, .string .empty, .int .i64 0, .string .empty, .int .i64 0, .string .empty, .string .empty, .string .empty, .int .i64 0, .string .empty, .int .i64 0, .string .empty, .string .empty, .slice none 0 0, .int .i64 0, .int .i64 0, .int .i64 0, .bool false, .string .empty, .string .empty, .int .i64 0, .string .empty, .bool false, .int .i64 0, .bool false], .slice none 0 0, .agg #[.string .empty, .int .i64 0, .string .empty, .int .i64 0], .int .i64 0, .bool false], []⟩).memory Tryd.f5.params.toList Rows.authorityNeverSpec.vars false (#[.agg #[.bool false, .int .i64 0, .int .i64 0, .int .i64 0, .string .empty, .int .i64 0, .string .empty, .int .i64 0, .string .empty, .string .empty, .string .empty, .int .i64 0, .string .empty, .int .i64 0, .string .empty, .string .empty, .slice none 0 0, .int .i64 0, .int .i64 0, .int .i64 0, .bool false, .string .empty, .string .empty, .int .i64 0, .string .empty, .bool false, .int .i64 0, .bool false], .slice none 0 0, .agg #[.string .empty, .int .i64 0, .string .empty, .int .i64 0], .int .i64 0, .bool false] : Array Value).toList 8 = some (ds, gs, places) := by
  have h : (DataW.whole enc Tryd.prog ((laidWorld os).forCall (fun _ _ => 0) ⟨#[], #[.agg #[.bool false, .int .i64 0, .int .i64 0, .int .i64 0, .string .empty, .int .i64 0, .string .empty, .int .i64 0, .string .empty, .string .empty, .string .empty, .int .i64 0, .string .empty, .int .i64 0, .string .empty, .string .empty, .slice none 0 0, .int .i64 0, .int .i64 0, .int .i64 0, .bool false, .string .empty, .string .empty, .int .i64 0, .string .empty, .bool false, .int .i64 0, .bool false], .slice none 0 0, .agg #[.string .empty, .int .i64 0, .string .empty, .int .i64 0], .int .i64 0, .bool false], []⟩).memory Tryd.f5.params.toList Rows.authorityNeverSpec.vars false (#[.agg #[.bool false, .int .i64 0, .int .i64 0, .int .i64 0, .string .empty, .int .i64 0, .string .empty, .int .i64 0, .string .empty, .string .empty, .string .empty, .int .i64 0, .string .empty, .int .i64 0, .string .empty, .string .empty, .slice none 0 0, .int .i64 0, .int .i64 0, .int .i64 0, .bool false, .string .empty, .string .empty, .int .i64 0, .string .empty, .bool false, .int .i64 0, .bool false], .slice none 0 0, .agg #[.string .empty, .int .i64 0, .string .empty, .int .i64 0], .int .i64 0, .bool false] : Array Value).toList 8).isSome = true := by kernel_rfl
  obtain ⟨⟨a, b, c⟩, hx⟩ := Option.isSome_iff_exists.1 h
  exact ⟨a, b, c, hx⟩
set_option maxRecDepth 100000 in
theorem lifted (os : Os) (started : os.Started) (H : Type) (enc : TypeId × Value → H) (F : Stop.Interp) :
    ReturnsInHanded {} Tryd.checked os 5 .any ((OpenSpec.ofChange Rows.authorityNeverSpec).preRow enc Tryd.prog Tryd.f5 Rows.authorityNeverRow.domain false Rows.authorityNeverRow.laid) (((OpenSpec.ofChange Rows.authorityNeverSpec).at F).post enc Tryd.prog Tryd.f5 false true false false) := by
  obtain ⟨ds0, gs0, places, hx⟩ := reads os enc
  refine returnsInHanded_of_row (C := Tryd.checked) (s := OpenSpec.ofChange Rows.authorityNeverSpec) own started (by kernel_rfl) Tryd.func5
    (witness_row_at (enc := enc) (C := Tryd.checked) false (laidWorld os) #[.agg #[.bool false, .int .i64 0, .int .i64 0, .int .i64 0, .string .empty, .int .i64 0, .string .empty, .int .i64 0, .string .empty, .string .empty, .string .empty, .int .i64 0, .string .empty, .int .i64 0, .string .empty, .string .empty, .slice none 0 0, .int .i64 0, .int .i64 0, .int .i64 0, .bool false, .string .empty, .string .empty, .int .i64 0, .string .empty, .bool false, .int .i64 0, .bool false], .slice none 0 0, .agg #[.string .empty, .int .i64 0, .string .empty, .int .i64 0], .int .i64 0, .bool false] rfl (by kernel_rfl) (by kernel_rfl) (by kernel_rfl)
      (OpenSpec.preRow_of_cond 8 hx (by kernel_rfl) (fun k hk => by cases hk) (by kernel_rfl) (laid_met os))) ?_
  intro W base args ds gs before hval hW _ _ _ hL _ _
  exact contract H enc W base args ds gs before hval hW hL

theorem over : Rows.authorityNeverRow.holds Tryd.pinned (OpenSpec.ofChange Rows.authorityNeverSpec) :=
  OpenClaim.holds_of_cond 5 Tryd.f5 rfl rfl rfl rfl rfl rfl rfl ⟨rfl, rfl, rfl, rfl, rfl⟩ rfl rfl rfl rfl rfl (by kernel_rfl) Tryd.func5 (by kernel_rfl)
    (of_decide_eq_true (by kernel_rfl)) (by unfold Func.isWrapper; first | (rw [if_pos (by decide +kernel)]; kernel_rfl) | (rw [if_neg (by decide +kernel)]; exact ⟨rfl, rfl⟩))
    (fun os started H enc _ F => by rw [OpenClaim.pre_eq_preRow]; exact lifted os started H enc F)
/-- no parameter wants a stand-in -/
theorem plain (f : FuncId) (fn : Func) (hf : Tryd.pinned.checked.prog.funcNamed "baggage/baggagelaw26.AuthorityNever" = some f) (hfn : Tryd.pinned.checked.prog.funcs[f]? = some fn) :
    false = Tryd.pinned.checked.prog.looks [] ∧ ∀ (j : Nat) t, fn.params[j]? = some t → Tryd.pinned.checked.prog.wantsStandIn t = false := by
  obtain rfl : f = 5 := Option.some.inj ((show Tryd.prog.funcNamed "baggage/baggagelaw26.AuthorityNever" = some 5 by kernel_rfl).symm.trans hf) |>.symm
  obtain rfl : fn = Tryd.f5 := (Option.some.inj (Tryd.func5.symm.trans hfn)).symm
  refine ⟨by kernel_rfl, fun j t ht => ?_⟩
  have h := List.all_eq_true.1 (show (Tryd.f5.params.toList.all fun t => !(Tryd.prog.wantsStandIn t)) = true by kernel_rfl) t (List.mem_of_getElem? (i := j) (by rw [Array.getElem?_toList]; exact ht))
  exact (Bool.not_eq_true' _).mp h
theorem said : Rows.AuthorityNeverSaid := over
/-- The card: the statement that counts. -/
theorem proved : Rows.AuthorityNeverCardSaid :=
  Claim7.holds_tied_plain_at .later [] _ _ _ _ said (fun _ h => by cases h) (by kernel_rfl) (fun _ h => by cases h) authorityNever_row_tie rfl ⟨rfl, rfl⟩ (by kernel_rfl) rfl plain (by kernel_rfl)
#print axioms proved
end Go.Proofs.YtbiofbmjonmglaaDoor.authorityNeverCard
