/- The abstract walk of regions. Nothing of the dump is used here. -/
import Derived.Test.YtkefkegknacpjaaAxW
namespace Go.Proofs.Ytkefkegknacpjaa.Ax
open Go.RowKit
set_option linter.unusedVariables false
set_option linter.unusedSimpArgs false

def forceV : AV → (AV → Prop) → Prop
  | .agg c, K => forceL c fun c => K (.agg c)
  | .tup c, K => forceL c fun c => K (.tup c)
  | .fn f c, K => forceL c fun c => K (.fn f c)
  | .iptr c, K => forceL c fun c => K (.iptr c)
  | .ptr id j, K => forceN id fun id => K (.ptr id j)
  | .eptr id sz i j, K => forceN id fun id => K (.eptr id sz i j)
  | .osl id, K => forceN id fun id => K (.osl id)
  | .sub id a b c d, K => forceN id fun id => K (.sub id a b c d)
  | .any, K => K .any
  | .int k n, K => K (.int k n)
  | .tru, K => K .tru
  | .fls, K => K .fls
  | .bool b, K => K (.bool b)
  | .str s, K => K (.str s)
  | .nilp, K => K .nilp
  | .val v, K => K (.val v)
  | .nils, K => K .nils
  | .lst sz xs, K => K (.lst sz xs)

theorem forceV_iff {v : AV} {K : AV → Prop} : forceV v K ↔ K v := by
  cases v <;> first
    | exact Iff.rfl
    | exact forceN_iff (K := fun id => K (.ptr id _))
    | exact forceN_iff (K := fun id => K (.eptr id _ _ _))
    | exact forceN_iff (K := fun id => K (.osl id))
    | exact forceN_iff (K := fun id => K (.sub id _ _ _ _))
    | exact forceL_iff (K := fun c => K (.agg c))
    | exact forceL_iff (K := fun c => K (.tup c))
    | exact forceL_iff (K := fun c => K (.fn _ c))
    | exact forceL_iff (K := fun c => K (.iptr c))

def forceW : List (Nat × Option ABlk) → (List (Nat × Option ABlk) → Prop) → Prop
  | [], K => K []
  | (id, none) :: l, K => forceN id fun id => forceW l fun l => K ((id, none) :: l)
  | (id, some (.box c)) :: l, K => forceN id fun id => forceL c fun c => forceW l fun l => K ((id, some (.box c)) :: l)
  | (id, some (.row sz xs)) :: l, K => forceN id fun id => forceW l fun l => K ((id, some (.row sz xs)) :: l)
  | (id, some .dead) :: l, K => forceN id fun id => forceW l fun l => K ((id, some .dead) :: l)

theorem forceW_iff : ∀ {l : List (Nat × Option ABlk)} {K : List (Nat × Option ABlk) → Prop}, forceW l K ↔ K l
  | [], K => Iff.rfl
  | (id, none) :: l, K => forceN_iff.trans forceW_iff
  | (id, some (.box c)) :: l, K => forceN_iff.trans (forceL_iff.trans forceW_iff)
  | (id, some (.row sz xs)) :: l, K => forceN_iff.trans forceW_iff
  | (id, some .dead) :: l, K => forceN_iff.trans forceW_iff

/-- the state after an operation, in small terms -/
def stepK (σ : ASt) (o : Oper) (e : Eff) (K : Eff → ASt → Prop) : Prop := match σ, e with
  | ⟨env, H, _⟩, ⟨v, wr, rd, n'⟩ => forceV v fun v => forceW wr fun wr => forceN n' fun n' => K ⟨v, wr, rd, n'⟩ ⟨putE env o.dst v, wrH H wr, n'⟩

theorem stepK_iff {σ : ASt} {o : Oper} {e : Eff} {K : Eff → ASt → Prop} : stepK σ o e K ↔ K e (σ.app o e) :=
  forceV_iff.trans (forceW_iff.trans forceN_iff)

def setT (σ : ASt) (t : Nat) (v : AV) (K : ASt → Prop) : Prop := match σ with
  | ⟨env, H, n⟩ => K ⟨setE env t v, H, n⟩

/-- one operation with its guard -/
def awpG (P : Program) (tab : Tab) (g nt : Nat) (ops : List Oper) (o : Oper) (σ : ASt) (K : Eff → ASt → Prop) : Prop :=
  match (match o.dst with | none => true | some d => Nat.blt d nt) with
  | false => False
  | true => match o.guard with
    | none => awp1 P tab g o σ (fun e => stepK σ o e K)
    | some (j, want) => match (ops[j]?).bind (·.dst) with
      | none => False
      | some t => match σ.env t, want with
        | .tru, true => awp1 P tab g o σ (fun e => stepK σ o e K)
        | .fls, false => awp1 P tab g o σ (fun e => stepK σ o e K)
        | .tru, false => stepK σ o (skipE σ) K
        | .fls, true => stepK σ o (skipE σ) K
        | .bool b, true => (b = true → setT σ t .tru fun σ => awp1 P tab g o σ (fun e => stepK σ o e K)) ∧ (b = false → setT σ t .fls fun σ => stepK σ o (skipE σ) K)
        | .bool b, false => (b = false → setT σ t .fls fun σ => awp1 P tab g o σ (fun e => stepK σ o e K)) ∧ (b = true → setT σ t .tru fun σ => stepK σ o (skipE σ) K)
        | .tup [], _ => stepK σ o (skipE σ) K
        | _, _ => False

theorem ref_bool {σ : ASt} {t : Nat} {b : Bool} (h : σ.env t = .bool b) (v : AV) (hv : ∀ w F β, RV w F β v (.bool b)) : Ref σ ⟨setE σ.env t v, σ.H, σ.n⟩ := by
  refine ⟨fun u => ?_, rfl, rfl⟩
  by_cases hu : u = t
  · subst hu
    simp only [setE_same]
    intro w F β x hx
    rw [h] at hx
    cases hx
    exact hv w F β
  · simp only [setE_ne _ _ hu]
    exact .refl _

theorem awpG_ok {P : Program} {tab : Tab} (hT : TabOK P tab) {g nt : Nat} {ops : Array Oper} {o : Oper} {σ : ASt} {K : Eff → ASt → Prop} (h : awpG P tab g nt ops.toList o σ K) :
    ∃ σr e, Ref σ σr ∧ StepOK P g ops o σr e ∧ (∀ d, o.dst = some d → d < nt) ∧ K e (σr.app o e) := by
  unfold awpG at h
  split at h
  · exact h.elim
  · rename_i hd
    have hdst : ∀ d, o.dst = some d → d < nt := fun d e => by rw [e] at hd; exact Nat.blt_eq.mp hd
    split at h
    · rename_i hg
      obtain ⟨e, he, hok⟩ := awp1_ok hT h
      exact ⟨σ, e, .refl _, .inl ⟨hg, hok⟩, hdst, stepK_iff.1 he⟩
    · rename_i j want hg
      split at h
      · exact h.elim
      · rename_i t ht
        rw [Array.getElem?_toList] at ht
        have hb1 : ∀ (v : AV) (b : Bool), IsB v b → IsB ((⟨setE σ.env t v, σ.H, σ.n⟩ : ASt).env t) b := fun v b hb => by simp only [setE_same]; exact hb
        split at h
        · rename_i e1
          obtain ⟨e, he, hok⟩ := awp1_ok hT h
          exact ⟨σ, e, .refl _, .inr (.inr ⟨j, true, t, true, hg, ht, .inl ⟨e1, rfl⟩, .inl ⟨rfl, hok⟩⟩), hdst, stepK_iff.1 he⟩
        · rename_i e1
          obtain ⟨e, he, hok⟩ := awp1_ok hT h
          exact ⟨σ, e, .refl _, .inr (.inr ⟨j, false, t, false, hg, ht, .inr (.inl ⟨e1, rfl⟩), .inl ⟨rfl, hok⟩⟩), hdst, stepK_iff.1 he⟩
        · rename_i e1
          exact ⟨σ, _, .refl _, .inr (.inr ⟨j, false, t, true, hg, ht, .inl ⟨e1, rfl⟩, .inr ⟨by simp, rfl⟩⟩), hdst, stepK_iff.1 h⟩
        · rename_i e1
          exact ⟨σ, _, .refl _, .inr (.inr ⟨j, true, t, false, hg, ht, .inr (.inl ⟨e1, rfl⟩), .inr ⟨by simp, rfl⟩⟩), hdst, stepK_iff.1 h⟩
        · rename_i b e1
          cases b with
          | true =>
            obtain ⟨e, he, hok⟩ := awp1_ok hT (σ := ⟨setE σ.env t .tru, σ.H, σ.n⟩) (K := fun e => stepK ⟨setE σ.env t .tru, σ.H, σ.n⟩ o e K) (h.1 rfl)
            exact ⟨_, e, ref_bool e1 .tru (fun _ _ _ => .tru), .inr (.inr ⟨j, true, t, true, hg, ht, hb1 _ _ (.inl ⟨rfl, rfl⟩), .inl ⟨rfl, hok⟩⟩), hdst, stepK_iff.1 he⟩
          | false =>
            exact ⟨_, skipE σ, ref_bool e1 .fls (fun _ _ _ => .fls), .inr (.inr ⟨j, true, t, false, hg, ht, hb1 _ _ (.inr (.inl ⟨rfl, rfl⟩)), .inr ⟨by simp, rfl⟩⟩), hdst, stepK_iff.1 (h.2 rfl)⟩
        · rename_i b e1
          cases b with
          | false =>
            obtain ⟨e, he, hok⟩ := awp1_ok hT (σ := ⟨setE σ.env t .fls, σ.H, σ.n⟩) (K := fun e => stepK ⟨setE σ.env t .fls, σ.H, σ.n⟩ o e K) (h.1 rfl)
            exact ⟨_, e, ref_bool e1 .fls (fun _ _ _ => .fls), .inr (.inr ⟨j, false, t, false, hg, ht, hb1 _ _ (.inr (.inl ⟨rfl, rfl⟩)), .inl ⟨rfl, hok⟩⟩), hdst, stepK_iff.1 he⟩
          | true =>
            exact ⟨_, skipE σ, ref_bool e1 .tru (fun _ _ _ => .tru), .inr (.inr ⟨j, false, t, true, hg, ht, hb1 _ _ (.inl ⟨rfl, rfl⟩), .inr ⟨by simp, rfl⟩⟩), hdst, stepK_iff.1 (h.2 rfl)⟩
        · rename_i e1
          exact ⟨σ, _, .refl _, .inr (.inl ⟨j, _, t, hg, ht, e1, rfl⟩), hdst, stepK_iff.1 h⟩
        · exact h.elim

def awpOps (P : Program) (tab : Tab) (g nt : Nat) (ops : List Oper) : List Oper → ASt → (List Eff → ASt → Prop) → Prop
  | [], σ, K => K [] σ
  | o :: rest, σ, K => awpG P tab g nt ops o σ (fun e σ' => awpOps P tab g nt ops rest σ' (fun es σ'' => K (e :: es) σ''))

theorem awpOps_ok {P : Program} {tab : Tab} (hT : TabOK P tab) {g nt : Nat} {ops : Array Oper} : ∀ {l : List Oper} {σ : ASt} {K : List Eff → ASt → Prop}, awpOps P tab g nt ops.toList l σ K → ∃ es σ', Run P g nt ops l σ es σ' ∧ K es σ'
  | [], σ, K, h => ⟨[], σ, .nil σ, h⟩
  | o :: rest, σ, K, h => by
    obtain ⟨σr, e, h1, h2, h3, h4⟩ := awpG_ok hT h
    obtain ⟨es, σ', h5, h6⟩ := awpOps_ok hT h4
    exact ⟨e :: es, σ', .cons o rest σ σr σ' e es h1 h2 h3 h5, h6⟩

/-- the ids that operations read and write -/
def Eff.fp (e : Eff) : List Nat × List Nat := (e.rd, e.wids)

def conflB (ops : Array Oper) (oi oj : Oper) (fi fj : List Nat × List Nat) : Bool :=
  (match oi.dst with
    | some d => (oj.looksAt ops).contains d || (match oj.dst with | some d' => Nat.beq d' d | none => false)
    | none => false) ||
  (match oj.dst with
    | some d => (oi.looksAt ops).contains d
    | none => false) ||
  fi.2.any (fun id => fj.1.contains id || fj.2.contains id) || fj.2.any (fun id => fi.1.contains id)

def ordOK (ops : Array Oper) (fps : List (List Nat × List Nat)) : Bool :=
  let bm := befL ops.toList []
  (List.range ops.size).all fun j => match ops[j]?, fps[j]? with
    | some oj, some fj => oj.after.toList.all (fun e => !Region.binds .any e || Nat.blt e.on j) &&
        (List.range j).all fun i => (bm[j]?.getD 0).testBit i || (match ops[i]?, fps[i]? with
          | some oi, some fi => !conflB ops oi oj fi fj
          | _, _ => false)
    | _, _ => false

theorem conflB_ok {ops : Array Oper} {oi oj : Oper} {ei ej : Eff} (h : Confl ops oi oj ei ej) : conflB ops oi oj ei.fp ej.fp = true := by
  unfold conflB
  simp only [Bool.or_eq_true]
  rcases h with ⟨t, ⟨h1, h2⟩ | ⟨h1, h2⟩⟩ | ⟨id, ⟨h1, h2⟩ | ⟨h1, h2⟩⟩
  · refine .inl (.inl (.inl ?_))
    rw [h1]
    simp only [Bool.or_eq_true]
    rcases h2 with h2 | h2
    · exact .inl (by simpa using h2)
    · right; rw [h2]; simp
  · refine .inl (.inl (.inr ?_))
    rw [h1]
    simpa using h2
  · refine .inl (.inr ?_)
    rw [List.any_eq_true]
    refine ⟨id, h1, ?_⟩
    simp only [Bool.or_eq_true, Eff.fp, List.contains_iff_mem]
    exact h2
  · refine .inr ?_
    rw [List.any_eq_true]
    exact ⟨id, h1, by simpa [Eff.fp] using h2⟩

theorem run_fun {P : Program} {g nt : Nat} {ops : Array Oper} : ∀ {l : List Oper} {σ σ' : ASt} {es : List Eff}, Run P g nt ops l σ es σ' → ∃ (S R : Nat → ASt) (E : Nat → Eff), S 0 = σ ∧ S l.length = σ' ∧ es.length = l.length ∧ (∀ i e, es[i]? = some e → E i = e) ∧
    ∀ (i : Nat) (o : Oper), l[i]? = some o → Ref (S i) (R i) ∧ StepOK P g ops o (R i) (E i) ∧ (∀ d, o.dst = some d → d < nt) ∧ S (i + 1) = (R i).app o (E i) := by
  intro l σ σ' es h
  induction h with
  | nil σ => exact ⟨fun _ => σ, fun _ => σ, fun _ => skipE σ, rfl, rfl, rfl, fun i e h => by simp at h, fun i o h => by simp at h⟩
  | cons o rest σ σr σ' e es h1 h2 h3 _ ih =>
    obtain ⟨S, R, E, s0, s1, s2, s3, s4⟩ := ih
    refine ⟨fun | 0 => σ | i + 1 => S i, fun | 0 => σr | i + 1 => R i, fun | 0 => e | i + 1 => E i, rfl, s1, by simp [s2], fun i e' he => ?_, fun i o' ho => ?_⟩
    · cases i with
      | zero => simp at he; exact he
      | succ i => exact s3 i e' (by simpa using he)
    · cases i with
      | zero =>
        simp at ho
        subst ho
        exact ⟨h1, h2, h3, s0⟩
      | succ i => exact s4 i o' (by simpa using ho)

theorem run_draw {P : Program} (hP : P.follows .mixedOrders = true) {g nt id : Nat} {ops : Array Oper} {σ σ' : ASt} {es : List Eff} (h : Run P g nt ops ops.toList σ es σ') (ho : ordOK ops (es.map Eff.fp) = true) {C : Ctx} (hC : C.γ.length = g) (hnt : C.nt = nt) {a : Act} {w : World} (hR : Rel C (Below' σ.n) σ a w)
    {Q : Exit → Act → World → Prop} (hK : ∀ a' w', Rel C (Below' σ'.n) σ' a' w' → Q .normal a' w') : (Code.region id ops true).wp P Q a w := by
  obtain ⟨S, R, E, s0, s1, s2, s3, s4⟩ := run_fun h
  simp only [Array.length_toList] at s1 s2
  have hE : ∀ (i : Nat) (f : List Nat × List Nat), (es.map Eff.fp)[i]? = some f → (E i).fp = f := fun i f hf => by
    rw [List.getElem?_map] at hf
    cases he : es[i]? with
    | none => rw [he] at hf; cases hf
    | some e => rw [he] at hf; cases hf; rw [s3 i e he]
  unfold ordOK at ho
  simp only [List.all_eq_true, List.mem_range] at ho
  have T : Tr P g nt ops S R E := by
    refine ⟨fun i o hi => s4 i o (by rw [Array.getElem?_toList]; exact hi), fun i j oi oj hij hoi hoj hc => ?_, fun j i ⟨o, hoj, e, he, hb, hi⟩ => ?_⟩
    · have hj := (Array.getElem?_eq_some_iff.1 hoj).1
      have h1 := ho j hj
      rw [hoj] at h1
      have hfj : (es.map Eff.fp)[j]? = some (E j).fp := by
        have hlt : j < (es.map Eff.fp).length := by simp; omega
        rw [List.getElem?_eq_getElem hlt]
        exact congrArg some (hE j _ (List.getElem?_eq_getElem hlt)).symm
      have hfi : (es.map Eff.fp)[i]? = some (E i).fp := by
        have hlt : i < (es.map Eff.fp).length := by simp; omega
        rw [List.getElem?_eq_getElem hlt]
        exact congrArg some (hE i _ (List.getElem?_eq_getElem hlt)).symm
      rw [hfj] at h1
      simp only [Bool.and_eq_true, List.all_eq_true, List.mem_range] at h1
      have h2 := h1.2 i hij
      rw [hoi, hfi] at h2
      simp only [Bool.or_eq_true, conflB_ok hc, Bool.not_true, Bool.false_eq_true, or_false] at h2
      exact befL_ok ops ops.toList [] (fun j => .inl (by simp)) (fun j i hb => by simp at hb) j i h2
    · have hj := (Array.getElem?_eq_some_iff.1 hoj).1
      have h1 := ho j hj
      rw [hoj] at h1
      split at h1
      · rename_i oj fj e1 e2
        cases e1
        simp only [Bool.and_eq_true, List.all_eq_true] at h1
        have h2 := h1.1 e (by simpa using he)
        simp only [hb, Bool.not_true, Bool.false_or] at h2
        rw [← hi]
        exact Nat.blt_eq.mp h2
      · cases h1
  refine wp_region_any hP ?_
  have hR' : Rel C (Below' σ.n) σ a { w with drawn := w.drawn + 1 } := by
    obtain ⟨β, F, hB⟩ := hR
    exact ⟨β, F, hB.drew _⟩
  refine T.all hC hnt (fun a' w' hr => hK a' w' (s1 ▸ hr)) ops.size _ σ a _ (by simp) (by simp [List.countP_replicate]) ⟨?_, fun t k hk h1 _ => ?_, fun id k hk h1 _ => ?_, fun j i hL => ?_⟩
  · obtain ⟨β, F, hB⟩ := hR'
    exact ⟨β, F, hB.fin rfl rfl (fun i hi => .inl (by rw [s0]; exact hi))⟩
  · have hn : ∀ j, ¬ Ls (Array.replicate ops.size false) j := fun j hL => by
      unfold Ls at hL
      simp only [Array.getD_eq_getD_getElem?, Array.getElem?_replicate] at hL
      split at hL <;> simp at hL
    rw [← s0]
    exact T.chainT (Nat.zero_le _) hk (fun j o _ hj hoj hd => hn j (h1 j o hj hoj hd))
  · have hn : ∀ j, ¬ Ls (Array.replicate ops.size false) j := fun j hL => by
      unfold Ls at hL
      simp only [Array.getD_eq_getD_getElem?, Array.getElem?_replicate] at hL
      split at hL <;> simp at hL
    rw [← s0]
    exact T.chainH (Nat.zero_le _) hk (fun j _ hj hd => hn j (h1 j hj (by omega) hd))
  · unfold Ls at hL
    simp only [Array.getD_eq_getD_getElem?, Array.getElem?_replicate] at hL
    split at hL <;> simp at hL
end Go.Proofs.Ytkefkegknacpjaa.Ax
