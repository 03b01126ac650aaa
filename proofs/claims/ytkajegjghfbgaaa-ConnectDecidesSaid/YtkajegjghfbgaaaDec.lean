/- Values that came in, by the types of the program; printed by a program. -/
import Derived.Test.YtkajegjghfbgaaaOpn
import Derived.Test.YtkajegjghfbgaaaExT
namespace Go.Proofs.Ytkajegjghfbgaaa.Ex
open Go.RowKit Go.Proofs.Ytkajegjghfbgaaa.Ax
set_option linter.unusedVariables false
set_option linter.unusedSimpArgs false

def k_iA : List CK := [.int .i64]
theorem dec_iA (c : List AV) (h : KVs k_iA c) : ∃ x : Int, iA x = c ∧ True := by
  obtain ⟨v, us, rfl, _, h⟩ := kv_int h
  have := kv_nil h
  subst this
  exact ⟨v, rfl, trivial⟩

def k_Minimum : List CK := [.int .i64, .int .i64, .int .i64]
def Q_Minimum (x : Minimum) : Prop := True
theorem dec_Minimum (c : List AV) (h0 : KVs k_Minimum c) : ∃ x : Minimum, encMinimum x = c ∧ Q_Minimum x := by
  obtain ⟨v0, us0, rfl, _, h1⟩ := kv_int h0
  obtain ⟨v1, us1, rfl, _, h2⟩ := kv_int h1
  obtain ⟨v2, us2, rfl, _, h3⟩ := kv_int h2
  have := kv_nil h3
  subst this
  exact ⟨(⟨v0, v1, v2⟩ : Minimum), rfl, trivial⟩

def k_Src : List CK := [.sl k_iA, .int .i64]
def Q_Src (x : Src) : Prop := True
theorem dec_Src (c : List AV) (h0 : KVs k_Src c) : ∃ x : Src, encSrc x = c ∧ Q_Src x := by
  obtain ⟨xs0, us0, rfl, hx0, h1⟩ := kv_sl h0
  obtain ⟨v0, rfl, _⟩ := rows_ex dec_iA xs0 hx0
  obtain ⟨v1, us1, rfl, _, h2⟩ := kv_int h1
  have := kv_nil h2
  subst this
  exact ⟨(⟨v0, v1⟩ : Src), rfl, trivial⟩

def k_A6_Int : List CK := [.int .i64, .int .i64, .int .i64, .int .i64, .int .i64, .int .i64]
def Q_A6_Int (x : A6_Int) : Prop := True
theorem dec_A6_Int (c : List AV) (h0 : KVs k_A6_Int c) : ∃ x : A6_Int, encA6_Int x = c ∧ Q_A6_Int x := by
  obtain ⟨v0, us0, rfl, _, h1⟩ := kv_int h0
  obtain ⟨v1, us1, rfl, _, h2⟩ := kv_int h1
  obtain ⟨v2, us2, rfl, _, h3⟩ := kv_int h2
  obtain ⟨v3, us3, rfl, _, h4⟩ := kv_int h3
  obtain ⟨v4, us4, rfl, _, h5⟩ := kv_int h4
  obtain ⟨v5, us5, rfl, _, h6⟩ := kv_int h5
  have := kv_nil h6
  subst this
  exact ⟨(⟨v0, v1, v2, v3, v4, v5⟩ : A6_Int), rfl, trivial⟩

def k_A6_A6_Int : List CK := [.int .i64, .int .i64, .int .i64, .int .i64, .int .i64, .int .i64, .int .i64, .int .i64, .int .i64, .int .i64, .int .i64, .int .i64, .int .i64, .int .i64, .int .i64, .int .i64, .int .i64, .int .i64, .int .i64, .int .i64, .int .i64, .int .i64, .int .i64, .int .i64, .int .i64, .int .i64, .int .i64, .int .i64, .int .i64, .int .i64, .int .i64, .int .i64, .int .i64, .int .i64, .int .i64, .int .i64]
def Q_A6_A6_Int (x : A6_A6_Int) : Prop := True
theorem dec_A6_A6_Int (c : List AV) (h0 : KVs k_A6_A6_Int c) : ∃ x : A6_A6_Int, encA6_A6_Int x = c ∧ Q_A6_A6_Int x := by
  obtain ⟨v0, us0, rfl, _, h1⟩ := kv_int h0
  obtain ⟨v1, us1, rfl, _, h2⟩ := kv_int h1
  obtain ⟨v2, us2, rfl, _, h3⟩ := kv_int h2
  obtain ⟨v3, us3, rfl, _, h4⟩ := kv_int h3
  obtain ⟨v4, us4, rfl, _, h5⟩ := kv_int h4
  obtain ⟨v5, us5, rfl, _, h6⟩ := kv_int h5
  obtain ⟨v6, us6, rfl, _, h7⟩ := kv_int h6
  obtain ⟨v7, us7, rfl, _, h8⟩ := kv_int h7
  obtain ⟨v8, us8, rfl, _, h9⟩ := kv_int h8
  obtain ⟨v9, us9, rfl, _, h10⟩ := kv_int h9
  obtain ⟨v10, us10, rfl, _, h11⟩ := kv_int h10
  obtain ⟨v11, us11, rfl, _, h12⟩ := kv_int h11
  obtain ⟨v12, us12, rfl, _, h13⟩ := kv_int h12
  obtain ⟨v13, us13, rfl, _, h14⟩ := kv_int h13
  obtain ⟨v14, us14, rfl, _, h15⟩ := kv_int h14
  obtain ⟨v15, us15, rfl, _, h16⟩ := kv_int h15
  obtain ⟨v16, us16, rfl, _, h17⟩ := kv_int h16
  obtain ⟨v17, us17, rfl, _, h18⟩ := kv_int h17
  obtain ⟨v18, us18, rfl, _, h19⟩ := kv_int h18
  obtain ⟨v19, us19, rfl, _, h20⟩ := kv_int h19
  obtain ⟨v20, us20, rfl, _, h21⟩ := kv_int h20
  obtain ⟨v21, us21, rfl, _, h22⟩ := kv_int h21
  obtain ⟨v22, us22, rfl, _, h23⟩ := kv_int h22
  obtain ⟨v23, us23, rfl, _, h24⟩ := kv_int h23
  obtain ⟨v24, us24, rfl, _, h25⟩ := kv_int h24
  obtain ⟨v25, us25, rfl, _, h26⟩ := kv_int h25
  obtain ⟨v26, us26, rfl, _, h27⟩ := kv_int h26
  obtain ⟨v27, us27, rfl, _, h28⟩ := kv_int h27
  obtain ⟨v28, us28, rfl, _, h29⟩ := kv_int h28
  obtain ⟨v29, us29, rfl, _, h30⟩ := kv_int h29
  obtain ⟨v30, us30, rfl, _, h31⟩ := kv_int h30
  obtain ⟨v31, us31, rfl, _, h32⟩ := kv_int h31
  obtain ⟨v32, us32, rfl, _, h33⟩ := kv_int h32
  obtain ⟨v33, us33, rfl, _, h34⟩ := kv_int h33
  obtain ⟨v34, us34, rfl, _, h35⟩ := kv_int h34
  obtain ⟨v35, us35, rfl, _, h36⟩ := kv_int h35
  have := kv_nil h36
  subst this
  exact ⟨(⟨(⟨v0, v1, v2, v3, v4, v5⟩ : A6_Int), (⟨v6, v7, v8, v9, v10, v11⟩ : A6_Int), (⟨v12, v13, v14, v15, v16, v17⟩ : A6_Int), (⟨v18, v19, v20, v21, v22, v23⟩ : A6_Int), (⟨v24, v25, v26, v27, v28, v29⟩ : A6_Int), (⟨v30, v31, v32, v33, v34, v35⟩ : A6_Int)⟩ : A6_A6_Int), rfl, trivial⟩

def k_Plate : List CK := [.int .i64, .int .i64, .int .i64]
def Q_Plate (x : Plate) : Prop := True
theorem dec_Plate (c : List AV) (h0 : KVs k_Plate c) : ∃ x : Plate, encPlate x = c ∧ Q_Plate x := by
  obtain ⟨v0, us0, rfl, _, h1⟩ := kv_int h0
  obtain ⟨v1, us1, rfl, _, h2⟩ := kv_int h1
  obtain ⟨v2, us2, rfl, _, h3⟩ := kv_int h2
  have := kv_nil h3
  subst this
  exact ⟨(⟨v0, v1, v2⟩ : Plate), rfl, trivial⟩

def k_Connecting : List CK := [.int .i64, .int .i64, .int .i64, .int .i64, .int .i64, .int .i64, .int .i64]
def Q_Connecting (x : Connecting) : Prop := True
theorem dec_Connecting (c : List AV) (h0 : KVs k_Connecting c) : ∃ x : Connecting, encConnecting x = c ∧ Q_Connecting x := by
  obtain ⟨v0, us0, rfl, _, h1⟩ := kv_int h0
  obtain ⟨v1, us1, rfl, _, h2⟩ := kv_int h1
  obtain ⟨v2, us2, rfl, _, h3⟩ := kv_int h2
  obtain ⟨v3, us3, rfl, _, h4⟩ := kv_int h3
  obtain ⟨v4, us4, rfl, _, h5⟩ := kv_int h4
  obtain ⟨v5, us5, rfl, _, h6⟩ := kv_int h5
  obtain ⟨v6, us6, rfl, _, h7⟩ := kv_int h6
  have := kv_nil h7
  subst this
  exact ⟨(⟨(⟨v0, v1, v2⟩ : Plate), v3, v4, v5, v6⟩ : Connecting), rfl, trivial⟩

def k_HoldRule : List CK := [.int .i64, .int .i64, .int .i64]
def Q_HoldRule (x : HoldRule) : Prop := True
theorem dec_HoldRule (c : List AV) (h0 : KVs k_HoldRule c) : ∃ x : HoldRule, encHoldRule x = c ∧ Q_HoldRule x := by
  obtain ⟨v0, us0, rfl, _, h1⟩ := kv_int h0
  obtain ⟨v1, us1, rfl, _, h2⟩ := kv_int h1
  obtain ⟨v2, us2, rfl, _, h3⟩ := kv_int h2
  have := kv_nil h3
  subst this
  exact ⟨(⟨v0, v1, v2⟩ : HoldRule), rfl, trivial⟩

def k_Hold : List CK := [.int .i64, .int .i64, .sl k_Plate]
def Q_Hold (x : Hold) : Prop := True
theorem dec_Hold (c : List AV) (h0 : KVs k_Hold c) : ∃ x : Hold, encHold x = c ∧ Q_Hold x := by
  obtain ⟨v0, us0, rfl, _, h1⟩ := kv_int h0
  obtain ⟨v1, us1, rfl, _, h2⟩ := kv_int h1
  obtain ⟨xs2, us2, rfl, hx2, h3⟩ := kv_sl h2
  obtain ⟨v2, rfl, _⟩ := rows_ex dec_Plate xs2 hx2
  have := kv_nil h3
  subst this
  exact ⟨(⟨v0, v1, v2⟩ : Hold), rfl, trivial⟩

def k_Late : List CK := [.int .i64, .int .i64]
def Q_Late (x : Late) : Prop := True
theorem dec_Late (c : List AV) (h0 : KVs k_Late c) : ∃ x : Late, encLate x = c ∧ Q_Late x := by
  obtain ⟨v0, us0, rfl, _, h1⟩ := kv_int h0
  obtain ⟨v1, us1, rfl, _, h2⟩ := kv_int h1
  have := kv_nil h2
  subst this
  exact ⟨(⟨v0, v1⟩ : Late), rfl, trivial⟩

end Go.Proofs.Ytkajegjghfbgaaa.Ex
