/- Values that came in, by the types of the program; printed by a program. -/
import Derived.Test.YtpipggnfbgjefaaOpn
import Derived.Test.YtpipggnfbgjefaaExT
namespace Go.Proofs.Ytpipggnfbgjefaa.Ex
open Go.RowKit Go.Proofs.Ytpipggnfbgjefaa.Ax
set_option linter.unusedVariables false
set_option linter.unusedSimpArgs false

def k_iA : List CK := [.int .i64]
theorem dec_iA (c : List AV) (h : KVs k_iA c) : ∃ x : Int, iA x = c ∧ True := by
  obtain ⟨v, us, rfl, _, h⟩ := kv_int h
  have := kv_nil h
  subst this
  exact ⟨v, rfl, trivial⟩

def k_Flight : List CK := [.str, .int .i64, .str, .int .i64]
def Q_Flight (x : Flight) : Prop := True
theorem dec_Flight (c : List AV) (h0 : KVs k_Flight c) : ∃ x : Flight, encFlight x = c ∧ Q_Flight x := by
  obtain ⟨v0, us0, rfl, w0, h1⟩ := kv_str h0
  obtain ⟨v1, us1, rfl, _, h2⟩ := kv_int h1
  obtain ⟨v2, us2, rfl, w2, h3⟩ := kv_str h2
  obtain ⟨v3, us3, rfl, _, h4⟩ := kv_int h3
  have := kv_nil h4
  subst this
  exact ⟨(⟨v0, v1, v2, v3⟩ : Flight), rfl, trivial⟩

def k_Leg : List CK := [.str, .int .i64, .str, .int .i64, .str, .str]
def Q_Leg (x : Leg) : Prop := True
theorem dec_Leg (c : List AV) (h0 : KVs k_Leg c) : ∃ x : Leg, encLeg x = c ∧ Q_Leg x := by
  obtain ⟨v0, us0, rfl, w0, h1⟩ := kv_str h0
  obtain ⟨v1, us1, rfl, _, h2⟩ := kv_int h1
  obtain ⟨v2, us2, rfl, w2, h3⟩ := kv_str h2
  obtain ⟨v3, us3, rfl, _, h4⟩ := kv_int h3
  obtain ⟨v4, us4, rfl, w4, h5⟩ := kv_str h4
  obtain ⟨v5, us5, rfl, w5, h6⟩ := kv_str h5
  have := kv_nil h6
  subst this
  exact ⟨(⟨(⟨v0, v1, v2, v3⟩ : Flight), v4, v5⟩ : Leg), rfl, trivial⟩

def k_Plate : List CK := [.int .i64, .int .i64, .int .i64]
def Q_Plate (x : Plate) : Prop := True
theorem dec_Plate (c : List AV) (h0 : KVs k_Plate c) : ∃ x : Plate, encPlate x = c ∧ Q_Plate x := by
  obtain ⟨v0, us0, rfl, _, h1⟩ := kv_int h0
  obtain ⟨v1, us1, rfl, _, h2⟩ := kv_int h1
  obtain ⟨v2, us2, rfl, _, h3⟩ := kv_int h2
  have := kv_nil h3
  subst this
  exact ⟨(⟨v0, v1, v2⟩ : Plate), rfl, trivial⟩

def k_Message : List CK := [.int .i64, .int .i64, .str, .int .i64, .str, .int .i64, .str, .int .i64, .str, .str, .str, .int .i64, .str, .int .i64, .str, .str, .sl k_Leg, .int .i64, .int .i64, .int .i64, .int .i64, .bool, .int .i64, .int .i64, .int .i64, .str, .str, .int .i64, .str, .sl k_iA]
def Q_Message (x : Message) : Prop := x.Surname.size ≤ maxLen ∧ x.Given.size ≤ maxLen
theorem dec_Message (c : List AV) (h0 : KVs k_Message c) : ∃ x : Message, encMessage x = c ∧ Q_Message x := by
  obtain ⟨v0, us0, rfl, _, h1⟩ := kv_int h0
  obtain ⟨v1, us1, rfl, _, h2⟩ := kv_int h1
  obtain ⟨v2, us2, rfl, w2, h3⟩ := kv_str h2
  obtain ⟨v3, us3, rfl, _, h4⟩ := kv_int h3
  obtain ⟨v4, us4, rfl, w4, h5⟩ := kv_str h4
  obtain ⟨v5, us5, rfl, _, h6⟩ := kv_int h5
  obtain ⟨v6, us6, rfl, w6, h7⟩ := kv_str h6
  obtain ⟨v7, us7, rfl, _, h8⟩ := kv_int h7
  obtain ⟨v8, us8, rfl, w8, h9⟩ := kv_str h8
  obtain ⟨v9, us9, rfl, w9, h10⟩ := kv_str h9
  obtain ⟨v10, us10, rfl, w10, h11⟩ := kv_str h10
  obtain ⟨v11, us11, rfl, _, h12⟩ := kv_int h11
  obtain ⟨v12, us12, rfl, w12, h13⟩ := kv_str h12
  obtain ⟨v13, us13, rfl, _, h14⟩ := kv_int h13
  obtain ⟨v14, us14, rfl, w14, h15⟩ := kv_str h14
  obtain ⟨v15, us15, rfl, w15, h16⟩ := kv_str h15
  obtain ⟨xs16, us16, rfl, hx16, h17⟩ := kv_sl h16
  obtain ⟨v16, rfl, _⟩ := rows_ex dec_Leg xs16 hx16
  obtain ⟨v17, us17, rfl, _, h18⟩ := kv_int h17
  obtain ⟨v18, us18, rfl, _, h19⟩ := kv_int h18
  obtain ⟨v19, us19, rfl, _, h20⟩ := kv_int h19
  obtain ⟨v20, us20, rfl, _, h21⟩ := kv_int h20
  obtain ⟨v21, us21, rfl, h22⟩ := kv_bool h21
  obtain ⟨v22, us22, rfl, _, h23⟩ := kv_int h22
  obtain ⟨v23, us23, rfl, _, h24⟩ := kv_int h23
  obtain ⟨v24, us24, rfl, _, h25⟩ := kv_int h24
  obtain ⟨v25, us25, rfl, w25, h26⟩ := kv_str h25
  obtain ⟨v26, us26, rfl, w26, h27⟩ := kv_str h26
  obtain ⟨v27, us27, rfl, _, h28⟩ := kv_int h27
  obtain ⟨v28, us28, rfl, w28, h29⟩ := kv_str h28
  obtain ⟨xs29, us29, rfl, hx29, h30⟩ := kv_sl h29
  obtain ⟨v29, rfl, _⟩ := rows_ex dec_iA xs29 hx29
  have := kv_nil h30
  subst this
  exact ⟨(⟨v0, v1, v2, v3, (⟨(⟨v4, v5, v6, v7⟩ : Flight), v8, v9⟩ : Leg), (⟨(⟨v10, v11, v12, v13⟩ : Flight), v14, v15⟩ : Leg), v16, (⟨v17, v18, v19⟩ : Plate), v20, v21, v22, v23, v24, v25, v26, v27, v28, v29⟩ : Message), rfl, ⟨w25, w26⟩⟩

def k_Sender : List CK := [.str, .int .i64, .sl k_Message]
def Q_Sender (x : Sender) : Prop := True
theorem dec_Sender (c : List AV) (h0 : KVs k_Sender c) : ∃ x : Sender, encSender x = c ∧ Q_Sender x := by
  obtain ⟨v0, us0, rfl, w0, h1⟩ := kv_str h0
  obtain ⟨v1, us1, rfl, _, h2⟩ := kv_int h1
  obtain ⟨xs2, us2, rfl, hx2, h3⟩ := kv_sl h2
  obtain ⟨v2, rfl, _⟩ := rows_ex dec_Message xs2 hx2
  have := kv_nil h3
  subst this
  exact ⟨(⟨v0, v1, v2⟩ : Sender), rfl, trivial⟩

def k_Inbox : List CK := [.int .i64, .sl k_Sender]
def Q_Inbox (x : Inbox) : Prop := True
theorem dec_Inbox (c : List AV) (h0 : KVs k_Inbox c) : ∃ x : Inbox, encInbox x = c ∧ Q_Inbox x := by
  obtain ⟨v0, us0, rfl, _, h1⟩ := kv_int h0
  obtain ⟨xs1, us1, rfl, hx1, h2⟩ := kv_sl h1
  obtain ⟨v1, rfl, _⟩ := rows_ex dec_Sender xs1 hx1
  have := kv_nil h2
  subst this
  exact ⟨(⟨v0, v1⟩ : Inbox), rfl, trivial⟩

def k_Src : List CK := [.sl k_iA, .int .i64]
def Q_Src (x : Src) : Prop := True
theorem dec_Src (c : List AV) (h0 : KVs k_Src c) : ∃ x : Src, encSrc x = c ∧ Q_Src x := by
  obtain ⟨xs0, us0, rfl, hx0, h1⟩ := kv_sl h0
  obtain ⟨v0, rfl, _⟩ := rows_ex dec_iA xs0 hx0
  obtain ⟨v1, us1, rfl, _, h2⟩ := kv_int h1
  have := kv_nil h2
  subst this
  exact ⟨(⟨v0, v1⟩ : Src), rfl, trivial⟩

end Go.Proofs.Ytpipggnfbgjefaa.Ex
