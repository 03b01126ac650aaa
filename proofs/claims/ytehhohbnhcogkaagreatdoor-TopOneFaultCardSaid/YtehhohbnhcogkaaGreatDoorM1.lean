/- The ground of the proof: the abstract walker and what the program computes. -/
import Derived.WalkKit
import Derived.WalkLawsBesides
import Derived.WalkSpells
import Derived.Deep.QuietTactic
import Derived.BigQuiet
import Derived.Lib.Hide
import Derived.OpenShut
import Derived.Laws.CopyOwn
import Derived.Laws.OwnMore
import Derived.OwnWalkIn
import Derived.Laws.MakeOwn
import Derived.Laws.BytesString
import Derived.ChangeKeysEq
import Derived.Deep.AppendSrc
set_option linter.unusedVariables false
set_option linter.unusedSimpArgs false
namespace Go.Proofs.YtehhohbnhcogkaaGreatDoor
theorem Wo {α:Type _} {β:Type _} {a:α} {f:α->Option β} :(some a).bind f=f a:=rfl
theorem Wg {α:Type _} {l:List α} {i:Nat} (h:i<l.length):l[i]? =some l[i]:=List.getElem?_eq_getElem h
theorem Ws {α:Type _} {a:α} {l:List α} {i:Nat} :l[i]? =some a↔∃h:i<l.length,l[i]=a:=List.getElem?_eq_some_iff
theorem Wt {p:Prop} [Decidable p] (h:decide p=true):p:=of_decide_eq_true h
theorem Wf {p:Prop} [Decidable p] (h:decide p=false):¬p:=of_decide_eq_false h
theorem Wd {p:Prop} [Decidable p] (h:p):decide p=true:=decide_eq_true h
theorem We {p:Prop} [Decidable p] (h:¬p):decide p=false:=decide_eq_false h
theorem Wi {α:Type _} {a b:α} (h:some a=some b):a=b:=Option.some.inj h
theorem Wl {n m:Nat} (h:Nat.ble n m=true):n<=m:=Nat.le_of_ble_eq_true h
theorem Wm {α:Type _} {l:List α} {i:Nat} {a:α} (h:l[i]? =some a):a∈l:=List.mem_of_getElem? h
theorem Wn (n:Nat):n<n.succ:=Nat.lt_succ_self n
theorem Wz {α:Type _} {l:List α} (h:l.length=0):l=[]:=List.eq_nil_of_length_eq_zero h
theorem Wa {α:Type _} {xs:Array α} {i:Nat} {d:α} :xs.getD i d=xs[i]?.getD d:=Array.getD_eq_getD_getElem?
theorem Wb {α:Type _} {xs:Array α} {i:Nat} (h:i<xs.size):xs[i]? =some xs[i]:=Array.getElem?_eq_getElem h
theorem Wc {α:Type _} {l1 l2:List α} {n:Nat} (hn:n<l1.length):(l1++l2)[n]? =l1[n]?:=List.getElem?_append_left hn
theorem Wp {α:Type _} {β:Type _} {f:α->β} {l:List α} {i:Nat} :(l.map f)[i]? =Option.map f l[i]?:=List.getElem?_map
theorem Wu {α:Type _} {xs:Array α} {i:Nat} :xs.toList[i]? =xs[i]?:=Array.getElem?_toList
open Go.RowKit
def Jut (w:World) (v:Value) (l:List Int):Prop:=
 ∃a cap,v= .slice a l.length cap∧l.length<=cap∧cap<=maxLen∧(∀n∈l,(Lit.int .i64 n).wf=true)∧(a=none->cap=0)∧
  (0<l.length->∃b off,a=some ⟨b,off,none⟩∧b<w.heap.size∧∀k,k<l.length->w.cell? ⟨b,off+k,none⟩=some (.int .i64 (l[k]?.getD 0)))
theorem JlR {w:World} {a:Option Addr} {len cap:Nat} {zs:List Int}
  (h:(a=none∧len=0∧cap=0∧zs=[])∨∃x,a=some x∧len<=cap∧cap<=maxLen∧zs.length=cap∧(∀i,i<zs.length->w.cell? (x.add i)=some (.int .i64 (zs.getD i 0)))∧∀n∈zs,(Lit.int .i64 n).wf=true):
  ∃l,Jut w (.slice a len cap) l∧l.length=len:=by
 rcases h with⟨rfl,rfl,rfl,rfl⟩|⟨x,rfl,h1,h2,h3,h4,h5⟩
 . exact⟨[],⟨none,0,rfl,Nat.le_refl _,by simp [maxLen],by simp,fun _=>rfl,fun h=>by simp at h⟩,rfl⟩
 .
  have hlen:(zs.take len).length=len:=by simp;omega
  refine⟨zs.take len,⟨some x,cap,by rw [hlen],by omega,h2,fun n hn=>h5 n (List.mem_of_mem_take hn),(fun h=>by cases h),fun hl=> ?_⟩,hlen⟩
  rw [hlen] at hl ⊢
  have h0:=h4 0 (by omega)
  obtain⟨b,off,spot⟩:=x
  have hs:spot=none:=by
   cases spot with
   |none=>rfl
   |some s=>
    simp only [Addr.add,if_true,World.cell?] at h0
    split at h0<;>simp at h0
  subst hs
  refine⟨b,off,rfl,World.block_lt_of_cell? w _ h0,fun k hk=> ?_⟩
  have:=h4 k (by omega)
  rw [Addr.add_lit] at this
  rw [this,List.getElem?_take,if_pos hk]
  simp [List.getD_eq_getElem?_getD]
end Go.Proofs.YtehhohbnhcogkaaGreatDoor
namespace Go.Proofs.YtehhohbnhcogkaaGreatDoor.Ax
def JsY:Nat->List (IntKind×Int)
 |1=>[(.u8,0),(.u8,1),(.u8,56),(.u8,2),(.u8,57),(.u8,49),(.u8,28),(.u8,3),(.u8,61),(.u8,58),(.u8,42),(.u8,50),(.u8,38),(.u8,29),(.u8,17),(.u8,4),(.u8,62),(.u8,47),(.u8,59),(.u8,36),(.u8,45),(.u8,43),(.u8,51),(.u8,22),(.u8,53),(.u8,39),(.u8,33),(.u8,30),(.u8,24),(.u8,18),(.u8,12),(.u8,5),(.u8,63),(.u8,55),(.u8,48),(.u8,27),(.u8,60),(.u8,41),(.u8,37),(.u8,16),(.u8,46),(.u8,35),(.u8,44),(.u8,21),(.u8,52),(.u8,32),(.u8,23),(.u8,11),(.u8,54),(.u8,26),(.u8,40),(.u8,15),(.u8,34),(.u8,20),(.u8,31),(.u8,10),(.u8,25),(.u8,14),(.u8,19),(.u8,9),(.u8,13),(.u8,8),(.u8,7),(.u8,6)]
 |_=>[]
end Go.Proofs.YtehhohbnhcogkaaGreatDoor.Ax
namespace Go.Proofs.YtehhohbnhcogkaaGreatDoor.Ax
open Go.RowKit
variable {w w':World} {v:Value}
inductive AV where
 |any
 |int (k:IntKind) (n:Int)
 |tru
 |fls
 |bool (b:Bool)
 |str (s:ByteArray)
 |nilp
 |val (v:Value)
 |nils
 |ptr (id j:Nat)
 |eptr (id sz i j:Nat)
 |mp (id:Nat)
 |iptr (c:List AV)
 |lst (sz:Nat) (xs:List (List AV))
 |lsc (sz:Nat) (xs:List (List AV))
 |osl (id:Nat)
 |sub (id sz lo hi:Nat) (mx:Option Nat)
 |agg (c:List AV)
 |tup (vs:List AV)
 |fn (f:FuncId) (cap:List AV)
instance :Inhabited AV:=⟨.any⟩
def AV.one:AV->Bool
 | .any | .agg _ | .tup _ | .val _=>false
 |_=>true
def AV.cells:AV->List AV
 | .agg c=>c
 |v=>[v]
structure Hdr where
 blk:Option Nat
 len:Nat
 cap:Nat
 kids:List (Option Nat×Nat×Nat)
def Hdr.sim (g' g:Hdr):Prop:=g'.blk=g.blk∧g'.len=g.len∧g'.cap=g.cap
abbrev YN (b:Option Nat) (l c:Nat):Hdr:=⟨b,l,c,[]⟩
def J5 (b:Option Nat) (o:Nat):Option Addr:=b.map fun b=>⟨b,o,none⟩
def noB:Nat->Option Hdr:=fun _=>none
inductive RV (w:World) (F:Nat->Prop):(Nat->Option Hdr)->AV->Value->Prop where
 |any {β} (v:Value):RV w F β .any v
 |int {β} (k:IntKind) (n:Int):RV w F β (.int k n) (.int k n)
 |tru {β}:RV w F β .tru (.bool true)
 |fls {β}:RV w F β .fls (.bool false)
 |bool {β} (b:Bool):RV w F β (.bool b) (.bool b)
 |str {β} (s:ByteArray):RV w F β (.str s) (.string s)
 |nilp {β}:RV w F β .nilp (.pointer none)
 |val {β} (v:Value):RV w F β (.val v) v
 |nils {β}:RV w F β .nils (.slice none 0 0)
 |ptr {β} (id j b:Nat) (h:Hdr):β id=some h->h.blk=some b->RV w F β (.ptr id j) (.pointer (some ⟨b,j,none⟩))
 |eptr {β} (id sz i j b:Nat) (h:Hdr):β id=some h->h.blk=some b->RV w F β (.eptr id sz i j) (.pointer (some ⟨b,i*sz+j,none⟩))
 |mp {β} (id b:Nat) (h:Hdr):β id=some h->h.blk=some b->RV w F β (.mp id) (.map (some b))
 |iptr {β} (c:List AV) (b o:Nat) (vs:Nat->Value):F b->(∀(j:Nat) (u:AV),c[j]? =some u->w.cell? ⟨b,o+j,none⟩=some (vs j))->
  (∀(j:Nat) (u:AV),c[j]? =some u->u.one=true)->(∀(j:Nat) (u:AV),c[j]? =some u->RV w F noB u (vs j))->RV w F β (.iptr c) (.pointer (some ⟨b,o,none⟩))
 |lst {β} (sz:Nat) (xs:List (List AV)) (a:Option Addr) (cap:Nat) (vs:Nat->Nat->Value):xs.length<=cap->cap<=maxLen->(a=none->cap=0)->
  (∀ad,a=some ad->0<xs.length->ad.spot=none∧F ad.block)->(∀(k:Nat) (c:List AV),xs[k]? =some c->c.length=sz∧∀u∈c,u.one=true)->
  (∀(ad:Addr) (k:Nat) (c:List AV) (j:Nat) (u:AV),a=some ad->xs[k]? =some c->c[j]? =some u->w.cell? ⟨ad.block,ad.off+k*sz+j,none⟩=some (vs k j))->
  (∀(k:Nat) (c:List AV) (j:Nat) (u:AV),xs[k]? =some c->c[j]? =some u->RV w F noB u (vs k j))->RV w F β (.lst sz xs) (.slice a xs.length cap)
 |lsc {β} (sz:Nat) (xs:List (List AV)) (a:Option Addr):RV w F β (.lst sz xs) (.slice a xs.length xs.length)->RV w F β (.lsc sz xs) (.slice a xs.length xs.length)
 |osl {β} (id:Nat) (h:Hdr):β id=some h->RV w F β (.osl id) (.slice (J5 h.blk 0) h.len h.cap)
 |sub {β} (id sz lo hi:Nat) (mx:Option Nat) (h:Hdr):β id=some h->RV w F β (.sub id sz lo hi mx) (.slice (J5 h.blk (if mx.getD h.cap=lo then 0 else lo*sz)) (hi - lo) (mx.getD h.cap - lo))
 |agg {β} (c:List AV) (cs:Array Value):c.length=cs.size->(∀(j:Nat) (u:AV) (v:Value),c[j]? =some u->cs[j]? =some v->RV w F β u v)->RV w F β (.agg c) (.agg cs)
 |tup {β} (c:List AV) (cs:Array Value):c.length=cs.size->(∀(j:Nat) (u:AV) (v:Value),c[j]? =some u->cs[j]? =some v->RV w F β u v)->RV w F β (.tup c) (.tuple cs)
 |fn {β} (f:FuncId) (c:List AV) (cs:Array Value):c.length=cs.size->(∀(j:Nat) (u:AV) (v:Value),c[j]? =some u->cs[j]? =some v->RV w F β u v)->RV w F β (.fn f c) (.func (.func f) #[] cs)
theorem JjM {b o:Nat} (h:w'.heap[b]? =w.heap[b]?):w'.cell? ⟨b,o,none⟩=w.cell? ⟨b,o,none⟩:=by simp [World.cell?,h]
theorem RV.mono {F F':Nat->Prop} {β β':Nat->Option Hdr} {x:AV} (h:RV w F β x v) (hF:∀b,F b->F' b)
  (hw:∀b,F b->w'.heap[b]? =w.heap[b]?) (hβ:∀id h,β id=some h->β' id=some h):RV w' F' β' x v:=by
 induction h generalizing β' with
 |any v=>exact .any v
 |int k n=>exact .int k n
 |tru=>exact .tru
 |fls=>exact .fls
 |bool b=>exact .bool b
 |str s=>exact .str s
 |nilp=>exact .nilp
 |val v=>exact .val v
 |nils=>exact .nils
 |ptr id j b h h1 h2=>exact .ptr id j b h (hβ _ _ h1) h2
 |eptr id sz i j b h h1 h2=>exact .eptr id sz i j b h (hβ _ _ h1) h2
 |mp id b h h1 h2=>exact .mp id b h (hβ _ _ h1) h2
 |iptr c b o vs hb h1 ho _ ih=>exact .iptr c b o vs (hF _ hb) (fun j u hu=>(JjM (hw b hb)).trans (h1 j u hu)) ho (fun j u hu=>ih j u hu (fun _ _ e=>e))
 |lst sz xs a cap vs h1 h2 h3 h4 h5 h6 _ ih=>
  refine .lst sz xs a cap vs h1 h2 h3 (fun ad ha h0=>⟨(h4 ad ha h0).1,hF _ (h4 ad ha h0).2⟩) h5 (fun ad k c j u ha hk hj=> ?_) (fun k c j u hk hj=>ih k c j u hk hj (fun _ _ e=>e))
  exact(JjM (hw _ (h4 ad ha (Nat.lt_of_le_of_lt (Nat.zero_le _) (List.getElem?_eq_some_iff.1 hk).1)).2)).trans (h6 ad k c j u ha hk hj)
 |lsc sz xs a _ ih=>exact .lsc sz xs a (ih hβ)
 |osl id h h1=>exact .osl id h (hβ _ _ h1)
 |sub id sz lo hi mx h h1=>exact .sub id sz lo hi mx h (hβ _ _ h1)
 |agg c cs h1 _ ih=>exact .agg c cs h1 (fun j u v hu hv=>ih j u v hu hv hβ)
 |tup c cs h1 _ ih=>exact .tup c cs h1 (fun j u v hu hv=>ih j u v hu hv hβ)
 |fn f c cs h1 _ ih=>exact .fn f c cs h1 (fun j u v hu hv=>ih j u v hu hv hβ)
theorem RV.up {F:Nat->Prop} {β:Nat->Option Hdr} {x:AV} (h:RV w F noB x v):RV w F β x v:=
 h.mono (fun _ x=>x) (fun _ _=>rfl) (fun _ _ e=>by cases e)
theorem RV.oneCell {F:Nat->Prop} {β:Nat->Option Hdr} {x:AV} (h:RV w F β x v) (h1:x.one=true):v.oneCell'=true∧v.cells= #[v]:=by
 cases h<;>first |exact⟨rfl,rfl⟩|cases h1
def avc:Value->AV
 | .int k n=> .int k n
 | .bool true=> .tru
 | .bool false=> .fls
 | .string s=> .str s
 | .pointer none=> .nilp
 | .slice none 0 0=> .nils
 |_=> .any
theorem RV.const (w:World) (F:Nat->Prop) (β:Nat->Option Hdr) (v:Value):RV w F β (avc v) v:=by
 unfold avc
 split
 . exact .int _ _
 . exact .tru
 . exact .fls
 . exact .str _
 . exact .nilp
 . exact .nils
 . exact .any _
def RVs (w:World) (F:Nat->Prop) (β:Nat->Option Hdr) (c:List AV) (cs:Array Value):Prop:=
 c.length=cs.size∧∀(j:Nat) (u:AV) (v:Value),c[j]? =some u->cs[j]? =some v->RV w F β u v
theorem RVs.mono {F F':Nat->Prop} {β β':Nat->Option Hdr} {c:List AV} {cs:Array Value} (h:RVs w F β c cs) (hF:∀b,F b->F' b)
  (hw:∀b,F b->w'.heap[b]? =w.heap[b]?) (hβ:∀id h,β id=some h->β' id=some h):RVs w' F' β' c cs:=
 ⟨h.1,fun j u v hu hv=>(h.2 j u v hu hv).mono hF hw hβ⟩
inductive NE where
 |hid (xs:List Int)
 |ext (id:Nat)
 |raw (u:AV)
inductive ABlk where
 |box (c:List AV)
 |row (sz:Nat) (xs:List (List AV))
 |dead
 |obj (q:Obj->Prop)
 |nest (l:List NE)
def Jbm:ABlk->Option ABlk
 | .box c=>some (.box c)
 | .row sz xs=>some (.row sz xs)
 | .dead=>none
 | .obj q=>some (.obj q)
 | .nest l=>some (.nest l)
def Jmg (w:World) (x:Option Nat×Nat×Nat) (xs:List Int):Prop:=
 x.2.1=xs.length∧xs.length<=x.2.2∧x.2.2<=maxLen∧(x.1=none->x.2.2=0)∧
  ∀b,x.1=some b->∃arr ty,w.heap[b]? =some (.cells arr ty (0,0))∧x.2.2<=arr.size∧∀(j:Nat) (n:Int),xs[j]? =some n->arr[j]? =some (.int .i64 n)
def NER (w:World) (β:Nat->Option Hdr) (x:Option Nat×Nat×Nat):NE->Prop
 | .hid xs=>Jmg w x xs
 | .ext id=>∃g,β id=some g∧x=(g.blk,g.len,g.cap)
 | .raw _=>True
def NEV (w:World) (F:Nat->Prop) (β:Nat->Option Hdr) (x:Option Nat×Nat×Nat) (v:Value):NE->Prop
 | .raw u=>u.one=true∧RV w F β u v
 |_=>v= .slice (J5 x.1 0) x.2.1 x.2.2
def Jco (h:Hdr) (l:List NE) (i b:Nat):Prop:=∃xs x,l[i]? =some (.hid xs)∧h.kids[i]? =some x∧x.1=some b
def JfY (w:World) (F:Nat->Prop) (β:Nat->Option Hdr) (h:Hdr) (l:List NE):Prop:=
 h.len=l.length∧l.length<=h.cap∧h.cap<=maxLen∧(h.blk=none->h.cap=0)∧h.kids.length=l.length∧
 (∀i j b,Jco h l i b->Jco h l j b->i=j)∧(∀i b,Jco h l i b->h.blk≠some b)∧
 (∀(i:Nat) (e:NE) (x:Option Nat×Nat×Nat),l[i]? =some e->h.kids[i]? =some x->NER w β x e)∧
 ∀b,h.blk=some b->∃arr ty,w.heap[b]? =some (.cells arr ty (0,0))∧h.cap<=arr.size∧
  ∀(i:Nat) (e:NE) (x:Option Nat×Nat×Nat),l[i]? =some e->h.kids[i]? =some x->∃v,arr[i]? =some v∧NEV w F β x v e
def QS (h:Hdr) (k:ABlk) (b:Nat):Prop:=h.blk=some b∨match k with
 | .nest l=>∃i,Jco h l i b
 |_=>False
def YE (w:World) (F:Nat->Prop) (β:Nat->Option Hdr) (h:Hdr):ABlk->Prop
 | .box c=>∃b arr ty,h.blk=some b∧w.heap[b]? =some (.cells arr ty (0,0))∧RVs w F β c arr
 | .row sz xs=>h.len=xs.length∧xs.length<=h.cap∧h.cap<=maxLen∧(h.blk=none->h.cap=0)∧(∀(k:Nat) (c:List AV),xs[k]? =some c->c.length=sz∧∀u∈c,u.one=true)∧
  ∀b,h.blk=some b->∃arr ty,w.heap[b]? =some (.cells arr ty (0,0))∧h.cap*sz<=arr.size∧
   ∀(k:Nat) (c:List AV) (j:Nat) (u:AV),xs[k]? =some c->c[j]? =some u->∃v,arr[k*sz+j]? =some v∧RV w F β u v
 | .dead=>False
 | .obj q=>∃b o,h.blk=some b∧w.heap[b]? =some o∧q o
 | .nest l=>JfY w F β h l
theorem Jmg.mono {x:Option Nat×Nat×Nat} {xs:List Int} (h:Jmg w x xs) (hw:∀b,x.1=some b->w'.heap[b]? =w.heap[b]?):Jmg w' x xs:=by
 obtain⟨h1,h2,h3,h4,h5⟩:=h
 refine⟨h1,h2,h3,h4,fun b e=> ?_⟩
 obtain⟨arr,ty,q1,q2⟩:=h5 b e
 exact⟨arr,ty,(hw b e).trans q1,q2⟩
theorem YE.mono {F F':Nat->Prop} {β β':Nat->Option Hdr} {h:Hdr} {k:ABlk} (hk:YE w F β h k) (hF:∀b,F b->F' b)
  (hw:∀b,F b->w'.heap[b]? =w.heap[b]?) (hb:∀b,QS h k b->w'.heap[b]? =w.heap[b]?) (hβ:∀id h,β id=some h->β' id=some h):YE w' F' β' h k:=by
 cases k with
 |box c=>
  obtain⟨b,arr,ty,h1,h2,h3⟩:=hk
  exact⟨b,arr,ty,h1,(hb b (.inl h1)).trans h2,h3.mono hF hw hβ⟩
 |row sz xs=>
  obtain⟨h1,h2,h3,h4,h5,h6⟩:=hk
  refine⟨h1,h2,h3,h4,h5,fun b e=> ?_⟩
  obtain⟨arr,ty,g1,g2,g3⟩:=h6 b e
  refine⟨arr,ty,(hb b (.inl e)).trans g1,g2,fun k c j u hk hj=> ?_⟩
  obtain⟨v,hv,hr⟩:=g3 k c j u hk hj
  exact⟨v,hv,hr.mono hF hw hβ⟩
 |dead=>exact hk.elim
 |obj q=>
  obtain⟨b,o,h1,h2,h3⟩:=hk
  exact⟨b,o,h1,(hb b (.inl h1)).trans h2,h3⟩
 |nest l=>
  obtain⟨h1,h2,h3,h4,h5,h6,h7,h8,h9⟩:=hk
  refine⟨h1,h2,h3,h4,h5,h6,h7,fun i e x hi hx=> ?_,fun b e=> ?_⟩
  .
   have:=h8 i e x hi hx
   cases e with
   |hid xs=>exact Jmg.mono this (fun b hb'=>hb b (.inr ⟨i,xs,x,hi,hx,hb'⟩))
   |ext id=>obtain⟨g,q1,q2⟩:=this;exact⟨g,hβ _ _ q1,q2⟩
   |raw u=>trivial
  .
   obtain⟨arr,ty,q1,q2,q3⟩:=h9 b e
   refine⟨arr,ty,(hb b (.inl e)).trans q1,q2,fun i e x hi hx=> ?_⟩
   obtain⟨v,r1,r2⟩:=q3 i e x hi hx
   refine⟨v,r1,?_⟩
   cases e with
   |hid xs=>exact r2
   |ext id=>exact r2
   |raw u=>exact⟨r2.1,r2.2.mono hF hw hβ⟩
structure ASt where
 env:Nat->AV
 H:Nat->Option ABlk
 n:Nat
structure Ctx where
 w0:World
 γ:List Hdr
 F0:Nat->Prop
 nt:Nat
 M:Nat->Prop
 df:List Deferred
abbrev Ctx.Mine (C:Ctx) (b:Nat):Prop:=C.M b∨C.w0.heap.size<=b
def glo (g:Nat):AV:=match JsY g with
 |[]=> .any
 |x::l=> .iptr ((x::l).map fun p=> .int p.1 p.2)
abbrev Ji6 (w:World) (F:Nat->Prop):Prop:=∀g,RV w F noB (glo g) (.pointer (some ⟨g,0,none⟩))
structure TapeLe (w' w:World):Prop where
 eq:w'.tape=w.tape
 le:w.drawn<=w'.drawn
theorem TapeLe.trans {a b c:World} (h:TapeLe a b) (k:TapeLe b c):TapeLe a c:=⟨h.eq.trans k.eq,Nat.le_trans k.le h.le⟩
theorem TapeLe.it (h:w'.tape=w.tape:=by rfl) (k:w.drawn<=w'.drawn:=by first |exact Nat.le_refl _ |exact Nat.le_succ _):TapeLe w' w:=⟨h,k⟩
structure RelB (C:Ctx) (I:Nat->Prop) (σ:ASt) (a:Act) (w:World) (β:Nat->Option Hdr) (F:Nat->Prop):Prop where
 env:∀t,RV w F β (σ.env t) (a.tmps.getD t undef)
 size:a.tmps.size=C.nt
 defers:a.defers=C.df
 live:∀id k,σ.H id=some k->∃h,β id=some h∧YE w F β h k∧∀b,QS h k b->b<w.heap.size∧¬F b∧C.Mine b
 inj:∀id id' k k' h h' b,σ.H id=some k->σ.H id'=some k'->β id=some h->β id'=some h'->QS h k b->QS h' k' b->id=id'
 dom:∀id h,β id=some h->I id
 gr:∀(i:Nat) (h:Hdr),C.γ[i]? =some h->β i=some h
 sub:∀b,C.F0 b->F b
 news:∀b,F b->b<w.heap.size∧(C.F0 b∨C.Mine b)
 os:w.os=C.w0.os
 tape:TapeLe w C.w0
 output:w.output=C.w0.output
 grow:C.w0.heap.size<=w.heap.size
 block:∀b,b<C.w0.heap.size->¬C.M b->w.heap[b]? =C.w0.heap[b]?
 glo:Ji6 w F
def Rel (C:Ctx) (I:Nat->Prop) (σ:ASt) (a:Act) (w:World):Prop:=∃β F,RelB C I σ a w β F
def Je4 (env:Nat->AV) (t:Nat) (v:AV):Nat->AV:=fun u=>match Nat.beq u t with
 |true=>v
 |false=>env u
def ZI (H:Nat->Option ABlk) (t:Nat) (v:Option ABlk):Nat->Option ABlk:=fun u=>match Nat.beq u t with
 |true=>v
 |false=>H u
theorem Jdf (env:Nat->AV) (t:Nat) (v:AV):Je4 env t v t=v:=by simp [Je4]
theorem Jc6 (env:Nat->AV) {t u:Nat} (v:AV) (h:u≠t):Je4 env t v u=env u:=by
 unfold Je4
 split
 . rename_i e;exact absurd (Nat.eq_of_beq_eq_true e) h
 . rfl
theorem Qk (H:Nat->Option ABlk) (t:Nat) (v:Option ABlk):ZI H t v t=v:=by simp [ZI]
theorem YW (H:Nat->Option ABlk) {t u:Nat} (v:Option ABlk) (h:u≠t):ZI H t v u=H u:=by
 unfold ZI
 split
 . rename_i e;exact absurd (Nat.eq_of_beq_eq_true e) h
 . rfl
def Jlh (env:Nat->AV) (d:Option Tmp) (v:AV):Nat->AV:=match d with
 |none=>env
 |some t=>Je4 env t v
theorem RelB.put {C:Ctx} {I:Nat->Prop} {σ:ASt} {a:Act} {β:Nat->Option Hdr} {F:Nat->Prop} (h:RelB C I σ a w β F) (d:Option Tmp) (x:AV) (v:Value)
  (hd:∀t,d=some t->t<C.nt) (hx:RV w F β x v):RelB C I { σ with env:=Jlh σ.env d x } (a.put d v) w β F:=by
 cases d with
 |none=>exact h
 |some t=>
  have ht:=hd t rfl
  refine { h with env:=fun u=> ?_,size:=by simp [Act.put,h.size],defers:=h.defers }
  have hs:=h.size
  by_cases hu:u=t
  .
   subst hu
   simp only [Jlh,Jdf]
   simpa [Act.put,hs,ht] using hx
  .
   simp only [Jlh,Jc6 _ _ hu]
   have:=h.env u
   simpa [Act.put,Array.getElem?_setIfInBounds_ne (Ne.symm hu)] using this
theorem RelB.drew {C:Ctx} {I:Nat->Prop} {σ:ASt} {a:Act} {β:Nat->Option Hdr} {F:Nat->Prop} (h:RelB C I σ a w β F) (n:Nat) (hn:w.drawn<=n:=by exact Nat.le_succ _):RelB C I σ a { w with drawn:=n } β F:=by
 have e:∀{x:AV} {v:Value},RV w F β x v->RV { w with drawn:=n } F β x v:=fun hx=>hx.mono (fun _ h=>h) (fun _ _=>rfl) (fun _ _ h=>h)
 refine { h with env:=fun t=>e (h.env t),live:=fun id k hk=> ?_,tape:=⟨h.tape.eq,Nat.le_trans h.tape.le hn⟩,block:=h.block,glo:=fun g=>(h.glo g).mono (fun _ h=>h) (fun _ _=>rfl) (fun _ _ h=>h) }
 obtain⟨g,h1,h2,h3⟩:=h.live id k hk
 exact⟨g,h1,h2.mono (fun _ h=>h) (fun _ _=>rfl) (fun _ _=>rfl) (fun _ _ h=>h),h3⟩
end Go.Proofs.YtehhohbnhcogkaaGreatDoor.Ax
namespace Go.Proofs.YtehhohbnhcogkaaGreatDoor.Ax
open Go.RowKit
variable {t:TypeId} {d:TypeDesc} {n:Nat} {g:Bool} {i:TypeInfo} {c:List AV} {o:Oper} {env:Nat->AV} {H:Nat->Option ABlk} {x:Operand} {v:AV}
inductive TD where
 |struct (fs:List (Nat×Nat×Bool))
 |arr (n esz:Nat) (agg:Bool)
 |slc (e:TypeId) (esz ebytes:Nat) (ezero:List AV)
 |int (k:IntKind)
 |str
 |bool
 |other
inductive CK where
 |int
 |str
 |bool
structure TI where
 agg:Bool
 size:Nat
 zero:List AV
 d:TD
 eqk:Option (List CK)
def JeZ (P:Program) (rec:TypeId->Bool):List Field->Nat->Nat->Bool
 |[],off,n=>off==n
 |f::fs,off,n=>match P.info? f.type with
  |some i=>f.name != "_" &&f.offset==off&&rec f.type&&JeZ P rec fs (off+i.size) n
  |none=>false
def JgB (P:Program):Nat->TypeId->Bool
 |0,_=>false
 |d+1,t=>match P.underlying t,P.info? t with
  |some (.int _),some i=>i.size==1
  |some .string,some i=>i.size==1
  |some .bool,some i=>i.size==1
  |some (.struct fs),some i=> !P.stoodInHeld t&&JeZ P (JgB P d) fs.toList 0 i.size
  |_,_=>false
def Jbw (P:Program) (rec:TypeId->Option (List CK)):List Field->Option (List CK)
 |[]=>some []
 |f::fs=>match P.info? f.type,rec f.type,Jbw P rec fs with
  |some i,some k,some r=>if k.length=i.size then some (k++r) else none
  |_,_,_=>none
def JeG (P:Program):Nat->TypeId->Option (List CK)
 |0,_=>none
 |d+1,t=>match P.underlying t with
  |some (.int _)=>some [.int]
  |some .string=>some [.str]
  |some .bool=>some [.bool]
  |some (.struct fs)=>Jbw P (JeG P d) fs.toList
  |_=>none
def Jup (P:Program) (t:TypeId):Option (List CK):=match P.underlying t with
 |some (.struct _)=>if JgB P 10 t&& !P.eqGuardType P.depth t then JeG P 10 t else none
 |some (.array n e)=>match P.underlying e,P.info? e with
  |some (.int _),some i=>if i.size==1&& !P.eqGuardType P.depth t then some (List.replicate n .int) else none
  |_,_=>none
 |_=>none
def Jfv:TypeDesc->Bool
 | .struct _ | .array _ _=>true
 |_=>false
def fieldsOf (P:Program):List Field->Option (List (Nat×Nat×Bool))
 |[]=>some []
 |f::fs=>match P.info? f.type,P.underlying f.type,fieldsOf P fs with
  |some i,some d,some r=>some ((f.offset,i.size,Jfv d)::r)
  |_,_,_=>none
def Jf1 (P:Program):TypeDesc->TD
 | .struct fs=>match fieldsOf P fs.toList with
  |some r=> .struct r
  |none=> .other
 | .array n e=>match P.info? e,P.underlying e with
  |some i,some d=> .arr n i.size (Jfv d)
  |_,_=> .other
 | .slice e=>match P.info? e with
  |some i=>match i.zero with
   |some z=> .slc e i.size i.bytes (z.cells.toList.map avc)
   |none=> .other
  |none=> .other
 | .int k=> .int k
 | .string=> .str
 | .bool=> .bool
 |_=> .other
def JA (P:Program) (t:TypeId):Option TI:=match P.info? t,P.underlying t with
 |some i,some d=>match i.zero with
  |some z=>some ⟨Jfv d,i.size,z.cells.toList.map avc,Jf1 P d,Jup P t⟩
  |none=>none
 |_,_=>none
abbrev Tab:=TypeId->Option TI
def J0 (P:Program) (tab:Tab):Prop:=∀t ti,tab t=some ti->JA P t=some ti
theorem JP {P:Program} {ti:TI} (h:JA P t=some ti):∃i d z,P.info? t=some i∧P.underlying t=some d∧i.zero=some z∧ti.agg=Jfv d∧ti.size=i.size∧ti.zero=z.cells.toList.map avc∧ti.d=Jf1 P d:=by
 unfold JA at h
 split at h
 .
  rename_i i d h1 h2
  split at h
  .
   rename_i z hz
   cases h
   exact⟨i,d,z,h1,h2,hz,rfl,rfl,rfl,rfl⟩
  . cases h
 . cases h
theorem JgK {P:Program} {r:List (Nat×Nat×Bool)} (h:Jf1 P d= .struct r):∃fs,d= .struct fs∧fieldsOf P fs.toList=some r:=by
 cases d<;>simp only [Jf1] at h
 case struct fs=>
  split at h
  . rename_i r' e;cases h;exact⟨fs,rfl,e⟩
  . cases h
 all_goals (first |(repeat' split at h)<;>cases h)
theorem JhX {P:Program} {s:Nat} (h:Jf1 P d= .arr n s g):∃e i d',d= .array n e∧P.info? e=some i∧i.size=s∧P.underlying e=some d'∧Jfv d'=g:=by
 cases d<;>simp only [Jf1] at h
 case array n' e=>
  split at h
  . rename_i i d' hi hd;cases h;exact⟨e,i,d',rfl,hi,rfl,hd,rfl⟩
  . cases h
 all_goals (first |(repeat' split at h)<;>cases h)
theorem JaD {P:Program} {e:TypeId} {s b:Nat} {z:List AV} (h:Jf1 P d= .slc e s b z):∃i v,d= .slice e∧P.info? e=some i∧i.size=s∧i.bytes=b∧i.zero=some v∧z=v.cells.toList.map avc:=by
 cases d<;>simp only [Jf1] at h
 case slice e'=>
  split at h
  .
   rename_i i hi
   split at h
   . rename_i v hv;cases h;exact⟨i,v,rfl,hi,rfl,rfl,hv,rfl⟩
   . cases h
  . cases h
 all_goals (first |(repeat' split at h)<;>cases h)
theorem Jg8 {P:Program}:∀{fs:List Field} {r:List (Nat×Nat×Bool)},fieldsOf P fs=some r->r.length=fs.length∧∀(k:Nat) (o s:Nat) (g:Bool),r[k]? =some (o,s,g)->∃f i d,fs[k]? =some f∧f.offset=o∧P.info? f.type=some i∧i.size=s∧P.underlying f.type=some d∧Jfv d=g
 |[],r,h=>by
  simp only [fieldsOf] at h
  cases h
  exact⟨rfl,fun k o s g hk=>by simp at hk⟩
 |f::fs,r,h=>by
  simp only [fieldsOf] at h
  split at h
  .
   rename_i i d r' h1 h2 h3
   cases h
   obtain⟨e1,e2⟩:=Jg8 h3
   refine⟨by simp [e1],fun k o s g hk=> ?_⟩
   cases k with
   |zero=>
    simp at hk
    obtain⟨rfl,rfl,rfl⟩:=hk
    exact⟨f,i,d,rfl,rfl,h1,rfl,h2,rfl⟩
   |succ k=>
    obtain⟨f',i',d',g1,g2⟩:=e2 k o s g (by simpa using hk)
    exact⟨f',i',d',by simpa using g1,g2⟩
  . cases h
section runs
variable {P:Program} (w:World)
theorem run_typeInfo (h:P.info? t=some i):(typeInfo t).run P w= .ok i w:=by simp [typeInfo,program,Sem.run,h]
theorem Qt (h:P.info? t=some i):(sizeOf t).run P w= .ok i.size w:=by simp [sizeOf,run_typeInfo w h]
theorem Jdg (h:P.underlying t=some d):(isAgg t).run P w= .ok (Jfv d) w:=by
 simp only [isAgg,Sem.run_bind,run_underlying h,Result.andThen_ok]
 cases d<;>rfl
theorem Jdt (h:P.info? t=some i) (hd:P.underlying t=some d) (cs:Array Value) (off:Nat):
  (part t cs off).run P w=if Jfv d then .ok (.agg (cs.extract off (off+i.size))) w else (match cs[off]? with |some v=> .ok v w |none=>(stuck "part: no such cell" :Sem Value).run P w):=by
 simp only [part,Sem.run_bind,Jdg w hd,Result.andThen_ok]
 cases Jfv d
 .
  simp only [Bool.false_eq_true,if_false]
  cases cs[off]? <;>rfl
 . simp only [if_true,Sem.run_bind,Qt w h,Result.andThen_ok,Sem.run_pure]
end runs
def ev (env:Nat->AV):Operand->AV
 | .tmp t=>env t
 | .const v=>avc v
 | .global g=>glo g
 | .func f=> .fn f []
def JrE (H:Nat->Option ABlk) (ids:List Nat) (w:World) (F:Nat->Prop) (β:Nat->Option Hdr):Prop:=
 ∀id∈ids,∀k,H id=some k->∃h,β id=some h∧YE w F β h k
def ZH (P:Program) (o:Oper) (env:Nat->AV) (H:Nat->Option ABlk) (v:AV) (ids:List Nat):Prop:=
 ∀(w:World) (F:Nat->Prop) (β:Nat->Option Hdr) (a:Act),(∀x∈o.op.operands,RV w F β (ev env x) (a.eval x))->JrE H ids w F β->
  ∃u,(execOp a.eval o).run P w= .ok (.value u) w∧RV w F β v u
theorem RVs.extract {w:World} {F:Nat->Prop} {β:Nat->Option Hdr} {cs:Array Value} (h:RVs w F β c cs) (o n:Nat) (hn:o+n<=c.length):RVs w F β ((c.drop o).take n) (cs.extract o (o+n)):=by
 obtain⟨h1,h2⟩:=h
 refine⟨by simp;omega,fun j u v hu hv=> ?_⟩
 rw [List.getElem?_take,List.getElem?_drop] at hu
 split at hu
 .
  rename_i hj
  refine h2 (o+j) u v hu ?_
  rw [Array.getElem?_extract] at hv
  split at hv
  . exact hv
  . cases hv
 . cases hu
theorem RVs.at {w:World} {F:Nat->Prop} {β:Nat->Option Hdr} {cs:Array Value} (h:RVs w F β c cs) {o:Nat} {u:AV} (hu:c[o]? =some u):∃v,cs[o]? =some v∧RV w F β u v:=by
 have ho:=(List.getElem?_eq_some_iff.1 hu).1
 have:o<cs.size:=by rw [<-h.1];exact ho
 exact⟨cs[o],Wb this,h.2 o u _ hu (Wb this)⟩
def Jgo (c:List AV) (o n:Nat) (g:Bool) (K:AV->Prop):Prop:=match g with
 |true=>match Nat.ble (o+n) c.length with
  |true=>K (.agg ((c.drop o).take n))
  |false=>False
 |false=>match c.drop o with
  |u::_=>K u
  |[]=>False
theorem Jdw {o:Nat} {K:AV->Prop} (h:Jgo c o n g K):∃v,K v∧((g=true∧o+n<=c.length∧v= .agg ((c.drop o).take n))∨(g=false∧c[o]? =some v)):=by
 unfold Jgo at h
 cases g with
 |true=>
  simp only at h
  split at h
  . rename_i e;exact⟨_,h,.inl ⟨rfl,Wl e,rfl⟩⟩
  . exact h.elim
 |false=>
  simp only at h
  split at h
  .
   rename_i u r e
   refine⟨u,h,.inr ⟨rfl,?_⟩⟩
   have:=congrArg (fun l=>l[0]?) e
   simpa using this
  . exact h.elim
theorem JdA {P:Program} (ho:o.op= .move x∨o.op= .assign x):ZH P o env H (ev env x) []:=by
 intro w F β a hx _
 rcases ho with ho |ho<;>exact⟨a.eval x,by simp [execOp,ho],hx x (by simp [ho,Op.operands])⟩
theorem Jiq {P:Program} {c y:Operand} (ho:o.op= .pick c x y) (h:(ev env c= .tru∧v=ev env x)∨(ev env c= .fls∧v=ev env y)):ZH P o env H v []:=by
 intro w F β a hx _
 have hc:=hx c (by simp [ho,Op.operands])
 rcases h with⟨h1,rfl⟩|⟨h1,rfl⟩
 .
  rw [h1] at hc
  generalize hv:a.eval c=vc at hc
  cases hc
  exact⟨a.eval x,by simp [execOp,ho,hv,asBool],hx x (by simp [ho,Op.operands])⟩
 .
  rw [h1] at hc
  generalize hv:a.eval c=vc at hc
  cases hc
  exact⟨a.eval y,by simp [execOp,ho,hv,asBool],hx y (by simp [ho,Op.operands])⟩
theorem Ji0 {P:Program} {i:Nat} {vs:List AV} (ho:o.op= .extract x i) (h:ev env x= .tup vs) (hv:vs[i]? =some v):ZH P o env H v []:=by
 intro w F β a hx _
 have hc:=hx x (by simp [ho,Op.operands])
 rw [h] at hc
 generalize hvx:a.eval x=vx at hc
 cases hc with
 |tup _ cs h1 h2=>
  obtain⟨u,hu,hr⟩:=RVs.at ⟨h1,h2⟩ hv
  exact⟨u,by simp [execOp,ho,hvx,Instr.extract,hu],hr⟩
theorem JlU {P:Program} {tab:Tab} (hT:J0 P tab) {i:Nat} {ti:TI} {fs:List (Nat×Nat×Bool)} {off:Nat} 
  (ho:o.op= .field t x i) (ht:tab t=some ti) (hd:ti.d= .struct fs) (hf:fs[i]? =some (off,n,g)) (hc:ev env x= .agg c) (hv:(g=true∧off+n<=c.length∧v= .agg ((c.drop off).take n))∨(g=false∧c[off]? =some v)):ZH P o env H v []:=by
 intro w F β a hx _
 have hcx:=hx x (by simp [ho,Op.operands])
 rw [hc] at hcx
 generalize hvx:a.eval x=vx at hcx
 obtain⟨ii,dd,z,h1,h2,_,_,_,_,h3⟩:=JP (hT t ti ht)
 rw [hd] at h3
 obtain⟨ff,rfl,h4⟩:=JgK h3.symm
 obtain⟨f,i',d',g1,rfl,g2,rfl,g3,rfl⟩:=(Jg8 h4).2 i off n g hf
 have g1':ff[i]? =some f:=by simpa using g1
 cases hcx with
 |agg _ cs k1 k2=>
  rcases hv with⟨hg,hle,rfl⟩|⟨hg,hu⟩
  .
   refine⟨.agg (cs.extract f.offset (f.offset+i'.size)),?_,?_⟩
   . simp [execOp,ho,hvx,Instr.field,run_underlying h2,g1',asAgg,Jdt w g2 g3,hg]
   .
    obtain⟨e1,e2⟩:=RVs.extract ⟨k1,k2⟩ f.offset i'.size hle
    exact .agg _ _ e1 e2
  .
   obtain⟨u,hu',hr⟩:=RVs.at ⟨k1,k2⟩ hu
   refine⟨u,?_,hr⟩
   simp [execOp,ho,hvx,Instr.field,run_underlying h2,g1',asAgg,Jdt w g2 g3,hg,hu']
end Go.Proofs.YtehhohbnhcogkaaGreatDoor.Ax
namespace Go.Proofs.YtehhohbnhcogkaaGreatDoor.Ax
open Go.RowKit
variable {P:Program} {o:Oper} {env:Nat->AV} {H:Nat->Option ABlk} {x:Operand} {t:TypeId} {k:IntKind} {op:BinOp}
theorem Jg4 {v:AV} (ho:o.op= .unOp .not t x)
  (h:(ev env x= .tru∧v= .fls)∨(ev env x= .fls∧v= .tru)∨∃b,ev env x= .bool b∧v= .bool (!b)):ZH P o env H v []:=by
 intro w F β a hx _
 have hc:=hx x (by simp [ho,Op.operands])
 rcases h with⟨h,rfl⟩|⟨h,rfl⟩|⟨b,h,rfl⟩<;>rw [h] at hc<;>generalize hv:a.eval x=vx at hc<;>cases hc
 . exact⟨.bool false,by simp [execOp,ho,hv,Op.unary],.fls⟩
 . exact⟨.bool true,by simp [execOp,ho,hv,Op.unary],.tru⟩
 . exact⟨.bool (!b),by simp [execOp,ho,hv,Op.unary],.bool _⟩
theorem JoG {n:Int} (ho:o.op= .unOp .neg t x) (h:ev env x= .int k n):ZH P o env H (.int k (k.wrap (0 - n))) []:=by
 intro w F β a hx _
 have hc:=hx x (by simp [ho,Op.operands])
 rw [h] at hc
 generalize hv:a.eval x=vx at hc
 cases hc
 exact⟨.int k (k.wrap (0 - n)),by simp [execOp,ho,hv,Op.unary,Op.intArith],.int _ _⟩
def Jhf (op:BinOp) (k:IntKind) (a b:Int) (K:AV->Prop):Prop:=match op with
 | .add=>∃z,k.wrap (a+b)=z∧K (.int k z)
 | .sub=>∃z,k.wrap (a - b)=z∧K (.int k z)
 | .mul=>∃z,k.wrap (a*b)=z∧K (.int k z)
 | .quo=>b≠0∧∃z,k.wrap (a.tdiv b)=z∧K (.int k z)
 | .rem=>b≠0∧∃z,a.tmod b=z∧K (.int k z)
 | .and | .or | .xor | .andNot=>∃z,(Op.intBits op k a b:Sem Value)=Sem.pure (.int k z)∧K (.int k z)
 | .eql=>K (.bool (a==b))
 | .neq=>K (.bool (a != b))
 | .lss=>K (.bool (decide (a<b)))
 | .leq=>K (.bool (decide (a<=b)))
 | .gtr=>K (.bool (decide (b<a)))
 | .geq=>K (.bool (decide (b<=a)))
 |_=>False
theorem Jrw {a b:Int} {K:AV->Prop} (h:Jhf op k a b K) (t:TypeId) (w:World):∃v u,K v∧(binOp op t (.int k a) (.int k b)).run P w= .ok u w∧∀F β,RV w F β v u:=by
 cases op<;>simp only [Jhf] at h
 case add=>obtain⟨z,rfl,hk⟩:=h;exact⟨_,.int k (k.wrap (a+b)),hk,by simp [binOp,Op.intArith],fun _ _=> .int _ _⟩
 case sub=>obtain⟨z,rfl,hk⟩:=h;exact⟨_,.int k (k.wrap (a - b)),hk,by simp [binOp,Op.intArith],fun _ _=> .int _ _⟩
 case mul=>obtain⟨z,rfl,hk⟩:=h;exact⟨_,.int k (k.wrap (a*b)),hk,by simp [binOp,Op.intArith],fun _ _=> .int _ _⟩
 case quo=>obtain⟨hb,z,rfl,hk⟩:=h;exact⟨_,.int k (k.wrap (a.tdiv b)),hk,by simp [binOp,Op.intDiv,hb],fun _ _=> .int _ _⟩
 case rem=>obtain⟨hb,z,rfl,hk⟩:=h;exact⟨_,.int k (a.tmod b),hk,by simp [binOp,Op.intDiv,hb],fun _ _=> .int _ _⟩
 case eql=>exact⟨_,.bool (a==b),h,by simp [binOp,Op.intCmp],fun _ _=> .bool _⟩
 case neq=>exact⟨_,.bool (a != b),h,by simp [binOp,Op.intCmp],fun _ _=> .bool _⟩
 case lss=>exact⟨_,.bool (decide (a<b)),h,by simp [binOp,Op.intCmp],fun _ _=> .bool _⟩
 case leq=>exact⟨_,.bool (decide (a<=b)),h,by simp [binOp,Op.intCmp],fun _ _=> .bool _⟩
 case gtr=>exact⟨_,.bool (decide (b<a)),h,by simp [binOp,Op.intCmp],fun _ _=> .bool _⟩
 case geq=>exact⟨_,.bool (decide (b<=a)),h,by simp [binOp,Op.intCmp],fun _ _=> .bool _⟩
 case and=>obtain⟨z,hz,hk⟩:=h;exact⟨_,.int k z,hk,by simp [binOp,hz],fun _ _=> .int _ _⟩
 case or=>obtain⟨z,hz,hk⟩:=h;exact⟨_,.int k z,hk,by simp [binOp,hz],fun _ _=> .int _ _⟩
 case xor=>obtain⟨z,hz,hk⟩:=h;exact⟨_,.int k z,hk,by simp [binOp,hz],fun _ _=> .int _ _⟩
 case andNot=>obtain⟨z,hz,hk⟩:=h;exact⟨_,.int k z,hk,by simp [binOp,hz],fun _ _=> .int _ _⟩
 all_goals exact h.elim
def kIx:IntKind->Nat
 | .i8=>0
 | .i16=>1
 | .i32=>2
 | .i64=>3
 | .u8=>4
 | .u16=>5
 | .u32=>6
 | .u64=>7
theorem Jny {k':IntKind} (h:Nat.beq (kIx k) (kIx k')=true):k=k':=by
 have:=Nat.eq_of_beq_eq_true h
 cases k<;>cases k'<;>first |rfl |(simp [kIx] at this)
def JoS:AV->Option Bool
 | .tru=>some true
 | .fls=>some false
 | .bool b=>some b
 |_=>none
def JoT (op:BinOp) (x y:AV) (K:AV->Prop):Prop:=match op,x,y with
 | .shl,.int k a,.int yk b=>∃z,(Op.shift .shl k a yk b:Sem Value)=Sem.pure (.int k z)∧K (.int k z)
 | .shr,.int k a,.int yk b=>∃z,(Op.shift .shr k a yk b:Sem Value)=Sem.pure (.int k z)∧K (.int k z)
 |op,.int k a,.int k' b=>match Nat.beq (kIx k) (kIx k') with
  |true=>Jhf op k a b K
  |false=>False
 | .add,.str a,.str b=>(((a.size+b.size:Nat):Int)<=IntKind.i64.max)∧K (.str (a++b))
 | .eql,.str a,.str b=>K (.bool (a.toList==b.toList))
 | .neq,.str a,.str b=>K (.bool (!(a.toList==b.toList)))
 | .lss,.str a,.str b=>K (.bool (Op.bytesLess a.toList b.toList))
 | .gtr,.str a,.str b=>K (.bool (!(Op.bytesLess a.toList b.toList||a.toList==b.toList)))
 | .leq,.str a,.str b=>K (.bool (Op.bytesLess a.toList b.toList||a.toList==b.toList))
 | .geq,.str a,.str b=>K (.bool (!(Op.bytesLess a.toList b.toList)))
 |_,_,_=>False
theorem JnZ {x:AV} {b:Bool} (h:JoS x=some b) {w:World} {F:Nat->Prop} {β:Nat->Option Hdr} {u:Value} (hu:RV w F β x u):u= .bool b:=by
 cases hu<;>simp only [JoS,Option.some.injEq,reduceCtorEq] at h<;>rw [<-h]
theorem Ju3 {P:Program} {x y:AV} {K:AV->Prop} (h:JoT op x y K) (t:TypeId) (w:World) (F:Nat->Prop) (β:Nat->Option Hdr) {u v:Value} (hu:RV w F β x u) (hv:RV w F β y v):
  ∃r z,K r∧(binOp op t u v).run P w= .ok z w∧(∀F β,RV w F β r z)∧(∀c,u≠ .agg c)∧u≠ .nilIface:=by
 unfold JoT at h
 split at h
 .
  cases hu;cases hv
  obtain⟨z,hz,hk⟩:=h
  exact⟨_,.int _ z,hk,by simp only [binOp,hz];simp,fun _ _=> .int _ _,by simp,by simp⟩
 .
  cases hu;cases hv
  obtain⟨z,hz,hk⟩:=h
  exact⟨_,.int _ z,hk,by simp only [binOp,hz];simp,fun _ _=> .int _ _,by simp,by simp⟩
 .
  cases hu;cases hv
  split at h
  .
   rename_i e
   obtain rfl:=Jny e
   obtain⟨r,z,h1,h2,h3⟩:=Jrw (P:=P) h t w
   exact⟨r,z,h1,h2,h3,by simp,by simp⟩
  . exact h.elim
 .
  cases hu;cases hv
  rename_i a b
  have hlt:¬(IntKind.i64.max<((a.size+b.size:Nat):Int)):=by have:=h.1;omega
  exact⟨_,.string (a++b),h.2,by simp only [binOp,Op.stringOp,hlt];simp,fun _ _=> .str _,by simp,by simp⟩
 . cases hu;cases hv;rename_i a b;exact⟨_,.bool (a.toList==b.toList),h,by simp [binOp,Op.stringOp],fun _ _=> .bool _,by simp,by simp⟩
 . cases hu;cases hv;rename_i a b;exact⟨_,.bool (!(a.toList==b.toList)),h,by simp [binOp,Op.stringOp],fun _ _=> .bool _,by simp,by simp⟩
 . cases hu;cases hv;rename_i a b;exact⟨_,.bool (Op.bytesLess a.toList b.toList),h,by simp [binOp,Op.stringOp],fun _ _=> .bool _,by simp,by simp⟩
 . cases hu;cases hv;rename_i a b;exact⟨_,.bool (!(Op.bytesLess a.toList b.toList||a.toList==b.toList)),h,by simp only [binOp,Op.stringOp];simp,fun _ _=> .bool _,by simp,by simp⟩
 . cases hu;cases hv;rename_i a b;exact⟨_,.bool (Op.bytesLess a.toList b.toList||a.toList==b.toList),h,by simp only [binOp,Op.stringOp];simp,fun _ _=> .bool _,by simp,by simp⟩
 . cases hu;cases hv;rename_i a b;exact⟨_,.bool (!(Op.bytesLess a.toList b.toList)),h,by simp only [binOp,Op.stringOp];simp,fun _ _=> .bool _,by simp,by simp⟩
 . exact h.elim
theorem Jm2 {a b:Int} {K:AV->Prop} (h:Jhf op k a b K):∃v,K v∧Jhf op k a b (fun r=>r=v):=by
 cases op<;>simp only [Jhf] at h ⊢ <;>first
  |exact h.elim
  |(obtain⟨z,hz,hk⟩:=h;exact⟨_,hk,z,hz,rfl⟩)
  |(obtain⟨hb,z,hz,hk⟩:=h;exact⟨_,hk,hb,z,hz,rfl⟩)
  |exact⟨_,h,rfl⟩
theorem JoL {P:Program} {y:Operand} {t':TypeId} {K:AV->Prop} (ho:o.op= .binOp op t x y t') (h:JoT op (ev env x) (ev env y) K):∃v,K v∧ZH P o env H v []:=by
 obtain⟨v,hv⟩:∃v,K v∧JoT op (ev env x) (ev env y) (fun r=>r=v):=by
  unfold JoT at h ⊢
  split at h
  . obtain⟨z,hz,hk⟩:=h;exact⟨_,hk,z,hz,rfl⟩
  . obtain⟨z,hz,hk⟩:=h;exact⟨_,hk,z,hz,rfl⟩
  .
   split at h
   .
    obtain⟨v,h1,h2⟩:=Jm2 h
    exact⟨v,h1,h2⟩
   . exact h.elim
  . exact⟨_,h.2,h.1,rfl⟩
  all_goals first
   |exact⟨_,h,rfl⟩
   |exact h.elim
 refine⟨v,hv.1,fun w F β a hx _=> ?_⟩
 have h1:=hx x (by simp [ho,Op.operands])
 have h2:=hx y (by simp [ho,Op.operands])
 obtain⟨r,z,rfl,hr,hz,h3,h4⟩:=Ju3 (P:=P) hv.2 t w F β h1 h2
 refine⟨z,?_,hz F β⟩
 have hg:(eqGuard op t x y (a.eval x) (a.eval y)).run P w= .ok () w:=by
  generalize a.eval x=u at h3 h4
  generalize a.eval y=v
  cases op<;>simp only [eqGuard,Bool.not_true,Bool.not_false,if_true,Bool.false_eq_true,if_false]<;>first
   |rfl
   |(cases u<;>first
     |rfl
     |exact absurd rfl h4
     |exact absurd rfl (h3 _))
 simp [execOp,ho,hg,hr]
theorem JcS {tab:Tab} (hT:J0 P tab) {i:Nat} {ti:TI} {fs:List (Nat×Nat×Bool)} {off n:Nat} {g:Bool} {v:AV}
  (ho:o.op= .fieldAddr t x i) (ht:tab t=some ti) (hd:ti.d= .struct fs) (hf:fs[i]? =some (off,n+1,g))
  (hv:(∃id j,ev env x= .ptr id j∧v= .ptr id (j+off))∨(∃id sz k j,ev env x= .eptr id sz k j∧v= .eptr id sz k (j+off))∨(∃c,ev env x= .iptr c∧v= .iptr (c.drop off))):ZH P o env H v []:=by
 intro w F β a hx _
 have hcx:=hx x (by simp [ho,Op.operands])
 obtain⟨ii,dd,z,h1,h2,_,_,_,_,h3⟩:=JP (hT t ti ht)
 rw [hd] at h3
 obtain⟨ff,rfl,h4⟩:=JgK h3.symm
 obtain⟨f,i',d',g1,rfl,g2,g2',g3,rfl⟩:=(Jg8 h4).2 i off (n+1) g hf
 have g1':ff[i]? =some f:=by simpa using g1
 have hex:∀b o',a.eval x= .pointer (some ⟨b,o',none⟩)->(execOp a.eval o).run P w= .ok (.value (.pointer (some ⟨b,o'+f.offset,none⟩))) w:=fun b o' e=>by
  have:(⟨b,o',none⟩:Addr).add f.offset=⟨b,o'+f.offset,none⟩:=Addr.add_lit _ _ _
  simp [execOp,ho,e,Instr.fieldAt,run_underlying h2,g1',Instr.sureAddr,fieldPlace,Qt w g2,g2',this]
 rcases hv with⟨id,j,he,rfl⟩|⟨id,sz,k,j,he,rfl⟩|⟨c,he,rfl⟩<;>rw [he] at hcx<;>generalize hvx:a.eval x=vx at hcx
 .
  cases hcx with
  |ptr _ _ b hh e1 e2=>exact⟨_,hex b j hvx,.ptr id _ b hh e1 e2⟩
 .
  cases hcx with
  |eptr _ _ _ _ b hh e1 e2=>
   refine⟨_,hex b _ hvx,?_⟩
   rw [Nat.add_assoc]
   exact .eptr id sz k _ b hh e1 e2
 .
  cases hcx with
  |iptr _ b o' vs e1 e2 e3 e4=>
   refine⟨_,hex b _ hvx,.iptr _ b _ (fun j=>vs (f.offset+j)) e1 (fun j u hu=> ?_) (fun j u hu=> ?_) (fun j u hu=> ?_)⟩<;>rw [List.getElem?_drop] at hu
   . rw [Nat.add_assoc];exact e2 _ u hu
   . exact e3 _ u hu
   . exact e4 _ u hu
theorem Jdz (ho:o.op= .nilCheck x)
  (hv:(∃id j,ev env x= .ptr id j)∨(∃id sz k j,ev env x= .eptr id sz k j)∨(∃c,ev env x= .iptr c)):ZH P o env H (ev env x) []:=by
 intro w F β a hx _
 have hcx:=hx x (by simp [ho,Op.operands])
 refine⟨a.eval x,?_,hcx⟩
 rcases hv with⟨id,j,he⟩|⟨id,sz,k,j,he⟩|⟨c,he⟩<;>rw [he] at hcx<;>generalize hvx:a.eval x=vx at hcx<;>cases hcx<;>simp [execOp,ho,hvx]
theorem Jir {f:FuncId} {cap:Array Operand} (ho:o.op= .makeFunc (.func f) #[] cap):ZH P o env H (.fn f (cap.toList.map (ev env))) []:=by
 intro w F β a hx _
 refine⟨.func (.func f) #[] (cap.map a.eval),by simp [execOp,ho,Instr.makeFunc],.fn f _ _ (by simp) fun j u v hu hv=> ?_⟩
 rw [Wp,Wu] at hu
 rw [Array.getElem?_map] at hv
 cases hc:cap[j]? with
 |none=>rw [hc] at hu;cases hu
 |some y=>
  rw [hc] at hu hv
  cases hu;cases hv
  exact hx y (by simp [ho,Op.operands];exact Array.mem_of_getElem? hc)
theorem Ji1 {tab:Tab} (hT:J0 P tab) {s:TypeId} {ti tj:TI} {k':IntKind} {n:Int} (ho:o.op= .convert s t x) (hs:tab s=some tj) (ht:tab t=some ti)
  (hd:ti.d= .int k) (hx0:ev env x= .int k' n):ZH P o env H (.int k (k.wrap n)) []:=by
 intro w F β a hx _
 have hcx:=hx x (by simp [ho,Op.operands])
 rw [hx0] at hcx
 generalize hvx:a.eval x=vx at hcx
 obtain⟨ii,dd,z,h1,h2,_,_,_,_,h3⟩:=JP (hT t ti ht)
 obtain⟨ij,dj,zj,j1,j2,_⟩:=JP (hT s tj hs)
 rw [hd] at h3
 have hdd:dd= .int k:=by
  cases dd<;>simp only [Jf1] at h3<;>first |(cases h3;rfl)|((repeat' split at h3)<;>cases h3)
 subst hdd
 cases hcx
 exact⟨.int k (k.wrap n),by simp [execOp,ho,hvx,convert,run_underlying j2,run_underlying h2,Conv.intToInt],.int _ _⟩
end Go.Proofs.YtehhohbnhcogkaaGreatDoor.Ax
namespace Go.Proofs.YtehhohbnhcogkaaGreatDoor.Ax
open Go.RowKit
variable {o:Oper} {P:Program} {tab:Tab} {env:Nat->AV} {H:Nat->Option ABlk} {x ix:Operand} {t:TypeId} {ti:TI} {sz m id j:Nat} {xs:List (List AV)} {k:IntKind} {c:List AV} {v:AV} {w:World} {β:Nat->Option Hdr} {p:Value} {h:Hdr}
theorem JgH {b o:Nat} {s:Option Nat} (hs:s=none) (n:Nat):(⟨b,o,s⟩:Addr).add n=⟨b,o+n,none⟩:=by
 subst hs
 exact Addr.add_lit _ _ _
theorem Jgz (hT:J0 P tab) {e:TypeId} {eb:Nat} {ez:List AV} {i:Nat} 
  (ho:o.op= .indexAddr t x ix) (ht:tab t=some ti) (hd:ti.d= .slc e sz eb ez) (hx0:ev env x= .lst sz xs) (hi:ev env ix= .int k m) (hc:xs[m]? =some c) (_hu:i=i):ZH P o env H (.iptr c) []:=by
 intro w F β a hx _
 have h1:=hx x (by simp [ho,Op.operands])
 have h2:=hx ix (by simp [ho,Op.operands])
 rw [hx0] at h1
 rw [hi] at h2
 generalize hvx:a.eval x=vx at h1
 generalize hvi:a.eval ix=vi at h2
 obtain⟨ii,dd,z,g1,g2,_,_,_,_,g3⟩:=JP (hT t ti ht)
 rw [hd] at g3
 obtain⟨i',v,rfl,g4,rfl,_,_,_⟩:=JaD g3.symm
 cases h2
 have hm:=(List.getElem?_eq_some_iff.1 hc).1
 cases h1 with
 |lst _ _ ad cap vs k1 k2 k3 k4 k5 k6 k7=>
  cases ad with
  |none=>have:=k3 rfl;omega
  |some ad=>
   obtain⟨b,off,sp⟩:=ad
   obtain⟨hsp,hF⟩:=k4 _ rfl (by omega)
   have hlt:(m:Int)<(xs.length:Int):=by omega
   refine⟨.pointer (some ⟨b,off+m*i'.size,none⟩),?_,.iptr c b _ (vs m) hF (fun j u hu=>k6 _ m c j u rfl hc hu) (fun j u hu=>(k5 m c hc).2 u (Wm hu)) (fun j u hu=>k7 m c j u hc hu)⟩
   have hadd:(⟨b,off,sp⟩:Addr).add (m*i'.size)=⟨b,off+m*i'.size,none⟩:=JgH hsp _
   simp [execOp,ho,hvx,hvi,Instr.indexAt,asIntOf,run_underlying g2,Qt w g4,hadd]
   omega
theorem Jku (hT:J0 P tab) {e:TypeId} {eb:Nat} {ez:List AV} 
  (ho:o.op= .indexAddr t x ix) (ht:tab t=some ti) (hd:ti.d= .slc e sz eb ez) (hx0:ev env x= .osl id) (hi:ev env ix= .int k m) (hH:H id=some (.row sz xs)) (hm:m<xs.length):ZH P o env H (.eptr id sz m 0) [id]:=by
 intro w F β a hx hK
 have h1:=hx x (by simp [ho,Op.operands])
 have h2:=hx ix (by simp [ho,Op.operands])
 rw [hx0] at h1
 rw [hi] at h2
 generalize hvx:a.eval x=vx at h1
 generalize hvi:a.eval ix=vi at h2
 obtain⟨ii,dd,z,g1,g2,_,_,_,_,g3⟩:=JP (hT t ti ht)
 rw [hd] at g3
 obtain⟨i',v,rfl,g4,rfl,_,_,_⟩:=JaD g3.symm
 obtain⟨h,e1,l1,l2,l3,l4,l5,l6⟩:=hK id (by simp) _ hH
 cases h2
 cases h1 with
 |osl _ h' e2=>
  rw [e1] at e2
  cases e2
  cases hb:h.blk with
  |none=>have:=l4 hb;omega
  |some b=>
   have hlt:(m:Int)<(h.len:Int):=by omega
   have hadd:(⟨b,0,none⟩:Addr).add (m*i'.size)=⟨b,m*i'.size,none⟩:=by rw [Addr.add_lit,Nat.zero_add]
   refine⟨.pointer (some ⟨b,m*i'.size+0,none⟩),?_,.eptr id _ m 0 b h e1 hb⟩
   simp only [hb,J5,Option.map_some] at hvx
   simp [execOp,ho,hvx,hvi,Instr.indexAt,asIntOf,run_underlying g2,Qt w g4,hadd]
   omega
theorem Jca (hT:J0 P tab) {n:Nat} {g:Bool} 
  (ho:o.op= .indexAddr t x ix) (ht:tab t=some ti) (hd:ti.d= .arr n sz g) (hi:ev env ix= .int k m) (hm:m<n)
  (hv:(∃id j,ev env x= .ptr id j∧v= .ptr id (j+m*sz))∨(∃id s i j,ev env x= .eptr id s i j∧v= .eptr id s i (j+m*sz))∨(∃c,ev env x= .iptr c∧v= .iptr (c.drop (m*sz)))∨
   (∃id s r,ev env x= .ptr id 0∧sz=r*s∧v= .eptr id s (m*r) 0)∨(∃id i j,ev env x= .eptr id sz i j∧v= .eptr id sz (i+m) j)):ZH P o env H v []:=by
 intro w F β a hx _
 have hcx:=hx x (by simp [ho,Op.operands])
 have h2:=hx ix (by simp [ho,Op.operands])
 rw [hi] at h2
 generalize hvi:a.eval ix=vi at h2
 obtain⟨ii,dd,z,g1,g2,_,_,_,_,g3⟩:=JP (hT t ti ht)
 rw [hd] at g3
 obtain⟨e,i',d',rfl,g4,rfl,_,_⟩:=JhX g3.symm
 have hlt:(m:Int)<(n:Int):=by omega
 cases h2
 have hex:∀b o',a.eval x= .pointer (some ⟨b,o',none⟩)->(execOp a.eval o).run P w= .ok (.value (.pointer (some ⟨b,o'+m*i'.size,none⟩))) w:=fun b o' e=>by
  have hadd:(⟨b,o',none⟩:Addr).add (m*i'.size)=⟨b,o'+m*i'.size,none⟩:=Addr.add_lit _ _ _
  simp [execOp,ho,e,hvi,Instr.indexAt,asIntOf,run_underlying g2,Qt w g4,hadd,Instr.sureAddr]
  omega
 rcases hv with⟨id,j,he,rfl⟩|⟨id,s,i,j,he,rfl⟩|⟨c,he,rfl⟩|⟨id,s,r,he,hsr,rfl⟩|⟨id,i,j,he,rfl⟩<;>rw [he] at hcx<;>generalize hvx:a.eval x=vx at hcx
 .
  cases hcx with
  |ptr _ _ b hh e1 e2=>exact⟨_,hex b j hvx,.ptr id _ b hh e1 e2⟩
 .
  cases hcx with
  |eptr _ _ _ _ b hh e1 e2=>
   refine⟨_,hex b _ hvx,?_⟩
   rw [Nat.add_assoc]
   exact .eptr id s i _ b hh e1 e2
 .
  cases hcx with
  |iptr _ b o' vs e1 e2 e3 e4=>
   refine⟨_,hex b _ hvx,.iptr _ b _ (fun j=>vs (m*i'.size+j)) e1 (fun j u hu=> ?_) (fun j u hu=> ?_) (fun j u hu=> ?_)⟩<;>rw [List.getElem?_drop] at hu
   . rw [Nat.add_assoc];exact e2 _ u hu
   . exact e3 _ u hu
   . exact e4 _ u hu
 .
  cases hcx with
  |ptr _ _ b hh e1 e2=>
   refine⟨_,hex b 0 hvx,?_⟩
   rw [hsr,show 0+m*(r*s)=m*r*s+0 by rw [Nat.mul_assoc];omega]
   exact .eptr id s _ 0 b hh e1 e2
 .
  cases hcx with
  |eptr _ _ _ _ b hh e1 e2=>
   refine⟨_,hex b _ hvx,?_⟩
   rw [show i*i'.size+j+m*i'.size=(i+m)*i'.size+j by rw [Nat.add_mul];omega]
   exact .eptr id _ _ j b hh e1 e2
theorem Jkt (hT:J0 P tab) {n:Nat} {g:Bool} 
  (ho:o.op= .index t x ix) (ht:tab t=some ti) (hd:ti.d= .arr n sz g) (hc:ev env x= .agg c) (hi:ev env ix= .int k m) (hm:m<n)
  (hv:(g=true∧m*sz+sz<=c.length∧v= .agg ((c.drop (m*sz)).take sz))∨(g=false∧c[m*sz]? =some v)):ZH P o env H v []:=by
 intro w F β a hx _
 have hcx:=hx x (by simp [ho,Op.operands])
 have h2:=hx ix (by simp [ho,Op.operands])
 rw [hc] at hcx
 rw [hi] at h2
 generalize hvx:a.eval x=vx at hcx
 generalize hvi:a.eval ix=vi at h2
 obtain⟨ii,dd,z,g1,g2,_,_,_,_,g3⟩:=JP (hT t ti ht)
 rw [hd] at g3
 obtain⟨e,i',d',rfl,g4,rfl,g5,rfl⟩:=JhX g3.symm
 have hlt:(m:Int)<(n:Int):=by omega
 cases h2
 cases hcx with
 |agg _ cs k1 k2=>
  rcases hv with⟨hg,hle,rfl⟩|⟨hg,hu⟩
  .
   refine⟨.agg (cs.extract (m*i'.size) (m*i'.size+i'.size)),?_,?_⟩
   .
    simp [execOp,ho,hvx,hvi,Instr.index,asIntOf,run_underlying g2,Qt w g4,Jdt w g4 g5,hg]
    omega
   .
    obtain⟨e1,e2⟩:=RVs.extract ⟨k1,k2⟩ (m*i'.size) i'.size hle
    exact .agg _ _ e1 e2
  .
   obtain⟨u,hu',hr⟩:=RVs.at ⟨k1,k2⟩ hu
   refine⟨u,?_,hr⟩
   simp [execOp,ho,hvx,hvi,Instr.index,asIntOf,run_underlying g2,Qt w g4,Jdt w g4 g5,hg,hu']
   omega
theorem JmO (hT:J0 P tab) {s:ByteArray} {b:UInt8}
  (ho:o.op= .index t x ix) (ht:tab t=some ti) (hd:ti.d= .str) (hx0:ev env x= .str s) (hi:ev env ix= .int k m) (hb:s[m]? =some b):ZH P o env H (.int .u8 b.toNat) []:=by
 intro w F β a hx _
 have h1:=hx x (by simp [ho,Op.operands])
 have h2:=hx ix (by simp [ho,Op.operands])
 rw [hx0] at h1
 rw [hi] at h2
 generalize hvx:a.eval x=vx at h1
 generalize hvi:a.eval ix=vi at h2
 obtain⟨ii,dd,z,g1,g2,_,_,_,_,g3⟩:=JP (hT t ti ht)
 rw [hd] at g3
 have hdd:dd= .string:=by
  cases dd<;>simp only [Jf1] at g3<;>first |rfl |((repeat' split at g3)<;>cases g3)
 subst hdd
 cases h1
 cases h2
 exact⟨.int .u8 b.toNat,by simp [execOp,ho,hvx,hvi,Instr.index,asIntOf,run_underlying g2,hb],.int _ _⟩
def JiJ (w:World) (F:Nat->Prop) (β:Nat->Option Hdr) (c:List AV) (p:Value):Prop:=
 ∃b o,p= .pointer (some ⟨b,o,none⟩)∧∀(j:Nat) (u:AV),c[j]? =some u->∃v,w.cell? ⟨b,o+j,none⟩=some v∧RV w F β u v
theorem Jei {P:Program} (hT:J0 P tab) (ht:tab t=some ti) {F:Nat->Prop} (hp:JiJ w F β c p) 
  (hv:(ti.agg=true∧j+ti.size<=c.length∧v= .agg ((c.drop j).take ti.size))∨(ti.agg=false∧c[j]? =some v)):
  ∀b o,p= .pointer (some ⟨b,o,none⟩)->∃u,(loadVar t ⟨b,o+j,none⟩).run P w= .ok u w∧RV w F β v u:=by
 intro b o hpe
 obtain⟨b',o',he,hc⟩:=hp
 rw [hpe] at he
 cases he
 obtain⟨ii,dd,z,g1,g2,_,g3,g4,_,_⟩:=JP (hT t ti ht)
 rcases hv with⟨hg,hle,rfl⟩|⟨hg,hu⟩
 .
  have hval:∀k,k<ti.size->∃v,w.cell? ⟨b,o+j+k,none⟩=some v∧∀u,c[j+k]? =some u->RV w F β u v:=fun k hk=>by
   obtain⟨v,h1,h2⟩:=hc (j+k) _ (Wg (show j+k<c.length by omega))
   refine⟨v,by rw [Nat.add_assoc];exact h1,fun u hu=> ?_⟩
   rw [Wg (show j+k<c.length by omega)] at hu
   cases hu
   exact h2
  have hch:∃f:Nat->Value,∀k,k<ti.size->w.cell? ⟨b,o+j+k,none⟩=some (f k)∧∀u,c[j+k]? =some u->RV w F β u (f k):=
   ⟨fun k=>if h:k<ti.size then (hval k h).choose else undef,fun k hk=>by simp only [hk,dif_pos];exact(hval k hk).choose_spec⟩
  obtain⟨f,hf⟩:=hch
  have hrun:=run_loadCells (P:=P) w ⟨b,o+j,none⟩ ti.size f (fun k hk=>by rw [Addr.add_lit];exact(hf k hk).1)
  refine⟨.agg ((List.range ti.size).map f).toArray,?_,.agg _ _ (by simp;omega) fun k u v hu hv=> ?_⟩
  .
   rw [g4] at hrun
   simp [loadVar,Jdg w g2,<-g3,hg,Qt w g1,hrun,g4]
  .
   rw [List.getElem?_take,List.getElem?_drop] at hu
   split at hu
   .
    rename_i hk
    simp [hk] at hv
    subst hv
    exact(hf k hk).2 u hu
   . cases hu
 .
  obtain⟨u,h1,h2⟩:=hc j v hu
  refine⟨u,?_,h2⟩
  simp [loadVar,Jdg w g2,<-g3,hg,load,Sem.run,h1]
theorem JlQ {F:Nat->Prop} (h:RV w F β (.iptr c) p):JiJ w F β c p:=by
 cases h with
 |iptr _ b o vs h1 h2 h3 h4=>exact⟨b,o,rfl,fun j u hu=>⟨vs j,h2 j u hu,(h4 j u hu).up⟩⟩
theorem JiC {F:Nat->Prop} (hp:RV w F β (.ptr id j) p) (e:β id=some h) (hb:YE w F β h (.box c)):∃b,h.blk=some b∧p= .pointer (some ⟨b,j,none⟩)∧JiJ w F β c (.pointer (some ⟨b,0,none⟩)):=by
 obtain⟨b,arr,ty,h1,h2,h3,h4⟩:=hb
 cases hp with
 |ptr _ _ b' h' e1 e2=>
  rw [e] at e1
  cases e1
  rw [h1] at e2
  cases e2
  refine⟨_,h1,rfl,_,0,rfl,fun j u hu=> ?_⟩
  obtain⟨v,hv,hr⟩:=RVs.at ⟨h3,h4⟩ hu
  exact⟨v,by simp [World.cell?,h2,hv],hr⟩
theorem Jmw {F:Nat->Prop} {i:Nat} (hp:RV w F β (.eptr id sz i j) p) (e:β id=some h) (hb:YE w F β h (.row sz xs)) (hc:xs[i]? =some c):
  ∃b,h.blk=some b∧p= .pointer (some ⟨b,i*sz+j,none⟩)∧JiJ w F β c (.pointer (some ⟨b,i*sz,none⟩)):=by
 obtain⟨h1,h2,h3,h4,h5,h6⟩:=hb
 cases hp with
 |eptr _ _ _ _ b h' e1 e2=>
  rw [e] at e1
  cases e1
  obtain⟨arr,ty,g1,g2,g3⟩:=h6 b e2
  refine⟨b,e2,rfl,b,i*sz,rfl,fun j u hu=> ?_⟩
  obtain⟨v,hv,hr⟩:=g3 i c j u hc hu
  exact⟨v,by simp [World.cell?,g1,hv],hr⟩
def JiH (xs:List (List AV)) (s:Nat) (c:List AV):Prop:=∀(p:Nat) (u:AV),c[p]? =some u->∃(k j:Nat) (e:List AV),p=k*s+j∧xs[k]? =some e∧e[j]? =some u
theorem JiV {F:Nat->Prop} {s:Nat} (hp:RV w F β (.ptr id 0) p) (e:β id=some h) (hb:YE w F β h (.row s xs)) (hc:JiH xs s c):
  ∃b,h.blk=some b∧p= .pointer (some ⟨b,0,none⟩)∧JiJ w F β c (.pointer (some ⟨b,0,none⟩)):=by
 obtain⟨h1,h2,h3,h4,h5,h6⟩:=hb
 cases hp with
 |ptr _ _ b h' e1 e2=>
  rw [e] at e1
  cases e1
  obtain⟨arr,ty,g1,g2,g3⟩:=h6 b e2
  refine⟨b,e2,rfl,b,0,rfl,fun p u hu=> ?_⟩
  obtain⟨k,j,e',rfl,q1,q2⟩:=hc p u hu
  obtain⟨v,hv,hr⟩:=g3 k e' j u q1 q2
  exact⟨v,by simp [World.cell?,g1,hv],hr⟩
theorem JdB (hT:J0 P tab) {ids:List Nat} (ho:o.op= .load t x) (ht:tab t=some ti)
  (hp:(ev env x= .iptr c∧j=0∧ids=[])∨(∃id,ev env x= .ptr id j∧H id=some (.box c)∧ids=[id])∨(∃id sz i xs,ev env x= .eptr id sz i j∧H id=some (.row sz xs)∧xs[i]? =some c∧ids=[id])∨
   (∃id s xs,ev env x= .ptr id 0∧j=0∧H id=some (.row s xs)∧JiH xs s c∧ids=[id]))
  (hv:(ti.agg=true∧j+ti.size<=c.length∧v= .agg ((c.drop j).take ti.size))∨(ti.agg=false∧c[j]? =some v)):ZH P o env H v ids:=by
 intro w F β a hx hK
 have hcx:=hx x (by simp [ho,Op.operands])
 rcases hp with⟨he,rfl,rfl⟩|⟨id,he,hH,rfl⟩|⟨id,sz,i,xs,he,hH,hxi,rfl⟩|⟨id,s,xs,he,rfl,hH,hrc,rfl⟩<;>rw [he] at hcx
 .
  have hp:=JlQ hcx
  have hp':=hp
  obtain⟨b,o',hpe,_⟩:=hp'
  obtain⟨u,h1,h2⟩:=Jei hT ht hp hv b o' hpe
  rw [Nat.add_zero] at h1
  exact⟨u,by simp [execOp,ho,hpe,Instr.loadAt,Instr.sureAddr,h1],h2⟩
 .
  obtain⟨h,e1,hb⟩:=hK id (by simp) _ hH
  obtain⟨b,_,hpe,hp⟩:=JiC hcx e1 hb
  obtain⟨u,h1,h2⟩:=Jei hT ht hp hv b 0 rfl
  rw [Nat.zero_add] at h1
  exact⟨u,by simp [execOp,ho,hpe,Instr.loadAt,Instr.sureAddr,h1],h2⟩
 .
  obtain⟨h,e1,hb⟩:=hK id (by simp) _ hH
  obtain⟨b,_,hpe,hp⟩:=Jmw hcx e1 hb hxi
  obtain⟨u,h1,h2⟩:=Jei hT ht hp hv b _ rfl
  exact⟨u,by simp [execOp,ho,hpe,Instr.loadAt,Instr.sureAddr,h1],h2⟩
 .
  obtain⟨h,e1,hb⟩:=hK id (by simp) _ hH
  obtain⟨b,_,hpe,hp⟩:=JiV hcx e1 hb hrc
  obtain⟨u,h1,h2⟩:=Jei hT ht hp hv b 0 rfl
  rw [Nat.zero_add] at h1
  exact⟨u,by simp [execOp,ho,hpe,Instr.loadAt,Instr.sureAddr,h1],h2⟩
end Go.Proofs.YtehhohbnhcogkaaGreatDoor.Ax
namespace Go.Proofs.YtehhohbnhcogkaaGreatDoor.Ax
open Go.RowKit
variable {n:Nat} {w':World}
def Yg (β:Nat->Option Hdr) (n:Nat) (h:Hdr):Nat->Option Hdr:=fun id=>if id=n then some h else β id
theorem JaZ {β:Nat->Option Hdr} (h:Hdr) (hn:β n=none):∀id g,β id=some g->Yg β n h id=some g:=by
 intro id g e
 unfold Yg
 split
 . rename_i e';rw [e',hn] at e;cases e
 . exact e
section
variable {C:Ctx} {I:Nat->Prop} {σ:ASt} {a:Act} {w:World} {β:Nat->Option Hdr} {F:Nat->Prop}
theorem RelB.fresh (h:RelB C I σ a w β F) (hn:¬I n):β n=none:=by
 cases e:β n with
 |none=>rfl
 |some g=>exact absurd (h.dom n g e) hn
structure Same (w w':World) (b:Option Nat):Prop where
 os:w'.os=w.os
 tape:TapeLe w' w
 output:w'.output=w.output
 size:w.heap.size<=w'.heap.size
 block:∀i,i<w.heap.size->some i≠b->w'.heap[i]? =w.heap[i]?
theorem RelB.step (h:RelB C I σ a w β F) {b:Option Nat} (hs:Same w w' b) (hb:∀i,b=some i->¬F i∧(i<C.w0.heap.size->C.M i)) (I':Nat->Prop) (hI:∀i,I i->I' i) (H':Nat->Option ABlk) (β':Nat->Option Hdr) (hβ:∀id g,β id=some g->β' id=some g) (hdom:∀id g,β' id=some g->I' id)
  (hlive:∀id k,H' id=some k->(σ.H id=some k∧∀g i,β id=some g->QS g k i->some i≠b)∨∃g,β' id=some g∧YE w' F β' g k∧∀i,QS g k i->i<w'.heap.size∧¬F i∧C.Mine i)
  (hinj:∀id id' k k' g g' i,H' id=some k->H' id'=some k'->β' id=some g->β' id'=some g'->QS g k i->QS g' k' i->id=id'):RelB C I' { σ with H:=H' } a w' β' F:=by
 have hF:∀i,F i->w'.heap[i]? =w.heap[i]? :=fun i hi=>hs.block i (h.news i hi).1 (fun e=>(hb i e.symm).1 hi)
 refine⟨fun t=>(h.env t).mono (fun _ x=>x) hF hβ,h.size,h.defers,fun id k hk=> ?_,hinj,hdom,fun i g e=>hβ _ _ (h.gr i g e),h.sub,fun i hi=>⟨Nat.lt_of_lt_of_le (h.news i hi).1 hs.size,(h.news i hi).2⟩,hs.os.trans h.os,hs.tape.trans h.tape,hs.output.trans h.output,Nat.le_trans h.grow hs.size,fun i hi hn=> ?_,fun g=>(h.glo g).mono (fun _ x=>x) hF (fun _ _ e=>e)⟩
 .
  rcases hlive id k hk with⟨h1,h2⟩|h1
  .
   obtain⟨g,e1,e2,e3⟩:=h.live id k h1
   refine⟨g,hβ _ _ e1,e2.mono (fun _ x=>x) hF (fun i hi=>hs.block i (e3 i hi).1 (h2 g i e1 hi)) hβ,fun i hi=>⟨Nat.lt_of_lt_of_le (e3 i hi).1 hs.size,(e3 i hi).2⟩⟩
  . exact h1
 .
  rw [hs.block i (Nat.lt_of_lt_of_le hi h.grow) (fun e=>hn ((hb i e.symm).2 hi))]
  exact h.block i hi hn
theorem RelB.new (h:RelB C I σ a w β F) (hn:¬I n) (hs:Same w w' none) (g:Hdr) (hg0:∀i,g.blk=some i->w.heap.size<=i∧i<w'.heap.size) (k:ABlk) (hk:YE w' F (Yg β n g) g k) (hno:∀i,QS g k i->g.blk=some i:=by exact fun _ e=>e.elim (fun x=>x) False.elim):
  RelB C (fun i=>I i∨i=n) { σ with H:=ZI σ.H n (some k) } a w' (Yg β n g) F:=by
 have hβ:=JaZ g (h.fresh hn)
 have hg:∀i,QS g k i->w.heap.size<=i∧i<w'.heap.size:=fun i hi=>hg0 i (hno i hi)
 refine h.step hs (fun i e=>by cases e) _ (fun i hi=> .inl hi) _ _ hβ (fun id g' e=> ?_) (fun id k' e=> ?_) (fun id id' k1 k2 g1 g2 i e1 e2 e3 e4 e5 e6=> ?_)
 .
  unfold Yg at e
  split at e
  . exact .inr ‹_›
  . exact .inl (h.dom _ _ e)
 .
  by_cases hid:id=n
  .
   subst hid
   rw [Qk] at e
   cases e
   exact .inr ⟨g,by simp [Yg],hk,fun i hi=>⟨(hg i hi).2,fun hF=>by have:=(h.news i hF).1;have:=(hg i hi).1;omega,.inr (Nat.le_trans h.grow (hg i hi).1)⟩⟩
  .
   rw [YW _ _ hid] at e
   exact .inl ⟨e,fun _ _ _ _=>by simp⟩
 .
  have old:∀{id1 k1 g1 i1},id1≠n->ZI σ.H n (some k) id1=some k1->Yg β n g id1=some g1->QS g1 k1 i1->i1<w.heap.size:=fun {id1 k1 g1 i1} hid e e' hi=>by
   rw [YW _ _ hid] at e
   rw [Yg,if_neg hid] at e'
   obtain⟨g',q1,_,q3⟩:=h.live id1 k1 e
   rw [e'] at q1
   cases q1
   exact(q3 i1 hi).1
  by_cases hid:id=n<;>by_cases hid':id'=n
  . rw [hid,hid']
  .
   have q:=old hid' e2 e4 e6
   rw [hid,Yg,if_pos rfl] at e3
   rw [hid,Qk] at e1
   cases e3
   cases e1
   have:=(hg i e5).1
   omega
  .
   have q:=old hid e1 e3 e5
   rw [hid',Yg,if_pos rfl] at e4
   rw [hid',Qk] at e2
   cases e4
   cases e2
   have:=(hg i e6).1
   omega
  .
   rw [YW _ _ hid] at e1
   rw [YW _ _ hid'] at e2
   rw [Yg,if_neg hid] at e3
   rw [Yg,if_neg hid'] at e4
   exact h.inj id id' k1 k2 g1 g2 i e1 e2 e3 e4 e5 e6
theorem RelB.write (h:RelB C I σ a w β F) {id:Nat} {k:ABlk} (hk:σ.H id=some k) {g:Hdr} (hg:β id=some g) {b:Nat} (hb:g.blk=some b) (hs:Same w w' (some b)) (k':ABlk) (hk':YE w' F β g k') (hno:∀i,QS g k' i->QS g k i:=by exact fun _ e=>e.elim .inl False.elim):
  RelB C I { σ with H:=ZI σ.H id (some k') } a w' β F:=by
 obtain⟨g0,q1,_,q3⟩:=h.live id k hk
 rw [hg] at q1
 cases q1
 obtain⟨r1,r2,r3⟩:=q3 b (.inl hb)
 refine h.step hs (fun i e=> ?_) _ (fun i hi=>hi) _ _ (fun _ _ e=>e) (fun id g' e=>h.dom id g' e) (fun id' k2 e=> ?_) (fun id1 id2 k1 k2 g1 g2 i e1 e2 e3 e4 e5 e6=> ?_)
 .
  cases e
  refine⟨r2,fun hlt=> ?_⟩
  rcases r3 with r3 |r3
  . exact r3
  . omega
 .
  by_cases hid:id'=id
  .
   subst hid
   rw [Qk] at e
   cases e
   exact .inr ⟨g,hg,hk',fun i hi=>by obtain⟨s1,s2,s3⟩:=q3 i (hno i hi);exact⟨Nat.lt_of_lt_of_le s1 hs.size,s2,s3⟩⟩
  .
   rw [YW _ _ hid] at e
   refine .inl ⟨e,fun g' i e1 e2 e3=>hid ?_⟩
   cases e3
   exact h.inj id' id k2 k g' g _ e hk e1 hg e2 (.inl hb)
 .
  have old:∀{id1 k1 g1 i},ZI σ.H id (some k') id1=some k1->β id1=some g1->QS g1 k1 i->∃k,σ.H id1=some k∧QS g1 k i:=fun {id1 k1 g1 i} e eg eo=>by
   by_cases hid:id1=id
   .
    subst hid
    rw [Qk] at e
    cases e
    rw [hg] at eg
    cases eg
    exact⟨k,hk,hno i eo⟩
   . rw [YW _ _ hid] at e;exact⟨_,e,eo⟩
  obtain⟨_,o1,p1⟩:=old e1 e3 e5
  obtain⟨_,o2,p2⟩:=old e2 e4 e6
  exact h.inj id1 id2 _ _ g1 g2 i o1 o2 e3 e4 p1 p2
theorem RelB.take (h:RelB C I σ a w β F) {id:Nat} {k:ABlk} (hk:σ.H id=some k) {g:Hdr} (hg:β id=some g) (hn:¬I n) (g':Hdr) (hb:g'.blk=g.blk) (k':ABlk) (hk':YE w F (Yg β n g') g' k') (hno:∀i,QS g' k' i->g'.blk=some i:=by exact fun _ e=>e.elim (fun x=>x) False.elim):
  RelB C (fun i=>I i∨i=n) { σ with H:=ZI (ZI σ.H id none) n (some k') } a w (Yg β n g') F:=by
 have hβ:=JaZ g' (h.fresh hn)
 obtain⟨g0,q1,_,q3⟩:=h.live id k hk
 rw [hg] at q1
 cases q1
 have hnid:n≠id:=fun e=>hn (e▸h.dom id g hg)
 have old:∀{id1 k1},id1≠n->ZI (ZI σ.H id none) n (some k') id1=some k1->id1≠id∧σ.H id1=some k1:=fun {id1 k1} h1 e=>by
  rw [YW _ _ h1] at e
  by_cases hid:id1=id
  . subst hid;rw [Qk] at e;cases e
  . rw [YW _ _ hid] at e;exact⟨hid,e⟩
 refine h.step (w':=w) (b:=none) ⟨rfl,.it,rfl,Nat.le_refl _,fun _ _ _=>rfl⟩ (fun i e=>by cases e) _ (fun i hi=> .inl hi) _ _ hβ (fun id g' e=> ?_) (fun id1 k1 e=> ?_) (fun id1 id2 k1 k2 g1 g2 i e1 e2 e3 e4 e5 e6=> ?_)
 .
  unfold Yg at e
  split at e
  . exact .inr ‹_›
  . exact .inl (h.dom _ _ e)
 .
  by_cases hid:id1=n
  .
   subst hid
   rw [Qk] at e
   cases e
   refine .inr ⟨g',by simp [Yg],hk',fun i hi=> ?_⟩
   obtain⟨r1,r2,r3⟩:=q3 i (.inl (hb▸hno i hi))
   exact⟨r1,r2,r3⟩
  . exact .inl ⟨(old hid e).2,fun _ _ _ _=>by simp⟩
 .
  by_cases hid:id1=n<;>by_cases hid':id2=n
  . rw [hid,hid']
  .
   obtain⟨o1,o2⟩:=old hid' e2
   rw [Yg,if_neg hid'] at e4
   rw [hid,Yg,if_pos rfl] at e3
   rw [hid,Qk] at e1
   cases e3
   cases e1
   exact absurd (h.inj id2 id k2 k g2 g i o2 hk e4 hg e6 (.inl (hb▸hno i e5))) o1
  .
   obtain⟨o1,o2⟩:=old hid e1
   rw [Yg,if_neg hid] at e3
   rw [hid',Yg,if_pos rfl] at e4
   rw [hid',Qk] at e2
   cases e4
   cases e2
   exact absurd (h.inj id1 id k1 k g1 g i o2 hk e3 hg e5 (.inl (hb▸hno i e6))) o1
  .
   rw [Yg,if_neg hid] at e3
   rw [Yg,if_neg hid'] at e4
   exact h.inj id1 id2 k1 k2 g1 g2 i (old hid e1).2 (old hid' e2).2 e3 e4 e5 e6
theorem RelB.kill (h:RelB C I σ a w β F) (id:Nat):RelB C I { σ with H:=ZI σ.H id none } a w β F:=by
 have old:∀{id1 k1},ZI σ.H id none id1=some k1->σ.H id1=some k1:=fun {id1 k1} e=>by
  by_cases hid:id1=id
  . subst hid;rw [Qk] at e;cases e
  . rwa [YW _ _ hid] at e
 exact { h with live:=fun id k e=>h.live id k (old e),inj:=fun id1 id2 k1 k2 g1 g2 i e1 e2=>h.inj id1 id2 k1 k2 g1 g2 i (old e1) (old e2) }
end
end Go.Proofs.YtehhohbnhcogkaaGreatDoor.Ax
namespace Go.Proofs.YtehhohbnhcogkaaGreatDoor.Ax
open Go.RowKit
variable {C:Ctx} {σ:ASt} {a:Act} {w:World} {β:Nat->Option Hdr} {P:Program} {g:Nat} {o:Oper} {t:TypeId}
structure Eff where
 v:AV
 wr:List (Nat×Option ABlk)
 rd:List Nat
 n:Nat
def wrH (H:Nat->Option ABlk):List (Nat×Option ABlk)->Nat->Option ABlk
 |[]=>H
 |(i,k)::r=>wrH (ZI H i k) r
def ASt.app (σ:ASt) (o:Oper) (e:Eff):ASt:=⟨Jlh σ.env o.dst e.v,wrH σ.H e.wr,e.n⟩
def Imp (x y:AV):Prop:=∀w F β v,RV w F β x v->RV w F β y v
theorem Imp.refl (x:AV):Imp x x:=fun _ _ _ _ h=>h
theorem Imp.trans {x y z:AV} (h:Imp x y) (k:Imp y z):Imp x z:=fun w F β v e=>k w F β v (h w F β v e)
def YD (P:Program) (g:Nat) (o:Oper) (σ:ASt) (e:Eff):Prop:=
 σ.n<=e.n∧∀(C:Ctx) (I:Nat->Prop) (σ2:ASt) (a:Act) (w:World) (K:Act->World->Prop) (Q:Exit->Act->World->Prop),C.γ.length=g->(∀x∈o.op.operands,Imp (ev σ2.env x) (ev σ.env x))->
  (∀id∈e.rd++e.wr.map (·.1),σ2.H id=σ.H id)->(∀id,σ.n<=id->id<e.n->¬I id)->(∀d,o.dst=some d->d<C.nt)->Rel C I σ2 a w->
  (∀a' w',Rel C (fun id=>I id∨(σ.n<=id∧id<e.n)) (σ2.app o e) a' w'->K a' w')->o.wp P a w K Q
theorem RelB.ev {I:Nat->Prop} {F:Nat->Prop} (h:RelB C I σ a w β F) (x:Operand):RV w F β (ev σ.env x) (a.eval x):=by
 cases x with
 |tmp t=>exact h.env t
 |const v=>exact .const w F β v
 |global g=>exact(h.glo g).up
 |func f=>exact .fn f [] #[] rfl (fun j u v hu=>by simp at hu)
theorem RelB.fin {I I':Nat->Prop} {σ':ASt} {F:Nat->Prop} (h:RelB C I σ a w β F) (h1:σ'.env=σ.env) (h2:σ'.H=σ.H) (hI:∀i,I i->I' i):RelB C I' σ' a w β F:=
 { h with env:=fun t=>by rw [h1];exact h.env t,live:=fun id k e=>h.live id k (by rw [<-h2];exact e),inj:=fun i1 i2 k1 k2 g1 g2 i e1 e2=>h.inj i1 i2 k1 k2 g1 g2 i (by rw [<-h2];exact e1) (by rw [<-h2];exact e2),dom:=fun id g e=>hI _ (h.dom id g e) }
theorem JB {v:AV} {ids:List Nat} (h:ZH P o σ.env σ.H v ids):YD P g o σ ⟨v,[],ids,σ.n⟩:=by
 refine⟨Nat.le_refl _,fun C I σ2 a w K Q hC hx hH hI hd hR hK=> ?_⟩
 obtain⟨β,F,hR⟩:=hR
 obtain⟨u,h1,h2⟩:=h w F β a (fun x hm=>hx x hm _ _ _ _ (hR.ev x)) (fun id hid k hk=>by
  obtain⟨hh,e1,e2,_⟩:=hR.live id k (by rw [hH id (by simpa using hid)];exact hk)
  exact⟨hh,e1,e2⟩)
 unfold Oper.wp
 rw [h1]
 exact hK _ _ ⟨β,F,(hR.put o.dst v u hd h2).fin rfl rfl (fun i hi=>Or.inl hi)⟩
theorem upon_value {w':World} {K:Act->World->Prop} {Q:Exit->Act->World->Prop} {u:Value} (h:(execOp a.eval o).run P w= .ok (.value u) w') (hk:K (a.put o.dst u) w'):o.wp P a w K Q:=by
 unfold Oper.wp
 rw [h]
 exact hk
theorem Jde {w':World} {K:Act->World->Prop} {Q:Exit->Act->World->Prop} (h:(execOp a.eval o).run P w= .ok .skip w') (hk:K (a.put o.dst undef) w'):o.wp P a w K Q:=by
 unfold Oper.wp
 rw [h]
 exact hk
theorem JbH (P:Program) (w:World) (t:TypeId) (cs:Array Value):(newRow t cs).run P w= .ok ⟨w.heap.size,0,none⟩ (w.alloc (.cells cs t)):=by
 simp only [newRow,newObj,Sem.run_bind]
 rfl
theorem Ja5 (w:World) (o:Obj):Same w (w.alloc o) none:=
 ⟨rfl,.it,rfl,by simp,fun i hi _=>Below.heap_alloc _ _ _ hi⟩
def AV.okc:AV->Bool
 | .any | .tup _ | .val _=>false
 |_=>true
theorem RV.cells {F:Nat->Prop} {x:AV} {v:Value} (h:RV w F β x v) (hx:x.okc=true):RVs w F β x.cells v.cells:=by
 have one:∀{x:AV} {v:Value},RV w F β x v->RVs w F β [x] #[v]:=fun {x v} h=>⟨rfl,fun j u u' hu hu'=>by
  match j,hu,hu' with
  |0,hu,hu'=>simp at hu hu';subst hu;subst hu';exact h
  |j+1,hu,_=>simp at hu⟩
 have h0:=h
 cases h<;>first
  |exact one h0
  |(rename_i h1 h2;exact⟨h1,h2⟩)
  |cases hx
theorem Jnp {F:Nat->Prop} (cs:Array Value) (t:TypeId) (c:List AV) (h:RVs (w.alloc (.cells cs t)) F β c cs):YE (w.alloc (.cells cs t)) F β (YN (some w.heap.size) 0 0) (.box c):=
 ⟨_,cs,t,rfl,heap_alloc_new _ _,h⟩
theorem RVs.news {I:Nat->Prop} {F:Nat->Prop} (hR:RelB C I σ a w β F) {n:Nat} (hn:¬I n) (g:Hdr) (o:Obj) {c:List AV} {cs:Array Value} (h:RVs w F β c cs):RVs (w.alloc o) F (Yg β n g) c cs:=
 h.mono (fun _ x=>x) (fun b hb=>Below.heap_alloc _ _ _ (hR.news b hb).1) (JaZ g (hR.fresh hn))
theorem J7 (β:Nat->Option Hdr) (n:Nat) (g:Hdr):Yg β n g n=some g:=by simp [Yg]
theorem Jcs {n id:Nat} {I:Nat->Prop}:(I id∨id=n)->I id∨(n<=id∧id<n+1):=fun h=>h.imp (fun x=>x) (fun e=>by omega)
theorem JuK {x:Operand} (ho:o.op= .box t x) (hx:(ev σ.env x).okc=true):YD P g o σ ⟨.ptr σ.n 0,[(σ.n,some (.box (ev σ.env x).cells))],[],σ.n+1⟩:=by
 refine⟨Nat.le_succ _,fun C I σ2 a w K Q hC hxs hH hI hd hR hK=> ?_⟩
 obtain⟨β,F,hR⟩:=hR
 have hn:¬I σ.n:=hI σ.n (Nat.le_refl _) (Wn _)
 have hv:=(hxs x (by simp [ho,Op.operands]) _ _ _ _ (hR.ev x)).cells hx
 refine upon_value (u:= .pointer (some ⟨w.heap.size,0,none⟩)) (w':=w.alloc (.cells (a.eval x).cells t)) (by simp [execOp,ho,Instr.box,newVar,JbH]) (hK _ _ ?_)
 have h2:=hR.new hn (Ja5 w (.cells (a.eval x).cells t)) (YN (some w.heap.size) 0 0) (fun i e=>by cases e;simp) (.box (ev σ.env x).cells) (Jnp _ _ _ (hv.news hR hn _ _))
 exact⟨_,F,(h2.put o.dst (.ptr σ.n 0) _ hd (.ptr σ.n 0 w.heap.size _ (J7 _ _ _) rfl)).fin rfl rfl (fun i hi=>Jcs hi)⟩
theorem JeY (w:World) (F:Nat->Prop) (β:Nat->Option Hdr) (z:Value):RVs w F β (z.cells.toList.map avc) z.cells:=by
 refine⟨by simp,fun j u v hu hv=> ?_⟩
 rw [Wp,Wu,hv] at hu
 cases hu
 exact .const w F β v
theorem Jls {tab:Tab} (hT:J0 P tab) {ti:TI} (ho:o.op= .alloc t) (ht:tab t=some ti):YD P g o σ ⟨.ptr σ.n 0,[(σ.n,some (.box ti.zero))],[],σ.n+1⟩:=by
 refine⟨Nat.le_succ _,fun C I σ2 a w K Q hC hxs hH hI hd hR hK=> ?_⟩
 obtain⟨β,F,hR⟩:=hR
 have hn:¬I σ.n:=hI σ.n (Nat.le_refl _) (Wn _)
 obtain⟨i,d,z,h1,_,h3,_,_,h4,_⟩:=JP (hT t ti ht)
 have hz:(zeroValue t).run P w= .ok z w:=by simp [zeroValue,run_typeInfo w h1,h3]
 refine upon_value (u:= .pointer (some ⟨w.heap.size,0,none⟩)) (w':=w.alloc (.cells z.cells t)) (by simp [execOp,ho,Instr.alloc,hz,newVar,JbH]) (hK _ _ ?_)
 rw [h4]
 have h2:=hR.new hn (Ja5 w (.cells z.cells t)) (YN (some w.heap.size) 0 0) (fun i e=>by cases e;simp) (.box (z.cells.toList.map avc)) (Jnp _ _ _ (JeY _ _ _ _))
 exact⟨_,F,(h2.put o.dst (.ptr σ.n 0) _ hd (.ptr σ.n 0 w.heap.size _ (J7 _ _ _) rfl)).fin rfl rfl (fun i hi=>Jcs hi)⟩
def zm:AV->AV->Bool
 | .int k a,.int k' b=>Nat.beq (kIx k) (kIx k')&&decide (a=b)
 | .fls,.fls=>true
 | .fls,.bool b=> !b
 |_,_=>false
theorem Jvc {z u:AV} (h:zm z u=true) {F:Nat->Prop} {v:Value} (hv:RV w F β z v):RV w F β u v:=by
 unfold zm at h
 split at h
 .
  simp only [Bool.and_eq_true,decide_eq_true_eq] at h
  obtain⟨h1,rfl⟩:=h
  have:=Jny h1
  subst this
  exact hv
 . exact hv
 .
  cases hv
  rename_i b
  cases b
  . exact .bool false
  . cases h
 . cases h
def Jn9:List AV->List AV->Bool
 |_,[]=>true
 |z::zs,u::us=>zm z u&&Jn9 zs us
 |[],_::_=>false
theorem Jm8:∀{zs c:List AV} (j:Nat) {u:AV},Jn9 zs c=true->c[j]? =some u->∃z,zs[j]? =some z∧zm z u=true
 |_,[],j,u,_,h=>by simp at h
 |[],_::_,_,_,h,_=>by simp [Jn9] at h
 |z::zs,u'::us,0,u,h,hu=>by
  simp only [Jn9,Bool.and_eq_true] at h
  simp at hu
  subst hu
  exact⟨z,rfl,h.1⟩
 |z::zs,u'::us,j+1,u,h,hu=>by
  simp only [Jn9,Bool.and_eq_true] at h
  simpa using Jm8 j h.2 (by simpa using hu)
def Joc (s:Nat) (c:List AV):Nat->List AV->Bool
 |0,_=>true
 |n+1,zs=>Jn9 zs c&&Joc s c n (zs.drop s)
theorem Jm9 {s:Nat} {c:List AV}:∀{n k:Nat} {zs:List AV} (j:Nat) {u:AV},Joc s c n zs=true->k<n->c[j]? =some u->∃z,zs[k*s+j]? =some z∧zm z u=true
 |0,k,zs,j,u,_,hk,_=>by omega
 |n+1,0,zs,j,u,h,_,hu=>by
  simp only [Joc,Bool.and_eq_true] at h
  simpa using Jm8 j h.1 hu
 |n+1,k+1,zs,j,u,h,hk,hu=>by
  simp only [Joc,Bool.and_eq_true] at h
  obtain⟨z,h1,h2⟩:=Jm9 (k:=k) j h.2 (by omega) hu
  rw [List.getElem?_drop] at h1
  refine⟨z,?_,h2⟩
  rw [<-h1]
  congr 1
  rw [Nat.add_mul]
  omega
def Jm7 (z:List AV) (s:Nat) (xs:List (List AV)):Prop:=∃n c,xs=List.replicate n c∧c.length=s∧c.all AV.one=true∧n<=maxLen∧n*s<=z.length∧Joc s c n z=true
theorem Joq {tab:Tab} (hT:J0 P tab) {ti:TI} {s:Nat} {xs:List (List AV)} (ho:o.op= .alloc t) (ht:tab t=some ti) (hz0:Jm7 ti.zero s xs):YD P g o σ ⟨.ptr σ.n 0,[(σ.n,some (.row s xs))],[],σ.n+1⟩:=by
 refine⟨Nat.le_succ _,fun C I σ2 a w K Q hC hxs hH hI hd hR hK=> ?_⟩
 obtain⟨β,F,hR⟩:=hR
 have hn:¬I σ.n:=hI σ.n (Nat.le_refl _) (Wn _)
 obtain⟨i,d,z,h1,_,h3,_,_,h4,_⟩:=JP (hT t ti ht)
 have hz:(zeroValue t).run P w= .ok z w:=by simp [zeroValue,run_typeInfo w h1,h3]
 obtain⟨n,c,rfl,q1,q2,q3,q4,q5⟩:=hz0
 rw [h4] at q4 q5
 simp only [List.length_map,Array.length_toList] at q4
 refine upon_value (u:= .pointer (some ⟨w.heap.size,0,none⟩)) (w':=w.alloc (.cells z.cells t)) (by simp [execOp,ho,Instr.alloc,hz,newVar,JbH]) (hK _ _ ?_)
 have hb:YE (w.alloc (.cells z.cells t)) F (Yg β σ.n (YN (some w.heap.size) n n)) (YN (some w.heap.size) n n) (.row s (List.replicate n c)):=by
  have hcc:∀(k:Nat) (e:List AV),(List.replicate n c)[k]? =some e->k<n∧e=c:=fun k e he=>by
   rw [List.getElem?_replicate] at he
   split at he
   . rename_i hk;cases he;exact⟨hk,rfl⟩
   . cases he
  refine⟨by simp,by simp,q3,fun e=>(by cases e),fun k e he=> ?_,fun b e=> ?_⟩
  .
   obtain⟨_,rfl⟩:=hcc k e he
   exact⟨q1,fun u hu=>List.all_eq_true.1 q2 u hu⟩
  .
   cases e
   refine⟨z.cells,t,heap_alloc_new _ _,q4,fun k e j u he hu=> ?_⟩
   obtain⟨hk,rfl⟩:=hcc k e he
   obtain⟨y,y1,y2⟩:=Jm9 (k:=k) j q5 hk hu
   rw [Wp,Wu] at y1
   cases hv:z.cells[k*s+j]? with
   |none=>rw [hv] at y1;cases y1
   |some v=>
    rw [hv] at y1
    cases y1
    exact⟨v,rfl,Jvc y2 (.const _ _ _ v)⟩
 have h2:=hR.new hn (Ja5 w (.cells z.cells t)) (YN (some w.heap.size) n n) (fun i e=>by cases e;simp) (.row s (List.replicate n c)) hb
 exact⟨_,F,(h2.put o.dst (.ptr σ.n 0) _ hd (.ptr σ.n 0 w.heap.size _ (J7 _ _ _) rfl)).fin rfl rfl (fun i hi=>Jcs hi)⟩
end Go.Proofs.YtehhohbnhcogkaaGreatDoor.Ax
namespace Go.Proofs.YtehhohbnhcogkaaGreatDoor.Ax
open Go.RowKit
variable {w:World} {β:Nat->Option Hdr} {sz n:Nat} {ys:List (List AV)}
def Jdd (w:World) (F:Nat->Prop) (β:Nat->Option Hdr) (sz:Nat) (ys:List (List AV)) (news:List Value):Prop:=
 news.length=ys.length*sz∧(∀(k:Nat) (c:List AV),ys[k]? =some c->c.length=sz∧∀u∈c,u.one=true)∧
  ∀(k:Nat) (c:List AV) (j:Nat) (u:AV),ys[k]? =some c->c[j]? =some u->∃v,news[k*sz+j]? =some v∧RV w F β u v
theorem Jdd.mono {w':World} {F F':Nat->Prop} {β':Nat->Option Hdr} {news:List Value} (h:Jdd w F β sz ys news) (hF:∀b,F b->F' b)
  (hw:∀b,F b->w'.heap[b]? =w.heap[b]?) (hβ:∀id h,β id=some h->β' id=some h):Jdd w' F' β' sz ys news:=
 ⟨h.1,h.2.1,fun k c j u hk hj=>by obtain⟨v,h1,h2⟩:=h.2.2 k c j u hk hj;exact⟨v,h1,h2.mono hF hw hβ⟩⟩
theorem JkB {p:Nat} (h:p<n*sz):p / sz<n∧p % sz<sz∧p / sz*sz+p % sz=p:=by
 have hsz:0<sz:=by
  rcases Nat.eq_zero_or_pos sz with h0 |h0
  . subst h0;simp at h
  . exact h0
 exact⟨(Nat.div_lt_iff_lt_mul hsz).2 h,Nat.mod_lt _ hsz,by rw [Nat.mul_comm];exact Nat.div_add_mod p sz⟩
theorem Jdd.one {F:Nat->Prop} {news:List Value} (h:Jdd w F β sz ys news):∀v∈news,v.oneCell'=true:=by
 intro v hv
 obtain⟨p,hp,he⟩:=List.getElem_of_mem hv
 obtain⟨h1,h2,h3⟩:=h
 rw [h1] at hp
 obtain⟨d1,d2,d3⟩:=JkB hp
 have hk:ys[p / sz]? =some ys[p / sz]:=Wg d1
 have hl:=(h2 _ _ hk).1
 have hj:ys[p / sz][p % sz]? =some (ys[p / sz][p % sz]'(by omega)):=Wg _
 obtain⟨v',e1,e2⟩:=h3 _ _ _ _ hk hj
 rw [d3,Wg (by rw [h1];exact hp),he] at e1
 cases e1
 exact(e2.oneCell ((h2 _ _ hk).2 _ (Wm hj))).1
theorem Jdc {k j:Nat} (hk:k<n) (hj:j<sz):k*sz+j<n*sz:=by
 have:(k+1)*sz<=n*sz:=Nat.mul_le_mul_right _ hk
 rw [Nat.succ_mul] at this
 omega
theorem Jdd.append {F:Nat->Prop} {xs:List (List AV)} {l m:List Value} (h:Jdd w F β sz xs l) (k:Jdd w F β sz ys m):Jdd w F β sz (xs++ys) (l++m):=by
 obtain⟨h1,h2,h3⟩:=h
 obtain⟨k1,k2,k3⟩:=k
 have sp:∀(i:Nat) (c:List AV),(xs++ys)[i]? =some c->(i<xs.length∧xs[i]? =some c)∨(xs.length<=i∧ys[i - xs.length]? =some c):=fun i c hi=>by
  by_cases hlt:i<xs.length
  . rw [Wc hlt] at hi;exact .inl ⟨hlt,hi⟩
  . rw [List.getElem?_append_right (by omega)] at hi;exact .inr ⟨by omega,hi⟩
 refine⟨by rw [List.length_append,h1,k1,List.length_append,Nat.add_mul],fun i c hi=> ?_,fun i c j u hi hj=> ?_⟩
 .
  rcases sp i c hi with⟨_,e⟩|⟨_,e⟩
  . exact h2 _ _ e
  . exact k2 _ _ e
 .
  rcases sp i c hi with⟨hlt,e⟩|⟨hle,e⟩
  .
   obtain⟨v,e1,e2⟩:=h3 i c j u e hj
   refine⟨v,?_,e2⟩
   rw [Wc (by have:=(List.getElem?_eq_some_iff.1 e1).1;exact this)]
   exact e1
  .
   obtain⟨v,e1,e2⟩:=k3 _ c j u e hj
   refine⟨v,?_,e2⟩
   have hmul:(i - xs.length)*sz=i*sz - xs.length*sz:=Nat.sub_mul _ _ _
   have hle2:xs.length*sz<=i*sz:=Nat.mul_le_mul_right _ hle
   rw [List.getElem?_append_right (by rw [h1];omega),h1,show i*sz+j - xs.length*sz=(i - xs.length)*sz+j by omega]
   exact e1
def JiI (w:World) (F:Nat->Prop) (β:Nat->Option Hdr) (sz:Nat) (ys:List (List AV)) (xv:Value):Prop:=
 ∃a c news,xv= .slice a ys.length c∧(a=none->ys=[])∧Jdd w F β sz ys news∧∀ad,a=some ad->∀(j:Nat) (u:Value),news[j]? =some u->w.cell? (ad.add j)=some u
def Ji7 (H:Nat->Option ABlk) (v:AV) (sz:Nat) (ys:List (List AV)) (ids:List Nat):Prop:=
 (v= .nils∧ys=[]∧ids=[])∨(v= .lst sz ys∧ids=[])∨(∃id,v= .osl id∧H id=some (.row sz ys)∧ids=[id])∨
  (∃id lo hi mx xs,v= .sub id sz lo hi mx∧H id=some (.row sz xs)∧lo<=hi∧hi<=xs.length∧(∀m,mx=some m->hi<=m)∧ys=(xs.drop lo).take (hi - lo)∧ids=[id])
theorem Je8 {F:Nat->Prop} {g:Hdr} {xs:List (List AV)} (h:YE w F β g (.row sz xs)) {b:Nat} (hb:g.blk=some b) {lo:Nat} (hn:lo+n<=xs.length):
  ∃arr ty,w.heap[b]? =some (.cells arr ty (0,0))∧g.cap*sz<=arr.size∧Jdd w F β sz ((xs.drop lo).take n) ((arr.toList.drop (lo*sz)).take (n*sz)):=by
 obtain⟨h1,h2,h3,h4,h5,h6⟩:=h
 obtain⟨arr,ty,e1,e2,e3⟩:=h6 b hb
 have hle:(lo+n)*sz<=arr.size:=Nat.le_trans (Nat.mul_le_mul_right _ (by omega)) e2
 rw [Nat.add_mul] at hle
 have el:∀(k:Nat) (c:List AV),((xs.drop lo).take n)[k]? =some c->k<n∧xs[lo+k]? =some c:=fun k c hk=>by
  rw [List.getElem?_take,List.getElem?_drop] at hk
  split at hk
  . exact⟨‹_›,hk⟩
  . cases hk
 refine⟨arr,ty,e1,e2,?_,fun k c hk=>h5 _ _ (el k c hk).2,fun k c j u hk hj=> ?_⟩
 .
  simp only [List.length_take,List.length_drop,Array.length_toList]
  have:min n (xs.length - lo)=n:=by omega
  rw [this]
  omega
 .
  obtain⟨hkn,hk'⟩:=el k c hk
  obtain⟨v,r1,r2⟩:=e3 _ c j u hk' hj
  refine⟨v,?_,r2⟩
  have hj':=(List.getElem?_eq_some_iff.1 hj).1
  rw [(h5 _ _ hk').1] at hj'
  rw [List.getElem?_take,if_pos (Jdc hkn hj'),List.getElem?_drop,Wu]
  rw [<-r1,Nat.add_mul,Nat.add_assoc]
theorem Jbd {F:Nat->Prop} {H:Nat->Option ABlk} {v:AV} {ids:List Nat} {xv:Value} (h:Ji7 H v sz ys ids) (hK:JrE H ids w F β) (hv:RV w F β v xv):JiI w F β sz ys xv:=by
 rcases h with⟨rfl,rfl,rfl⟩|⟨rfl,rfl⟩|⟨id,rfl,hH,rfl⟩|⟨id,lo,hi,mx,xs,rfl,hH,h1,h2,hm,rfl,rfl⟩
 .
  cases hv
  exact⟨none,0,[],rfl,fun _=>rfl,⟨by simp,fun k c hk=>by simp at hk,fun k c j u hk=>by simp at hk⟩,fun ad e=>by cases e⟩
 .
  cases hv with
  |lst _ _ a cap vs h1 h2 h3 h4 h5 h6 h7=>
   refine⟨a,cap,(List.range (ys.length*sz)).map fun p=>vs (p / sz) (p % sz),rfl,fun e=>Wz (by have:=h3 e;omega),⟨by simp,h5,fun k c j u hk hj=> ?_⟩,fun ad e j u hu=> ?_⟩
   .
    have hj':=(List.getElem?_eq_some_iff.1 hj).1
    have hk':=(List.getElem?_eq_some_iff.1 hk).1
    rw [(h5 _ _ hk).1] at hj'
    have hsz:0<sz:=by omega
    refine⟨vs k j,?_,(h7 k c j u hk hj).up⟩
    have e1:(k*sz+j) / sz=k:=by rw [Nat.add_comm,Nat.add_mul_div_right _ _ hsz,Nat.div_eq_of_lt hj',Nat.zero_add]
    have e2:(k*sz+j) % sz=j:=by rw [Nat.add_comm,Nat.add_mul_mod_self_right,Nat.mod_eq_of_lt hj']
    simp [Jdc hk' hj',e1,e2]
   .
    rw [Wp] at hu
    by_cases hp:j<ys.length*sz
    .
     simp [hp] at hu
     obtain⟨d1,d2,d3⟩:=JkB hp
     have hk:ys[j / sz]? =some ys[j / sz]:=Wg d1
     have hl:=(h5 _ _ hk).1
     have hj:ys[j / sz][j % sz]? =some (ys[j / sz][j % sz]'(by omega)):=Wg _
     have:=h6 ad _ _ _ _ e hk hj
     obtain⟨b,off,sp⟩:=ad
     obtain⟨hsp,_⟩:=h4 _ e (Nat.lt_of_le_of_lt (Nat.zero_le _) d1)
     rw [JgH hsp,<-hu]
     rw [Nat.add_assoc,d3] at this
     exact this
    . simp [hp] at hu
 .
  obtain⟨g,e1,hb⟩:=hK id (by simp) _ hH
  cases hv with
  |osl _ g' e2=>
   rw [e1] at e2
   cases e2
   obtain⟨h1,h2,h3,h4,h5,h6⟩:=hb
   refine⟨J5 g.blk 0,g.cap,?_⟩
   cases hblk:g.blk with
   |none=>
    have h0:ys=[]:=Wz (by have:=h4 hblk;omega)
    subst h0
    exact⟨[],by rw [h1],fun _=>rfl,⟨by simp,fun k c hk=>by simp at hk,fun k c j u hk=>by simp at hk⟩,fun ad e=>by cases e⟩
   |some b=>
    obtain⟨arr,ty,r1,r2,r3⟩:=Je8 ⟨h1,h2,h3,h4,h5,h6⟩ hblk (lo:=0) (n:=ys.length) (by omega)
    simp only [List.drop_zero,List.take_length,Nat.zero_mul] at r3
    refine⟨_,by rw [h1],(fun e=>by cases e),r3,fun ad e j u hu=> ?_⟩
    cases e
    rw [Addr.add_lit]
    rw [Nat.zero_add]
    rw [List.getElem?_take] at hu
    split at hu
    . simp [World.cell?,r1];simpa using hu
    . cases hu
 .
  obtain⟨g,e1,hb⟩:=hK id (by simp) _ hH
  cases hv with
  |sub _ _ _ _ _ g' e2=>
   rw [e1] at e2
   cases e2
   obtain⟨q1,q2,q3,q4,q5,q6⟩:=hb
   have hlen:((xs.drop lo).take (hi - lo)).length=hi - lo:=by simp;omega
   refine⟨J5 g.blk (if mx.getD g.cap=lo then 0 else lo*sz),mx.getD g.cap - lo,?_⟩
   cases hblk:g.blk with
   |none=>
    have h0:xs=[]:=Wz (by have:=q4 hblk;omega)
    subst h0
    have hz:hi - lo=0:=by simp at h2;omega
    refine⟨[],by rw [hlen],fun _=>by simp,⟨by simp,fun k c hk=>by simp at hk,fun k c j u hk=>by simp at hk⟩,fun ad e=>by cases e⟩
   |some b=>
    obtain⟨arr,ty,r1,r2,r3⟩:=Je8 ⟨q1,q2,q3,q4,q5,q6⟩ hblk (lo:=lo) (n:=hi - lo) (by omega)
    refine⟨_,by rw [hlen],(fun e=>by cases e),r3,fun ad e j u hu=> ?_⟩
    cases e
    rw [List.getElem?_take] at hu
    split at hu
    .
     rename_i hj
     have hne:¬mx.getD g.cap=lo:=fun e=>by
      have h0:hi<=lo:=by
       cases mx with
       |none=>simp only [Option.getD_none] at e;omega
       |some m=>simp only [Option.getD_some] at e;have:=hm m rfl;omega
      have:hi - lo=0:=by omega
      rw [this] at hj
      simp at hj
     rw [if_neg hne,Addr.add_lit]
     rw [List.getElem?_drop] at hu
     simp [World.cell?,r1]
     simpa using hu
    . cases hu
end Go.Proofs.YtehhohbnhcogkaaGreatDoor.Ax
namespace Go.Proofs.YtehhohbnhcogkaaGreatDoor.Ax
open Go.RowKit
def YS (ns:List Int):ByteArray:=ns.foldl (fun r n=>r.push (UInt8.ofNat n.toNat)) ByteArray.empty
theorem Jis {P:Program} {tab:Tab} (hT:J0 P tab) {o:Oper} {env:Nat->AV} {H:Nat->Option ABlk} {x:Operand} {s t e:TypeId} {ti tj te:TI} {sz eb:Nat} {ez:List AV} {ns:List Int} {ys:List (List AV)} {ids:List Nat} (ho:o.op= .convert s t x) (hs:tab s=some tj) (ht:tab t=some ti)
  (hdt:ti.d= .str) (hd:tj.d= .slc e sz eb ez) (hte:tab e=some te) (hde:te.d= .int .u8) (hc:Ji7 H (ev env x) 1 ys ids) (hys:ys=ns.map fun n=>[.int .u8 n]):ZH P o env H (.str (YS ns)) ids:=by
 intro w F β a hx hK
 have hcx:=hx x (by simp [ho,Op.operands])
 obtain⟨ad,cap,news,hv,h1,h2,h3⟩:=Jbd hc hK hcx
 obtain⟨ii,dd,z,g1,g2,_,_,_,_,g3⟩:=JP (hT t ti ht)
 obtain⟨ij,dj,zj,j1,j2,_,_,_,_,j3⟩:=JP (hT s tj hs)
 obtain⟨ie,de,ze,e1,e2,_,_,_,_,e3⟩:=JP (hT e te hte)
 rw [hdt] at g3
 rw [hd] at j3
 rw [hde] at e3
 have hdd:dd= .string:=by
  cases dd<;>simp only [Jf1] at g3<;>first |(cases g3;done)|rfl |((repeat' split at g3)<;>cases g3)
 subst hdd
 have hdde:de= .int .u8:=by
  cases de<;>simp only [Jf1] at e3<;>first |(cases e3;rfl)|((repeat' split at e3)<;>cases e3)
 subst hdde
 obtain⟨i',v,rfl,_⟩:=JaD j3.symm
 refine⟨.string (YS ns),?_,.str _⟩
 have hrun:(Conv.bytesToString (a.eval x)).run P w= .ok (.string (YS ns)) w:=by
  rw [hv]
  cases ad with
  |none=>
   have:=h1 rfl
   rw [this] at hys
   have hn:ns=[]:=List.map_eq_nil_iff.1 hys.symm
   subst hn
   simp [Conv.bytesToString,YS]
  |some ad=>
   obtain⟨f1,f2,f3⟩:=h2
   have hnews:news=ns.map (Value.int .u8):=by
    refine List.ext_getElem? (fun j=> ?_)
    rw [Wp]
    by_cases hj:j<ns.length
    .
     rw [Wg hj]
     obtain⟨v,hv1,hv2⟩:=f3 j [.int .u8 ns[j]] 0 (.int .u8 ns[j]) (by rw [hys,Wp,Wg hj];rfl) rfl
     cases hv2
     simpa using hv1
    .
     rw [List.getElem?_eq_none (by rw [f1,hys];simp;omega),List.getElem?_eq_none (by omega)]
     rfl
   refine run_bytesToString w ad ys.length cap ns ?_
   have:=run_loadCells_list (P:=P) (w:=w) ad news (fun j v hj=>h3 ad rfl j v hj)
   rw [f1,Nat.mul_one,hnews] at this
   exact this
 simp only [execOp,ho,Sem.run_bind]
 rw [hv] at hrun ⊢
 rw [run_convert_bytes_string w s t e ad ys.length cap j2 e2 g2,hrun]
 rfl
end Go.Proofs.YtehhohbnhcogkaaGreatDoor.Ax
namespace Go.Proofs.YtehhohbnhcogkaaGreatDoor.Ax
open Go.RowKit
variable {β:Nat->Option Hdr} {sz:Nat} {xs ys:List (List AV)} {a:Act} {C:Ctx} {σ:ASt}
theorem Jeo {w:World} {F:Nat->Prop} {l:List Value} (h:Jdd w F β sz xs l) {b:Nat} {arr:Array Value} {ty:TypeId} (hb:w.heap[b]? =some (.cells arr ty (0,0)))
  (hl:∀p,p<l.length->arr[p]? =l[p]?) {cap:Nat} (hc:cap*sz<=arr.size) (hx:xs.length<=cap) (hm:cap<=maxLen):YE w F β (YN (some b) xs.length cap) (.row sz xs):=by
 refine⟨rfl,hx,hm,(fun e=>by cases e),h.2.1,fun b' e=> ?_⟩
 cases e
 refine⟨arr,ty,hb,hc,fun k c j u hk hj=> ?_⟩
 obtain⟨v,e1,e2⟩:=h.2.2 k c j u hk hj
 refine⟨v,?_,e2⟩
 rw [hl _ (List.getElem?_eq_some_iff.1 e1).1]
 exact e1
def JoV (H:Nat->Option ABlk) (g:Nat) (v:AV) (sz:Nat) (xs:List (List AV)) (wr:List (Nat×Option ABlk)):Prop:=
 (v= .nils∧xs=[]∧wr=[])∨(∃id,v= .osl id∧H id=some (.row sz xs)∧wr=[(id,none)])∨
  (∃id hi mx ys,v= .sub id sz 0 hi mx∧H id=some (.row sz ys)∧hi<=ys.length∧xs=ys.take hi∧(mx=none∨mx=some hi)∧wr=[(id,none)])
theorem YE.short {w:World} {F:Nat->Prop} {g:Hdr} {hi cp:Nat} (h:YE w F β g (.row sz ys)) (hh:hi<=ys.length) (hc1:hi<=cp) (hc2:cp<=g.cap):YE w F β (YN g.blk hi cp) (.row sz (ys.take hi)):=by
 obtain⟨h1,h2,h3,h4,h5,h6⟩:=h
 have el:∀(k:Nat) (c:List AV),(ys.take hi)[k]? =some c->ys[k]? =some c:=fun k c hk=>by
  rw [List.getElem?_take] at hk
  split at hk
  . exact hk
  . cases hk
 refine⟨by simp [Nat.min_eq_left hh],by simp [Nat.min_eq_left hh];exact hc1,by show cp<=maxLen;omega,fun e=>by have:=h4 e;show cp=0;omega,fun k c hk=>h5 k c (el k c hk),fun b e=> ?_⟩
 obtain⟨arr,ty,r1,r2,r3⟩:=h6 b e
 exact⟨arr,ty,r1,Nat.le_trans (Nat.mul_le_mul_right _ (by show cp<=g.cap;omega)) r2,fun k c j u hk hj=>r3 k c j u (el k c hk) hj⟩
section
variable {P:Program} (w:World)
theorem JiT (t ty e:TypeId) (i:TypeInfo) (ht:P.underlying t=some (.slice e)) (hi:P.info? e=some i) (g sLen sCap:Nat) (cur:Array Value) (te:TypeId) (hg:w.heap[g]? =some (.cells cur te (0,0)))
  (a:Option Addr) (m c:Nat) (news:List Value) (hf:(Builtin.firstCells i.size m (.slice a m c)).run P w= .ok news.toArray w) (h1:∀u∈news,u.oneCell'=true) (hroom:sLen+m<=sCap) (hfit:sLen*i.size+news.length<=cur.size):
  (Builtin.append_ #[t,t] ty #[.slice (some ⟨g,0,none⟩) sLen sCap,.slice a m c]).run P w=
   .ok (.slice (some ⟨g,0,none⟩) (sLen+m) sCap) (w.setRow g (cur.toList.take (sLen*i.size)++news++cur.toList.drop (sLen*i.size+news.length)).toArray):=by
 have hst:=run_storeCells_at P g (sLen*i.size) te news 0 cur w hg (by simpa using hfit) h1
 simp only [Nat.add_zero] at hst
 simp [Builtin.append_,run_underlying ht,sizeOf,typeInfo,hi,Builtin.lenOf,hroom,hf,Addr.add_lit,hst]
theorem JjZ (t ty e:TypeId) (i:TypeInfo) (ht:P.underlying t=some (.slice e)) (hi:P.info? e=some i) (a:Option Addr) (c:Nat) (hf:(Builtin.firstCells i.size 0 (.slice a 0 c)).run P w= .ok #[] w):
  (Builtin.append_ #[t,t] ty #[.slice none 0 0,.slice a 0 c]).run P w= .ok (.slice none 0 0) w:=by
 simp [Builtin.append_,run_underlying ht,sizeOf,typeInfo,hi,Builtin.lenOf,hf]
end
theorem Jg7 {P:Program} {w:World} {F:Nat->Prop} {a:Option Addr} {c:Nat} {news:List Value} (ha:a=none->ys=[]) (hf:Jdd w F β sz ys news) (hn:∀ad,a=some ad->∀(j:Nat) (u:Value),news[j]? =some u->w.cell? (ad.add j)=some u):
  (Builtin.firstCells sz ys.length (.slice a ys.length c)).run P w= .ok news.toArray w:=by
 cases a with
 |none=>
  have:=ha rfl
  subst this
  have:news=[]:=Wz (by simpa using hf.1)
  subst this
  simp [Builtin.firstCells]
 |some ad=>exact run_firstCells_some (P:=P) w sz ys.length ad ys.length c news hf.1 (hn ad rfl)
theorem QV (w:World) (g:Nat) (arr:Array Value):Same w (w.setRow g arr) (some g):=
 ⟨rfl,.it,rfl,by simp,fun k _ hk=>setRow_other w g k _ (fun e=>hk (by simp [e]))⟩
theorem JgQ (w:World) (o:Obj):Same w (w.drew.alloc o) none:=
 ⟨rfl,.it,rfl,by simp,fun k hk _=>Below.heap_alloc w.drew _ k hk⟩
theorem JiU {P:Program} (w:World) (t tx ty e:TypeId) (i:TypeInfo) (ht:P.underlying t=some (.slice e)) (hi:P.info? e=some i) {x:Value} {news:List Value} (hs:Src P i.size tx x 0 news w):
  (Builtin.append_ #[t,tx] ty #[.slice none 0 0,x]).run P w= .ok (.slice none 0 0) w:=by
 rcases hs.kind with⟨e',hk⟩|hk<;>simp [Builtin.append_,run_underlying ht,run_underlying hk,sizeOf,typeInfo,hi,hs.len,hs.cells]
theorem Jh4 {P:Program} (w:World) (t tx ty e:TypeId) (i:TypeInfo) (ht:P.underlying t=some (.slice e)) (hi:P.info? e=some i) (g sLen sCap:Nat) (cur:Array Value) (te:TypeId) (hg:w.heap[g]? =some (.cells cur te (0,0)))
  {x:Value} {m:Nat} {news:List Value} (hs:Src P i.size tx x m news w) (hroom:sLen+m<=sCap) (hfit:sLen*i.size+news.length<=cur.size):
  (Builtin.append_ #[t,tx] ty #[.slice (some ⟨g,0,none⟩) sLen sCap,x]).run P w=
   .ok (.slice (some ⟨g,0,none⟩) (sLen+m) sCap) (w.setRow g (cur.toList.take (sLen*i.size)++news++cur.toList.drop (sLen*i.size+news.length)).toArray):=by
 have hst:=run_storeCells_at P g (sLen*i.size) te news 0 cur w hg (by simpa using hfit) hs.one
 simp only [Nat.add_zero] at hst
 rcases hs.kind with⟨e',hk⟩|hk<;>simp [Builtin.append_,run_underlying ht,run_underlying hk,sizeOf,typeInfo,hi,hs.len,hroom,hs.cells,Addr.add_lit,hst]
theorem JiI.src {P:Program} {w:World} {F:Nat->Prop} {xv:Value} (hx:JiI w F β sz ys xv) {t e:TypeId} (ht:P.underlying t=some (.slice e)):∃news,Src P sz t xv ys.length news w∧Jdd w F β sz ys news:=by
 obtain⟨xa,xc,news,rfl,hxa,hfl,hcells⟩:=hx
 refine⟨news,?_,hfl⟩
 cases xa with
 |none=>
  have:=hxa rfl
  subst this
  have:news=[]:=Wz (by simpa using hfl.1)
  subst this
  exact Src.ofNil w ht xc
 |some ad=>exact Src.ofSlice w ht ad ys.length xc news hfl.1 (hcells ad rfl) hfl.one
theorem Jl8 {I:Nat->Prop} {w:World} {β:Nat->Option Hdr} {F:Nat->Prop} (hR:RelB C I σ a w β F) {n:Nat} (hn:¬I n) {g:Nat} (hC:C.γ.length=g) {v:AV} {wr:List (Nat×Option ABlk)}
  (hs:JoV σ.H g v sz xs wr) {sv xv:Value} (hv:RV w F β v sv) {P:Program} {t tx ty e:TypeId} {i:TypeInfo} {z:Value} {news:List Value} (hS:Src P i.size tx xv ys.length news w) (hfl:Jdd w F β sz ys news) (ht:P.underlying t=some (.slice e)) (hi:P.info? e=some i) (hz:i.zero=some z)
  (hsz:i.size=sz) (hzs:z.cells.size=sz) (hb:(xs.length+ys.length)*i.bytes<=140737488355328) (h63:xs.length+ys.length<=maxLen):
  ∃u w' β',(Builtin.append_ #[t,tx] ty #[sv,xv]).run P w= .ok u w'∧RelB C (fun i=>I i∨i=n) { σ with H:=wrH σ.H (wr++[(n,some (.row sz (xs++ys)))]) } a w' β' F∧RV w' F β' (.osl n) u:=by
 subst hsz
 have hsmall:xs.length+ys.length<=9223372036854775807:=by simp only [maxLen] at h63;omega
 obtain⟨h,hsv,hblk,hid⟩:∃h:Hdr,sv= .slice (J5 h.blk 0) h.len h.cap∧YE w F β h (.row i.size xs)∧((wr=[]∧h.blk=none)∨∃id k g',wr=[(id,none)]∧σ.H id=some k∧β id=some g'∧h.blk=g'.blk∧YE w F β g' k∧∀k',wrH σ.H (wr++[(n,k')])=ZI (ZI σ.H id none) n k'):=by
  rcases hs with⟨rfl,rfl,rfl⟩|⟨id,rfl,h1,rfl⟩|⟨id,hh,mx,zs,rfl,h1,h2,rfl,h3,rfl⟩
  .
   cases hv
   exact⟨(YN none 0 0),rfl,⟨rfl,Nat.le_refl _,by simp [maxLen],fun _=>rfl,fun k c hk=>by simp at hk,fun b e=>by cases e⟩,.inl ⟨rfl,rfl⟩⟩
  .
   obtain⟨g',e1,e2,_⟩:=hR.live id _ h1
   cases hv with
   |osl _ g'' e3=>
    rw [e1] at e3
    cases e3
    exact⟨g',rfl,e2,.inr ⟨id,_,g',rfl,h1,e1,rfl,e2,fun k'=>rfl⟩⟩
  .
   obtain⟨g',e1,e2,_⟩:=hR.live id _ h1
   cases hv with
   |sub _ _ _ _ _ g'' e3=>
    rw [e1] at e3
    cases e3
    have hcap:hh<=g'.cap:=by have:=e2.2.1;omega
    rcases h3 with rfl |rfl
    .
     refine⟨YN g'.blk hh g'.cap,?_,e2.short h2 hcap (Nat.le_refl _),.inr ⟨id,_,g',rfl,h1,e1,rfl,e2,fun k'=>rfl⟩⟩
     simp
    .
     refine⟨YN g'.blk hh hh,?_,e2.short h2 (Nat.le_refl _) hcap,.inr ⟨id,_,g',rfl,h1,e1,rfl,e2,fun k'=>rfl⟩⟩
     simp
 obtain⟨q1,q2,q3,q4,q5,q6⟩:=hblk
 have hblk:YE w F β h (.row i.size xs):=⟨q1,q2,q3,q4,q5,q6⟩
 subst hsv
 by_cases hroom:h.len+ys.length<=h.cap
 .
  cases hb':h.blk with
  |none=>
   have hc0:=q4 hb'
   have hx0:xs=[]:=Wz (by omega)
   have hy0:ys=[]:=Wz (by omega)
   have hl0:h.len=0:=by omega
   subst hx0
   subst hy0
   have hnews:news=[]:=Wz (by simpa using hfl.1)
   subst hnews
   have hrun:=JiU (P:=P) w t tx ty e i ht hi hS
   have hB0:∀β',YE w F β' (YN none 0 0) (.row i.size ([]++[])):=fun β'=>⟨rfl,Nat.le_refl _,by simp [maxLen],fun _=>rfl,fun k c hk=>by simp at hk,fun b e=>by cases e⟩
   refine⟨.slice none 0 0,w,Yg β n (YN none 0 0),by rw [hl0,hc0];exact hrun,?_,.osl n (YN none 0 0) (J7 _ _ _)⟩
   rcases hid with⟨rfl,_⟩|⟨id,k,g',rfl,h2,h3,h4,h5,h6⟩
   . exact(hR.new hn ⟨rfl,.it,rfl,Nat.le_refl _,fun _ _ _=>rfl⟩ (YN none 0 0) (fun i e=>by cases e) _ (hB0 _)).fin rfl rfl (fun i hi=>hi)
   . exact(hR.take h2 h3 hn (YN none 0 0) (by rw [<-h4,hb']) _ (hB0 _)).fin rfl (h6 _) (fun i hi=>hi)
  |some b=>
   obtain⟨arr,ty',r1,r2,r3⟩:=q6 b hb'
   have hfit:h.len*i.size+news.length<=arr.size:=by
    rw [hfl.1,<-Nat.add_mul]
    exact Nat.le_trans (Nat.mul_le_mul_right _ hroom) r2
   have hrun:=Jh4 (P:=P) w t tx ty e i ht hi b h.len h.cap arr ty' r1 hS hroom hfit
   rcases hid with⟨_,hc⟩|⟨id,k,g',rfl,h2,h3,h4,h5,h6⟩
   . rw [hb'] at hc;cases hc
   .
    generalize hA:(arr.toList.take (h.len*i.size)++news++arr.toList.drop (h.len*i.size+news.length)).toArray=A at hrun
    have hAs:A.size=arr.size:=by
     rw [<-hA]
     simp only [List.size_toArray,List.length_append,List.length_take,List.length_drop,Array.length_toList]
     omega
    have hAlt:∀p,p<h.len*i.size->A[p]? =arr[p]? :=fun p hp=>by
     rw [<-hA]
     simp only [List.getElem?_toArray]
     rw [Wc (by simp;omega),Wc (by simp;omega),List.getElem?_take,if_pos hp,Wu]
    have hAn:∀p,p<news.length->A[h.len*i.size+p]? =news[p]? :=fun p hp=>by
     rw [<-hA]
     simp only [List.getElem?_toArray]
     have hl:(arr.toList.take (h.len*i.size)).length=h.len*i.size:=by simp;omega
     rw [Wc (by rw [List.length_append,hl];omega),List.getElem?_append_right (by rw [hl];omega),hl,Nat.add_sub_cancel_left]
    have hheap:=setRow_heap w b arr A ty' _ r1
    obtain⟨_,d1,_,d3⟩:=hR.live id k h2
    rw [h3] at d1
    cases d1
    obtain⟨d4,d5,d6⟩:=d3 b (.inl (by rw [<-h4,hb']))
    have hFw:∀j,F j->(w.setRow b A).heap[j]? =w.heap[j]? :=fun j hj=>(QV w b A).block j (hR.news j hj).1 (fun e=>d5 (by cases e;exact hj))
    have hold:∀(k:Nat) (c:List AV) (j:Nat) (u:AV),xs[k]? =some c->c[j]? =some u->∃v,A[k*i.size+j]? =some v∧RV (w.setRow b A) F β u v:=fun k c j u hk hj=>by
     obtain⟨v,s1,s2⟩:=r3 k c j u hk hj
     have hj':=(List.getElem?_eq_some_iff.1 hj).1
     rw [(q5 _ _ hk).1] at hj'
     have hk':=(List.getElem?_eq_some_iff.1 hk).1
     exact⟨v,by rw [hAlt _ (by rw [q1];exact Jdc hk' hj')];exact s1,s2.mono (fun _ x=>x) hFw (fun _ _ x=>x)⟩
    have hrow:YE (w.setRow b A) F β g' (.row i.size ([]:List (List AV)))∨True:= .inr trivial
    have hkill:=hR.kill id
    have hstep:RelB C I { σ with H:=ZI σ.H id none } a (w.setRow b A) β F:=by
     refine hkill.step (QV w b A) (fun j e=> ?_) I (fun _ x=>x) _ β (fun _ _ x=>x) (fun id g e=>hR.dom id g e) (fun id1 k1 e1=> ?_) hkill.inj
     .
      cases e
      refine⟨d5,fun hlt=> ?_⟩
      rcases d6 with d6 |d6
      . exact d6
      . omega
     .
      refine .inl ⟨e1,fun g1 j s1 s2 s3=> ?_⟩
      cases s3
      by_cases hid:id1=id
      . subst hid;rw [Qk] at e1;cases e1
      .
       rw [YW _ _ hid] at e1
       exact hid (hR.inj id1 id k1 k g1 _ _ e1 h2 s1 h3 s2 (.inl (by rw [<-h4,hb'])))
    have hβ:=JaZ ((YN (some b) (h.len+ys.length) h.cap):Hdr) (hR.fresh hn)
    refine⟨_,_,Yg β n (YN (some b) (h.len+ys.length) h.cap),hrun,?_,.osl n (YN (some b) (h.len+ys.length) h.cap) (J7 _ _ _)⟩
    have hlive':YE (w.setRow b A) F (Yg β n (YN (some b) (h.len+ys.length) h.cap)) (YN (some b) (h.len+ys.length) h.cap) (.row i.size (xs++ys)):=by
     refine⟨by simp [q1],by simp;omega,q3,(fun e=>by cases e),fun k c hk=> ?_,fun b2 e2=> ?_⟩
     .
      by_cases hlt:k<xs.length
      . rw [Wc hlt] at hk;exact q5 _ _ hk
      . rw [List.getElem?_append_right (by omega)] at hk;exact hfl.2.1 _ _ hk
     .
      cases e2
      refine⟨A,ty',hheap,by rw [hAs];exact r2,fun k c j u hk hj=> ?_⟩
      by_cases hlt:k<xs.length
      .
       rw [Wc hlt] at hk
       obtain⟨v,s1,s2⟩:=hold k c j u hk hj
       exact⟨v,s1,s2.mono (fun _ x=>x) (fun _ _=>rfl) hβ⟩
      .
       rw [List.getElem?_append_right (by omega)] at hk
       obtain⟨v,s1,s2⟩:=hfl.2.2 _ c j u hk hj
       refine⟨v,?_,(s2.mono (fun _ x=>x) hFw (fun _ _ x=>x)).mono (fun _ x=>x) (fun _ _=>rfl) hβ⟩
       have:=hAn _ (List.getElem?_eq_some_iff.1 s1).1
       rw [s1,q1,<-Nat.add_assoc,<-Nat.add_mul,Nat.add_sub_cancel' (by omega)] at this
       exact this
    refine(hstep.step (w':=w.setRow b A) (b:=none) ⟨rfl,.it,rfl,Nat.le_refl _,fun _ _ _=>rfl⟩ (fun j e=>by cases e) (fun i=>I i∨i=n) (fun i hi=> .inl hi) (ZI (ZI σ.H id none) n (some (.row i.size (xs++ys)))) (Yg β n (YN (some b) (h.len+ys.length) h.cap)) hβ (fun id1 g1 e=> ?_) (fun id1 k1 e1=> ?_) (fun id1 id2 k1 k2 g1 g2 j e1 e2 e3 e4 e5 e6=> ?_)).fin rfl (h6 _) (fun i hi=>hi)
    .
     unfold Yg at e
     split at e
     . exact .inr ‹_›
     . exact .inl (hR.dom _ _ e)
    .
     by_cases hid:id1=n
     .
      subst hid
      rw [Qk] at e1
      cases e1
      refine .inr ⟨_,J7 _ _ _,hlive',fun j hj=> ?_⟩
      rcases hj with hj |hj
      .
       cases hj
       exact⟨Nat.lt_of_lt_of_le d4 (QV w b A).size,d5,d6⟩
      . exact hj.elim
     .
      rw [YW _ _ hid] at e1
      exact .inl ⟨e1,fun _ _ _ _=>by simp⟩
    .
     have old:∀{id1 k1},id1≠n->ZI (ZI σ.H id none) n (some (.row i.size (xs++ys))) id1=some k1->id1≠id∧σ.H id1=some k1:=fun {id1 k1} s1 s2=>by
      rw [YW _ _ s1] at s2
      by_cases hid:id1=id
      . subst hid;rw [Qk] at s2;cases s2
      . rw [YW _ _ hid] at s2;exact⟨hid,s2⟩
     by_cases hid:id1=n<;>by_cases hid':id2=n
     . rw [hid,hid']
     .
      obtain⟨o1,o2⟩:=old hid' e2
      rw [Yg,if_neg hid'] at e4
      rw [hid,J7] at e3
      rw [hid,Qk] at e1
      cases e3
      cases e1
      rcases e5 with e5 |e5
      .
       cases e5
       exact absurd (hR.inj id2 id k2 k g2 _ _ o2 h2 e4 h3 e6 (.inl (by rw [<-h4,hb']))) o1
      . exact e5.elim
     .
      obtain⟨o1,o2⟩:=old hid e1
      rw [Yg,if_neg hid] at e3
      rw [hid',J7] at e4
      rw [hid',Qk] at e2
      cases e4
      cases e2
      rcases e6 with e6 |e6
      .
       cases e6
       exact absurd (hR.inj id1 id k1 k g1 _ _ o2 h2 e3 h3 e5 (.inl (by rw [<-h4,hb']))) o1
      . exact e6.elim
     .
      rw [Yg,if_neg hid] at e3
      rw [Yg,if_neg hid'] at e4
      exact hR.inj id1 id2 k1 k2 g1 g2 j (old hid e1).2 (old hid' e2).2 e3 e4 e5 e6
 .
  obtain⟨olds,ho1,ho2,ho3⟩:∃olds:List Value,Jdd w F β i.size xs olds∧(∀b,h.blk=some b->∀(j:Nat) (u:Value),olds[j]? =some u->w.cell? ((⟨b,0,none⟩:Addr).add j)=some u)∧(h.blk=none->olds=[]):=by
   cases hb':h.blk with
   |none=>
    have hx0:xs=[]:=Wz (by have:=q4 hb';omega)
    subst hx0
    exact⟨[],⟨by simp,fun k c hk=>by simp at hk,fun k c j u hk=>by simp at hk⟩,fun b e=>(by cases e),fun _=>rfl⟩
   |some b=>
    obtain⟨arr,ty,r1,r2,r3⟩:=Je8 hblk hb' (lo:=0) (n:=xs.length) (by omega)
    simp only [List.drop_zero,List.take_length,Nat.zero_mul] at r3
    refine⟨_,r3,fun b2 e j u hu=> ?_,fun e=>by cases e⟩
    cases e
    rw [Addr.add_lit,Nat.zero_add]
    rw [List.getElem?_take] at hu
    split at hu
    . simp [World.cell?,r1];simpa using hu
    . cases hu
  have hmpos:0<ys.length:=by
   rcases Nat.eq_zero_or_pos ys.length with h0 |h0
   . omega
   . exact h0
  have hge:=grownCap_ge w (h.len+ys.length) h.cap e
  have hcm:=grownCap_le_maxLen w (h.len+ys.length) h.cap e (by rw [q1];exact h63)
  obtain⟨A,hrun,hAsz,hAlt⟩:∃A:Array Value,(Builtin.append_ #[t,tx] ty #[.slice (J5 h.blk 0) h.len h.cap,xv]).run P w= .ok (.slice (some ⟨w.heap.size,0,none⟩) (h.len+ys.length) (grownCap w (h.len+ys.length) h.cap e)) (w.drew.alloc (.cells A e))∧
    A.size=grownCap w (h.len+ys.length) h.cap e*i.size∧∀p,p<(olds++news).length->A[p]? =(olds++news)[p]? :=by
   have hsize:∀k,olds.length+news.length+(Builtin.zeroCells z.cells (k - (h.len+ys.length))).size=h.len*i.size+ys.length*i.size+(k - (h.len+ys.length))*i.size:=fun k=>by
    rw [size_zeroCells,hzs,ho1.1,hfl.1,q1]
   cases hb':h.blk with
   |none=>
    have hc0:=q4 hb'
    have hl0:h.len=0:=by omega
    have ho:=ho3 hb'
    subst ho
    have hr:=run_append_grow_src (P:=P) w t tx ty e i z ht hi hz none h.len h.cap [] (by rw [hl0];simp [Builtin.firstCells]) xv ys.length news hS (by omega) (by omega) (growslice_fits (by omega) (by rw [q1];exact hb))
    refine⟨_,hr,?_,fun p hp=> ?_⟩
    .
     simp only [Array.size_append,List.size_toArray]
     rw [List.length_append,hsize,<-Nat.add_mul,<-Nat.add_mul]
     congr 1
     omega
    .
     rw [Array.getElem?_append_left (by simpa using hp)]
     simp
   |some b=>
    have hr:=run_append_grow_src (P:=P) w t tx ty e i z ht hi hz (some ⟨b,0,none⟩) h.len h.cap olds (run_firstCells_some (P:=P) w.drew i.size h.len ⟨b,0,none⟩ h.len h.cap olds (by rw [ho1.1,q1]) (by simpa using ho2 b hb')) xv ys.length news hS (by omega) (by omega) (growslice_fits (by omega) (by rw [q1];exact hb))
    refine⟨_,hr,?_,fun p hp=> ?_⟩
    .
     simp only [Array.size_append,List.size_toArray]
     rw [List.length_append,hsize,<-Nat.add_mul,<-Nat.add_mul]
     congr 1
     omega
    .
     rw [Array.getElem?_append_left (by simpa using hp)]
     simp
  have hns:=JgQ w (.cells A e)
  have hkilled:∃H0,RelB C I { σ with H:=H0 } a w β F∧∀k',wrH σ.H (wr++[(n,k')])=ZI H0 n k':=by
   rcases hid with⟨rfl,_⟩|⟨id,k,g',rfl,h2,h3,h4,h5,h6⟩
   . exact⟨σ.H,hR,fun k'=>rfl⟩
   . exact⟨_,hR.kill id,h6⟩
  obtain⟨H0,hR0,hH0⟩:=hkilled
  have hFw:∀j,F j->(w.drew.alloc (.cells A e)).heap[j]? =w.heap[j]? :=fun j hj=>hns.block j (hR.news j hj).1 (by simp)
  have hflat:=(ho1.append hfl).mono (F':=F) (w':=w.drew.alloc (.cells A e)) (β':=Yg β n (YN (some w.heap.size) (xs++ys).length (grownCap w (h.len+ys.length) h.cap e))) (fun _ x=>x) hFw (JaZ _ (hR.fresh hn))
  have hnew:=hR0.new hn hns (YN (some w.heap.size) (xs++ys).length (grownCap w (h.len+ys.length) h.cap e)) (fun j e=>by cases e;exact⟨Nat.le_refl _,by simp⟩) (.row i.size (xs++ys))
   (Jeo hflat (heap_alloc_new w.drew _) hAlt (by rw [hAsz];exact Nat.le_refl _) (by simp;omega) hcm)
  refine⟨_,_,_,hrun,hnew.fin rfl (hH0 _) (fun i hi=>hi),?_⟩
  have:=RV.osl (w:=w.drew.alloc (.cells A e)) (F:=F) (β:=Yg β n (YN (some w.heap.size) (xs++ys).length (grownCap w (h.len+ys.length) h.cap e))) n _ (J7 _ _ _)
  have hlen:(xs++ys).length=h.len+ys.length:=by simp [q1]
  rw [show Value.slice (some ⟨w.heap.size,0,none⟩) (h.len+ys.length) (grownCap w (h.len+ys.length) h.cap e)= .slice (J5 (some w.heap.size) 0) (xs++ys).length (grownCap w (h.len+ys.length) h.cap e) from by rw [hlen];rfl]
  exact this
theorem JiE {I:Nat->Prop} {w:World} {F:Nat->Prop} (hR:RelB C I σ a w β F) {n:Nat} (hn:¬I n) {g:Nat} (hC:C.γ.length=g) {v:AV} {wr:List (Nat×Option ABlk)}
  (hs:JoV σ.H g v sz xs wr) {sv xv:Value} (hv:RV w F β v sv) (hx:JiI w F β sz ys xv) {P:Program} {t ty e:TypeId} {i:TypeInfo} {z:Value} (ht:P.underlying t=some (.slice e)) (hi:P.info? e=some i) (hz:i.zero=some z)
  (hsz:i.size=sz) (hzs:z.cells.size=sz) (hb:(xs.length+ys.length)*i.bytes<=140737488355328) (h63:xs.length+ys.length<=maxLen):
  ∃u w' β',(Builtin.append_ #[t,t] ty #[sv,xv]).run P w= .ok u w'∧RelB C (fun i=>I i∨i=n) { σ with H:=wrH σ.H (wr++[(n,some (.row sz (xs++ys)))]) } a w' β' F∧RV w' F β' (.osl n) u:=by
 obtain⟨news,h1,h2⟩:=hx.src (P:=P) ht
 subst hsz
 exact Jl8 hR hn hC hs hv h1 h2 ht hi hz rfl hzs hb h63
theorem Jjr {w:World} {F:Nat->Prop} {sv:Value} (h:RV w F β (.lst sz xs) sv):JiI w F β sz xs sv:=
 Jbd (H:=fun _=>none) (ids:=[]) (.inr (.inl ⟨rfl,rfl⟩)) (fun id hid=>by simp at hid) h
theorem Jm3 {I:Nat->Prop} {w:World} {β:Nat->Option Hdr} {F:Nat->Prop} (hR:RelB C I σ a w β F) {n:Nat} (hn:¬I n) 
  {sv xv:Value} (hv:RV w F β (.lsc sz xs) sv) (hx:JiI w F β sz ys xv) {P:Program} {t ty e:TypeId} {i:TypeInfo} {z:Value} (ht:P.underlying t=some (.slice e)) (hi:P.info? e=some i) (hz:i.zero=some z)
  (hsz:i.size=sz) (hzs:z.cells.size=sz) (hy:ys≠[]) (hb:(xs.length+ys.length)*i.bytes<=140737488355328) (h63:xs.length+ys.length<=maxLen):
  ∃u w' β',(Builtin.append_ #[t,t] ty #[sv,xv]).run P w= .ok u w'∧RelB C (fun i=>I i∨i=n) { σ with H:=ZI σ.H n (some (.row sz (xs++ys))) } a w' β' F∧RV w' F β' (.osl n) u:=by
 subst hsz
 obtain⟨xa,xc,news,rfl,hxa,hfl,hcells⟩:=hx
 have hmpos:0<ys.length:=by
  cases ys with
  |nil=>exact(hy rfl).elim
  |cons y ys=>simp
 cases hv with
 |lsc _ _ sa hl=>
 obtain⟨sa',sc',olds,hse,hsa,ho1,ho2⟩:=Jjr hl
 injection hse with e1 e2 e3
 subst e1
 obtain⟨ad,rfl⟩:∃ad,xa=some ad:=by
  cases xa with
  |none=>have:=hxa rfl;exact(hy this).elim
  |some ad=>exact⟨ad,rfl⟩
 have hcn:=hcells ad rfl
 have hge:=grownCap_ge w (xs.length+ys.length) xs.length e
 have hcm:=grownCap_le_maxLen w (xs.length+ys.length) xs.length e h63
 obtain⟨A,hrun,hAsz,hAlt⟩:∃A:Array Value,(Builtin.append_ #[t,t] ty #[.slice sa xs.length xs.length,.slice (some ad) ys.length xc]).run P w= .ok (.slice (some ⟨w.heap.size,0,none⟩) (xs.length+ys.length) (grownCap w (xs.length+ys.length) xs.length e)) (w.drew.alloc (.cells A e))∧
   A.size=grownCap w (xs.length+ys.length) xs.length e*i.size∧∀p,p<(olds++news).length->A[p]? =(olds++news)[p]? :=by
  have hsize:∀k,olds.length+news.length+(Builtin.zeroCells z.cells (k - (xs.length+ys.length))).size=xs.length*i.size+ys.length*i.size+(k - (xs.length+ys.length))*i.size:=fun k=>by
   rw [size_zeroCells,hzs,ho1.1,hfl.1]
  cases sa with
  |none=>
   have hx0:=hsa rfl
   subst hx0
   have ho:olds=[]:=Wz (by simpa using ho1.1)
   subst ho
   have hr:=run_append_nil (P:=P) w t ty e i z ht hi hz ad ys.length xc news hfl.1 hcn hmpos (by simp only [maxLen,List.length_nil] at h63;omega) (by simp only [List.length_nil,Nat.zero_add] at hb;omega)
   simp only [List.length_nil,Nat.zero_add] at hr ⊢
   refine⟨_,hr,?_,fun p hp=> ?_⟩
   .
    rw [Array.size_append,size_zeroCells,hzs,List.size_toArray,hfl.1,<-Nat.add_mul]
    congr 1
    have:=grownCap_ge w ys.length 0 e
    omega
   .
    simp only [List.nil_append] at hp ⊢
    rw [Array.getElem?_append_left (by simpa using hp)]
    simp
  |some b=>
   have hr:=run_append_grow (P:=P) w t ty e i z ht hi hz b xs.length xs.length olds (by rw [ho1.1]) (ho2 b rfl) ad ys.length xc news hfl.1 hcn (by omega) (by simp only [maxLen] at h63;omega) (growslice_fits (by omega) hb)
   refine⟨_,hr,?_,fun p hp=> ?_⟩
   .
    simp only [Array.size_append,List.size_toArray]
    rw [hsize,<-Nat.add_mul,<-Nat.add_mul]
    congr 1
    omega
   .
    rw [Array.getElem?_append_left (by simpa using hp)]
    simp
 have hns:=JgQ w (.cells A e)
 have hFw:∀j,F j->(w.drew.alloc (.cells A e)).heap[j]? =w.heap[j]? :=fun j hj=>hns.block j (hR.news j hj).1 (by simp)
 have hflat:=(ho1.append hfl).mono (F':=F) (w':=w.drew.alloc (.cells A e)) (β':=Yg β n (YN (some w.heap.size) (xs++ys).length (grownCap w (xs.length+ys.length) xs.length e))) (fun _ x=>x) hFw (JaZ _ (hR.fresh hn))
 have hnew:=hR.new hn hns (YN (some w.heap.size) (xs++ys).length (grownCap w (xs.length+ys.length) xs.length e)) (fun j e=>by cases e;exact⟨Nat.le_refl _,by simp⟩) (.row i.size (xs++ys))
  (Jeo hflat (heap_alloc_new w.drew _) hAlt (by rw [hAsz];exact Nat.le_refl _) (by simp;omega) hcm)
 refine⟨_,_,_,hrun,hnew,?_⟩
 have:=RV.osl (w:=w.drew.alloc (.cells A e)) (F:=F) (β:=Yg β n (YN (some w.heap.size) (xs++ys).length (grownCap w (xs.length+ys.length) xs.length e))) n _ (J7 _ _ _)
 have hlen:(xs++ys).length=xs.length+ys.length:=by simp
 rw [show Value.slice (some ⟨w.heap.size,0,none⟩) (xs.length+ys.length) (grownCap w (xs.length+ys.length) xs.length e)= .slice (J5 (some w.heap.size) 0) (xs++ys).length (grownCap w (xs.length+ys.length) xs.length e) from by rw [hlen];rfl]
 exact this
theorem Jl9 {w:World} {F:Nat->Prop} {sv xv:Value} (hv:RV w F β (.lsc sz xs) sv) (hx:JiI w F β sz [] xv) {P:Program} {t ty e:TypeId} {i:TypeInfo} (ht:P.underlying t=some (.slice e)) (hi:P.info? e=some i) (hsz:i.size=sz):
  (Builtin.append_ #[t,t] ty #[sv,xv]).run P w= .ok sv w∧RV w F β (.lst sz xs) sv:=by
 subst hsz
 obtain⟨xa,xc,news,rfl,hxa,hfl,hcells⟩:=hx
 have hn:news=[]:=Wz (by simpa using hfl.1)
 subst hn
 have hfirst:=Jg7 (P:=P) hxa hfl hcells (c:=xc)
 cases hv with
 |lsc _ _ sa hl=>
 refine⟨?_,hl⟩
 cases sa with
 |none=>
  obtain⟨sa',sc',olds,hse,hsa,_,_⟩:=Jjr hl
  injection hse with e1 _ _
  have:=hsa e1.symm
  subst this
  exact JjZ (P:=P) w t ty e i ht hi xa xc hfirst
 |some b=>
  have h0:(Builtin.firstCells i.size 0 (.slice xa 0 xc)).run P w= .ok #[] w:=hfirst
  simp [Builtin.append_,run_underlying ht,sizeOf,typeInfo,hi,Builtin.lenOf,h0,storeCells]
end Go.Proofs.YtehhohbnhcogkaaGreatDoor.Ax
namespace Go.Proofs.YtehhohbnhcogkaaGreatDoor.Ax
open Go.RowKit
variable {sz g eb:Nat} {ys xs:List (List AV)} {ids:List Nat} {σ:ASt} {tab:Tab} {o:Oper} {s x:Operand} {t e:TypeId} {ti:TI} {ez:List AV}
theorem JjT (H:Nat->Option ABlk):∀(l m:List (Nat×Option ABlk)),wrH H (l++m)=wrH (wrH H l) m
 |[],m=>rfl
 |(i,k)::l,m=>by simp only [List.cons_append,wrH];exact JjT _ l m
theorem JdL (H:Nat->Option ABlk):∀(l:List (Nat×Option ABlk)) (id:Nat),id∉l.map (·.1)->wrH H l id=H id
 |[],id,_=>rfl
 |(i,k)::l,id,h=>by
  simp only [List.map_cons,List.mem_cons,not_or] at h
  simp only [wrH]
  rw [JdL _ l id h.2,YW _ _ h.1]
theorem Jer {H H2:Nat->Option ABlk} {v:AV} (h:Ji7 H v sz ys ids) (he:∀id∈ids,H2 id=H id):Ji7 H2 v sz ys ids:=by
 rcases h with h |h |⟨id,h1,h2,h3⟩|⟨id,lo,hi,mx,xs,h1,h2,h3⟩
 . exact .inl h
 . exact .inr (.inl h)
 . exact .inr (.inr (.inl ⟨id,h1,by rw [he id (by simp [h3])];exact h2,h3⟩))
 . exact .inr (.inr (.inr ⟨id,lo,hi,mx,xs,h1,by rw [he id (by simp [h3.2.2.2.2])];exact h2,h3⟩))
theorem Jok {H H2:Nat->Option ABlk} {v:AV} {wr:List (Nat×Option ABlk)} (h:JoV H g v sz xs wr) (he:∀id∈wr.map (·.1),H2 id=H id):JoV H2 g v sz xs wr:=by
 rcases h with h |⟨id,h1,h2,h4⟩|⟨id,hi,mx,ys,h1,h2,h3,h4,h5,h6⟩
 . exact .inl h
 . exact .inr (.inl ⟨id,h1,by rw [he id (by simp [h4])];exact h2,h4⟩)
 . exact .inr (.inr ⟨id,hi,mx,ys,h1,by rw [he id (by simp [h6])];exact h2,h3,h4,h5,h6⟩)
theorem RelB.known {C:Ctx} {I:Nat->Prop} {a:Act} {w:World} {β:Nat->Option Hdr} {F:Nat->Prop} (h:RelB C I σ a w β F) (ids:List Nat):JrE σ.H ids w F β:=fun id _ k hk=>by
 obtain⟨g,h1,h2,_⟩:=h.live id k hk
 exact⟨g,h1,h2⟩
theorem Jop {P:Program} (hT:J0 P tab) {wr:List (Nat×Option ABlk)} 
  (ho:o.op= .call { callee:= .builtin .append,args:= #[s,x],argTypes:= #[t,t] }) (ht:tab t=some ti) (hd:ti.d= .slc e sz eb ez) (hez:ez.length=sz)
  (hs:JoV σ.H g (ev σ.env s) sz xs wr) (hx:Ji7 σ.H (ev σ.env x) sz ys ids) (hb:(xs.length+ys.length)*eb<=140737488355328) (h63:xs.length+ys.length<=maxLen):
  YD P g o σ ⟨.osl σ.n,wr++[(σ.n,some (.row sz (xs++ys)))],ids,σ.n+1⟩:=by
 refine⟨Nat.le_succ _,fun C I σ2 a w K Q hC hxs hH hI hdd hR hK=> ?_⟩
 obtain⟨β,F,hR⟩:=hR
 have hn:¬I σ.n:=hI σ.n (Nat.le_refl _) (Wn _)
 have e1:=hxs s (by simp [ho,Op.operands,Call.operands])
 have e2:=hxs x (by simp [ho,Op.operands,Call.operands])
 have hs2:=Jok hs (H2:=σ2.H) (fun id hid=>hH id (by simp at hid ⊢;exact .inr (.inl hid)))
 have hx2:=Jer hx (H2:=σ2.H) (fun id hid=>hH id (by simp [hid]))
 have v1:=e1 _ _ _ _ (hR.ev s)
 have v2:=e2 _ _ _ _ (hR.ev x)
 obtain⟨i0,d0,z0,_,k1,_,_,_,_,k2⟩:=JP (hT t ti ht)
 rw [hd] at k2
 obtain⟨i,z,rfl,k3,rfl,rfl,k4,rfl⟩:=JaD k2.symm
 have hzs:z.cells.size=i.size:=by simpa using hez
 obtain⟨u,w',β',r1,r2,r3⟩:=JiE (P:=P) (ty:=o.type) hR hn hC hs2 v1 (Jbd hx2 (hR.known ids) v2) k1 k3 k4 rfl hzs hb h63
 refine upon_value (u:=u) (w':=w') ?_ (hK _ _ ⟨β',F,?_⟩)
 . simp [execOp,ho,resolve,invoke,builtin,r1]
 . exact(r2.put o.dst (.osl σ.n) u hdd r3).fin rfl rfl (fun i hi=>Jcs hi)
theorem JmD {P:Program} (hT:J0 P tab) 
  (ho:o.op= .call { callee:= .builtin .append,args:= #[s,x],argTypes:= #[t,t] }) (ht:tab t=some ti) (hd:ti.d= .slc e sz eb ez) (hez:ez.length=sz)
  (hs:ev σ.env s= .lsc sz xs) (hx:Ji7 σ.H (ev σ.env x) sz ys ids) (hy:ys≠[]) (hb:(xs.length+ys.length)*eb<=140737488355328) (h63:xs.length+ys.length<=maxLen):
  YD P g o σ ⟨.osl σ.n,[(σ.n,some (.row sz (xs++ys)))],ids,σ.n+1⟩:=by
 refine⟨Nat.le_succ _,fun C I σ2 a w K Q hC hxs hH hI hdd hR hK=> ?_⟩
 obtain⟨β,F,hR⟩:=hR
 have hn:¬I σ.n:=hI σ.n (Nat.le_refl _) (Wn _)
 have e1:=hxs s (by simp [ho,Op.operands,Call.operands])
 have e2:=hxs x (by simp [ho,Op.operands,Call.operands])
 have hx2:=Jer hx (H2:=σ2.H) (fun id hid=>hH id (by simp [hid]))
 have v1:=e1 _ _ _ _ (hR.ev s)
 have v2:=e2 _ _ _ _ (hR.ev x)
 rw [hs] at v1
 obtain⟨i0,d0,z0,_,k1,_,_,_,_,k2⟩:=JP (hT t ti ht)
 rw [hd] at k2
 obtain⟨i,z,rfl,k3,rfl,rfl,k4,rfl⟩:=JaD k2.symm
 have hzs:z.cells.size=i.size:=by simpa using hez
 obtain⟨u,w',β',r1,r2,r3⟩:=Jm3 (P:=P) (ty:=o.type) hR hn v1 (Jbd hx2 (hR.known ids) v2) k1 k3 k4 rfl hzs hy hb h63
 refine upon_value (u:=u) (w':=w') ?_ (hK _ _ ⟨β',F,?_⟩)
 . simp [execOp,ho,resolve,invoke,builtin,r1]
 . exact(r2.put o.dst (.osl σ.n) u hdd r3).fin rfl rfl (fun i hi=>Jcs hi)
theorem JmC {P:Program} (hT:J0 P tab) 
  (ho:o.op= .call { callee:= .builtin .append,args:= #[s,x],argTypes:= #[t,t] }) (ht:tab t=some ti) (hd:ti.d= .slc e sz eb ez)
  (hs:ev σ.env s= .lsc sz xs) (hx:Ji7 σ.H (ev σ.env x) sz [] ids):YD P g o σ ⟨.lst sz xs,[],ids,σ.n⟩:=by
 refine⟨Nat.le_refl _,fun C I σ2 a w K Q hC hxs hH hI hdd hR hK=> ?_⟩
 obtain⟨β,F,hR⟩:=hR
 have e1:=hxs s (by simp [ho,Op.operands,Call.operands])
 have e2:=hxs x (by simp [ho,Op.operands,Call.operands])
 have hx2:=Jer hx (H2:=σ2.H) (fun id hid=>hH id (by simp [hid]))
 have v1:=e1 _ _ _ _ (hR.ev s)
 have v2:=e2 _ _ _ _ (hR.ev x)
 rw [hs] at v1
 obtain⟨i0,d0,z0,_,k1,_,_,_,_,k2⟩:=JP (hT t ti ht)
 rw [hd] at k2
 obtain⟨i,z,rfl,k3,rfl,rfl,k4,rfl⟩:=JaD k2.symm
 obtain⟨r1,r2⟩:=Jl9 (P:=P) (ty:=o.type) v1 (Jbd hx2 (hR.known ids) v2) k1 k3 rfl
 refine upon_value (u:=a.eval s) (w':=w) ?_ (hK _ _ ⟨β,F,?_⟩)
 . simp [execOp,ho,resolve,invoke,builtin,r1]
 . exact(hR.put o.dst (.lst i.size xs) _ hdd r2).fin rfl rfl (fun i hi=> .inl hi)
theorem Je9 {w:World} {F:Nat->Prop} {β:Nat->Option Hdr} {z:Value} (hz:z.cells.size=sz) (h1:(z.cells.toList.map avc).all AV.one=true) (m:Nat):Jdd w F β sz (List.replicate m (z.cells.toList.map avc)) (madeCells z.cells (m*sz)).toList:=by
 have el:∀(k:Nat) (c:List AV),(List.replicate m (z.cells.toList.map avc))[k]? =some c->k<m∧c=z.cells.toList.map avc:=fun k c hk=>by
  have:=(List.getElem?_eq_some_iff.1 hk).1
  simp at this
  exact⟨this,List.eq_of_mem_replicate (Wm hk)⟩
 refine⟨by rw [Array.length_toList,size_madeCells,List.length_replicate],fun k c hk=> ?_,fun k c j u hk hj=> ?_⟩
 .
  obtain⟨_,rfl⟩:=el k c hk
  exact⟨by simp [hz],fun u hu=>by rw [List.all_eq_true] at h1;exact h1 u hu⟩
 .
  obtain⟨hkm,rfl⟩:=el k c hk
  have hj':=(List.getElem?_eq_some_iff.1 hj).1
  simp [hz] at hj'
  have hsz:0<sz:=by omega
  obtain⟨v,e1,e2⟩:=(JeY w F β z).at hj
  refine⟨v,?_,e2⟩
  have e3:(k*sz+j) % sz=j:=by rw [Nat.add_comm,Nat.add_mul_mod_self_right,Nat.mod_eq_of_lt hj']
  have e4:z.cells[j]? =some v:=e1
  have e5:z.cells[j]=v:=by
   rw [Wb (by omega)] at e4
   exact Wi e4
  simp [madeCells,Jdc hkm hj',hz,e3,hj',e5]
theorem Jj6 {P:Program} (hT:J0 P tab) {l c:Operand} {k k':IntKind} {m:Nat}
  (ho:o.op= .makeSlice t l c) (ht:tab t=some ti) (hd:ti.d= .slc e sz eb ez) (hez:ez.length=sz) (hone:ez.all AV.one=true) (hl:ev σ.env l= .int k m) (hc:ev σ.env c= .int k' m) (hb:eb*m<=281474976710656) (h63:m<=maxLen):
  YD P g o σ ⟨.osl σ.n,[(σ.n,some (.row sz (List.replicate m ez)))],[],σ.n+1⟩:=by
 refine⟨Nat.le_succ _,fun C I σ2 a w K Q hC hxs hH hI hdd hR hK=> ?_⟩
 obtain⟨β,F,hR⟩:=hR
 have hn:¬I σ.n:=hI σ.n (Nat.le_refl _) (Wn _)
 have v1:=hxs l (by simp [ho,Op.operands]) _ _ _ _ (hR.ev l)
 have v2:=hxs c (by simp [ho,Op.operands]) _ _ _ _ (hR.ev c)
 rw [hl] at v1
 rw [hc] at v2
 generalize hvl:a.eval l=vl at v1
 generalize hvc:a.eval c=vc at v2
 cases v1
 cases v2
 obtain⟨i0,d0,z0,_,k1,_,_,_,_,k2⟩:=JP (hT t ti ht)
 rw [hd] at k2
 obtain⟨i,z,rfl,k3,rfl,rfl,k4,rfl⟩:=JaD k2.symm
 have hzs:z.cells.size=i.size:=by simpa using hez
 have hrun:=run_make (P:=P) w t e i z k1 k3 k4 k k' m m (by omega) (by omega) (by have:((i.bytes*m:Nat):Int)<=((281474976710656:Nat):Int):=Int.ofNat_le.2 hb;simpa using this) (by simp only [maxLen] at h63;omega)
 simp only [Int.toNat_natCast] at hrun
 have hns:=Ja5 w (.cells (madeCells z.cells (m*i.size)) e)
 have hfl:=Je9 (w:=w.alloc (.cells (madeCells z.cells (m*i.size)) e)) (F:=F) (β:=Yg β σ.n (YN (some w.heap.size) m m)) hzs hone m
 have hblk:=Jeo hfl (heap_alloc_new w _) (fun p hp=>by simp) (cap:=m) (by rw [size_madeCells];exact Nat.le_refl _) (by simp) h63
 simp only [List.length_replicate] at hblk
 have h2:=hR.new hn hns (YN (some w.heap.size) m m) (fun j e=>by cases e;exact⟨Nat.le_refl _,by simp⟩) _ hblk
 refine upon_value (u:= .slice (some ⟨w.heap.size,0,none⟩) m m) (w':=w.alloc (.cells (madeCells z.cells (m*i.size)) e)) (by simp [execOp,ho,hvl,hvc,hrun]) (hK _ _ ⟨Yg β σ.n (YN (some w.heap.size) m m),F,?_⟩)
 exact(h2.put o.dst (.osl σ.n) _ hdd (.osl σ.n (YN (some w.heap.size) m m) (J7 _ _ _))).fin rfl rfl (fun i hi=>Jcs hi)
end Go.Proofs.YtehhohbnhcogkaaGreatDoor.Ax
