/- The ground of the proof: the abstract walker and what the program computes. -/
import Derived.Orders
import Derived.OrdersIn
import Derived.TacticsIn
import Derived.Laws.StructEq
import Derived.Test.YtehhohbnhcogkaaGreatDoorM1
set_option linter.unusedVariables false
set_option linter.unusedSimpArgs false
namespace Go.Proofs.YtehhohbnhcogkaaGreatDoor.Ax
open Go.RowKit
variable {w:World} {P:Program} {o:Oper} {a:Act} {ops:Array Oper} {σ:ASt}
def JfO (σ:ASt):Eff:=⟨.tup [],[],[],σ.n⟩
def IsB (v:AV) (b:Bool):Prop:=(v= .tru∧b=true)∨(v= .fls∧b=false)∨v= .bool b
theorem IsB.rv {v:AV} {b:Bool} (h:IsB v b) {F:Nat->Prop} {β:Nat->Option Hdr} {u:Value} (hu:RV w F β v u):u= .bool b:=by
 rcases h with⟨rfl,rfl⟩|⟨rfl,rfl⟩|rfl<;>cases hu<;>rfl
def OpD (P:Program) (g:Nat) (o:Oper) (σ:ASt) (e:Eff):Prop:=YD P g o σ e∧∀c,o.op≠ .defer c
abbrev wR (ro:Option Nat):Fence:={ Fence.wide with round:=ro }
theorem Jol {K:Act->World->Prop} {Q:Exit->Act->World->Prop} (hd:∀c,o.op≠ .defer c) (ro:Option Nat) (m:Nat) (h:o.wp P a w K Q):o.wpIn (wR ro) m P a w K Q:=by
 unfold Oper.wpIn
 unfold Oper.wp at h
 refine⟨fun _ _=>trivial,?_⟩
 rw [Oper.semAt_eq _ _ _ hd]
 generalize (execOp a.eval o).run P w=r at*
 cases r with
 |ok x w'=>
  cases x<;>simp only [Oper.upon,Oper.uponIn] at h ⊢ <;>
   first
    |exact h
    |exact⟨fun e=>by simp [wR,Fence.wide] at e,(callsIn_wide (n:=m - 1)).2 h⟩
    |exact⟨fun e=>by simp [wR,Fence.wide] at e,fun c cs _=>let ⟨v,w',r,s⟩:=h c cs;⟨v,w',r,stepsIn_wide.2 s⟩⟩
    |exact h.elim
 |halt x w'=>cases x<;>simp only [Oper.upon,Oper.uponIn] at h ⊢ <;>first |exact h |exact h.elim
def Jfx (P:Program) (g:Nat) (ops:Array Oper) (o:Oper) (σ:ASt) (e:Eff):Prop:=
 (o.guard=none∧OpD P g o σ e)∨(∃j want t,o.guard=some (j,want)∧(ops[j]?).bind (·.dst)=some t∧σ.env t= .tup []∧e=JfO σ)∨
  ∃j want t b,o.guard=some (j,want)∧(ops[j]?).bind (·.dst)=some t∧IsB (σ.env t) b∧((b=want∧OpD P g o σ e)∨(b≠want∧e=JfO σ))
def Ref (σ σ':ASt):Prop:=(∀t,Imp (σ.env t) (σ'.env t))∧σ'.H=σ.H∧σ'.n=σ.n
theorem Ref.refl (σ:ASt):Ref σ σ:=⟨fun t=> .refl _,rfl,rfl⟩
theorem JuW {env env':Nat->AV} {x:Operand} (h:∀t,x= .tmp t->Imp (env t) (env' t)):Imp (ev env x) (ev env' x):=by
 cases x with
 |tmp t=>exact h t rfl
 |const v=>exact .refl _
 |global g=>exact .refl _
 |func f=>exact .refl _
theorem Jmj {tmps:Array Value} {j:Nat} {t:Tmp} {b:Bool} (h:(ops[j]?).bind (·.dst)=some t) (hv:tmps.getD t undef= .bool b):yielded ops tmps j=some b:=by
 unfold yielded
 rw [h]
 have:tmps[t]? =some (.bool b):=by
  rcases Nat.lt_or_ge t tmps.size with hlt |hge
  .
   rw [Wb hlt]
   simp [Array.getD,hlt] at hv
   exact congrArg some hv
  . simp [Array.getD,Nat.not_lt.2 hge,undef] at hv
 simp [this]
theorem JjQ {tmps:Array Value} {j:Nat} {t:Tmp} (h:(ops[j]?).bind (·.dst)=some t) (hv:tmps.getD t undef=undef):yielded ops tmps j=none:=by
 unfold yielded
 rw [h]
 cases ht:tmps[t]? with
 |none=>simp [ht]
 |some x=>
  have:x=undef:=by simpa [Wa,ht] using hv
  subst this
  simp [ht,undef]
theorem Jfx.run {g:Nat} {e:Eff} (h:Jfx P g ops o σ e) {C:Ctx} {I:Nat->Prop} {σ2:ASt} {K:Act->World->Prop} {Q:Exit->Act->World->Prop}
  (ro:Option Nat) (m:Nat) (hC:C.γ.length=g) (hx:∀t∈o.looksAt ops,Imp (σ2.env t) (σ.env t)) (hH:∀id∈e.rd++e.wr.map (·.1),σ2.H id=σ.H id) (hI:∀id,σ.n<=id->id<e.n->¬I id) (hd:∀d,o.dst=some d->d<C.nt) (hR:Rel C I σ2 a w)
  (hK:∀a' w',Rel C (fun id=>I id∨(σ.n<=id∧id<e.n)) (σ2.app o e) a' w'->K a' w'):
  if Region.wanted o (yielded ops a.tmps)=true then o.wpIn (wR ro) m P a w K Q else (∀f,o.about P w a.eval=some f->(wR ro).fn f)∧K (a.put o.dst undef) w:=by
 have hops:∀x∈o.op.operands,Imp (ev σ2.env x) (ev σ.env x):=fun x hm=>JuW fun t e=>hx t (by
  subst e
  exact List.mem_append_left _ (List.mem_filterMap.2 ⟨.tmp t,by simpa using hm,rfl⟩))
 rcases h with⟨hg,hok⟩|⟨j,want,t,hg,ht,hu,rfl⟩|⟨j,want,t,b,hg,ht,hb,h⟩
 .
  rw [if_pos (by simp [Region.wanted,hg])]
  exact Jol hok.2 ro m <| hok.1.2 C I σ2 a w K Q hC hops hH hI hd hR hK
 .
  have hR':=hR
  obtain⟨β,F,hB⟩:=hR'
  have hv:a.tmps.getD t undef=undef:=by
   have:=(hx t (by simp [Oper.looksAt,hg,ht])) _ _ _ _ (hB.env t)
   rw [hu] at this
   generalize a.tmps.getD t undef=v at this ⊢
   cases this with
   |tup _ cs h1 _=>rw [show cs= #[] from Array.eq_empty_of_size_eq_zero (by simpa using h1.symm)];rfl
  rw [if_neg (by simp [Region.wanted,hg,JjQ ht hv])]
  refine⟨fun _ _=>trivial,hK _ _ ⟨β,F,(hB.put o.dst (.tup []) undef hd (.tup _ _ rfl (fun j u v hu=>by simp at hu))).fin ?_ rfl (fun i hi=> .inl hi)⟩⟩
  rfl
 .
  have hR':=hR
  obtain⟨β,F,hB⟩:=hR'
  have hv:a.tmps.getD t undef= .bool b:=hb.rv ((hx t (by simp [Oper.looksAt,hg,ht])) _ _ _ _ (hB.env t))
  have hy:=Jmj (tmps:=a.tmps) ht hv
  rcases h with⟨rfl,hok⟩|⟨hne,rfl⟩
  .
   rw [if_pos (by simp [Region.wanted,hg,hy])]
   exact Jol hok.2 ro m <| hok.1.2 C I σ2 a w K Q hC hops hH hI hd hR hK
  .
   rw [if_neg (by simp [Region.wanted,hg,hy,hne])]
   refine⟨fun _ _=>trivial,hK _ _ ⟨β,F,(hB.put o.dst (.tup []) undef hd (.tup _ _ rfl (fun j u v hu=>by simp at hu))).fin ?_ rfl (fun i hi=> .inl hi)⟩⟩
   rfl
theorem Jfx.mono {g:Nat} {e:Eff} (h:Jfx P g ops o σ e):σ.n<=e.n:=by
 rcases h with⟨_,h⟩|⟨_,_,_,_,_,_,rfl⟩|⟨_,_,_,_,_,_,_,⟨_,h⟩|⟨_,rfl⟩⟩
 . exact h.1.1
 . exact Nat.le_refl _
 . exact h.1.1
 . exact Nat.le_refl _
theorem Rel.ref {C:Ctx} {I:Nat->Prop} {σ':ASt} (h:Rel C I σ a w) (k:Ref σ σ'):Rel C I σ' a w:=by
 obtain⟨β,F,h⟩:=h
 exact⟨β,F,{ h with env:=fun t=>k.1 t _ _ _ _ (h.env t),live:=fun id g e=>h.live id g (by rw [<-k.2.1];exact e),inj:=fun i1 i2 k1 k2 g1 g2 i e1 e2=>h.inj i1 i2 k1 k2 g1 g2 i (by rw [<-k.2.1];exact e1) (by rw [<-k.2.1];exact e2) }⟩
inductive Run (P:Program) (g nt:Nat) (ops:Array Oper):List Oper->ASt->List Eff->ASt->Prop where
 |nil (σ:ASt):Run P g nt ops [] σ [] σ
 |cons (o:Oper) (rest:List Oper) (σ σr σ':ASt) (e:Eff) (es:List Eff):Ref σ σr->Jfx P g ops o σr e->(∀d,o.dst=some d->d<nt)->Run P g nt ops rest (σr.app o e) es σ'->Run P g nt ops (o::rest) σ (e::es) σ'
def Qj (n:Nat):Nat->Prop:=fun id=>id<n
def Jhq (ops:Array Oper) (j i:Nat):Prop:=∃o,ops[j]? =some o∧∃e∈o.after,Region.binds .any e=true∧e.on=i
inductive Path (ops:Array Oper):Nat->Nat->Prop where
 |one {j i:Nat}:Jhq ops j i->Path ops j i
 |step {j k i:Nat}:Jhq ops j k->Path ops k i->Path ops j i
def Jqs (acc:List Nat) (l:List Edge) (s:Nat):Nat:=l.foldl (fun s e=>if Region.binds .any e then s ||| 2^e.on ||| acc[e.on]?.getD 0 else s) s
theorem Jih (acc:List Nat) (i:Nat):∀(l:List Edge) (s:Nat),(Jqs acc l s).testBit i=true->s.testBit i=true∨∃e∈l,Region.binds .any e=true∧(e.on=i∨(acc[e.on]?.getD 0).testBit i=true)
 |[],s,h=> .inl h
 |e::l,s,h=>by
  rcases Jih acc i l _ h with h1 |⟨e',h1,h2⟩
  .
   simp only at h1
   split at h1
   .
    rename_i hb
    simp only [Nat.testBit_or,Bool.or_eq_true] at h1
    rcases h1 with(h1 |h1)|h1
    . exact .inl h1
    .
     refine .inr ⟨e,List.mem_cons_self ..,hb,.inl ?_⟩
     simpa [Nat.testBit_two_pow] using h1
    . exact .inr ⟨e,List.mem_cons_self ..,hb,.inr h1⟩
   . exact .inl h1
  . exact .inr ⟨e',List.mem_cons_of_mem _ h1,h2⟩
def Ju4:List Oper->List Nat->List Nat
 |[],acc=>acc
 |o::l,acc=>Ju4 l (acc++[Jqs acc o.after.toList 0])
theorem Jn0 (ops:Array Oper):∀(l:List Oper) (acc:List Nat),(∀j,l[j]? =ops[acc.length+j]? ∨l.length<=j)->(∀j i,(acc[j]?.getD 0).testBit i=true->Path ops j i)->∀j i,((Ju4 l acc)[j]?.getD 0).testBit i=true->Path ops j i
 |[],acc,_,h=>h
 |o::l,acc,hl,h=>by
  refine Jn0 ops l _ (fun j=> ?_) (fun j i hj=> ?_)
  .
   rcases hl (j+1) with h1 |h1
   .
    left
    rw [List.length_append,List.length_singleton,Nat.add_assoc,Nat.add_comm 1 j]
    simpa using h1
   .
    right
    simp at h1
    exact h1
  .
   by_cases hlt:j<acc.length
   .
    rw [Wc hlt] at hj
    exact h j i hj
   .
    by_cases he:j=acc.length
    .
     subst he
     rw [List.getElem?_append_right (Nat.le_refl _),Nat.sub_self] at hj
     simp only [List.getElem?_cons_zero,Option.getD_some] at hj
     rcases Jih acc i _ _ hj with h1 |⟨e,h1,h2,h3⟩
     . simp at h1
     .
      have ho:ops[acc.length]? =some o:=by
       rcases hl 0 with h4 |h4
       . simpa using h4.symm
       . simp at h4
      have hedge:Jhq ops acc.length e.on:=⟨o,ho,e,by simpa using h1,h2,rfl⟩
      rcases h3 with rfl |h3
      . exact .one hedge
      . exact .step hedge (h _ _ h3)
    .
     rw [List.getElem?_eq_none (by simp;omega)] at hj
     simp at hj
end Go.Proofs.YtehhohbnhcogkaaGreatDoor.Ax
namespace Go.Proofs.YtehhohbnhcogkaaGreatDoor.Ax
open Go.RowKit
variable {C:Ctx} {i:Nat}
def Eff.wids (e:Eff):List Nat:=e.wr.map (·.1)
def Jn8 (ops:Array Oper) (oi oj:Oper) (ei ej:Eff):Prop:=
 (∃t,(oi.dst=some t∧(t∈oj.looksAt ops∨oj.dst=some t))∨(oj.dst=some t∧t∈oi.looksAt ops))∨
  ∃id,(id∈ei.wids∧(id∈ej.rd∨id∈ej.wids))∨(id∈ej.wids∧id∈ei.rd)
structure Tr (P:Program) (g nt:Nat) (ops:Array Oper) (S R:Nat->ASt) (E:Nat->Eff):Prop where
 step:∀(i:Nat) (o:Oper),ops[i]? =some o->Ref (S i) (R i)∧Jfx P g ops o (R i) (E i)∧(∀d,o.dst=some d->d<nt)∧S (i+1)=(R i).app o (E i)
 ord:∀(i j:Nat) (oi oj:Oper),i<j->ops[i]? =some oi->ops[j]? =some oj->Jn8 ops oi oj (E i) (E j)->Path ops j i
 back:∀j i,Jhq ops j i->i<j
theorem Jnk (env:Nat->AV) {d:Option Tmp} {t:Nat} (v:AV) (h:d≠some t):Jlh env d v t=env t:=by
 cases d with
 |none=>rfl
 |some d=>exact Jc6 _ _ (fun e=>h (by rw [e]))
theorem Jjn (env:Nat->AV) (t:Nat) (v:AV):Jlh env (some t) v t=v:=Jdf _ _ _
theorem Jna (H H2:Nat->Option ABlk):∀(l:List (Nat×Option ABlk)) (id:Nat),id∈l.map (·.1)->wrH H l id=wrH H2 l id
 |[],id,h=>by simp at h
 |(i,k)::l,id,h=>by
  simp only [wrH]
  by_cases hm:id∈l.map (·.1)
  . exact Jna _ _ l id hm
  .
   rw [JdL _ l id hm,JdL _ l id hm]
   simp only [List.map_cons,List.mem_cons] at h
   rcases h with rfl |h
   . rw [Qk,Qk]
   . exact absurd h hm
section
variable {P:Program} {g nt:Nat} {ops:Array Oper} {S R:Nat->ASt} {E:Nat->Eff} (T:Tr P g nt ops S R E)
include T
theorem Tr.chainT {t m:Nat}:∀{k:Nat},m<=k->k<=ops.size->(∀(j:Nat) (o:Oper),m<=j->j<k->ops[j]? =some o->o.dst≠some t)->Imp ((S m).env t) ((S k).env t)
 |0,h,_,_=>by
   obtain rfl:m=0:=by omega
   exact .refl _
 |k+1,h,hk,hw=>by
  by_cases he:m=k+1
  . subst he;exact .refl _
  .
   have ih:=Tr.chainT (k:=k) (by omega) (by omega) (fun j o h1 h2=>hw j o h1 (by omega))
   have ho:ops[k]? =some ops[k]:=Wb _
   obtain⟨h1,_,_,h4⟩:=T.step k _ ho
   refine ih.trans ?_
   rw [h4]
   simp only [ASt.app]
   rw [Jnk _ _ (hw k _ (by omega) (by omega) ho)]
   exact h1.1 t
theorem Tr.chainH {id m:Nat}:∀{k:Nat},m<=k->k<=ops.size->(∀j,m<=j->j<k->id∉(E j).wids)->(S m).H id=(S k).H id
 |0,h,_,_=>by
   obtain rfl:m=0:=by omega
   rfl
 |k+1,h,hk,hw=>by
  by_cases he:m=k+1
  . subst he;rfl
  .
   have ih:=Tr.chainH (k:=k) (by omega) (by omega) (fun j h1 h2=>hw j h1 (by omega))
   have ho:ops[k]? =some ops[k]:=Wb _
   obtain⟨h1,_,_,h4⟩:=T.step k _ ho
   rw [ih,h4]
   simp only [ASt.app]
   rw [JdL _ _ _ (hw k (by omega) (by omega)),h1.2.1]
theorem Tr.mono {m:Nat}:∀{k:Nat},m<=k->k<=ops.size->(S m).n<=(S k).n
 |0,h,_=>by
   obtain rfl:m=0:=by omega
   exact Nat.le_refl _
 |k+1,h,hk=>by
  by_cases he:m=k+1
  . subst he;exact Nat.le_refl _
  .
   have ih:=Tr.mono (m:=m) (k:=k) (by omega) (by omega)
   have ho:ops[k]? =some ops[k]:=Wb _
   obtain⟨h1,h2,_,h4⟩:=T.step k _ ho
   have:=h2.mono
   rw [h1.2.2] at this
   rw [h4]
   simp only [ASt.app]
   omega
structure Inv (C:Ctx) (L:Nat->Prop) (σ:ASt) (a:Act) (w:World):Prop where
 rel:Rel C (fun id=>id<(S 0).n∨∃j,j<ops.size∧L j∧(S j).n<=id∧id<(E j).n) σ a w
 env:∀(t k:Nat),k<=ops.size->(∀(j:Nat) (o:Oper),j<k->ops[j]? =some o->o.dst=some t->L j)->(∀(j:Nat) (o:Oper),k<=j->ops[j]? =some o->o.dst=some t->¬L j)->Imp (σ.env t) ((S k).env t)
 H:∀(id k:Nat),k<=ops.size->(∀j,j<k->j<ops.size->id∈(E j).wids->L j)->(∀j,k<=j->j<ops.size->id∈(E j).wids->¬L j)->σ.H id=(S k).H id
 down:∀j i,L j->Jhq ops j i->L i
omit T in
theorem Inv.path {L:Nat->Prop} {σ:ASt} {a:Act} {w:World} (h:Inv (ops:=ops) (S:=S) (E:=E) C L σ a w) {j:Nat} (hp:Path ops j i) (hj:L j):L i:=by
 induction hp with
 |one e=>exact h.down _ _ hj e
 |step e _ ih=>exact ih (h.down _ _ hj e)
omit T in
theorem Jmx {L:Nat->Prop} (hL:∀j i,L j->Jhq ops j i->L i) {j:Nat} (hp:Path ops j i) (hj:∀i,Jhq ops j i->L i):L i:=by
 have key:∀{j i},Path ops j i->L j->L i:=fun {j i} hp=>by
  induction hp with
  |one e=>exact fun h=>hL _ _ h e
  |step e _ ih=>exact fun h=>ih (hL _ _ h e)
 cases hp with
 |one e=>exact hj _ e
 |step e p=>exact key p (hj _ e)
theorem Tr.next {L:Nat->Prop} {σ:ASt} {a:Act} {w:World} (ro:Option Nat) (m:Nat) (hC:C.γ.length=g) (hnt:C.nt=nt) (h:Inv (ops:=ops) (S:=S) (E:=E) C L σ a w) {o:Oper} (ho:ops[i]? =some o) (hn:¬L i) (hr:∀k,Jhq ops i k->L k) {K:Act->World->Prop} {Q:Exit->Act->World->Prop}
  (hK:∀σ' a' w',Inv (ops:=ops) (S:=S) (E:=E) C (fun j=>L j∨j=i) σ' a' w'->K a' w'):wpOpIn (wR ro) m P ops Q i K a w:=by
 have hi:i<ops.size:=(Array.getElem?_eq_some_iff.1 ho).1
 obtain⟨h1,h2,h3,h4⟩:=T.step i o ho
 have before:∀(j:Nat) (oj:Oper),j<i->ops[j]? =some oj->Jn8 ops oj o (E j) (E i)->L j:=fun j oj hj hoj hc=>Jmx h.down (T.ord j i oj o hj hoj ho hc) hr
 have behind:∀(j:Nat) (oj:Oper),i<j->ops[j]? =some oj->Jn8 ops o oj (E i) (E j)->¬L j:=fun j oj hj hoj hc hL=>hn (h.path (T.ord i j o oj hj ho hoj hc) hL)
 have henv:∀t∈o.looksAt ops,Imp (σ.env t) ((R i).env t):=fun t ht=>(h.env t i (by omega) (fun j oj hj hoj hd=>before j oj hj hoj (.inl ⟨t,.inl ⟨hd,.inl ht⟩⟩)) (fun j oj hj hoj hd=>by
  by_cases he:j=i
  . subst he;exact hn
  . exact behind j oj (by omega) hoj (.inl ⟨t,.inr ⟨hd,ht⟩⟩))).trans (h1.1 t)
 have hH:∀id∈(E i).rd++(E i).wids,σ.H id=(R i).H id:=fun id hid=>by
  rw [h1.2.1]
  refine h.H id i (by omega) (fun j hj hjs hd=>before j _ hj (Wb hjs) (.inr ⟨id,.inl ⟨hd,List.mem_append.1 hid⟩⟩)) (fun j hj hjs hd=> ?_)
  by_cases he:j=i
  . subst he;exact hn
  .
   refine behind j _ (by omega) (Wb hjs) (.inr ⟨id,?_⟩)
   rcases List.mem_append.1 hid with hid |hid
   . exact .inr ⟨hd,hid⟩
   . exact .inl ⟨hid,.inr hd⟩
 have hfresh:∀id,(R i).n<=id->id<(E i).n->¬(id<(S 0).n∨∃j,j<ops.size∧L j∧(S j).n<=id∧id<(E j).n):=fun id e1 e2 e3=>by
  rw [h1.2.2] at e1
  rcases e3 with e3 |⟨j,hjs,hj,e3,e4⟩
  . have:=T.mono (Nat.zero_le i) (Nat.le_of_lt hi);omega
  .
   have hne:j≠i:=fun e=>hn (e▸hj)
   rcases Nat.lt_or_ge j i with hlt |hge
   .
    have h5:=(T.step j _ (Wb hjs)).2.2.2
    have:=T.mono (show j+1<=i by omega) (Nat.le_of_lt hi)
    rw [h5] at this
    simp only [ASt.app] at this
    omega
   .
    have:=T.mono (show i+1<=j by omega) (Nat.le_of_lt hjs)
    rw [h4] at this
    simp only [ASt.app] at this
    omega
 have hstep:=h2.run (K:=K) (Q:=Q) ro m hC henv hH hfresh (fun d e=>hnt▸h3 d e) h.rel (fun a' w' hR=>hK (σ.app o (E i)) _ _ ⟨?_,fun t k hk k1 k2=> ?_,fun id k hk k1 k2=> ?_,fun j k hj he=> ?_⟩)
 .
  unfold wpOpIn
  simp only [ho]
  split
  . rename_i hw;rw [if_pos hw] at hstep;exact hstep
  . rename_i hw;rw [if_neg hw] at hstep;exact hstep
 .
  obtain⟨β,F,hB⟩:=hR
  refine⟨β,F,hB.fin rfl rfl (fun id hid=> ?_)⟩
  rcases hid with(hid |⟨j,hjs,hj,hid⟩)|hid
  . exact .inl hid
  . exact .inr ⟨j,hjs,.inl hj,hid⟩
  .
   rw [h1.2.2] at hid
   exact .inr ⟨i,hi,.inr rfl,hid⟩
 .
  simp only [ASt.app]
  by_cases hd:o.dst=some t
  .
   have hik:i<k:=by
    rcases Nat.lt_or_ge i k with hlt |hge
    . exact hlt
    . exact absurd (.inr rfl) (k2 i o hge ho hd)
   rw [hd,Jjn]
   have hc:=T.chainT (t:=t) (m:=i+1) (k:=k) (by omega) hk (fun j oj h5 h6 hoj hdj=>by
    rcases k1 j oj h6 hoj hdj with hL |he
    . exact behind j oj (by omega) hoj (.inl ⟨t,.inl ⟨hd,.inr hdj⟩⟩) hL
    . omega)
   rw [h4] at hc
   simp only [ASt.app,hd,Jjn] at hc
   exact hc
  .
   rw [Jnk _ _ hd]
   refine h.env t k hk (fun j oj hj hoj hdj=>(k1 j oj hj hoj hdj).resolve_right (fun e=> ?_)) (fun j oj hj hoj hdj hL=>k2 j oj hj hoj hdj (.inl hL))
   subst e
   rw [ho] at hoj
   cases hoj
   exact hd hdj
 .
  simp only [ASt.app]
  by_cases hd:id∈(E i).wids
  .
   have hik:i<k:=by
    rcases Nat.lt_or_ge i k with hlt |hge
    . exact hlt
    . exact absurd (.inr rfl) (k2 i hge hi hd)
   have hc:=T.chainH (id:=id) (m:=i+1) (k:=k) (by omega) hk (fun j h5 h6 hdj=>by
    rcases k1 j h6 (by omega) hdj with hL |he
    . exact behind j _ (by omega) (Wb (by omega)) (.inr ⟨id,.inl ⟨hd,.inr hdj⟩⟩) hL
    . omega)
   rw [h4] at hc
   simp only [ASt.app] at hc
   rw [<-hc]
   exact Jna _ _ _ id hd
  .
   rw [JdL _ _ _ hd]
   refine h.H id k hk (fun j hj hjs hdj=>(k1 j hj hjs hdj).resolve_right (fun e=> ?_)) (fun j hj hjs hdj hL=>k2 j hj hjs hdj (.inl hL))
   subst e
   exact hd hdj
 .
  rcases hj with hj |rfl
  . exact .inl (h.down j k hj he)
  . exact .inl (hr k he)
def Ls (listed:Array Bool) (j:Nat):Prop:=listed.getD j false=true
omit T in
theorem JuR {listed:Array Bool} (hi:i<listed.size) (j:Nat):Ls (listed.setIfInBounds i true) j↔Ls listed j∨j=i:=by
 unfold Ls
 by_cases h:j=i
 . subst h;simp [hi]
 . simp [Array.getElem?_setIfInBounds_ne (Ne.symm h),h]
omit T in
theorem JjJ {listed:Array Bool} (hi:i<listed.size) (hf:listed[i]=false):(listed.setIfInBounds i true).toList.countP (· ==false)+1=listed.toList.countP (· ==false):=by
 have hi':i<listed.toList.length:=by simpa using hi
 have h0:listed.toList[i]=false:=by simpa using hf
 rw [Array.toList_setIfInBounds,List.countP_set hi']
 have hpos:0<listed.toList.countP (· ==false):=List.countP_pos_iff.2 ⟨false,by rw [<-h0];exact List.getElem_mem _,rfl⟩
 rw [h0]
 show List.countP (· ==false) listed.toList - 1+0+1=_
 omega
theorem Tr.all (ro:Option Nat) (m:Nat) (hC:C.γ.length=g) (hnt:C.nt=nt) {Q:Exit->Act->World->Prop} (hK:∀a' w',Rel C (Qj (S ops.size).n) (S ops.size) a' w'->Q .normal a' w'):
  ∀(fuel:Nat) (listed:Array Bool) (σ:ASt) (a:Act) (w:World),listed.size=ops.size->listed.toList.countP (· ==false)=fuel->Inv (ops:=ops) (S:=S) (E:=E) C (Ls listed) σ a w->wpAnyIn (wR ro) m P .any ops Q fuel listed a w:=by
 have done:∀(listed:Array Bool) (σ:ASt) (a:Act) (w:World),listed.size=ops.size->Region.ready .any ops listed=[]->Inv (ops:=ops) (S:=S) (E:=E) C (Ls listed) σ a w->Q .normal a w:=by
  intro listed σ a w hs hr h
  have allL:∀j,j<ops.size->Ls listed j:=by
   intro j
   induction j using Nat.strongRecOn with
   |_ j ih=>
    intro hj
    refine Classical.byContradiction fun hn=> ?_
    have:j∈Region.ready .any ops listed:=mem_ready.2 ⟨by
     unfold Ls at hn
     simp [hs,hj] at hn ⊢
     exact hn,ops[j],Wb hj,fun e he hb=>by
      have hlt:=T.back j e.on ⟨ops[j],Wb hj,e,he,hb,rfl⟩
      exact ih e.on hlt (by omega)⟩
    rw [hr] at this
    cases this
  refine hK a w ?_
  have h1:=h.rel
  have hrel:Rel C (Qj (S ops.size).n) σ a w:=by
   obtain⟨β,F,hB⟩:=h1
   refine⟨β,F,hB.fin rfl rfl (fun id hid=> ?_)⟩
   show id<(S ops.size).n
   rcases hid with hid |⟨j,hjs,hj,h2,h3⟩
   . have:=T.mono (Nat.zero_le ops.size) (Nat.le_refl _);omega
   .
    have h5:=(T.step j _ (Wb hjs)).2.2.2
    have:=T.mono (show j+1<=ops.size by omega) (Nat.le_refl _)
    rw [h5] at this
    simp only [ASt.app] at this
    omega
  obtain⟨β,F,hB⟩:=hrel
  have eH:∀id,(S ops.size).H id=σ.H id:=fun id=>(h.H id ops.size (Nat.le_refl _) (fun j _ hjs _=>allL j hjs) (fun j hj hjs=>by omega)).symm
  refine⟨β,F,{ hB with env:=fun t=>(h.env t ops.size (Nat.le_refl _) (fun j o hj _ _=>allL j hj) (fun j o hj hoj=>by have:=(Array.getElem?_eq_some_iff.1 hoj).1;omega)) _ _ _ _ (hB.env t),live:=fun id k e=>hB.live id k (by rw [<-eH];exact e),inj:=fun i1 i2 k1 k2 g1 g2 i e1 e2=>hB.inj i1 i2 k1 k2 g1 g2 i (by rw [<-eH];exact e1) (by rw [<-eH];exact e2) }⟩
 intro fuel
 induction fuel with
 |zero=>
  intro listed σ a w hs hc h
  have hr:Region.ready .any ops listed=[]:=by
   refine List.eq_nil_iff_forall_not_mem.2 fun i hi=> ?_
   obtain⟨h1,o,ho,_⟩:=mem_ready.1 hi
   have hlt:i<listed.size:=by rw [hs];exact(Array.getElem?_eq_some_iff.1 ho).1
   have hf:listed[i]=false:=by simpa [hlt] using h1
   have:=JjJ hlt hf
   omega
  exact⟨hr,done listed σ a w hs hr h⟩
 |succ fuel ih=>
  intro listed σ a w hs hc h
  refine⟨fun hr=>done listed σ a w hs hr h,fun i hi=> ?_⟩
  obtain⟨h1,o,ho,h2⟩:=mem_ready.1 hi
  have hlt:i<listed.size:=by rw [hs];exact(Array.getElem?_eq_some_iff.1 ho).1
  have hf:listed[i]=false:=by simpa [hlt] using h1
  refine T.next ro m hC hnt h ho (fun hL=>by unfold Ls at hL;simp [hlt,hf] at hL) (fun k hk=> ?_) (fun σ' a' w' h'=>ih _ σ' a' w' (by simp [hs]) (by have:=JjJ hlt hf;omega) ?_)
  .
   obtain⟨o',ho',e,he,hb,rfl⟩:=hk
   rw [ho] at ho'
   cases ho'
   exact h2 e he hb
  .
   have hset:(fun j=>Ls listed j∨j=i)=Ls (listed.setIfInBounds i true):=funext fun j=>propext (JuR hlt j).symm
   rw [<-hset]
   exact h'
end
end Go.Proofs.YtehhohbnhcogkaaGreatDoor.Ax
namespace Go.Proofs.YtehhohbnhcogkaaGreatDoor.Ax
open Go.RowKit
variable {w:World} {β:Nat->Option Hdr} {x:AV} {v:Value}
mutual
def AV.ni:AV->Bool
 | .ptr .. | .eptr .. | .osl _ | .sub .. | .mp _=>false
 | .agg c=>AV.niL c
 | .tup c=>AV.niL c
 | .fn _ c=>AV.niL c
 |_=>true
def AV.niL:List AV->Bool
 |[]=>true
 |x::l=>x.ni&&AV.niL l
end
mutual
def AV.flat:AV->Bool
 | .iptr _ | .lst _ _ | .lsc _ _=>false
 | .agg c=>AV.flatL c
 | .tup c=>AV.flatL c
 | .fn _ c=>AV.flatL c
 |_=>true
def AV.flatL:List AV->Bool
 |[]=>true
 |x::l=>x.flat&&AV.flatL l
end
mutual
def AV.ren (ρ:Nat->Nat):AV->AV
 | .ptr id j=> .ptr (ρ id) j
 | .eptr id sz i j=> .eptr (ρ id) sz i j
 | .mp id=> .mp (ρ id)
 | .osl id=> .osl (ρ id)
 | .sub id sz lo hi mx=> .sub (ρ id) sz lo hi mx
 | .agg c=> .agg (AV.renL ρ c)
 | .tup c=> .tup (AV.renL ρ c)
 | .fn f c=> .fn f (AV.renL ρ c)
 | .any=> .any
 | .int k n=> .int k n
 | .tru=> .tru
 | .fls=> .fls
 | .bool b=> .bool b
 | .str s=> .str s
 | .nilp=> .nilp
 | .val v=> .val v
 | .nils=> .nils
 | .iptr c=> .iptr c
 | .lst sz xs=> .lst sz xs
 | .lsc sz xs=> .lsc sz xs
def AV.renL (ρ:Nat->Nat):List AV->List AV
 |[]=>[]
 |x::l=>x.ren ρ::AV.renL ρ l
end
theorem JbW (ρ:Nat->Nat):∀l,(AV.renL ρ l).length=l.length
 |[]=>by simp [AV.renL]
 |x::l=>by simp [AV.renL,JbW ρ l]
theorem JbX (ρ:Nat->Nat):∀(l:List AV) (j:Nat),(AV.renL ρ l)[j]? =(l[j]?).map (AV.ren ρ)
 |[],j=>by simp [AV.renL]
 |x::l,0=>by simp [AV.renL]
 |x::l,j+1=>by simpa [AV.renL] using JbX ρ l j
theorem Jbe:∀{l:List AV} {x:AV},AV.niL l=true->x∈l->x.ni=true
 |y::l,x,h,hx=>by
  simp only [AV.niL,Bool.and_eq_true] at h
  rcases List.mem_cons.1 hx with rfl |hx
  . exact h.1
  . exact Jbe h.2 hx
theorem Jdk:∀{l:List AV} {x:AV},AV.flatL l=true->x∈l->x.flat=true
 |y::l,x,h,hx=>by
  simp only [AV.flatL,Bool.and_eq_true] at h
  rcases List.mem_cons.1 hx with rfl |hx
  . exact h.1
  . exact Jdk h.2 hx
theorem RV.noIds {F:Nat->Prop} (h:RV w F β x v) (hx:x.ni=true):RV w F noB x v:=by
 induction h with
 |any v=>exact .any v
 |int k n=>exact .int k n
 |tru=>exact .tru
 |fls=>exact .fls
 |bool b=>exact .bool b
 |str s=>exact .str s
 |nilp=>exact .nilp
 |val v=>exact .val v
 |nils=>exact .nils
 |ptr |eptr |osl |sub |mp=>simp [AV.ni] at hx
 |iptr c b o vs hb h1 ho hr ih=>exact .iptr c b o vs hb h1 ho hr
 |lst sz xs a cap vs h1 h2 h3 h4 h5 h6 hr ih=>exact .lst sz xs a cap vs h1 h2 h3 h4 h5 h6 hr
 |lsc sz xs a _ ih=>exact .lsc sz xs a (ih rfl)
 |agg c cs h1 _ ih=>simp only [AV.ni] at hx;exact .agg c cs h1 (fun j u v hu hv=>ih j u v hu hv (Jbe hx (Wm hu)))
 |tup c cs h1 _ ih=>simp only [AV.ni] at hx;exact .tup c cs h1 (fun j u v hu hv=>ih j u v hu hv (Jbe hx (Wm hu)))
 |fn f c cs h1 _ ih=>simp only [AV.ni] at hx;exact .fn f c cs h1 (fun j u v hu hv=>ih j u v hu hv (Jbe hx (Wm hu)))
theorem RV.re {w':World} {F F':Nat->Prop} (h:RV w F β x v) (hx:x.flat=true):RV w' F' β x v:=by
 induction h with
 |any v=>exact .any v
 |int k n=>exact .int k n
 |tru=>exact .tru
 |fls=>exact .fls
 |bool b=>exact .bool b
 |str s=>exact .str s
 |nilp=>exact .nilp
 |val v=>exact .val v
 |nils=>exact .nils
 |ptr id j b h h1 h2=>exact .ptr id j b h h1 h2
 |eptr id sz i j b h h1 h2=>exact .eptr id sz i j b h h1 h2
 |mp id b h h1 h2=>exact .mp id b h h1 h2
 |osl id h h1=>exact .osl id h h1
 |sub id sz lo hi mx h h1=>exact .sub id sz lo hi mx h h1
 |iptr |lst |lsc=>simp [AV.flat] at hx
 |agg c cs h1 _ ih=>simp only [AV.flat] at hx;exact .agg c cs h1 (fun j u v hu hv=>ih j u v hu hv (Jdk hx (Wm hu)))
 |tup c cs h1 _ ih=>simp only [AV.flat] at hx;exact .tup c cs h1 (fun j u v hu hv=>ih j u v hu hv (Jdk hx (Wm hu)))
 |fn f c cs h1 _ ih=>simp only [AV.flat] at hx;exact .fn f c cs h1 (fun j u v hu hv=>ih j u v hu hv (Jdk hx (Wm hu)))
theorem RV.ren {F:Nat->Prop} {β':Nat->Option Hdr} {ρ:Nat->Nat} (h:RV w F β x v) (hβ:∀id g,β id=some g->β' (ρ id)=some g):RV w F β' (x.ren ρ) v:=by
 have list:∀{c:List AV} {cs:Array Value},c.length=cs.size->(∀(j:Nat) (u:AV) (v:Value),c[j]? =some u->cs[j]? =some v->RV w F β' (u.ren ρ) v)->(AV.renL ρ c).length=cs.size∧∀(j:Nat) (u:AV) (v:Value),(AV.renL ρ c)[j]? =some u->cs[j]? =some v->RV w F β' u v:=fun {c cs} h1 h2=>by
  refine⟨(JbW ρ c).trans h1,fun j u v hu hv=> ?_⟩
  rw [JbX] at hu
  cases hc:c[j]? with
  |none=>rw [hc] at hu;cases hu
  |some y=>rw [hc] at hu;cases hu;exact h2 j y v hc hv
 induction h generalizing β' with
 |any v=>simp only [AV.ren];exact .any v
 |int k n=>simp only [AV.ren];exact .int k n
 |tru=>simp only [AV.ren];exact .tru
 |fls=>simp only [AV.ren];exact .fls
 |bool b=>simp only [AV.ren];exact .bool b
 |str s=>simp only [AV.ren];exact .str s
 |nilp=>simp only [AV.ren];exact .nilp
 |val v=>simp only [AV.ren];exact .val v
 |nils=>simp only [AV.ren];exact .nils
 |ptr id j b h h1 h2=>simp only [AV.ren];exact .ptr _ j b h (hβ _ _ h1) h2
 |eptr id sz i j b h h1 h2=>simp only [AV.ren];exact .eptr _ sz i j b h (hβ _ _ h1) h2
 |mp id b h h1 h2=>simp only [AV.ren];exact .mp _ b h (hβ _ _ h1) h2
 |osl id h h1=>simp only [AV.ren];exact .osl _ h (hβ _ _ h1)
 |sub id sz lo hi mx h h1=>simp only [AV.ren];exact .sub _ sz lo hi mx h (hβ _ _ h1)
 |iptr c b o vs hb h1 ho hr ih=>simp only [AV.ren];exact .iptr c b o vs hb h1 ho hr
 |lst sz xs a cap vs h1 h2 h3 h4 h5 h6 hr ih=>simp only [AV.ren];exact .lst sz xs a cap vs h1 h2 h3 h4 h5 h6 hr
 |lsc sz xs a _ ih=>simp only [AV.ren] at ih ⊢;exact .lsc sz xs a (ih hβ list)
 |agg c cs h1 _ ih=>simp only [AV.ren];obtain⟨e1,e2⟩:=list h1 (fun j u v hu hv=>ih j u v hu hv hβ list);exact .agg _ cs e1 e2
 |tup c cs h1 _ ih=>simp only [AV.ren];obtain⟨e1,e2⟩:=list h1 (fun j u v hu hv=>ih j u v hu hv hβ list);exact .tup _ cs e1 e2
 |fn f c cs h1 _ ih=>simp only [AV.ren];obtain⟨e1,e2⟩:=list h1 (fun j u v hu hv=>ih j u v hu hv hβ list);exact .fn f _ cs e1 e2
theorem RV.unren {F:Nat->Prop} {y:AV} (h:RV w F β y v):∀{β':Nat->Option Hdr} {ρ:Nat->Nat} {x:AV},y=x.ren ρ->(∀id g,β (ρ id)=some g->β' id=some g)->RV w F β' x v:=by
 induction h with
 |any v=>intro β' ρ x e hβ;cases x<;>simp only [AV.ren] at e<;>first |cases e;done |exact .any v
 |int k n=>intro β' ρ x e hβ;cases x<;>simp only [AV.ren] at e<;>first |(cases e;exact .int k n)|cases e
 |tru=>intro β' ρ x e hβ;cases x<;>simp only [AV.ren] at e<;>first |exact .tru |cases e
 |fls=>intro β' ρ x e hβ;cases x<;>simp only [AV.ren] at e<;>first |exact .fls |cases e
 |bool b=>intro β' ρ x e hβ;cases x<;>simp only [AV.ren] at e<;>first |(cases e;exact .bool b)|cases e
 |str s=>intro β' ρ x e hβ;cases x<;>simp only [AV.ren] at e<;>first |(cases e;exact .str s)|cases e
 |nilp=>intro β' ρ x e hβ;cases x<;>simp only [AV.ren] at e<;>first |exact .nilp |cases e
 |val v=>intro β' ρ x e hβ;cases x<;>simp only [AV.ren] at e<;>first |(cases e;exact .val v)|cases e
 |nils=>intro β' ρ x e hβ;cases x<;>simp only [AV.ren] at e<;>first |exact .nils |cases e
 |ptr id j b h h1 h2=>intro β' ρ x e hβ;cases x<;>simp only [AV.ren] at e<;>first |(cases e;exact .ptr _ j b h (hβ _ _ h1) h2)|cases e
 |eptr id sz i j b h h1 h2=>intro β' ρ x e hβ;cases x<;>simp only [AV.ren] at e<;>first |(cases e;exact .eptr _ sz i j b h (hβ _ _ h1) h2)|cases e
 |mp id b h h1 h2=>intro β' ρ x e hβ;cases x<;>simp only [AV.ren] at e<;>first |(cases e;exact .mp _ b h (hβ _ _ h1) h2)|cases e
 |osl id h h1=>intro β' ρ x e hβ;cases x<;>simp only [AV.ren] at e<;>first |(cases e;exact .osl _ h (hβ _ _ h1))|cases e
 |sub id sz lo hi mx h h1=>intro β' ρ x e hβ;cases x<;>simp only [AV.ren] at e<;>first |(cases e;exact .sub _ sz lo hi mx h (hβ _ _ h1))|cases e
 |iptr c b o vs hb h1 ho hr ih=>intro β' ρ x e hβ;cases x<;>simp only [AV.ren] at e<;>first |(cases e;exact .iptr c b o vs hb h1 ho hr)|cases e
 |lst sz xs a cap vs h1 h2 h3 h4 h5 h6 hr ih=>intro β' ρ x e hβ;cases x<;>simp only [AV.ren] at e<;>first |(cases e;exact .lst sz xs a cap vs h1 h2 h3 h4 h5 h6 hr)|cases e
 |lsc sz xs a _ ih=>intro β' ρ x e hβ;cases x<;>simp only [AV.ren] at e<;>first |(cases e;exact .lsc sz xs a (ih (x:= .lst sz xs) (by simp only [AV.ren]) hβ))|cases e
 |agg c cs h1 _ ih=>
  intro β' ρ x e hβ
  cases x<;>simp only [AV.ren] at e<;>first
   |(cases e;exact .agg _ cs (by rw [<-JbW ρ];exact h1) (fun j u v hu hv=>ih j (u.ren ρ) v (by rw [JbX,hu];rfl) hv rfl hβ))
   |cases e
 |tup c cs h1 _ ih=>
  intro β' ρ x e hβ
  cases x<;>simp only [AV.ren] at e<;>first
   |(cases e;exact .tup _ cs (by rw [<-JbW ρ];exact h1) (fun j u v hu hv=>ih j (u.ren ρ) v (by rw [JbX,hu];rfl) hv rfl hβ))
   |cases e
 |fn f c cs h1 _ ih=>
  intro β' ρ x e hβ
  cases x<;>simp only [AV.ren] at e<;>first
   |(cases e;exact .fn _ _ cs (by rw [<-JbW ρ];exact h1) (fun j u v hu hv=>ih j (u.ren ρ) v (by rw [JbX,hu];rfl) hv rfl hβ))
   |cases e
end Go.Proofs.YtehhohbnhcogkaaGreatDoor.Ax
namespace Go.Proofs.YtehhohbnhcogkaaGreatDoor.Ax
open Go.RowKit
variable {ρ:Nat->Nat} {b k:ABlk} {w:World} {β β':Nat->Option Hdr} {g:Hdr}
def NE.ren (ρ:Nat->Nat):NE->NE
 | .hid xs=> .hid xs
 | .ext id=> .ext (ρ id)
 | .raw u=> .raw (u.ren ρ)
def ABlk.ren (ρ:Nat->Nat):ABlk->ABlk
 | .box c=> .box (AV.renL ρ c)
 | .row sz xs=> .row sz (xs.map (AV.renL ρ))
 | .dead=> .dead
 | .obj q=> .obj q
 | .nest l=> .nest (l.map (NE.ren ρ))
theorem Jcu {h:Hdr} {l:List NE} {i b:Nat}:Jco h (l.map (NE.ren ρ)) i b↔Jco h l i b:=by
 constructor
 .
  rintro⟨xs,x,h1,h2,h3⟩
  rw [Wp] at h1
  cases e:l[i]? with
  |none=>rw [e] at h1;cases h1
  |some y=>
   rw [e] at h1
   cases y with
   |hid ys=>cases h1;exact⟨_,x,e,h2,h3⟩
   |ext _=>cases h1
   |raw _=>cases h1
 .
  rintro⟨xs,x,h1,h2,h3⟩
  exact⟨xs,x,by rw [Wp,h1];rfl,h2,h3⟩
theorem YI {h:Hdr} {b:Nat}:QS h (k.ren ρ) b↔QS h k b:=by
 cases k with
 |nest l=>exact or_congr Iff.rfl (exists_congr fun _=>Jcu)
 |_=>exact Iff.rfl
theorem Jdi (h:Jbm (b.ren ρ)=some k):Jbm b=some b∧k=b.ren ρ:=by
 cases b with
 |box c=>exact⟨rfl,(Wi h).symm⟩
 |row sz xs=>exact⟨rfl,(Wi h).symm⟩
 |dead=>cases h
 |obj q=>exact⟨rfl,(Wi h).symm⟩
 |nest l=>exact⟨rfl,(Wi h).symm⟩
theorem JmK (h:Jbm b=some k):b=k:=by
 cases b with
 |box c=>exact Wi h
 |row sz xs=>exact Wi h
 |dead=>cases h
 |obj q=>exact Wi h
 |nest l=>exact Wi h
def NE.flat:NE->Prop
 | .raw u=>u.flat=true
 |_=>True
def ABlk.flat:ABlk->Prop
 | .box c=>AV.flatL c=true
 | .row _ xs=>∀c∈xs,AV.flatL c=true
 | .dead=>True
 | .obj _=>True
 | .nest l=>∀e∈l,NE.flat e
theorem JhN (ρ:Nat->Nat) (u:AV):(u.ren ρ).one=u.one:=by cases u<;>simp only [AV.ren]<;>rfl
theorem Jp4 {c:List AV} (h:∀u∈c,u.one=true):∀u∈AV.renL ρ c,u.one=true:=fun u hu=>by
 obtain⟨j,hj⟩:=List.getElem?_of_mem hu
 rw [JbX] at hj
 cases hc:c[j]? with
 |none=>rw [hc] at hj;cases hj
 |some y=>rw [hc] at hj;cases hj;rw [JhN];exact h y (Wm hc)
theorem YE.ren {F:Nat->Prop} (h:YE w F β g k) (hβ:∀id g,β id=some g->β' (ρ id)=some g):YE w F β' g (k.ren ρ):=by
 cases k with
 |box c=>
  obtain⟨b,arr,ty,h1,h2,h3,h4⟩:=h
  refine⟨b,arr,ty,h1,h2,(JbW ρ c).trans h3,fun j u v hu hv=> ?_⟩
  rw [JbX] at hu
  cases hc:c[j]? with
  |none=>rw [hc] at hu;cases hu
  |some y=>rw [hc] at hu;cases hu;exact(h4 j y v hc hv).ren hβ
 |row sz xs=>
  obtain⟨h1,h2,h3,h4,h5,h6⟩:=h
  have el:∀(k:Nat) (c:List AV),(xs.map (AV.renL ρ))[k]? =some c->∃c0,xs[k]? =some c0∧c=AV.renL ρ c0:=fun k c hk=>by
   rw [Wp] at hk
   cases hx:xs[k]? with
   |none=>rw [hx] at hk;cases hk
   |some c0=>rw [hx] at hk;cases hk;exact⟨c0,rfl,rfl⟩
  refine⟨by rw [List.length_map];exact h1,by rw [List.length_map];exact h2,h3,h4,fun k c hk=> ?_,fun b e=> ?_⟩
  .
   obtain⟨c0,e1,rfl⟩:=el k c hk
   exact⟨by rw [JbW];exact(h5 k c0 e1).1,Jp4 (h5 k c0 e1).2⟩
  .
   obtain⟨arr,ty,r1,r2,r3⟩:=h6 b e
   refine⟨arr,ty,r1,r2,fun k c j u hkc hj=> ?_⟩
   obtain⟨c0,e1,rfl⟩:=el k c hkc
   rw [JbX] at hj
   cases hc:c0[j]? with
   |none=>rw [hc] at hj;cases hj
   |some y=>
    rw [hc] at hj
    cases hj
    obtain⟨v,s1,s2⟩:=r3 k c0 j y e1 hc
    exact⟨v,s1,s2.ren hβ⟩
 |dead=>exact h.elim
 |obj q=>exact h
 |nest l=>
  obtain⟨h1,h2,h3,h4,h5,h6,h7,h8,h9⟩:=h
  have el:∀(i:Nat) (e:NE),(l.map (NE.ren ρ))[i]? =some e->∃e0,l[i]? =some e0∧e=e0.ren ρ:=fun i e hk=>by
   rw [Wp] at hk
   cases hx:l[i]? with
   |none=>rw [hx] at hk;cases hk
   |some c0=>rw [hx] at hk;cases hk;exact⟨c0,rfl,rfl⟩
  refine⟨by rw [List.length_map];exact h1,by rw [List.length_map];exact h2,h3,h4,by rw [List.length_map];exact h5,fun i j b e1 e2=>h6 i j b (Jcu.1 e1) (Jcu.1 e2),fun i b e1=>h7 i b (Jcu.1 e1),fun i e x hi hx=> ?_,fun b e=> ?_⟩
  .
   obtain⟨e0,q1,rfl⟩:=el i e hi
   have:=h8 i e0 x q1 hx
   cases e0 with
   |hid xs=>exact this
   |ext id=>obtain⟨g',r1,r2⟩:=this;exact⟨g',hβ _ _ r1,r2⟩
   |raw u=>trivial
  .
   obtain⟨arr,ty,r1,r2,r3⟩:=h9 b e
   refine⟨arr,ty,r1,r2,fun i e x hi hx=> ?_⟩
   obtain⟨e0,q1,rfl⟩:=el i e hi
   obtain⟨v,s1,s2⟩:=r3 i e0 x q1 hx
   refine⟨v,s1,?_⟩
   cases e0 with
   |hid xs=>exact s2
   |ext id=>exact s2
   |raw u=>exact⟨by rw [JhN];exact s2.1,s2.2.ren hβ⟩
theorem YE.unren {F:Nat->Prop} (h:YE w F β g (k.ren ρ)) (hβ:∀id g,β (ρ id)=some g->β' id=some g):YE w F β' g k:=by
 cases k with
 |box c=>
  obtain⟨b,arr,ty,h1,h2,h3,h4⟩:=h
  refine⟨b,arr,ty,h1,h2,(JbW ρ c).symm.trans h3,fun j u v hu hv=> ?_⟩
  exact(h4 j (u.ren ρ) v (by rw [JbX,hu];rfl) hv).unren rfl hβ
 |row sz xs=>
  obtain⟨h1,h2,h3,h4,h5,h6⟩:=h
  have el:∀(k:Nat) (c:List AV),xs[k]? =some c->(xs.map (AV.renL ρ))[k]? =some (AV.renL ρ c):=fun k c hk=>by rw [Wp,hk];rfl
  refine⟨by rw [List.length_map] at h1;exact h1,by rw [List.length_map] at h2;exact h2,h3,h4,fun k c hk=> ?_,fun b e=> ?_⟩
  .
   obtain⟨q1,q2⟩:=h5 k _ (el k c hk)
   refine⟨by rw [JbW] at q1;exact q1,fun u hu=> ?_⟩
   obtain⟨j,hj⟩:=List.getElem?_of_mem hu
   have:=q2 (u.ren ρ) (Wm (i:=j) (by rw [JbX,hj];rfl))
   rwa [JhN] at this
  .
   obtain⟨arr,ty,r1,r2,r3⟩:=h6 b e
   refine⟨arr,ty,r1,r2,fun k c j u hkc hj=> ?_⟩
   obtain⟨v,s1,s2⟩:=r3 k _ j (u.ren ρ) (el k c hkc) (by rw [JbX,hj];rfl)
   exact⟨v,s1,s2.unren rfl hβ⟩
 |dead=>exact h.elim
 |obj q=>exact h
 |nest l=>
  obtain⟨h1,h2,h3,h4,h5,h6,h7,h8,h9⟩:=h
  have el:∀(i:Nat) (e:NE),l[i]? =some e->(l.map (NE.ren ρ))[i]? =some (e.ren ρ):=fun i e hk=>by rw [Wp,hk];rfl
  rw [List.length_map] at h1 h2 h5
  refine⟨h1,h2,h3,h4,h5,fun i j b e1 e2=>h6 i j b (Jcu.2 e1) (Jcu.2 e2),fun i b e1=>h7 i b (Jcu.2 e1),fun i e x hi hx=> ?_,fun b e=> ?_⟩
  .
   have:=h8 i _ x (el i e hi) hx
   cases e with
   |hid xs=>exact this
   |ext id=>obtain⟨g',r1,r2⟩:=this;exact⟨g',hβ _ _ r1,r2⟩
   |raw u=>trivial
  .
   obtain⟨arr,ty,r1,r2,r3⟩:=h9 b e
   refine⟨arr,ty,r1,r2,fun i e x hi hx=> ?_⟩
   obtain⟨v,s1,s2⟩:=r3 i _ x (el i e hi) hx
   refine⟨v,s1,?_⟩
   cases e with
   |hid xs=>exact s2
   |ext id=>exact s2
   |raw u=>have s3:=s2.1;rw [JhN] at s3;exact⟨s3,s2.2.unren rfl hβ⟩
mutual
theorem JuG (ρ:Nat->Nat):∀(u:AV),u.ni=true->u.ren ρ=u
 | .ptr ..,h | .eptr ..,h | .osl _,h | .sub ..,h | .mp _,h=>by simp [AV.ni] at h
 | .agg c,h=>by simp only [AV.ni] at h;simp only [AV.ren,Jgl ρ c h]
 | .tup c,h=>by simp only [AV.ni] at h;simp only [AV.ren,Jgl ρ c h]
 | .fn f c,h=>by simp only [AV.ni] at h;simp only [AV.ren,Jgl ρ c h]
 | .any,_ | .int ..,_ | .tru,_ | .fls,_ | .bool _,_ | .str _,_ | .nilp,_ | .val _,_ | .nils,_ | .iptr _,_ | .lst ..,_ | .lsc ..,_=>by simp only [AV.ren]
theorem Jgl (ρ:Nat->Nat):∀(c:List AV),AV.niL c=true->AV.renL ρ c=c
 |[],_=>by simp only [AV.renL]
 |x::c,h=>by
  simp only [AV.niL,Bool.and_eq_true] at h
  simp only [AV.renL,JuG ρ x h.1,Jgl ρ c h.2]
end
theorem Jsv {sz:Nat} {xs:List (List AV)} (h:∀c∈xs,AV.niL c=true):(ABlk.row sz xs).ren ρ= .row sz xs:=by
 simp only [ABlk.ren]
 congr 1
 rw [List.map_congr_left (g:=id) (fun c hc=>Jgl ρ c (h c hc)),List.map_id]
theorem YE.re {F F':Nat->Prop} (h:YE w F β g k) (hk:k.flat):YE w F' β g k:=by
 cases k with
 |box c=>
  obtain⟨b,arr,ty,h1,h2,h3,h4⟩:=h
  exact⟨b,arr,ty,h1,h2,h3,fun j u v hu hv=>(h4 j u v hu hv).re (Jdk hk (Wm hu))⟩
 |row sz xs=>
  obtain⟨h1,h2,h3,h4,h5,h6⟩:=h
  refine⟨h1,h2,h3,h4,h5,fun b e=> ?_⟩
  obtain⟨arr,ty,r1,r2,r3⟩:=h6 b e
  refine⟨arr,ty,r1,r2,fun k c j u hkc hj=> ?_⟩
  obtain⟨v,s1,s2⟩:=r3 k c j u hkc hj
  exact⟨v,s1,s2.re (Jdk (hk c (Wm hkc)) (Wm hj))⟩
 |dead=>exact h.elim
 |obj q=>exact h
 |nest l=>
  obtain⟨h1,h2,h3,h4,h5,h6,h7,h8,h9⟩:=h
  refine⟨h1,h2,h3,h4,h5,h6,h7,fun i e x hi hx=> ?_,fun b e=> ?_⟩
  .
   have:=h8 i _ x hi hx
   cases e<;>exact this
  .
   obtain⟨arr,ty,r1,r2,r3⟩:=h9 b e
   refine⟨arr,ty,r1,r2,fun i e x hi hx=> ?_⟩
   obtain⟨v,s1,s2⟩:=r3 i _ x hi hx
   refine⟨v,s1,?_⟩
   have hf:=hk e (Wm hi)
   cases e with
   |hid xs=>exact s2
   |ext id=>exact s2
   |raw u=>exact⟨s2.1,s2.2.re hf⟩
theorem RV.lstN {F:Nat->Prop} (sz:Nat) (xs:List (List AV)) (a:Option Addr) (n cap:Nat) (vs:Nat->Nat->Value) (hn:xs.length=n) (h1:n<=cap) (h2:cap<=maxLen) (h3:a=none->cap=0)
  (h4:∀ad,a=some ad->0<n->ad.spot=none∧F ad.block) (h5:∀(k:Nat) (c:List AV),xs[k]? =some c->c.length=sz∧∀u∈c,u.one=true)
  (h6:∀(ad:Addr) (k:Nat) (c:List AV) (j:Nat) (u:AV),a=some ad->xs[k]? =some c->c[j]? =some u->w.cell? ⟨ad.block,ad.off+k*sz+j,none⟩=some (vs k j))
  (h7:∀(k:Nat) (c:List AV) (j:Nat) (u:AV),xs[k]? =some c->c[j]? =some u->RV w F noB u (vs k j)):RV w F β (.lst sz xs) (.slice a n cap):=by
 subst hn
 exact .lst sz xs a cap vs h1 h2 h3 h4 h5 h6 h7
def entry (args:List AV) (G:List ABlk):ASt:=⟨fun t=>(args[t]?).getD .any,fun id=>(G[id]?).bind Jbm,G.length⟩
theorem Ja2 {args:List AV} {G:List ABlk} {k:Nat} (h:(entry args G).H k=some b):G[k]? =some b∧Jbm b=some b:=by
 have h:(G[k]?).bind Jbm=some b:=h
 cases e:G[k]? with
 |none=>rw [e] at h;cases h
 |some c=>
  rw [e] at h
  have:=JmK h
  subst this
  exact⟨rfl,h⟩
theorem Jeq {args:List AV} {G:List ABlk} {k:Nat} (h:G[k]? =some b) (hl:Jbm b=some b):(entry args G).H k=some b:=by
 show (G[k]?).bind Jbm=some b
 rw [h]
 exact hl
def AC (P:Program) (f:FuncId) (args:List AV) (G:List ABlk) (res:AV) (G':List ABlk):Prop:=
 ∀(C:Ctx) (w:World) (vals:Array Value),C.γ.length=G.length->C.w0=w->C.nt=vals.size->vals.size=args.length->Rel C (Qj G.length) (entry args G) ⟨vals,[]⟩ w->
  Calls P f vals w fun e w'=>∃v,e= .returned v∧Rel { C with nt:=1 } (Qj G'.length) (entry [res] G') ⟨#[v],[]⟩ w'
inductive ArgR (H:Nat->Option ABlk) (gs zs bs:List Nat):AV->AV->Prop where
 |any (x:AV):ArgR H gs zs bs x .any
 |ni (x:AV):x.ni=true->ArgR H gs zs bs x x
 |tru:ArgR H gs zs bs .tru (.bool true)
 |fls:ArgR H gs zs bs .fls (.bool false)
 |nils (sz:Nat):ArgR H gs zs bs .nils (.lst sz [])
 |nilz (k:Nat):k∈zs->ArgR H gs zs bs .nils (.osl k)
 |ptr (id j k:Nat):gs[k]? =some id->ArgR H gs zs bs (.ptr id j) (.ptr k j)
 |eptr (id sz i j k:Nat):gs[k]? =some id->ArgR H gs zs bs (.eptr id sz i j) (.eptr k sz i j)
 |mp (id k:Nat):gs[k]? =some id->ArgR H gs zs bs (.mp id) (.mp k)
 |oslg (id k:Nat):gs[k]? =some id->ArgR H gs zs bs (.osl id) (.osl k)
 |osl (id sz:Nat) (xs:List (List AV)):id∈bs->H id=some (.row sz xs)->(∀c∈xs,AV.niL c=true)->ArgR H gs zs bs (.osl id) (.lst sz xs)
 |oslr (id sz:Nat) (xs xs':List (List AV)):id∈bs->H id=some (.row sz xs)->xs.length=xs'.length->(∀(i:Nat) (c c':List AV),xs[i]? =some c->xs'[i]? =some c'->c.length=c'.length)->(∀c∈xs',AV.niL c=true)->(∀c∈xs',∀u∈c,u.one=true)->
  (∀(i:Nat) (c c':List AV) (j:Nat) (u u':AV),xs[i]? =some c->xs'[i]? =some c'->c[j]? =some u->c'[j]? =some u'->ArgR H gs zs bs u u')->ArgR H gs zs bs (.osl id) (.lst sz xs')
 |nest (id:Nat) (ys:List (List Int)):id∈bs->H id=some (.nest (ys.map .hid))->ArgR H gs zs bs (.osl id) (.lst 1 (ys.map fun y=>[.lst 1 (y.map fun n=>[.int .i64 n])]))
 |sub (id sz lo hi:Nat) (mx:Option Nat) (xs:List (List AV)):id∈bs->H id=some (.row sz xs)->(∀c∈xs,AV.niL c=true)->lo<=hi->hi<=xs.length->(∀m,mx=some m->hi<=m∧m<=xs.length)->ArgR H gs zs bs (.sub id sz lo hi mx) (.lst sz ((xs.drop lo).take (hi - lo)))
 |ibox (id j:Nat) (c:List AV):id∈bs->H id=some (.box c)->c.all AV.one=true->AV.niL c=true->ArgR H gs zs bs (.ptr id j) (.iptr (c.drop j))
 |ibxr (id j:Nat) (c c':List AV):id∈bs->H id=some (.box c)->c.length=c'.length->c'.all AV.one=true->AV.niL c'=true->(∀(j:Nat) (u u':AV),c[j]? =some u->c'[j]? =some u'->ArgR H gs zs bs u u')->ArgR H gs zs bs (.ptr id j) (.iptr (c'.drop j))
 |irow (id sz i j:Nat) (xs:List (List AV)) (c:List AV):id∈bs->H id=some (.row sz xs)->xs[i]? =some c->AV.niL c=true->ArgR H gs zs bs (.eptr id sz i j) (.iptr (c.drop j))
 |agg (c c':List AV):c.length=c'.length->(∀(j:Nat) (u u':AV),c[j]? =some u->c'[j]? =some u'->ArgR H gs zs bs u u')->ArgR H gs zs bs (.agg c) (.agg c')
 |tup (c c':List AV):c.length=c'.length->(∀(j:Nat) (u u':AV),c[j]? =some u->c'[j]? =some u'->ArgR H gs zs bs u u')->ArgR H gs zs bs (.tup c) (.tup c')
 |fn (f:FuncId) (c c':List AV):c.length=c'.length->(∀(j:Nat) (u u':AV),c[j]? =some u->c'[j]? =some u'->ArgR H gs zs bs u u')->ArgR H gs zs bs (.fn f c) (.fn f c')
theorem ArgR.rv {H:Nat->Option ABlk} {gs zs bs:List Nat} {x y:AV} (h:ArgR H gs zs bs x y) {F F':Nat->Prop} (hF:∀b,F b->F' b) (hg:∀(k id:Nat) (g:Hdr),gs[k]? =some id->β id=some g->∃g',β' k=some g'∧g'.sim g) (hz:∀k∈zs,β' k=some (YN none 0 0))
  (hb0:∀id∈bs,∀k,H id=some k->∃g,β id=some g∧YE w F β g k∧∀b,QS g k b->F' b):∀{v:Value},RV w F β x v->RV w F' β' y v:=by
 have hb:∀id∈bs,∀k,H id=some k->∃g,β id=some g∧YE w F β g k∧∀b,g.blk=some b->F' b:=fun id h1 k h2=>by
  obtain⟨g,q1,q2,q3⟩:=hb0 id h1 k h2
  exact⟨g,q1,q2,fun b e=>q3 b (.inl e)⟩
 have up:∀{x:AV} {v:Value},x.ni=true->RV w F β x v->RV w F' β' x v:=fun {x v} hx hv=>(hv.noIds hx).mono hF (fun _ _=>rfl) (fun _ _ e=>by cases e)
 have upn:∀{x:AV} {v:Value},x.ni=true->RV w F β x v->RV w F' noB x v:=fun {x v} hx hv=>(hv.noIds hx).mono hF (fun _ _=>rfl) (fun _ _ e=>e)
 induction h with
 |any x=>exact fun _=> .any _
 |ni x hx=>exact up hx
 |tru=>intro v hv;cases hv;exact .bool true
 |fls=>intro v hv;cases hv;exact .bool false
 |nils sz=>
  intro v hv
  cases hv
  exact .lst sz [] none 0 (fun _ _=>undef) (Nat.le_refl _) (by simp [maxLen]) (fun _=>rfl) (fun ad e=>by cases e) (fun k c e=>by simp at e) (fun ad k c j u e=>by cases e) (fun k c j u e=>by simp at e)
 |nilz k hk=>
  intro v hv
  cases hv
  exact .osl k (YN none 0 0) (hz k hk)
 |ptr id j k hk=>
  intro v hv
  cases hv with
  |ptr _ _ b g e1 e2=>obtain⟨g',q,s1,_⟩:=hg k id g hk e1;exact .ptr k j b g' q (s1.trans e2)
 |eptr id sz i j k hk=>
  intro v hv
  cases hv with
  |eptr _ _ _ _ b g e1 e2=>obtain⟨g',q,s1,_⟩:=hg k id g hk e1;exact .eptr k sz i j b g' q (s1.trans e2)
 |mp id k hk=>
  intro v hv
  cases hv with
  |mp _ b g e1 e2=>obtain⟨g',q,s1,_⟩:=hg k id g hk e1;exact .mp k b g' q (s1.trans e2)
 |oslg id k hk=>
  intro v hv
  cases hv with
  |osl _ g e1=>
   obtain⟨g',q,s1,s2,s3⟩:=hg k id g hk e1
   rw [<-s1,<-s2,<-s3]
   exact .osl k g' q
 |osl id sz xs hm hH hn=>
  intro v hv
  obtain⟨g,e1,e2,e3⟩:=hb id hm _ hH
  cases hv with
  |osl _ g' e4=>
   rw [e1] at e4
   cases e4
   obtain⟨h1,h2,h3,h4,h5,h6⟩:=e2
   rw [h1]
   cases hblk:g.blk with
   |none=>
    have h0:xs=[]:=Wz (by have:=h4 hblk;omega)
    subst h0
    exact .lst sz [] none g.cap (fun _ _=>undef) (Nat.zero_le _) h3 (fun _=>h4 hblk) (fun ad e=>by cases e) (fun k c e=>by simp at e) (fun ad k c j u e=>by cases e) (fun k c j u e=>by simp at e)
   |some b=>
    obtain⟨arr,ty,r1,r2,r3⟩:=h6 b hblk
    refine .lst sz xs (some ⟨b,0,none⟩) g.cap (fun k j=>arr.getD (k*sz+j) undef) h2 h3 (fun e=>by cases e) (fun ad e _=>by cases e;exact⟨rfl,e3 b hblk⟩) h5 (fun ad k c j u e hk hj=> ?_) (fun k c j u hk hj=> ?_)
    .
     cases e
     obtain⟨v,s1,s2⟩:=r3 k c j u hk hj
     simp [World.cell?,r1,Wa,s1]
    .
     obtain⟨v,s1,s2⟩:=r3 k c j u hk hj
     rw [Wa,s1]
     exact upn (Jbe (hn c (Wm hk)) (Wm hj)) s2
 |oslr id sz xs xs' hm hH hl hcl hn hone _ ih=>
  intro v hv
  obtain⟨g,e1,e2,e3⟩:=hb id hm _ hH
  cases hv with
  |osl _ g' e4=>
   rw [e1] at e4
   cases e4
   obtain⟨h1,h2,h3,h4,h5,h6⟩:=e2
   rw [h1,hl]
   cases hblk:g.blk with
   |none=>
    have h0:xs'=[]:=Wz (by have:=h4 hblk;omega)
    subst h0
    exact .lst sz [] none g.cap (fun _ _=>undef) (Nat.zero_le _) h3 (fun _=>h4 hblk) (fun ad e=>by cases e) (fun k c e=>by simp at e) (fun ad k c j u e=>by cases e) (fun k c j u e=>by simp at e)
   |some b=>
    obtain⟨arr,ty,r1,r2,r3⟩:=h6 b hblk
    have at':∀{k:Nat} {c':List AV} {j:Nat} {u':AV},xs'[k]? =some c'->c'[j]? =some u'->∃c u,xs[k]? =some c∧c[j]? =some u:=fun {k c' j u'} hk hj=>by
     have hk1:k<xs.length:=by rw [hl];exact(List.getElem?_eq_some_iff.1 hk).1
     have hc:=Wg hk1
     have hj1:j<(xs[k]).length:=by rw [hcl k _ c' hc hk];exact(List.getElem?_eq_some_iff.1 hj).1
     exact⟨_,_,hc,Wg hj1⟩
    refine .lst sz xs' (some ⟨b,0,none⟩) g.cap (fun k j=>arr.getD (k*sz+j) undef) (by omega) h3 (fun e=>by cases e) (fun ad e _=>by cases e;exact⟨rfl,e3 b hblk⟩) (fun k c' hk=> ?_) (fun ad k c' j u' e hk hj=> ?_) (fun k c' j u' hk hj=> ?_)
    .
     have hk1:k<xs.length:=by rw [hl];exact(List.getElem?_eq_some_iff.1 hk).1
     have hc:=Wg hk1
     exact⟨by rw [<-hcl k _ c' hc hk];exact(h5 k _ hc).1,hone c' (Wm hk)⟩
    .
     cases e
     obtain⟨c,u,hc,hu⟩:=at' hk hj
     obtain⟨v,s1,s2⟩:=r3 k c j u hc hu
     simp [World.cell?,r1,Wa,s1]
    .
     obtain⟨c,u,hc,hu⟩:=at' hk hj
     obtain⟨v,s1,s2⟩:=r3 k c j u hc hu
     rw [Wa,s1]
     exact(ih k c c' j u u' hc hk hu hj s2).noIds (Jbe (hn c' (Wm hk)) (Wm hj))
 |nest id ys hm hH=>
  intro v hv
  obtain⟨g,e1,e2,e3⟩:=hb0 id hm _ hH
  cases hv with
  |osl _ g' e4=>
   rw [e1] at e4
   cases e4
   obtain⟨h1,h2,h3,h4,h5,h6,h7,h8,h9⟩:=e2
   rw [List.length_map] at h1 h2 h5
   rw [h1]
   have el:∀(k:Nat) (c:List AV),(ys.map fun y=>[AV.lst 1 (y.map fun n=>[AV.int .i64 n])])[k]? =some c->∃y x,ys[k]? =some y∧c=[AV.lst 1 (y.map fun n=>[AV.int .i64 n])]∧g.kids[k]? =some x∧(ys.map NE.hid)[k]? =some (.hid y):=fun k c hk=>by
    rw [Wp] at hk
    cases hy:ys[k]? with
    |none=>rw [hy] at hk;cases hk
    |some y=>
     rw [hy] at hk
     cases hk
     exact⟨y,_,rfl,rfl,Wg (by rw [h5];exact(List.getElem?_eq_some_iff.1 hy).1),by rw [Wp,hy];rfl⟩
   have kid:∀(k:Nat) (y:List Int) (x:Option Nat×Nat×Nat),(ys.map NE.hid)[k]? =some (.hid y)->g.kids[k]? =some x->RV w F' noB (.lst 1 (y.map fun n=>[AV.int .i64 n])) (.slice (J5 x.1 0) x.2.1 x.2.2):=fun k y x hy hx=>by
    obtain⟨r1,r2,r3,r4,r5⟩:=h8 k _ x hy hx
    have hF1:∀b,x.1=some b->F' b:=fun b hb'=>e3 b (.inr ⟨k,y,x,hy,hx,hb'⟩)
    have ec:∀(i:Nat) (c:List AV),(y.map fun n=>[AV.int .i64 n])[i]? =some c->∃n,y[i]? =some n∧c=[AV.int .i64 n]:=fun i c hc=>by
     rw [Wp] at hc
     cases hn:y[i]? with
     |none=>rw [hn] at hc;cases hc
     |some n=>rw [hn] at hc;cases hc;exact⟨n,rfl,rfl⟩
    cases hx1:x.1 with
    |none=>
     have h0:y=[]:=Wz (by have:=r4 hx1;omega)
     subst h0
     rw [r1]
     exact .lstN 1 [] none 0 x.2.2 (fun _ _=>undef) rfl (Nat.zero_le _) r3 (fun _=>r4 hx1) (fun ad e=>by cases e) (fun k c e=>by simp at e) (fun ad k c j u e=>by cases e) (fun k c j u e=>by simp at e)
    |some b=>
     obtain⟨arr,ty,t1,t2,t3⟩:=r5 b hx1
     rw [r1]
     refine .lstN 1 _ (some ⟨b,0,none⟩) y.length x.2.2 (fun k j=>arr.getD (k*1+j) undef) (by simp) r2 r3 (fun e=>by cases e) (fun ad e _=>by cases e;exact⟨rfl,hF1 b hx1⟩) (fun i c hc=> ?_) (fun ad i c j u e hc hj=> ?_) (fun i c j u hc hj=> ?_)
     .
      obtain⟨n,_,rfl⟩:=ec i c hc
      exact⟨rfl,fun u hu=>by simp at hu;subst hu;rfl⟩
     .
      cases e
      obtain⟨n,hn,rfl⟩:=ec i c hc
      have hj0:j=0:=by have:=(List.getElem?_eq_some_iff.1 hj).1;simpa using this
      subst hj0
      simp [World.cell?,t1,Wa,t3 i n hn]
     .
      obtain⟨n,hn,rfl⟩:=ec i c hc
      have hj0:j=0:=by have:=(List.getElem?_eq_some_iff.1 hj).1;simpa using this
      subst hj0
      cases hj
      simp only [Nat.mul_one,Nat.add_zero,Wa,t3 i n hn,Option.getD_some]
      exact .int _ _
   cases hblk:g.blk with
   |none=>
    have h0:ys=[]:=Wz (by have:=h4 hblk;omega)
    subst h0
    exact .lst 1 [] none g.cap (fun _ _=>undef) (Nat.zero_le _) h3 (fun _=>h4 hblk) (fun ad e=>by cases e) (fun k c e=>by simp at e) (fun ad k c j u e=>by cases e) (fun k c j u e=>by simp at e)
   |some b=>
    obtain⟨arr,ty,r1,r2,r3⟩:=h9 b hblk
    refine .lstN 1 _ (some ⟨b,0,none⟩) ys.length g.cap (fun k j=>arr.getD (k*1+j) undef) (by simp) h2 h3 (fun e=>by cases e) (fun ad e _=>by cases e;exact⟨rfl,e3 b (.inl hblk)⟩) (fun k c hk=> ?_) (fun ad k c j u e hk hj=> ?_) (fun k c j u hk hj=> ?_)
    .
     obtain⟨y,x,_,rfl,_⟩:=el k c hk
     exact⟨rfl,fun u hu=>by simp at hu;subst hu;rfl⟩
    .
     cases e
     obtain⟨y,x,q1,rfl,q2,q3⟩:=el k c hk
     obtain⟨v,s1,s2⟩:=r3 k _ x q3 q2
     have hj0:j=0:=by have:=(List.getElem?_eq_some_iff.1 hj).1;simpa using this
     subst hj0
     simp [World.cell?,r1,Wa,s1]
    .
     obtain⟨y,x,q1,rfl,q2,q3⟩:=el k c hk
     obtain⟨v,s1,s2⟩:=r3 k _ x q3 q2
     have hj0:j=0:=by have:=(List.getElem?_eq_some_iff.1 hj).1;simpa using this
     subst hj0
     cases hj
     simp only [Nat.mul_one,Nat.add_zero,Wa,s1,Option.getD_some]
     rw [s2]
     exact kid k y x q3 q2
 |sub id sz lo hi mx xs hm hH hn l1 l2 l3=>
  intro v hv
  obtain⟨g,e1,e2,e3⟩:=hb id hm _ hH
  have hlen:((xs.drop lo).take (hi - lo)).length=hi - lo:=by simp;omega
  cases hv with
  |sub _ _ _ _ _ g' e4=>
   rw [e1] at e4
   cases e4
   obtain⟨h1,h2,h3,h4,h5,h6⟩:=e2
   have hcap:hi<=mx.getD g.cap∧mx.getD g.cap<=g.cap:=by
    cases mx with
    |none=>simp only [Option.getD_none];omega
    |some m=>have:=l3 m rfl;simp only [Option.getD_some];omega
   have el:∀(k:Nat) (c:List AV),((xs.drop lo).take (hi - lo))[k]? =some c->k<hi - lo∧xs[lo+k]? =some c:=fun k c hk=>by
    rw [List.getElem?_take,List.getElem?_drop] at hk
    split at hk
    . exact⟨‹_›,hk⟩
    . cases hk
   cases hblk:g.blk with
   |none=>
    have h0:xs=[]:=Wz (by have:=h4 hblk;omega)
    subst h0
    have hc0:=h4 hblk
    refine .lstN sz _ none _ _ (fun _ _=>undef) hlen (by omega) (by omega) (fun _=>by omega) (fun ad e=>by cases e) (fun k c e=>by simp at e) (fun ad k c j u e=>by cases e) (fun k c j u e=>by simp at e)
   |some b=>
    obtain⟨arr,ty,r1,r2,r3⟩:=h6 b hblk
    refine .lstN sz _ (some ⟨b,_,none⟩) _ _ (fun k j=>arr.getD ((lo+k)*sz+j) undef) hlen (by omega) (by omega) (fun e=>by cases e) (fun ad e _=>by cases e;exact⟨rfl,e3 b hblk⟩) (fun k c hk=>h5 _ c (el k c hk).2) (fun ad k c j u e hk hj=> ?_) (fun k c j u hk hj=> ?_)
    .
     cases e
     obtain⟨hkn,hk'⟩:=el k c hk
     obtain⟨v,s1,s2⟩:=r3 _ c j u hk' hj
     have hne:¬mx.getD g.cap=lo:=by omega
     rw [if_neg hne]
     rw [Nat.add_mul] at s1
     simp [World.cell?,r1,Wa,s1,Nat.add_mul]
    .
     obtain⟨hkn,hk'⟩:=el k c hk
     obtain⟨v,s1,s2⟩:=r3 _ c j u hk' hj
     rw [Wa,s1]
     exact upn (Jbe (hn c (Wm hk')) (Wm hj)) s2
 |ibox id j c hm hH h1 hn=>
  intro v hv
  obtain⟨g,e1,e2,e3⟩:=hb id hm _ hH
  obtain⟨b,arr,ty,q1,q2,q3⟩:=e2
  cases hv with
  |ptr _ _ b' g' e4 e5=>
   rw [e1] at e4
   cases e4
   rw [q1] at e5
   cases e5
   refine .iptr _ _ j (fun k=>arr.getD (j+k) undef) (e3 _ q1) (fun k u hu=> ?_) (fun k u hu=> ?_) (fun k u hu=> ?_)<;>rw [List.getElem?_drop] at hu
   .
    obtain⟨v,s1,s2⟩:=q3.at hu
    simp [World.cell?,q2,Wa,s1]
   .
    rw [List.all_eq_true] at h1
    exact h1 u (Wm hu)
   .
    obtain⟨v,s1,s2⟩:=q3.at hu
    simp only [Wa,s1,Option.getD_some]
    exact upn (Jbe hn (Wm hu)) s2
 |ibxr id j c c' hm hH hl h1 hn _ ih=>
  intro v hv
  obtain⟨g,e1,e2,e3⟩:=hb id hm _ hH
  obtain⟨b,arr,ty,q1,q2,q3⟩:=e2
  cases hv with
  |ptr _ _ b' g' e4 e5=>
   rw [e1] at e4
   cases e4
   rw [q1] at e5
   cases e5
   have at':∀{k:Nat} {u':AV},c'[k]? =some u'->∃u v,c[k]? =some u∧arr[k]? =some v∧RV w F β u v:=fun {k u'} hk=>by
    have hk1:k<c.length:=by rw [hl];exact(List.getElem?_eq_some_iff.1 hk).1
    obtain⟨v,s1,s2⟩:=q3.at (Wg hk1)
    exact⟨_,v,Wg hk1,s1,s2⟩
   refine .iptr _ _ j (fun k=>arr.getD (j+k) undef) (e3 _ q1) (fun k u hu=> ?_) (fun k u hu=> ?_) (fun k u hu=> ?_)<;>rw [List.getElem?_drop] at hu
   .
    obtain⟨u0,v,s0,s1,s2⟩:=at' hu
    simp [World.cell?,q2,Wa,s1]
   .
    rw [List.all_eq_true] at h1
    exact h1 u (Wm hu)
   .
    obtain⟨u0,v,s0,s1,s2⟩:=at' hu
    simp only [Wa,s1,Option.getD_some]
    exact(ih _ u0 u s0 hu s2).noIds (Jbe hn (Wm hu))
 |irow id sz i j xs c hm hH hc hn=>
  intro v hv
  obtain⟨g,e1,e2,e3⟩:=hb id hm _ hH
  obtain⟨h1,h2,h3,h4,h5,h6⟩:=e2
  cases hv with
  |eptr _ _ _ _ b g' e4 e5=>
   rw [e1] at e4
   cases e4
   obtain⟨arr,ty,r1,r2,r3⟩:=h6 b e5
   refine .iptr _ _ _ (fun k=>arr.getD (i*sz+(j+k)) undef) (e3 _ e5) (fun k u hu=> ?_) (fun k u hu=> ?_) (fun k u hu=> ?_)<;>rw [List.getElem?_drop] at hu
   .
    obtain⟨v,s1,s2⟩:=r3 i c _ u hc hu
    simp [World.cell?,r1,Wa,s1,Nat.add_assoc]
   . exact(h5 i c hc).2 u (Wm hu)
   .
    obtain⟨v,s1,s2⟩:=r3 i c _ u hc hu
    simp only [Wa,s1,Option.getD_some]
    exact upn (Jbe hn (Wm hu)) s2
 |agg c c' h1 _ ih=>
  intro v hv
  cases hv with
  |agg _ cs q1 q2=>
   refine .agg c' cs (h1▸q1) (fun j u' v hu' hv=> ?_)
   have hj:j<c.length:=by rw [h1];exact(List.getElem?_eq_some_iff.1 hu').1
   exact ih j _ u' (Wg hj) hu' (q2 j _ v (Wg hj) hv)
 |tup c c' h1 _ ih=>
  intro v hv
  cases hv with
  |tup _ cs q1 q2=>
   refine .tup c' cs (h1▸q1) (fun j u' v hu' hv=> ?_)
   have hj:j<c.length:=by rw [h1];exact(List.getElem?_eq_some_iff.1 hu').1
   exact ih j _ u' (Wg hj) hu' (q2 j _ v (Wg hj) hv)
 |fn f c c' h1 _ ih=>
  intro v hv
  cases hv with
  |fn _ _ cs q1 q2=>
   refine .fn f c' cs (h1▸q1) (fun j u' v hu' hv=> ?_)
   have hj:j<c.length:=by rw [h1];exact(List.getElem?_eq_some_iff.1 hu').1
   exact ih j _ u' (Wg hj) hu' (q2 j _ v (Wg hj) hv)
end Go.Proofs.YtehhohbnhcogkaaGreatDoor.Ax
namespace Go.Proofs.YtehhohbnhcogkaaGreatDoor.Ax
open Go.RowKit
def rho (gs:List Nat) (n m k:Nat):Nat:=match gs[k]? with
 |some id=>id
 |none=>n+min (k - gs.length) m
def wrs (ρ:Nat->Nat):Nat->List ABlk->List (Nat×Option ABlk)
 |_,[]=>[]
 |k,b::l=>(ρ k,Jbm (b.ren ρ))::wrs ρ (k+1) l
theorem JjR {ρ:Nat->Nat}:∀{l:List ABlk} {k:Nat} {p:Nat×Option ABlk},p∈wrs ρ k l->∃j b,l[j]? =some b∧p=(ρ (k+j),Jbm (b.ren ρ))
 |b::l,k,p,h=>by
  simp only [wrs,List.mem_cons] at h
  rcases h with rfl |h
  . exact⟨0,b,rfl,rfl⟩
  .
   obtain⟨j,b',h1,h2⟩:=JjR h
   exact⟨j+1,b',by simpa using h1,by rw [h2];simp [Nat.add_comm 1 j,Nat.add_assoc]⟩
theorem Jmk {ρ:Nat->Nat}:∀{l:List ABlk} {k j:Nat} {b:ABlk},l[j]? =some b->(ρ (k+j),Jbm (b.ren ρ))∈wrs ρ k l
 |b'::l,k,0,b,h=>by simp at h;subst h;simp [wrs]
 |b'::l,k,j+1,b,h=>by
  simp only [wrs,List.mem_cons]
  right
  have:=Jmk (ρ:=ρ) (k:=k+1) (show l[j]? =some b by simpa using h)
  rwa [Nat.add_assoc,Nat.add_comm 1 j] at this
theorem JjS:∀(l:List (Nat×Option ABlk)) (H:Nat->Option ABlk) (x:Nat) (y:Option ABlk),(∀(i j:Nat) (p q:Nat×Option ABlk),l[i]? =some p->l[j]? =some q->p.1=q.1->i=j)->(x,y)∈l->wrH H l x=y
 |(i,k0)::l,H,x,y,hn,h=>by
  have hn':∀(a b:Nat) (p q:Nat×Option ABlk),l[a]? =some p->l[b]? =some q->p.1=q.1->a=b:=fun a b p q ha hb e=>by
   have:=hn (a+1) (b+1) p q (by simpa using ha) (by simpa using hb) e
   omega
  rcases List.mem_cons.1 h with h |h
  .
   cases h
   simp only [wrH]
   rw [JdL _ l _ (fun hm=>by
    obtain⟨q,hq,e⟩:=List.mem_map.1 hm
    obtain⟨b,hb,hq'⟩:=List.getElem_of_mem hq
    have:=hn 0 (b+1) (i,k0) q rfl (by simp [Wg hb,hq']) e.symm
    omega),Qk]
  . exact JjS l _ x y hn' h
theorem Jgi {ρ:Nat->Nat}:∀{l:List ABlk} {k i:Nat} {p:Nat×Option ABlk},(wrs ρ k l)[i]? =some p->p.1=ρ (k+i)∧i<l.length
 |[],k,i,p,h=>by simp [wrs] at h
 |b::l,k,0,p,h=>by simp [wrs] at h;subst h;exact⟨rfl,by simp⟩
 |b::l,k,i+1,p,h=>by
  obtain⟨h1,h2⟩:=Jgi (k:=k+1) (show (wrs ρ (k+1) l)[i]? =some p by simpa [wrs] using h)
  exact⟨by rw [h1];congr 1;omega,by simp;omega⟩
def Jkb (ρ:Nat->Nat):Nat->List ABlk->List (Nat×Option ABlk)
 |_,[]=>[]
 |k,b::l=>(ρ k,Jbm b)::Jkb ρ (k+1) l
theorem Jie (ρ:Nat->Nat):∀(l:List ABlk) (k:Nat),Jkb ρ k (l.map (ABlk.ren ρ))=wrs ρ k l
 |[],k=>rfl
 |b::l,k=>by simp only [List.map_cons,Jkb,wrs,Jie ρ l]
theorem Jn5 {env:Nat->AV} {a:Act} {xs:Array Operand} {cap:List AV} {cs:Array Value} (hc:cap.length=cs.size) (t:Nat):(∃x,xs[t]? =some x∧(xs.toList.map (ev env)++cap)[t]? =some (ev env x)∧(xs.map a.eval++cs)[t]? =some (a.eval x))∨
  (∃u v,(xs.toList.map (ev env)++cap)[t]? =some u∧(xs.map a.eval++cs)[t]? =some v∧cap[t - xs.size]? =some u∧cs[t - xs.size]? =some v)∨((xs.toList.map (ev env)++cap)[t]? =none∧(xs.map a.eval++cs)[t]? =none):=by
 by_cases h1:t<xs.size
 .
  refine .inl ⟨xs[t],Wb h1,?_,?_⟩
  . rw [Wc (by simpa using h1)];simp [h1]
  . rw [Array.getElem?_append_left (by simpa using h1)];simp [h1]
 .
  by_cases h2:t - xs.size<cap.length
  .
   refine .inr (.inl ⟨cap[t - xs.size],cs[t - xs.size]'(by omega),?_,?_,Wg _,Wb _⟩)
   . rw [List.getElem?_append_right (by simpa using Nat.not_lt.1 h1)];simp [h2]
   . rw [Array.getElem?_append_right (by simpa using Nat.not_lt.1 h1)];simp [show t - xs.size<cs.size by omega]
  .
   refine .inr (.inr ⟨?_,?_⟩)
   . rw [List.getElem?_eq_none (by simp;omega)]
   . rw [Array.getElem?_eq_none (by simp;omega)]
theorem JsE {P:Program} {g:Nat} {o:Oper} {σ:ASt} {fx:Operand} {xs:Array Operand} {ats:Array TypeId} {f:FuncId} {cap:List AV} {fn:Func} {args':List AV} {gs bs:List Nat} {G G':List ABlk} {res:AV}
  (ho:o.op= .call { callee:= .value fx,args:=xs,argTypes:=ats }) (hfx:ev σ.env fx= .fn f cap) (hfn:P.funcs[f]? =some fn) (hname:fn.name≠ "runtime.NumGoroutine") {bd:Code} (hbody:fn.body=some bd)
  (hlen:xs.size+cap.length=args'.length) (hargs:∀(t:Nat) (u u':AV),(xs.toList.map (ev σ.env)++cap)[t]? =some u->args'[t]? =some u'->ArgR σ.H gs [] bs u u')
  (hG:gs.length=G.length) (hGk:∀(k id:Nat) (b:ABlk),gs[k]? =some id->G[k]? =some b->σ.H id=some (b.ren (rho gs σ.n (G'.length - G.length)))) (hnd:∀(i j id:Nat),gs[i]? =some id->gs[j]? =some id->i=j) (hdis:∀id∈gs,id∉bs)
  (hle:G.length<=G'.length) (hflat:bs=[]∨(res.flat=true∧∀b∈G',b.flat)) (hAC:AC P f args' G res G'):
  YD P g o σ ⟨res.ren (rho gs σ.n (G'.length - G.length)),wrs (rho gs σ.n (G'.length - G.length)) 0 G',gs++bs,σ.n+(G'.length - G.length)+1⟩:=by
 refine⟨by show σ.n<=σ.n+(G'.length - G.length)+1;omega,fun C I σ2 a w K Q hC hxs hH hI hdd hR hK=> ?_⟩
 obtain⟨β,F,hR⟩:=hR
 have hHg:∀id,id∈gs∨id∈bs->σ2.H id=σ.H id:=fun id h=>hH id (by simp only [List.mem_append];exact .inl h)
 have hv:=hxs fx (by simp [ho,Op.operands,Call.operands]) _ _ _ _ (hR.ev fx)
 rw [hfx] at hv
 generalize hfv:a.eval fx=fv at hv
 cases hv with
 |fn _ _ cs c1 c2=>
 have hexec:(execOp a.eval o).run P w= .ok (.enter f (xs.map a.eval++cs)) w:=by
  simp [execOp,ho,resolve,hfv,Deferred.ofValue,invoke,callFunc,program,Sem.run,hfn,hname,hbody]
 have hgr:∀(k id:Nat),gs[k]? =some id->∃b h,G[k]? =some b∧σ2.H id=some (b.ren (rho gs σ.n (G'.length - G.length)))∧β id=some h∧YE w F β h (b.ren (rho gs σ.n (G'.length - G.length)))∧∀i,QS h b i->i<w.heap.size∧¬F i∧C.Mine i:=fun k id hk=>by
  have hkl:k<G.length:=by rw [<-hG];exact(List.getElem?_eq_some_iff.1 hk).1
  have hb:G[k]? =some G[k]:=Wg hkl
  have h1:=hGk k id _ hk hb
  rw [<-hHg id (.inl (Wm hk))] at h1
  obtain⟨h,e1,e2,e3⟩:=hR.live id _ h1
  exact⟨_,h,hb,h1,e1,e2,fun i hi=>e3 i (YI.2 hi)⟩
 let γc:List Hdr:=gs.map fun id=>(β id).getD (YN none 0 0)
 have hγ:∀(k:Nat) (h:Hdr),γc[k]? =some h->∃id,gs[k]? =some id∧β id=some h:=fun k h e=>by
  simp only [γc,Wp] at e
  cases hk:gs[k]? with
  |none=>rw [hk] at e;cases e
  |some id=>
   rw [hk] at e
   obtain⟨b,h',_,_,e1,_⟩:=hgr k id hk
   simp only [Option.map_some,e1,Option.getD_some] at e
   cases e
   exact⟨id,rfl,e1⟩
 let Bor:Nat->Prop:=fun b=>∃id∈bs,∃h k,σ2.H id=some k∧β id=some h∧QS h k b
 let Gra:Nat->Prop:=fun b=>∃id h,id∈gs∧β id=some h∧∃k,σ2.H id=some k∧QS h k b
 let βc:Nat->Option Hdr:=fun k=>γc[k]?
 let Cc:Ctx:=⟨w,γc,fun b=>F b∨Bor b,(xs.map a.eval++cs).size,Gra,[]⟩
 have hρ:∀(k:Nat) (h:Hdr),β (rho gs σ.n (G'.length - G.length) k)=some h->βc k=some h:=fun k h e=>by
  unfold rho at e
  cases hk:gs[k]? with
  |some id=>rw [hk] at e;simp only at e;simp only [βc,γc,Wp,hk,Option.map_some,e,Option.getD_some]
  |none=>
   rw [hk] at e
   simp only at e
   exact absurd (hR.dom _ _ e) (hI _ (Nat.le_add_right _ _) (by show _<σ.n+(G'.length - G.length)+1;omega))
 have hbor:∀b,Bor b->b<w.heap.size∧¬F b:=fun b ⟨id,_,h,k,h1,h2,h3⟩=>by
  obtain⟨h',e1,_,e3⟩:=hR.live id k h1
  rw [h2] at e1
  cases e1
  exact⟨(e3 b h3).1,(e3 b h3).2.1⟩
 have hentry:RelB Cc (Qj G.length) (entry args' G) ⟨xs.map a.eval++cs,[]⟩ w βc (fun b=>F b∨Bor b):=by
  refine⟨fun t=> ?_,rfl,rfl,fun k b hk=> ?_,fun k1 k2 b1 b2 h1 h2 i e1 e2 e3 e4 e5 e6=> ?_,fun k h e=> ?_,fun i h e=>e,fun b hb=>hb,fun b hb=>⟨?_,.inl hb⟩,rfl,.it,rfl,Nat.le_refl _,fun b _ _=>rfl,fun g=>(hR.glo g).mono (fun b hb=> .inl hb) (fun _ _=>rfl) (fun _ _ e=>e)⟩
  .
   simp only [entry]
   rw [Wa]
   cases hu':args'[t]? with
   |none=>exact .any _
   |some u'=>
    have hF:∀b,F b->F b∨Bor b:=fun b hb=> .inl hb
    have hg1:∀(k id:Nat) (h:Hdr),gs[k]? =some id->β id=some h->βc k=some h:=fun k id h h1 h2=>by simp only [βc,γc,Wp,h1,Option.map_some,h2,Option.getD_some]
    have hb1:∀id∈bs,∀k,σ.H id=some k->∃g,β id=some g∧YE w F β g k∧∀b,QS g k b->F b∨Bor b:=fun id hid k hk=>by
     rw [<-hHg id (.inr hid)] at hk
     obtain⟨h,e1,e2,_⟩:=hR.live id k hk
     exact⟨h,e1,e2,fun b hb=> .inr ⟨id,hid,h,k,hk,e1,hb⟩⟩
    rcases Jn5 (env:=σ.env) (a:=a) (xs:=xs) c1 t with⟨x,hx,h1,h2⟩|⟨u,v,h1,h2,h3,h4⟩|⟨h1,_⟩
    .
     rw [h2]
     exact(hargs t _ u' h1 hu').rv hF (fun k id h h1 h2=>⟨h,hg1 k id h h1 h2,rfl,rfl,rfl⟩) (fun k hk=>by simp at hk) hb1 (hxs x (by simp only [ho,Op.operands,Call.operands];exact Array.mem_append.2 (.inr (Array.mem_of_getElem? hx))) _ _ _ _ (hR.ev x))
    .
     rw [h2]
     exact(hargs t _ u' h1 hu').rv hF (fun k id h h1 h2=>⟨h,hg1 k id h h1 h2,rfl,rfl,rfl⟩) (fun k hk=>by simp at hk) hb1 (c2 _ u v h3 h4)
    .
     have:=(List.getElem?_eq_some_iff.1 hu').1
     rw [List.getElem?_eq_none_iff] at h1
     simp at h1
     omega
  .
   replace hk:=(Ja2 hk).1
   have hkl:k<gs.length:=by rw [hG];exact(List.getElem?_eq_some_iff.1 hk).1
   have hid:=Wg hkl
   obtain⟨b',h,e0,e1,e2,e3,e4⟩:=hgr k _ hid
   have hb':b'=b:=by
    rw [e0] at hk
    exact Wi hk
   subst hb'
   have hβk:βc k=some h:=by simp only [βc,γc,Wp,hid,Option.map_some,e2,Option.getD_some]
   refine⟨h,hβk,((e3.unren hρ).mono (fun b hb=> .inl hb) (fun _ _=>rfl) (fun _ _=>rfl) (fun _ _ e=>e)),fun i hi=>⟨(e4 i hi).1,fun hF=> ?_,.inl ⟨_,h,Wm hid,e2,_,e1,YI.2 hi⟩⟩⟩
   rcases hF with hF |⟨id2,hid2,h2,k2,f1,f2,f3⟩
   . exact(e4 i hi).2.1 hF
   .
    have:=hR.inj _ id2 _ _ h h2 i e1 f1 e2 f2 (YI.2 hi) f3
    exact hdis _ (Wm hid) (this▸hid2)
  .
   obtain⟨id1,f1,f2⟩:=hγ k1 h1 e3
   obtain⟨id2,f3,f4⟩:=hγ k2 h2 e4
   obtain⟨c1,_,g1,f5,_⟩:=hgr k1 id1 f1
   obtain⟨c2,_,g2,f6,_⟩:=hgr k2 id2 f3
   have g3:=(Ja2 e1).1
   have g4:=(Ja2 e2).1
   rw [g1] at g3
   rw [g2] at g4
   cases g3
   cases g4
   have:=hR.inj id1 id2 _ _ h1 h2 i f5 f6 f2 f4 (YI.2 e5) (YI.2 e6)
   subst this
   exact hnd k1 k2 id1 f1 f3
  .
   obtain⟨id,f1,_⟩:=hγ k h e
   show k<G.length
   rw [<-hG]
   exact(List.getElem?_eq_some_iff.1 f1).1
  .
   rcases hb with hb |hb
   . exact(hR.news b hb).1
   . exact(hbor b hb).1
 have hcall:=hAC Cc w (xs.map a.eval++cs) (by simp [Cc,γc,hG]) rfl rfl (by simp;omega) ⟨_,_,hentry⟩
 unfold Oper.wp
 rw [hexec]
 simp only [Oper.upon_enter]
 refine Calls.mono hcall fun e w' he=> ?_
 obtain⟨v,rfl,β',F',hE⟩:=he
 refine hK _ _ ?_
 have hfresh:∀k,gs.length<=k->k<G'.length->rho gs σ.n (G'.length - G.length) k=σ.n+(k - gs.length):=fun k h1 h2=>by
  unfold rho
  rw [List.getElem?_eq_none h1]
  simp only
  rw [Nat.min_eq_left (by omega)]
 have hold:∀(k id:Nat),gs[k]? =some id->rho gs σ.n (G'.length - G.length) k=id:=fun k id h=>by unfold rho;rw [h]
 have hnotI:∀k,gs.length<=k->k<G'.length->¬I (rho gs σ.n (G'.length - G.length) k):=fun k h1 h2=>by
  rw [hfresh k h1 h2]
  exact hI _ (Nat.le_add_right _ _) (by show _<σ.n+(G'.length - G.length)+1;omega)
 have hinI:∀(k id:Nat),gs[k]? =some id->I id:=fun k id hk=>by
  obtain⟨_,h,_,_,e1,_⟩:=hgr k id hk
  exact hR.dom _ _ e1
 have hρinj:∀j k,j<G'.length->k<G'.length->rho gs σ.n (G'.length - G.length) j=rho gs σ.n (G'.length - G.length) k->j=k:=fun j k hj hk e=>by
  rcases Nat.lt_or_ge j gs.length with h1 |h1<;>rcases Nat.lt_or_ge k gs.length with h2 |h2
  .
   have e1:=Wg h1
   have e2:=Wg h2
   rw [hold j _ e1,hold k _ e2] at e
   exact hnd j k _ e1 (e▸e2)
  .
   have e1:=Wg h1
   rw [hold j _ e1] at e
   exact absurd (e▸hinI j _ e1) (hnotI k h2 hk)
  .
   have e2:=Wg h2
   rw [hold k _ e2] at e
   exact absurd (e▸hinI k _ e2) (hnotI j h1 hj)
  .
   rw [hfresh j h1 hj,hfresh k h2 hk] at e
   omega
 let ρ:Nat->Nat:=rho gs σ.n (G'.length - G.length)
 let β2:Nat->Option Hdr:=fun id=>if σ.n<=id∧id<σ.n+(G'.length - G.length) then β' (id - σ.n+gs.length) else β id
 let F2:Nat->Prop:=fun b=>F' b∧¬Bor b
 have hβ2:∀id g,β id=some g->β2 id=some g:=fun id g e=>by
  have hn:¬(σ.n<=id∧id<σ.n+(G'.length - G.length)):=fun h=>hI id h.1 (by show id<σ.n+(G'.length - G.length)+1;omega) (hR.dom _ _ e)
  simp only [β2,if_neg hn]
  exact e
 have hβρ:∀k g,β' k=some g->β2 (ρ k)=some g:=fun k g e=>by
  have hk:k<G'.length:=hE.dom k g e
  rcases Nat.lt_or_ge k gs.length with h |h
  .
   have hid:=Wg h
   obtain⟨_,h',_,_,e1,_⟩:=hgr k _ hid
   have hγk:γc[k]? =some h':=by simp only [γc,Wp,hid,Option.map_some,e1,Option.getD_some]
   have:=hE.gr k h' hγk
   rw [e] at this
   cases this
   rw [show ρ k=gs[k] from hold k _ hid]
   exact hβ2 _ _ e1
  .
   rw [show ρ k=σ.n+(k - gs.length) from hfresh k h hk]
   have hc:σ.n<=σ.n+(k - gs.length)∧σ.n+(k - gs.length)<σ.n+(G'.length - G.length):=by omega
   simp only [β2,if_pos hc]
   rw [show σ.n+(k - gs.length) - σ.n+gs.length=k by omega]
   exact e
 have hFF:∀b,F b->F2 b:=fun b hb=>⟨hE.sub b (.inl hb),fun h=>(hbor b h).2 hb⟩
 have hgran:∀(b:Nat),Gra b->∃id h,id∈gs∧β id=some h∧∃k,σ2.H id=some k∧QS h k b:=fun b h=>h
 have hsame:∀b,b<w.heap.size->¬Gra b->w'.heap[b]? =w.heap[b]? :=fun b h1 h2=>hE.block b h1 h2
 have hFs:∀b,F b->w'.heap[b]? =w.heap[b]? :=fun b hb=>hsame b (hR.news b hb).1 (fun h=>by
  obtain⟨id,g,_,e1,k,e3,e2⟩:=hgran b h
  obtain⟨g',q1,_,q3⟩:=hR.live id k e3
  rw [e1] at q1
  cases q1
  exact(q3 b e2).2.1 hb)
 have hconv:∀h b,b∈G'->YE w' F' β' h b->YE w' F2 β2 h (b.ren ρ):=fun h b hb hk=>by
  rcases hflat with h0 |⟨_,h0⟩
  . refine((hk.ren hβρ).mono (fun i hi=>⟨hi,fun⟨id,hid,_⟩=>by rw [h0] at hid;simp at hid⟩) (fun _ _=>rfl) (fun _ _=>rfl) (fun _ _ e=>e))
  . exact(hk.re (h0 b hb)).ren hβρ
 have hkeys:∀j b,G'[j]? =some b->wrH σ2.H (wrs ρ 0 G') (ρ j)=Jbm (b.ren ρ):=fun j b hj=>by
  refine JjS _ _ _ _ (fun i1 i2 p q h1 h2 e=> ?_) (by have:=Jmk (ρ:=ρ) (k:=0) hj;rwa [Nat.zero_add] at this)
  obtain⟨r1,r2⟩:=Jgi h1
  obtain⟨r3,r4⟩:=Jgi h2
  rw [r1,r3,Nat.zero_add,Nat.zero_add] at e
  exact hρinj _ _ r2 r4 e
 have hother:∀id,¬(∃j,j<G'.length∧id=ρ j)->wrH σ2.H (wrs ρ 0 G') id=σ2.H id:=fun id hn=>JdL _ _ _ (fun hm=>by
  obtain⟨q,hq,e⟩:=List.mem_map.1 hm
  obtain⟨j,b,h1,h2⟩:=JjR hq
  refine hn ⟨j,(List.getElem?_eq_some_iff.1 h1).1,?_⟩
  rw [<-e,h2,Nat.zero_add])
 have hnk:∀id k,σ2.H id=some k->¬(∃j,j<G'.length∧id=ρ j)->∀h i,β id=some h->QS h k i->i<w.heap.size∧¬Gra i:=fun id k hk hn h i e1 e2=>by
  obtain⟨h',q1,_,q3⟩:=hR.live id k hk
  rw [e1] at q1
  cases q1
  refine⟨(q3 i e2).1,fun hg=> ?_⟩
  obtain⟨id',g',r1,r2,k',r4,r3⟩:=hgran i hg
  have:=hR.inj id id' k k' h g' i hk r4 e1 r2 e2 r3
  subst this
  obtain⟨j,hj⟩:=List.getElem?_of_mem r1
  have hjl:=(List.getElem?_eq_some_iff.1 hj).1
  exact hn ⟨j,by omega,(hold j _ hj).symm⟩
 have hkey:∀j b,G'[j]? =some b->Jbm b=some b->∃h,β' j=some h∧β2 (ρ j)=some h∧YE w' F' β' h b∧∀i,QS h b i->i<w'.heap.size∧¬F' i∧C.Mine i∧(Gra i∨w.heap.size<=i):=fun j b hj hlv=>by
  obtain⟨h,e1,e2,e3⟩:=hE.live j b (Jeq hj hlv)
  refine⟨h,e1,hβρ j h e1,e2,fun i hi=> ?_⟩
  obtain⟨f1,f2,f3⟩:=e3 i hi
  rcases f3 with f3 |f3
  .
   obtain⟨id',g',r1,r2,k',r4,r3⟩:=hgran i f3
   obtain⟨g'',q1,_,q3⟩:=hR.live id' k' r4
   rw [r2] at q1
   cases q1
   exact⟨f1,f2,(q3 i r3).2.2,.inl f3⟩
  . exact⟨f1,f2,.inr (Nat.le_trans hR.grow f3),.inr f3⟩
 have hwl:w.heap.size<=w'.heap.size:=hE.grow
 have hres:RV w' F2 β2 (res.ren ρ) v:=by
  have h0:RV w' F' β' res v:=hE.env 0
  rcases hflat with hf |⟨hf,_⟩
  . exact(h0.ren hβρ).mono (fun i hi=>⟨hi,fun⟨id,hid,_⟩=>by rw [hf] at hid;simp at hid⟩) (fun _ _=>rfl) (fun _ _ e=>e)
  . exact(h0.re hf).ren hβρ
 have hmain:RelB C (fun id=>I id∨(σ.n<=id∧id<σ.n+(G'.length - G.length)+1)) { σ2 with H:=wrH σ2.H (wrs ρ 0 G') } a w' β2 F2:=by
  refine⟨fun t=>(hR.env t).mono hFF hFs hβ2,hR.size,hR.defers,fun id k hk=> ?_,fun id1 id2 k1 k2 h1 h2 i e1 e2 e3 e4 e5 e6=> ?_,fun id h e=> ?_,fun i h e=>hβ2 _ _ (hR.gr i h e),fun b hb=>hFF b (hR.sub b hb),fun b hb=> ?_,hE.os.trans hR.os,hE.tape.trans hR.tape,hE.output.trans hR.output,Nat.le_trans hR.grow hwl,fun b hb hn=> ?_,fun g=>(hR.glo g).mono hFF hFs (fun _ _ e=>e)⟩
  .
   by_cases hj:∃j,j<G'.length∧id=ρ j
   .
    obtain⟨j,hj,rfl⟩:=hj
    have hb:=Wg hj
    have:=hkeys j _ hb
    simp only at hk
    rw [this] at hk
    obtain⟨hlv,rfl⟩:=Jdi hk
    obtain⟨h,e1,e2,e3,e4⟩:=hkey j _ hb hlv
    exact⟨h,e2,hconv h _ (List.getElem_mem _) e3,fun i hi0=>by have hi:=YI.1 hi0;exact⟨(e4 i hi).1,fun hF=>(e4 i hi).2.1 hF.1,(e4 i hi).2.2.1⟩⟩
   .
    simp only at hk
    rw [hother id hj] at hk
    obtain⟨h,e1,e2,e3⟩:=hR.live id k hk
    refine⟨h,hβ2 _ _ e1,e2.mono hFF hFs (fun i hi=> ?_) hβ2,fun i hi=>⟨Nat.lt_of_lt_of_le (e3 i hi).1 hwl,fun hF=> ?_,(e3 i hi).2.2⟩⟩
    .
     obtain⟨q1,q2⟩:=hnk id k hk hj h i e1 hi
     exact hsame i q1 q2
    .
     rcases(hE.news i hF.1).2 with(hq |hq)|hq |hq
     . exact(e3 i hi).2.1 hq
     . exact hF.2 hq
     . exact(hnk id k hk hj h i e1 hi).2 hq
     .
      have hq':w.heap.size<=i:=hq
      have:=(e3 i hi).1
      omega
  .
   simp only at e1 e2
   have hlv:∀j k,j<G'.length->wrH σ2.H (wrs ρ 0 G') (ρ j)=some k->∃b,G'[j]? =some b∧Jbm b=some b∧k=b.ren ρ:=fun j k hj e=>by
    have hb:=Wg hj
    rw [hkeys j _ hb] at e
    exact⟨_,hb,(Jdi e).1,(Jdi e).2⟩
   by_cases hj1:∃j,j<G'.length∧id1=ρ j<;>by_cases hj2:∃j,j<G'.length∧id2=ρ j
   .
    obtain⟨j1,hj1,rfl⟩:=hj1
    obtain⟨j2,hj2,rfl⟩:=hj2
    obtain⟨c1,p1,p2,rfl⟩:=hlv j1 _ hj1 e1
    obtain⟨c2,p3,p4,rfl⟩:=hlv j2 _ hj2 e2
    obtain⟨g1,f1,f2,_⟩:=hkey j1 _ p1 p2
    obtain⟨g2,f3,f4,_⟩:=hkey j2 _ p3 p4
    rw [f2] at e3
    rw [f4] at e4
    cases e3
    cases e4
    rw [hE.inj j1 j2 _ _ _ _ i (Jeq p1 p2) (Jeq p3 p4) f1 f3 (YI.1 e5) (YI.1 e6)]
   .
    obtain⟨j1,hj1,rfl⟩:=hj1
    obtain⟨c1,p1,p2,rfl⟩:=hlv j1 _ hj1 e1
    obtain⟨g1,f1,f2,_,f4⟩:=hkey j1 _ p1 p2
    rw [f2] at e3
    cases e3
    rw [hother id2 hj2] at e2
    obtain⟨h',q1,_⟩:=hR.live id2 k2 e2
    have:=hβ2 _ _ q1
    rw [e4] at this
    cases this
    obtain⟨r1,r2⟩:=hnk id2 k2 e2 hj2 h2 i q1 e6
    rcases(f4 i (YI.1 e5)).2.2.2 with hq |hq
    . exact absurd hq r2
    . omega
   .
    obtain⟨j2,hj2,rfl⟩:=hj2
    obtain⟨c2,p1,p2,rfl⟩:=hlv j2 _ hj2 e2
    obtain⟨g2,f1,f2,_,f4⟩:=hkey j2 _ p1 p2
    rw [f2] at e4
    cases e4
    rw [hother id1 hj1] at e1
    obtain⟨h',q1,_⟩:=hR.live id1 k1 e1
    have:=hβ2 _ _ q1
    rw [e3] at this
    cases this
    obtain⟨r1,r2⟩:=hnk id1 k1 e1 hj1 h1 i q1 e5
    rcases(f4 i (YI.1 e6)).2.2.2 with hq |hq
    . exact absurd hq r2
    . omega
   .
    rw [hother id1 hj1] at e1
    rw [hother id2 hj2] at e2
    obtain⟨h',q1,_⟩:=hR.live id1 k1 e1
    obtain⟨h'',q2,_⟩:=hR.live id2 k2 e2
    have r1:=hβ2 _ _ q1
    have r2:=hβ2 _ _ q2
    rw [e3] at r1
    rw [e4] at r2
    cases r1
    cases r2
    exact hR.inj id1 id2 k1 k2 h1 h2 i e1 e2 q1 q2 e5 e6
  .
   simp only [β2] at e
   split at e
   .
    rename_i hc
    exact .inr ⟨hc.1,by omega⟩
   . exact .inl (hR.dom id h e)
  .
   obtain⟨h1,h2⟩:=hE.news b hb.1
   refine⟨h1,?_⟩
   rcases h2 with(h2 |h2)|h2 |h2
   . exact(hR.news b h2).2
   . exact absurd h2 hb.2
   .
    obtain⟨id',g',r1,r2,k',r4,r3⟩:=hgran b h2
    obtain⟨g'',q1,_,q3⟩:=hR.live id' k' r4
    rw [r2] at q1
    cases q1
    exact .inr (q3 b r3).2.2
   . exact .inr (.inr (Nat.le_trans hR.grow h2))
  .
   rw [hsame b (Nat.lt_of_lt_of_le hb hR.grow) (fun hg=>by
    obtain⟨id,g',_,r2,k',r4,r3⟩:=hgran b hg
    obtain⟨g'',q1,_,q3⟩:=hR.live id k' r4
    rw [r2] at q1
    cases q1
    rcases(q3 b r3).2.2 with hq |hq
    . exact hn hq
    . omega)]
   exact hR.block b hb hn
 exact⟨β2,F2,(hmain.put o.dst (res.ren ρ) v hdd hres).fin rfl rfl (fun i hi=>hi)⟩
end Go.Proofs.YtehhohbnhcogkaaGreatDoor.Ax
namespace Go.Proofs.YtehhohbnhcogkaaGreatDoor.Ax
open Go.RowKit
def Jbz:List Nat->List (Nat×Option ABlk)
 |[]=>[]
 |id::l=>(id,none)::Jbz l
theorem Jhl:∀{bs:List Nat} {H:Nat->Option ABlk} {id:Nat} {k:ABlk},wrH H (Jbz bs) id=some k->id∉bs∧H id=some k
 |[],H,id,k,h=>⟨by simp,h⟩
 |i::l,H,id,k,h=>by
  obtain⟨h1,h2⟩:=Jhl (bs:=l) h
  by_cases e:id=i
  .
   subst e
   rw [Qk] at h2
   cases h2
  .
   rw [YW _ _ e] at h2
   exact⟨by simp [e,h1],h2⟩
theorem Jqa {P:Program} {g:Nat} {o:Oper} {σ:ASt} {fx:Operand} {xs:Array Operand} {ats:Array TypeId} {f:FuncId} {cap:List AV} {fn:Func} {args':List AV} {gs bs:List Nat} {G G':List ABlk} {res:AV}
  (ho:o.op= .call { callee:= .value fx,args:=xs,argTypes:=ats }) (hfx:ev σ.env fx= .fn f cap) (hfn:P.funcs[f]? =some fn) (hname:fn.name≠ "runtime.NumGoroutine") {bd:Code} (hbody:fn.body=some bd)
  (hlen:xs.size+cap.length=args'.length) (hargs:∀(t:Nat) (u u':AV),(xs.toList.map (ev σ.env)++cap)[t]? =some u->args'[t]? =some u'->ArgR σ.H gs [] bs u u')
  (hG:gs.length=G.length) (hGk:∀(k id:Nat) (b:ABlk),gs[k]? =some id->G[k]? =some b->σ.H id=some (b.ren (rho gs σ.n (G'.length - G.length)))) (hnd:∀(i j id:Nat),gs[i]? =some id->gs[j]? =some id->i=j) (hdis:∀id∈gs,id∉bs)
  (hle:G.length<=G'.length) (hAC:AC P f args' G res G'):
  YD P g o σ ⟨res.ren (rho gs σ.n (G'.length - G.length)),wrs (rho gs σ.n (G'.length - G.length)) 0 G'++Jbz bs,gs++bs,σ.n+(G'.length - G.length)+1⟩:=by
 refine⟨by show σ.n<=σ.n+(G'.length - G.length)+1;omega,fun C I σ2 a w K Q hC hxs hH hI hdd hR hK=> ?_⟩
 obtain⟨β,F,hR⟩:=hR
 have hHg:∀id,id∈gs∨id∈bs->σ2.H id=σ.H id:=fun id h=>hH id (by simp only [List.mem_append];exact .inl h)
 have hv:=hxs fx (by simp [ho,Op.operands,Call.operands]) _ _ _ _ (hR.ev fx)
 rw [hfx] at hv
 generalize hfv:a.eval fx=fv at hv
 cases hv with
 |fn _ _ cs c1 c2=>
 have hexec:(execOp a.eval o).run P w= .ok (.enter f (xs.map a.eval++cs)) w:=by
  simp [execOp,ho,resolve,hfv,Deferred.ofValue,invoke,callFunc,program,Sem.run,hfn,hname,hbody]
 have hgr:∀(k id:Nat),gs[k]? =some id->∃b h,G[k]? =some b∧σ2.H id=some (b.ren (rho gs σ.n (G'.length - G.length)))∧β id=some h∧YE w F β h (b.ren (rho gs σ.n (G'.length - G.length)))∧∀i,QS h b i->i<w.heap.size∧¬F i∧C.Mine i:=fun k id hk=>by
  have hkl:k<G.length:=by rw [<-hG];exact(List.getElem?_eq_some_iff.1 hk).1
  have hb:G[k]? =some G[k]:=Wg hkl
  have h1:=hGk k id _ hk hb
  rw [<-hHg id (.inl (Wm hk))] at h1
  obtain⟨h,e1,e2,e3⟩:=hR.live id _ h1
  exact⟨_,h,hb,h1,e1,e2,fun i hi=>e3 i (YI.2 hi)⟩
 let γc:List Hdr:=gs.map fun id=>(β id).getD (YN none 0 0)
 have hγ:∀(k:Nat) (h:Hdr),γc[k]? =some h->∃id,gs[k]? =some id∧β id=some h:=fun k h e=>by
  simp only [γc,Wp] at e
  cases hk:gs[k]? with
  |none=>rw [hk] at e;cases e
  |some id=>
   rw [hk] at e
   obtain⟨b,h',_,_,e1,_⟩:=hgr k id hk
   simp only [Option.map_some,e1,Option.getD_some] at e
   cases e
   exact⟨id,rfl,e1⟩
 let Bor:Nat->Prop:=fun b=>∃id∈bs,∃h k,σ2.H id=some k∧β id=some h∧QS h k b
 let Gra:Nat->Prop:=fun b=>∃id h,id∈gs∧β id=some h∧∃k,σ2.H id=some k∧QS h k b
 let βc:Nat->Option Hdr:=fun k=>γc[k]?
 let Cc:Ctx:=⟨w,γc,fun b=>F b∨Bor b,(xs.map a.eval++cs).size,Gra,[]⟩
 have hρ:∀(k:Nat) (h:Hdr),β (rho gs σ.n (G'.length - G.length) k)=some h->βc k=some h:=fun k h e=>by
  unfold rho at e
  cases hk:gs[k]? with
  |some id=>rw [hk] at e;simp only at e;simp only [βc,γc,Wp,hk,Option.map_some,e,Option.getD_some]
  |none=>
   rw [hk] at e
   simp only at e
   exact absurd (hR.dom _ _ e) (hI _ (Nat.le_add_right _ _) (by show _<σ.n+(G'.length - G.length)+1;omega))
 have hbor:∀b,Bor b->b<w.heap.size∧¬F b:=fun b ⟨id,_,h,k,h1,h2,h3⟩=>by
  obtain⟨h',e1,_,e3⟩:=hR.live id k h1
  rw [h2] at e1
  cases e1
  exact⟨(e3 b h3).1,(e3 b h3).2.1⟩
 have hentry:RelB Cc (Qj G.length) (entry args' G) ⟨xs.map a.eval++cs,[]⟩ w βc (fun b=>F b∨Bor b):=by
  refine⟨fun t=> ?_,rfl,rfl,fun k b hk=> ?_,fun k1 k2 b1 b2 h1 h2 i e1 e2 e3 e4 e5 e6=> ?_,fun k h e=> ?_,fun i h e=>e,fun b hb=>hb,fun b hb=>⟨?_,.inl hb⟩,rfl,.it,rfl,Nat.le_refl _,fun b _ _=>rfl,fun g=>(hR.glo g).mono (fun b hb=> .inl hb) (fun _ _=>rfl) (fun _ _ e=>e)⟩
  .
   simp only [entry]
   rw [Wa]
   cases hu':args'[t]? with
   |none=>exact .any _
   |some u'=>
    have hF:∀b,F b->F b∨Bor b:=fun b hb=> .inl hb
    have hg1:∀(k id:Nat) (h:Hdr),gs[k]? =some id->β id=some h->βc k=some h:=fun k id h h1 h2=>by simp only [βc,γc,Wp,h1,Option.map_some,h2,Option.getD_some]
    have hb1:∀id∈bs,∀k,σ.H id=some k->∃g,β id=some g∧YE w F β g k∧∀b,QS g k b->F b∨Bor b:=fun id hid k hk=>by
     rw [<-hHg id (.inr hid)] at hk
     obtain⟨h,e1,e2,_⟩:=hR.live id k hk
     exact⟨h,e1,e2,fun b hb=> .inr ⟨id,hid,h,k,hk,e1,hb⟩⟩
    rcases Jn5 (env:=σ.env) (a:=a) (xs:=xs) c1 t with⟨x,hx,h1,h2⟩|⟨u,v,h1,h2,h3,h4⟩|⟨h1,_⟩
    .
     rw [h2]
     exact(hargs t _ u' h1 hu').rv hF (fun k id h h1 h2=>⟨h,hg1 k id h h1 h2,rfl,rfl,rfl⟩) (fun k hk=>by simp at hk) hb1 (hxs x (by simp only [ho,Op.operands,Call.operands];exact Array.mem_append.2 (.inr (Array.mem_of_getElem? hx))) _ _ _ _ (hR.ev x))
    .
     rw [h2]
     exact(hargs t _ u' h1 hu').rv hF (fun k id h h1 h2=>⟨h,hg1 k id h h1 h2,rfl,rfl,rfl⟩) (fun k hk=>by simp at hk) hb1 (c2 _ u v h3 h4)
    .
     have:=(List.getElem?_eq_some_iff.1 hu').1
     rw [List.getElem?_eq_none_iff] at h1
     simp at h1
     omega
  .
   replace hk:=(Ja2 hk).1
   have hkl:k<gs.length:=by rw [hG];exact(List.getElem?_eq_some_iff.1 hk).1
   have hid:=Wg hkl
   obtain⟨b',h,e0,e1,e2,e3,e4⟩:=hgr k _ hid
   have hb':b'=b:=by
    rw [e0] at hk
    exact Wi hk
   subst hb'
   have hβk:βc k=some h:=by simp only [βc,γc,Wp,hid,Option.map_some,e2,Option.getD_some]
   refine⟨h,hβk,((e3.unren hρ).mono (fun b hb=> .inl hb) (fun _ _=>rfl) (fun _ _=>rfl) (fun _ _ e=>e)),fun i hi=>⟨(e4 i hi).1,fun hF=> ?_,.inl ⟨_,h,Wm hid,e2,_,e1,YI.2 hi⟩⟩⟩
   rcases hF with hF |⟨id2,hid2,h2,k2,f1,f2,f3⟩
   . exact(e4 i hi).2.1 hF
   .
    have:=hR.inj _ id2 _ _ h h2 i e1 f1 e2 f2 (YI.2 hi) f3
    exact hdis _ (Wm hid) (this▸hid2)
  .
   obtain⟨id1,f1,f2⟩:=hγ k1 h1 e3
   obtain⟨id2,f3,f4⟩:=hγ k2 h2 e4
   obtain⟨c1,_,g1,f5,_⟩:=hgr k1 id1 f1
   obtain⟨c2,_,g2,f6,_⟩:=hgr k2 id2 f3
   have g3:=(Ja2 e1).1
   have g4:=(Ja2 e2).1
   rw [g1] at g3
   rw [g2] at g4
   cases g3
   cases g4
   have:=hR.inj id1 id2 _ _ h1 h2 i f5 f6 f2 f4 (YI.2 e5) (YI.2 e6)
   subst this
   exact hnd k1 k2 id1 f1 f3
  .
   obtain⟨id,f1,_⟩:=hγ k h e
   show k<G.length
   rw [<-hG]
   exact(List.getElem?_eq_some_iff.1 f1).1
  .
   rcases hb with hb |hb
   . exact(hR.news b hb).1
   . exact(hbor b hb).1
 have hcall:=hAC Cc w (xs.map a.eval++cs) (by simp [Cc,γc,hG]) rfl rfl (by simp;omega) ⟨_,_,hentry⟩
 unfold Oper.wp
 rw [hexec]
 simp only [Oper.upon_enter]
 refine Calls.mono hcall fun e w' he=> ?_
 obtain⟨v,rfl,β',F',hE⟩:=he
 refine hK _ _ ?_
 have hfresh:∀k,gs.length<=k->k<G'.length->rho gs σ.n (G'.length - G.length) k=σ.n+(k - gs.length):=fun k h1 h2=>by
  unfold rho
  rw [List.getElem?_eq_none h1]
  simp only
  rw [Nat.min_eq_left (by omega)]
 have hold:∀(k id:Nat),gs[k]? =some id->rho gs σ.n (G'.length - G.length) k=id:=fun k id h=>by unfold rho;rw [h]
 have hnotI:∀k,gs.length<=k->k<G'.length->¬I (rho gs σ.n (G'.length - G.length) k):=fun k h1 h2=>by
  rw [hfresh k h1 h2]
  exact hI _ (Nat.le_add_right _ _) (by show _<σ.n+(G'.length - G.length)+1;omega)
 have hinI:∀(k id:Nat),gs[k]? =some id->I id:=fun k id hk=>by
  obtain⟨_,h,_,_,e1,_⟩:=hgr k id hk
  exact hR.dom _ _ e1
 have hρinj:∀j k,j<G'.length->k<G'.length->rho gs σ.n (G'.length - G.length) j=rho gs σ.n (G'.length - G.length) k->j=k:=fun j k hj hk e=>by
  rcases Nat.lt_or_ge j gs.length with h1 |h1<;>rcases Nat.lt_or_ge k gs.length with h2 |h2
  .
   have e1:=Wg h1
   have e2:=Wg h2
   rw [hold j _ e1,hold k _ e2] at e
   exact hnd j k _ e1 (e▸e2)
  .
   have e1:=Wg h1
   rw [hold j _ e1] at e
   exact absurd (e▸hinI j _ e1) (hnotI k h2 hk)
  .
   have e2:=Wg h2
   rw [hold k _ e2] at e
   exact absurd (e▸hinI k _ e2) (hnotI j h1 hj)
  .
   rw [hfresh j h1 hj,hfresh k h2 hk] at e
   omega
 let ρ:Nat->Nat:=rho gs σ.n (G'.length - G.length)
 let β2:Nat->Option Hdr:=fun id=>if σ.n<=id∧id<σ.n+(G'.length - G.length) then β' (id - σ.n+gs.length) else β id
 let F2:Nat->Prop:=F'
 have hβ2:∀id g,β id=some g->β2 id=some g:=fun id g e=>by
  have hn:¬(σ.n<=id∧id<σ.n+(G'.length - G.length)):=fun h=>hI id h.1 (by show id<σ.n+(G'.length - G.length)+1;omega) (hR.dom _ _ e)
  simp only [β2,if_neg hn]
  exact e
 have hβρ:∀k g,β' k=some g->β2 (ρ k)=some g:=fun k g e=>by
  have hk:k<G'.length:=hE.dom k g e
  rcases Nat.lt_or_ge k gs.length with h |h
  .
   have hid:=Wg h
   obtain⟨_,h',_,_,e1,_⟩:=hgr k _ hid
   have hγk:γc[k]? =some h':=by simp only [γc,Wp,hid,Option.map_some,e1,Option.getD_some]
   have:=hE.gr k h' hγk
   rw [e] at this
   cases this
   rw [show ρ k=gs[k] from hold k _ hid]
   exact hβ2 _ _ e1
  .
   rw [show ρ k=σ.n+(k - gs.length) from hfresh k h hk]
   have hc:σ.n<=σ.n+(k - gs.length)∧σ.n+(k - gs.length)<σ.n+(G'.length - G.length):=by omega
   simp only [β2,if_pos hc]
   rw [show σ.n+(k - gs.length) - σ.n+gs.length=k by omega]
   exact e
 have hFF:∀b,F b->F2 b:=fun b hb=>hE.sub b (.inl hb)
 have hgran:∀(b:Nat),Gra b->∃id h,id∈gs∧β id=some h∧∃k,σ2.H id=some k∧QS h k b:=fun b h=>h
 have hsame:∀b,b<w.heap.size->¬Gra b->w'.heap[b]? =w.heap[b]? :=fun b h1 h2=>hE.block b h1 h2
 have hFs:∀b,F b->w'.heap[b]? =w.heap[b]? :=fun b hb=>hsame b (hR.news b hb).1 (fun h=>by
  obtain⟨id,g,_,e1,k,e3,e2⟩:=hgran b h
  obtain⟨g',q1,_,q3⟩:=hR.live id k e3
  rw [e1] at q1
  cases q1
  exact(q3 b e2).2.1 hb)
 have hconv:∀h b,b∈G'->YE w' F' β' h b->YE w' F2 β2 h (b.ren ρ):=fun h b hb hk=>hk.ren hβρ
 have hkeys:∀j b,G'[j]? =some b->wrH σ2.H (wrs ρ 0 G') (ρ j)=Jbm (b.ren ρ):=fun j b hj=>by
  refine JjS _ _ _ _ (fun i1 i2 p q h1 h2 e=> ?_) (by have:=Jmk (ρ:=ρ) (k:=0) hj;rwa [Nat.zero_add] at this)
  obtain⟨r1,r2⟩:=Jgi h1
  obtain⟨r3,r4⟩:=Jgi h2
  rw [r1,r3,Nat.zero_add,Nat.zero_add] at e
  exact hρinj _ _ r2 r4 e
 have hother:∀id,¬(∃j,j<G'.length∧id=ρ j)->wrH σ2.H (wrs ρ 0 G') id=σ2.H id:=fun id hn=>JdL _ _ _ (fun hm=>by
  obtain⟨q,hq,e⟩:=List.mem_map.1 hm
  obtain⟨j,b,h1,h2⟩:=JjR hq
  refine hn ⟨j,(List.getElem?_eq_some_iff.1 h1).1,?_⟩
  rw [<-e,h2,Nat.zero_add])
 have hnk:∀id k,σ2.H id=some k->¬(∃j,j<G'.length∧id=ρ j)->∀h i,β id=some h->QS h k i->i<w.heap.size∧¬Gra i:=fun id k hk hn h i e1 e2=>by
  obtain⟨h',q1,_,q3⟩:=hR.live id k hk
  rw [e1] at q1
  cases q1
  refine⟨(q3 i e2).1,fun hg=> ?_⟩
  obtain⟨id',g',r1,r2,k',r4,r3⟩:=hgran i hg
  have:=hR.inj id id' k k' h g' i hk r4 e1 r2 e2 r3
  subst this
  obtain⟨j,hj⟩:=List.getElem?_of_mem r1
  have hjl:=(List.getElem?_eq_some_iff.1 hj).1
  exact hn ⟨j,by omega,(hold j _ hj).symm⟩
 have hkey:∀j b,G'[j]? =some b->Jbm b=some b->∃h,β' j=some h∧β2 (ρ j)=some h∧YE w' F' β' h b∧∀i,QS h b i->i<w'.heap.size∧¬F' i∧C.Mine i∧(Gra i∨w.heap.size<=i):=fun j b hj hlv=>by
  obtain⟨h,e1,e2,e3⟩:=hE.live j b (Jeq hj hlv)
  refine⟨h,e1,hβρ j h e1,e2,fun i hi=> ?_⟩
  obtain⟨f1,f2,f3⟩:=e3 i hi
  rcases f3 with f3 |f3
  .
   obtain⟨id',g',r1,r2,k',r4,r3⟩:=hgran i f3
   obtain⟨g'',q1,_,q3⟩:=hR.live id' k' r4
   rw [r2] at q1
   cases q1
   exact⟨f1,f2,(q3 i r3).2.2,.inl f3⟩
  . exact⟨f1,f2,.inr (Nat.le_trans hR.grow f3),.inr f3⟩
 have hwl:w.heap.size<=w'.heap.size:=hE.grow
 have hres:RV w' F2 β2 (res.ren ρ) v:=by
  have h0:RV w' F' β' res v:=hE.env 0
  exact h0.ren hβρ
 have hmain:RelB C (fun id=>I id∨(σ.n<=id∧id<σ.n+(G'.length - G.length)+1)) { σ2 with H:=wrH σ2.H (wrs ρ 0 G'++Jbz bs) } a w' β2 F2:=by
  have hup:∀id k,wrH σ2.H (wrs ρ 0 G'++Jbz bs) id=some k->id∉bs∧wrH σ2.H (wrs ρ 0 G') id=some k:=fun id k hk=>by
   rw [JjT] at hk
   exact Jhl hk
  refine⟨fun t=>(hR.env t).mono hFF hFs hβ2,hR.size,hR.defers,fun id k hk=> ?_,fun id1 id2 k1 k2 h1 h2 i e1 e2 e3 e4 e5 e6=> ?_,fun id h e=> ?_,fun i h e=>hβ2 _ _ (hR.gr i h e),fun b hb=>hFF b (hR.sub b hb),fun b hb=> ?_,hE.os.trans hR.os,hE.tape.trans hR.tape,hE.output.trans hR.output,Nat.le_trans hR.grow hwl,fun b hb hn=> ?_,fun g=>(hR.glo g).mono hFF hFs (fun _ _ e=>e)⟩
  .
   obtain⟨hnb,hk⟩:=hup id k hk
   by_cases hj:∃j,j<G'.length∧id=ρ j
   .
    obtain⟨j,hj,rfl⟩:=hj
    have hb:=Wg hj
    have:=hkeys j _ hb
    rw [this] at hk
    obtain⟨hlv,rfl⟩:=Jdi hk
    obtain⟨h,e1,e2,e3,e4⟩:=hkey j _ hb hlv
    exact⟨h,e2,hconv h _ (List.getElem_mem _) e3,fun i hi0=>by have hi:=YI.1 hi0;exact⟨(e4 i hi).1,fun hF=>(e4 i hi).2.1 hF,(e4 i hi).2.2.1⟩⟩
   .
    rw [hother id hj] at hk
    obtain⟨h,e1,e2,e3⟩:=hR.live id k hk
    refine⟨h,hβ2 _ _ e1,e2.mono hFF hFs (fun i hi=> ?_) hβ2,fun i hi=>⟨Nat.lt_of_lt_of_le (e3 i hi).1 hwl,fun hF=> ?_,(e3 i hi).2.2⟩⟩
    .
     obtain⟨q1,q2⟩:=hnk id k hk hj h i e1 hi
     exact hsame i q1 q2
    .
     rcases(hE.news i hF).2 with(hq |hq)|hq |hq
     . exact(e3 i hi).2.1 hq
     .
      obtain⟨id2,hid2,h2,k2,f1,f2,f3⟩:=hq
      exact hnb (hR.inj id id2 k k2 h h2 i hk f1 e1 f2 hi f3▸hid2)
     . exact(hnk id k hk hj h i e1 hi).2 hq
     .
      have hq':w.heap.size<=i:=hq
      have:=(e3 i hi).1
      omega
  .
   replace e1:=(hup id1 k1 e1).2
   replace e2:=(hup id2 k2 e2).2
   have hlv:∀j k,j<G'.length->wrH σ2.H (wrs ρ 0 G') (ρ j)=some k->∃b,G'[j]? =some b∧Jbm b=some b∧k=b.ren ρ:=fun j k hj e=>by
    have hb:=Wg hj
    rw [hkeys j _ hb] at e
    exact⟨_,hb,(Jdi e).1,(Jdi e).2⟩
   by_cases hj1:∃j,j<G'.length∧id1=ρ j<;>by_cases hj2:∃j,j<G'.length∧id2=ρ j
   .
    obtain⟨j1,hj1,rfl⟩:=hj1
    obtain⟨j2,hj2,rfl⟩:=hj2
    obtain⟨c1,p1,p2,rfl⟩:=hlv j1 _ hj1 e1
    obtain⟨c2,p3,p4,rfl⟩:=hlv j2 _ hj2 e2
    obtain⟨g1,f1,f2,_⟩:=hkey j1 _ p1 p2
    obtain⟨g2,f3,f4,_⟩:=hkey j2 _ p3 p4
    rw [f2] at e3
    rw [f4] at e4
    cases e3
    cases e4
    rw [hE.inj j1 j2 _ _ _ _ i (Jeq p1 p2) (Jeq p3 p4) f1 f3 (YI.1 e5) (YI.1 e6)]
   .
    obtain⟨j1,hj1,rfl⟩:=hj1
    obtain⟨c1,p1,p2,rfl⟩:=hlv j1 _ hj1 e1
    obtain⟨g1,f1,f2,_,f4⟩:=hkey j1 _ p1 p2
    rw [f2] at e3
    cases e3
    rw [hother id2 hj2] at e2
    obtain⟨h',q1,_⟩:=hR.live id2 k2 e2
    have:=hβ2 _ _ q1
    rw [e4] at this
    cases this
    obtain⟨r1,r2⟩:=hnk id2 k2 e2 hj2 h2 i q1 e6
    rcases(f4 i (YI.1 e5)).2.2.2 with hq |hq
    . exact absurd hq r2
    . omega
   .
    obtain⟨j2,hj2,rfl⟩:=hj2
    obtain⟨c2,p1,p2,rfl⟩:=hlv j2 _ hj2 e2
    obtain⟨g2,f1,f2,_,f4⟩:=hkey j2 _ p1 p2
    rw [f2] at e4
    cases e4
    rw [hother id1 hj1] at e1
    obtain⟨h',q1,_⟩:=hR.live id1 k1 e1
    have:=hβ2 _ _ q1
    rw [e3] at this
    cases this
    obtain⟨r1,r2⟩:=hnk id1 k1 e1 hj1 h1 i q1 e5
    rcases(f4 i (YI.1 e6)).2.2.2 with hq |hq
    . exact absurd hq r2
    . omega
   .
    rw [hother id1 hj1] at e1
    rw [hother id2 hj2] at e2
    obtain⟨h',q1,_⟩:=hR.live id1 k1 e1
    obtain⟨h'',q2,_⟩:=hR.live id2 k2 e2
    have r1:=hβ2 _ _ q1
    have r2:=hβ2 _ _ q2
    rw [e3] at r1
    rw [e4] at r2
    cases r1
    cases r2
    exact hR.inj id1 id2 k1 k2 h1 h2 i e1 e2 q1 q2 e5 e6
  .
   simp only [β2] at e
   split at e
   .
    rename_i hc
    exact .inr ⟨hc.1,by omega⟩
   . exact .inl (hR.dom id h e)
  .
   obtain⟨h1,h2⟩:=hE.news b hb
   refine⟨h1,?_⟩
   rcases h2 with(h2 |h2)|h2 |h2
   . exact(hR.news b h2).2
   .
    obtain⟨id2,hid2,g2,k2,f1,f2,f3⟩:=h2
    obtain⟨g',q1,_,q3⟩:=hR.live id2 k2 f1
    rw [f2] at q1
    cases q1
    exact .inr (q3 b f3).2.2
   .
    obtain⟨id',g',r1,r2,k',r4,r3⟩:=hgran b h2
    obtain⟨g'',q1,_,q3⟩:=hR.live id' k' r4
    rw [r2] at q1
    cases q1
    exact .inr (q3 b r3).2.2
   . exact .inr (.inr (Nat.le_trans hR.grow h2))
  .
   rw [hsame b (Nat.lt_of_lt_of_le hb hR.grow) (fun hg=>by
    obtain⟨id,g',_,r2,k',r4,r3⟩:=hgran b hg
    obtain⟨g'',q1,_,q3⟩:=hR.live id k' r4
    rw [r2] at q1
    cases q1
    rcases(q3 b r3).2.2 with hq |hq
    . exact hn hq
    . omega)]
   exact hR.block b hb hn
 exact⟨β2,F2,(hmain.put o.dst (res.ren ρ) v hdd hres).fin rfl rfl (fun i hi=>hi)⟩
end Go.Proofs.YtehhohbnhcogkaaGreatDoor.Ax
namespace Go.Proofs.YtehhohbnhcogkaaGreatDoor.Ax
open Go.RowKit
variable {c cs:List AV} {j g id sz i:Nat} {P:Program} {tab:Tab} {t:TypeId} {ti:TI} {w:World} {β:Nat->Option Hdr} {x p:Operand} {o:Oper} {σ:ASt} {xs:List (List AV)}
def Zr (c:List AV) (j:Nat) (cs:List AV):List AV:=c.take j++(cs++c.drop (j+cs.length))
theorem Jf3 (h:j+cs.length<=c.length):(Zr c j cs).length=c.length:=by
 unfold Zr
 simp only [List.length_append,List.length_take,List.length_drop]
 omega
theorem ZA {α:Type} {c cs:List α} (h:j+cs.length<=c.length) (p:Nat):(c.take j++(cs++c.drop (j+cs.length)))[p]? =if p<j then c[p]? else if p<j+cs.length then cs[p - j]? else c[p]? :=by
 have hl:(c.take j).length=j:=by rw [List.length_take];omega
 by_cases h1:p<j
 . rw [if_pos h1,Wc (by omega),List.getElem?_take,if_pos h1]
 .
  rw [if_neg h1,List.getElem?_append_right (by omega),hl]
  by_cases h2:p<j+cs.length
  . rw [if_pos h2,Wc (by omega)]
  .
   rw [if_neg h2,List.getElem?_append_right (by omega),List.getElem?_drop]
   congr 1
   omega
theorem JeA (hT:J0 P tab) (ht:tab t=some ti) {off:Nat} {cur:Array Value} {ty:TypeId} (hg:w.heap[g]? =some (.cells cur ty (0,0))) {v:Value} (hv:v.cells.size=ti.size)
  (h1:∀u∈v.cells.toList,u.oneCell'=true) (hl:off+ti.size<=cur.size):
  (storeVar t ⟨g,off,none⟩ v).run P w= .ok () (w.setRow g (cur.toList.take off++v.cells.toList++cur.toList.drop (off+v.cells.toList.length)).toArray):=by
 obtain⟨i,d,z,e1,_,_,_,e2,_,_⟩:=JP (hT t ti ht)
 have hst:=run_storeCells_at P g off ty v.cells.toList 0 cur w hg (by simp;omega) h1
 simp only [Nat.add_zero] at hst
 have hne:¬v.cells.size≠i.size:=by rw [hv,e2];exact fun h=>h rfl
 simp only [storeVar,Sem.run_bind,Qt w e1,Result.andThen_ok]
 rw [if_neg hne]
 simp [hst]
theorem Jex {F:Nat->Prop} {x:AV} {v:Value} (h:RV w F β x v) (hx:x.okc=true) (h1:x.cells.all AV.one=true):RVs w F β x.cells v.cells∧∀u∈v.cells.toList,u.oneCell'=true:=by
 have hr:=h.cells hx
 refine⟨hr,fun u hu=> ?_⟩
 obtain⟨k,hk,he⟩:=List.getElem_of_mem hu
 have hk':k<x.cells.length:=by rw [hr.1];simpa using hk
 have e1:=Wg hk'
 have:=hr.2 k _ u e1 (by rw [<-Wu,Wg hk,he])
 rw [List.all_eq_true] at h1
 exact(this.oneCell (h1 _ (List.getElem_mem _))).1
theorem Joo {P:Program} (hT:J0 P tab) (ho:o.op= .store t p x) (ht:tab t=some ti) (hp:ev σ.env p= .ptr id j) (hH:σ.H id=some (.box c))
  (hx:(ev σ.env x).okc=true) (h1:(ev σ.env x).cells.all AV.one=true) (hs:(ev σ.env x).cells.length=ti.size) (hl:j+ti.size<=c.length):YD P g o σ ⟨.any,[(id,some (.box (Zr c j (ev σ.env x).cells)))],[],σ.n⟩:=by
 refine⟨Nat.le_refl _,fun C I σ2 a w K Q hC hxs hH2 hI hd hR hK=> ?_⟩
 obtain⟨β,F,hR⟩:=hR
 have hv:=hxs p (by simp [ho,Op.operands]) _ _ _ _ (hR.ev p)
 have hu:=hxs x (by simp [ho,Op.operands]) _ _ _ _ (hR.ev x)
 rw [hp] at hv
 have hH':σ2.H id=some (.box c):=by rw [hH2 id (by simp)];exact hH
 obtain⟨h,e1,e2,e3⟩:=hR.live id _ hH'
 obtain⟨b,arr,ty,q1,q2,q3,q4⟩:=e2
 obtain⟨r1,r2⟩:=Jex hu hx h1
 generalize hpv:a.eval p=pv at hv
 cases hv with
 |ptr _ _ b' h' f1 f2=>
  rw [e1] at f1
  cases f1
  rw [q1] at f2
  cases f2
  have hsz:(a.eval x).cells.size=ti.size:=by rw [<-r1.1];exact hs
  have hrun:=JeA (P:=P) hT ht q2 (off:=j) hsz r2 (by omega)
  refine Jde (w':=w.setRow b (arr.toList.take j++(a.eval x).cells.toList++arr.toList.drop (j+(a.eval x).cells.toList.length)).toArray) ?_ (hK _ _ ⟨β,F,?_⟩)
  .
   simp [execOp,ho,hpv,Instr.storeAt,Instr.sureAddr]
   simpa using congrArg (fun r=>r.andThen fun _ w'=>Result.ok Next.skip w') hrun
  .
   obtain⟨d4,d5,d6⟩:=e3 _ (.inl q1)
   have hFw:∀k,F k->(w.setRow b (arr.toList.take j++(a.eval x).cells.toList++arr.toList.drop (j+(a.eval x).cells.toList.length)).toArray).heap[k]? =w.heap[k]? :=fun k hk=>(QV w b _).block k (hR.news k hk).1 (fun e=>d5 (by cases e;exact hk))
   have hblk:YE (w.setRow b (arr.toList.take j++(a.eval x).cells.toList++arr.toList.drop (j+(a.eval x).cells.toList.length)).toArray) F β h (.box (Zr c j (ev σ.env x).cells)):=by
    refine⟨b,_,ty,q1,setRow_heap w b arr _ ty _ q2,?_,fun k u v hu' hv'=> ?_⟩
    .
     rw [Jf3 (by omega)]
     simp only [List.size_toArray,List.length_append,List.length_take,List.length_drop,Array.length_toList]
     omega
    .
     unfold Zr at hu'
     rw [ZA (by omega)] at hu'
     rw [List.append_assoc,List.getElem?_toArray,ZA (by simp;omega)] at hv'
     simp only [Array.length_toList,<-r1.1] at hv'
     split at hu'
     .
      rename_i hk
      rw [if_pos hk,Wu] at hv'
      exact(q4 k u v hu' hv').mono (fun _ x=>x) hFw (fun _ _ x=>x)
     .
      rename_i hk
      rw [if_neg hk] at hv'
      split at hu'
      .
       rename_i hk2
       rw [if_pos hk2,Wu] at hv'
       exact(r1.2 _ u v hu' hv').mono (fun _ x=>x) hFw (fun _ _ x=>x)
      .
       rename_i hk2
       rw [if_neg hk2,Wu] at hv'
       exact(q4 k u v hu' hv').mono (fun _ x=>x) hFw (fun _ _ x=>x)
   exact((hR.write hH' e1 q1 (QV w b _) _ hblk).put o.dst .any undef hd (.any _)).fin rfl rfl (fun i hi=> .inl hi)
theorem Jjc {P:Program} (hT:J0 P tab) {C:Ctx} {I:Nat->Prop} {σ2:ASt} {a:Act} {F:Nat->Prop} (hR:RelB C I σ2 a w β F) (ho:o.op= .store t p x) (ht:tab t=some ti)
  (hv:RV w F β (.eptr id sz i j) (a.eval p)) (hH':σ2.H id=some (.row sz xs)) (hc:xs[i]? =some c) (r1:RVs w F β cs (a.eval x).cells) (r2:∀u∈(a.eval x).cells.toList,u.oneCell'=true) (h1:cs.all AV.one=true) (hs:cs.length=ti.size) (hl:j+ti.size<=c.length):
  ∃w',(execOp a.eval o).run P w= .ok .skip w'∧RelB C I { σ2 with H:=ZI σ2.H id (some (.row sz (xs.set i (Zr c j cs)))) } a w' β F:=by
 obtain⟨h,e1,e2,e3⟩:=hR.live id _ hH'
 obtain⟨k1,k2,k3,k4,k5,k6⟩:=e2
 generalize hpv:a.eval p=pv at hv
 cases hv with
 |eptr _ _ _ _ b h' f1 f2=>
  rw [e1] at f1
  cases f1
  obtain⟨arr,ty,q2,q3,q4⟩:=k6 b f2
  obtain⟨d4,d5,d6⟩:=e3 b (.inl f2)
  have hi:i<xs.length:=(List.getElem?_eq_some_iff.1 hc).1
  have hcl:=(k5 i c hc).1
  have hb1:i*sz+(j+ti.size)<=arr.size:=by
   have:(i+1)*sz<=h.cap*sz:=Nat.mul_le_mul_right _ (by omega)
   rw [Nat.succ_mul] at this
   omega
  have hsz:(a.eval x).cells.size=ti.size:=by rw [<-r1.1];exact hs
  have hrun:=JeA (P:=P) hT ht q2 (off:=i*sz+j) hsz r2 (by omega)
  generalize hA:(arr.toList.take (i*sz+j)++(a.eval x).cells.toList++arr.toList.drop (i*sz+j+(a.eval x).cells.toList.length)).toArray=A at hrun
  have hAt:∀p,A[p]? =if p<i*sz+j then arr[p]? else if p<i*sz+j+ti.size then (a.eval x).cells[p - (i*sz+j)]? else arr[p]? :=fun p=>by
   rw [<-hA,List.append_assoc,List.getElem?_toArray,ZA (by simp;omega)]
   simp only [Array.length_toList,hsz,Wu]
  have hAs:A.size=arr.size:=by
   rw [<-hA]
   simp only [List.size_toArray,List.length_append,List.length_take,List.length_drop,Array.length_toList]
   omega
  refine⟨w.setRow b A,?_,?_⟩
  .
   simp [execOp,ho,hpv,Instr.storeAt,Instr.sureAddr]
   simpa using congrArg (fun r=>r.andThen fun _ w'=>Result.ok Next.skip w') hrun
  .
   have hFw:∀k,F k->(w.setRow b A).heap[k]? =w.heap[k]? :=fun k hk=>(QV w b _).block k (hR.news k hk).1 (fun e=>d5 (by cases e;exact hk))
   have hblk:YE (w.setRow b A) F β h (.row sz (xs.set i (Zr c j cs))):=by
    refine⟨by rw [List.length_set];exact k1,by rw [List.length_set];exact k2,k3,k4,fun k c' hk=> ?_,fun b' e=> ?_⟩
    .
     by_cases hik:i=k
     .
      subst hik
      rw [List.getElem?_set_self hi] at hk
      cases hk
      refine⟨by rw [Jf3 (by omega)];exact hcl,fun u hu=> ?_⟩
      obtain⟨q,hq,he⟩:=List.getElem_of_mem hu
      have hq':=Wg hq
      rw [he] at hq'
      unfold Zr at hq'
      rw [ZA (by omega)] at hq'
      rw [List.all_eq_true] at h1
      split at hq'
      . exact(k5 i c hc).2 u (Wm hq')
      .
       split at hq'
       . exact h1 u (Wm hq')
       . exact(k5 i c hc).2 u (Wm hq')
     .
      rw [List.getElem?_set_ne hik] at hk
      exact k5 k c' hk
    .
     rw [f2] at e
     cases e
     refine⟨A,ty,setRow_heap w b arr A ty _ q2,by rw [hAs];exact q3,fun k c' m u hk hm=> ?_⟩
     by_cases hik:i=k
     .
      subst hik
      rw [List.getElem?_set_self hi] at hk
      cases hk
      unfold Zr at hm
      rw [ZA (by omega)] at hm
      split at hm
      .
       rename_i h2
       obtain⟨v,s1,s2⟩:=q4 i c m u hc hm
       exact⟨v,by rw [hAt,if_pos (by omega)];exact s1,s2.mono (fun _ x=>x) hFw (fun _ _ x=>x)⟩
      .
       rename_i h2
       split at hm
       .
        rename_i h3
        obtain⟨v,s1,s2⟩:=r1.at hm
        exact⟨v,by rw [hAt,if_neg (by omega),if_pos (by omega),show i*sz+m - (i*sz+j)=m - j by omega];exact s1,s2.mono (fun _ x=>x) hFw (fun _ _ x=>x)⟩
       .
        rename_i h3
        obtain⟨v,s1,s2⟩:=q4 i c m u hc hm
        exact⟨v,by rw [hAt,if_neg (by omega),if_neg (by omega)];exact s1,s2.mono (fun _ x=>x) hFw (fun _ _ x=>x)⟩
     .
      rw [List.getElem?_set_ne hik] at hk
      obtain⟨v,s1,s2⟩:=q4 k c' m u hk hm
      refine⟨v,?_,s2.mono (fun _ x=>x) hFw (fun _ _ x=>x)⟩
      have hm':=(List.getElem?_eq_some_iff.1 hm).1
      rw [(k5 k c' hk).1] at hm'
      have hout:k*sz+m<i*sz+j∨i*sz+j+ti.size<=k*sz+m:=by
       rcases Nat.lt_or_ge k i with hlt |hge
       .
        have:(k+1)*sz<=i*sz:=Nat.mul_le_mul_right _ hlt
        rw [Nat.succ_mul] at this
        omega
       .
        have:(i+1)*sz<=k*sz:=Nat.mul_le_mul_right _ (by omega)
        rw [Nat.succ_mul] at this
        omega
      rw [hAt]
      rcases hout with ho' |ho'
      . rw [if_pos ho'];exact s1
      . rw [if_neg (by omega),if_neg (by omega)];exact s1
   exact hR.write hH' e1 f2 (QV w b _) _ hblk
theorem Jom (hT:J0 P tab) (ho:o.op= .store t p x) (ht:tab t=some ti) (hp:ev σ.env p= .eptr id sz i j) (hH:σ.H id=some (.row sz xs)) (hc:xs[i]? =some c)
  (hx:(ev σ.env x).okc=true) (h1:(ev σ.env x).cells.all AV.one=true) (hs:(ev σ.env x).cells.length=ti.size) (hl:j+ti.size<=c.length):YD P g o σ ⟨.any,[(id,some (.row sz (xs.set i (Zr c j (ev σ.env x).cells))))],[],σ.n⟩:=by
 refine⟨Nat.le_refl _,fun C I σ2 a w K Q hC hxs hH2 hI hd hR hK=> ?_⟩
 obtain⟨β,F,hR⟩:=hR
 have hv:=hxs p (by simp [ho,Op.operands]) _ _ _ _ (hR.ev p)
 have hu:=hxs x (by simp [ho,Op.operands]) _ _ _ _ (hR.ev x)
 rw [hp] at hv
 have hH':σ2.H id=some (.row sz xs):=by rw [hH2 id (by simp)];exact hH
 obtain⟨r1,r2⟩:=Jex hu hx h1
 obtain⟨w',hrun,hrel⟩:=Jjc hT hR ho ht hv hH' hc r1 r2 h1 hs hl
 exact Jde (w':=w') hrun (hK _ _ ⟨β,F,(hrel.put o.dst .any undef hd (.any _)).fin rfl rfl (fun i hi=> .inl hi)⟩)
def Jtk (H:Nat->Option ABlk) (β:Nat->Option Hdr) (bs:List Nat) (b:Nat):Prop:=∃id∈bs,∃h k,H id=some k∧β id=some h∧QS h k b
theorem RelB.freezeL {C:Ctx} {I:Nat->Prop} {a:Act} {F:Nat->Prop} (h:RelB C I σ a w β F) (bs:List Nat) (H':Nat->Option ABlk) (hH:∀id,H' id=if id∈bs then none else σ.H id):RelB C I { σ with H:=H' } a w β (fun b=>F b∨Jtk σ.H β bs b):=by
 have old:∀{id1 k1},H' id1=some k1->id1∉bs∧σ.H id1=some k1:=fun {id1 k1} e=>by
  rw [hH] at e
  split at e
  . cases e
  . exact⟨‹_›,e⟩
 have hF:∀b,F b->F b∨Jtk σ.H β bs b:=fun b hb=> .inl hb
 refine⟨fun t=>(h.env t).mono hF (fun _ _=>rfl) (fun _ _ e=>e),h.size,h.defers,fun id1 k1 e1=> ?_,fun id1 id2 k1 k2 g1 g2 i e1 e2=>h.inj id1 id2 k1 k2 g1 g2 i (old e1).2 (old e2).2,h.dom,h.gr,fun b hb=> .inl (h.sub b hb),fun b hb=> ?_,h.os,h.tape,h.output,h.grow,h.block,fun g=>(h.glo g).mono hF (fun _ _=>rfl) (fun _ _ e=>e)⟩
 .
  obtain⟨o1,o2⟩:=old e1
  obtain⟨g1,s1,s2,s3⟩:=h.live id1 k1 o2
  refine⟨g1,s1,s2.mono hF (fun _ _=>rfl) (fun _ _=>rfl) (fun _ _ e=>e),fun b hb=>⟨(s3 b hb).1,fun hF'=> ?_,(s3 b hb).2.2⟩⟩
  rcases hF' with hF' |⟨id2,hid2,g2,k2,q1,q2,q3⟩
  . exact(s3 b hb).2.1 hF'
  . exact o1 (h.inj id1 id2 k1 k2 g1 g2 b o2 q1 s1 q2 hb q3▸hid2)
 .
  rcases hb with hb |⟨id2,hid2,g2,k2,q1,q2,q3⟩
  . exact h.news b hb
  .
   obtain⟨g3,s1,_,s3⟩:=h.live id2 k2 q1
   rw [q2] at s1
   cases s1
   exact⟨(s3 b q3).1,.inr (s3 b q3).2.2⟩
def Jvb (H:Nat->Option ABlk) (c c':List AV) (ids:List Nat):Prop:=c.length=c'.length∧∀(j:Nat) (u u':AV),c[j]? =some u->c'[j]? =some u'->ArgR H [] [] ids u u'
theorem Jg5:∀(bs:List Nat) (H:Nat->Option ABlk) (id:Nat),wrH H (Jbz bs) id=if id∈bs then none else H id
 |[],H,id=>by simp [Jbz,wrH]
 |i::l,H,id=>by
  simp only [Jbz,wrH]
  rw [Jg5 l]
  by_cases h1:id∈l
  . simp [h1]
  .
   rw [if_neg h1]
   by_cases h2:id=i
   . subst h2;simp [Qk]
   . rw [YW _ _ h2];simp [h1,h2]
theorem Jon (hT:J0 P tab) {ids:List Nat} (ho:o.op= .store t p x) (ht:tab t=some ti) (hp:ev σ.env p= .eptr id sz i j) (hH:σ.H id=some (.row sz xs)) (hc:xs[i]? =some c)
  (hx:(ev σ.env x).okc=true) (h1:(ev σ.env x).cells.all AV.one=true) (h2:cs.all AV.one=true) (hs:cs.length=ti.size) (hl:j+ti.size<=c.length) (hz:Jvb σ.H (ev σ.env x).cells cs ids) (hid:id∉ids):
  YD P g o σ ⟨.any,Jbz ids++[(id,some (.row sz (xs.set i (Zr c j cs))))],ids,σ.n⟩:=by
 refine⟨Nat.le_refl _,fun C I σ2 a w K Q hC hxs hH2 hI hd hR hK=> ?_⟩
 obtain⟨β,F,hR⟩:=hR
 have hv:=hxs p (by simp [ho,Op.operands]) _ _ _ _ (hR.ev p)
 have hu:=hxs x (by simp [ho,Op.operands]) _ _ _ _ (hR.ev x)
 rw [hp] at hv
 have hH':σ2.H id=some (.row sz xs):=by rw [hH2 id (by simp)];exact hH
 obtain⟨r1,r2⟩:=Jex hu hx h1
 have hF:=hR.freezeL ids (wrH σ2.H (Jbz ids)) (Jg5 ids σ2.H)
 have hb1:∀i∈ids,∀k,σ.H i=some k->∃g,β i=some g∧YE w F β g k∧∀b,QS g k b->F b∨Jtk σ2.H β ids b:=fun i hi k hk=>by
  rw [<-hH2 i (by simp [hi])] at hk
  obtain⟨h,e1,e2,_⟩:=hR.live i k hk
  exact⟨h,e1,e2,fun b hb=> .inr ⟨i,hi,h,k,hk,e1,hb⟩⟩
 have hrv:RVs w (fun b=>F b∨Jtk σ2.H β ids b) β cs (a.eval x).cells:=⟨hz.1▸r1.1,fun k u' v hu' hv'=>by
  have hj:k<(ev σ.env x).cells.length:=by rw [hz.1];exact(List.getElem?_eq_some_iff.1 hu').1
  exact(hz.2 k _ u' (Wg hj) hu').rv (fun b hb=> .inl hb) (fun k id g e=>by simp at e) (fun k hk=>by simp at hk) hb1 (r1.2 k _ v (Wg hj) hv')⟩
 obtain⟨w',hrun,hrel⟩:=Jjc hT hF ho ht (hv.mono (fun b hb=> .inl hb) (fun _ _=>rfl) (fun _ _ e=>e)) (by show wrH σ2.H (Jbz ids) id=_;rw [Jg5,if_neg hid];exact hH') hc hrv r2 h2 hs hl
 refine Jde (w':=w') hrun (hK _ _ ⟨β,_,(hrel.put o.dst .any undef hd (.any _)).fin rfl ?_ (fun i hi=> .inl hi)⟩)
 show wrH σ2.H (Jbz ids++[(id,_)])=ZI (wrH σ2.H (Jbz ids)) id _
 rw [JjT]
 rfl
end Go.Proofs.YtehhohbnhcogkaaGreatDoor.Ax
namespace Go.Proofs.YtehhohbnhcogkaaGreatDoor.Ax
open Go.RowKit
theorem Jjl {H:Nat->Option ABlk} {id:Nat} {k:ABlk} (h:H id=some k):ZI H id (some k)=H:=by
 funext u
 by_cases e:u=id
 . subst e;rw [Qk,h]
 . rw [YW _ _ e]
theorem JiR {P:Program} (w:World) (dT sT ty elem:TypeId) (i:TypeInfo) (b dLen dCap:Nat) (a:Option Addr) (n c:Nat) (cur:Array Value) (t:TypeId) (cs:List Value)
  (hu:P.underlying dT=some (.slice elem)) (hi:P.info? elem=some i) (hg:w.heap[b]? =some (.cells cur t (0,0))) (hn:n<=dLen) (hf:(Builtin.firstCells i.size n (.slice a n c)).run P w= .ok cs.toArray w)
  (hfit:cs.length<=cur.size) (h1:∀v∈cs,v.oneCell'=true):
  (Builtin.copy_ #[dT,sT] ty #[.slice (some ⟨b,0,none⟩) dLen dCap,.slice a n c]).run P w= .ok (goInt n) (w.setRow b (cs++cur.toList.drop cs.length).toArray):=by
 have hst:=run_storeCells_at P b 0 t cs 0 cur w hg (by simpa using hfit) h1
 have hm:Nat.min n dLen=n:=Nat.min_eq_left hn
 simp [Builtin.copy_,run_underlying hu,Builtin.lenOf,sizeOf,typeInfo,hi,hm,hf,hst]
theorem JiQ {P:Program} (w:World) (dT sT ty elem:TypeId) (i:TypeInfo) (a:Option Addr) (c:Nat)
  (hu:P.underlying dT=some (.slice elem)) (hi:P.info? elem=some i) (cs:List Value) (hf:(Builtin.firstCells i.size 0 (.slice a 0 c)).run P w= .ok cs.toArray w):
  (Builtin.copy_ #[dT,sT] ty #[.slice none 0 0,.slice a 0 c]).run P w= .ok (goInt 0) w:=by
 simp [Builtin.copy_,run_underlying hu,Builtin.lenOf,sizeOf,typeInfo,hi,hf]
theorem JsD {P:Program} {tab:Tab} (hT:J0 P tab) {g:Nat} {o:Oper} {σ:ASt} {d x:Operand} {t t' e:TypeId} {ti:TI} {sz eb id:Nat} {ez:List AV} {xs ys:List (List AV)} {ids:List Nat}
  (ho:o.op= .call { callee:= .builtin .copy,args:= #[d,x],argTypes:= #[t,t'] }) (ht:tab t=some ti) (hd:ti.d= .slc e sz eb ez) (hez:ez.length=sz)
  (hs:ev σ.env d= .osl id) (hH0:σ.H id=some (.row sz xs)) (hx:Ji7 σ.H (ev σ.env x) sz ys ids) (hle:ys.length<=xs.length):
  YD P g o σ ⟨.int .i64 (ys.length:Nat),[(id,some (.row sz (ys++xs.drop ys.length)))],ids,σ.n⟩:=by
 refine⟨Nat.le_refl _,fun C I σ2 a w K Q hC hxs hH hI hdd hR hK=> ?_⟩
 obtain⟨β,F,hR⟩:=hR
 have e1:=hxs d (by simp [ho,Op.operands,Call.operands])
 have e2:=hxs x (by simp [ho,Op.operands,Call.operands])
 have hx2:=Jer hx (H2:=σ2.H) (fun id hid=>hH id (by simp [hid]))
 have v1:=e1 _ _ _ _ (hR.ev d)
 have v2:=e2 _ _ _ _ (hR.ev x)
 rw [hs] at v1
 have hH':σ2.H id=some (.row sz xs):=by rw [hH id (by simp)];exact hH0
 obtain⟨i0,d0,z0,_,k1,_,_,_,_,k2⟩:=JP (hT t ti ht)
 rw [hd] at k2
 obtain⟨i,z,rfl,k3,rfl,rfl,k4,rfl⟩:=JaD k2.symm
 obtain⟨xa,xc,news,hxv,hxa,hfl,hcells⟩:=Jbd hx2 (hR.known ids) v2
 have hfirst:=Jg7 (P:=P) hxa hfl hcells (c:=xc)
 obtain⟨h,f1,f2,f3⟩:=hR.live id _ hH'
 have hblk:=f2
 obtain⟨q1,q2,q3,q4,q5,q6⟩:=f2
 generalize hdv:a.eval d=dv at v1
 cases v1 with
 |osl _ h' g1=>
  rw [f1] at g1
  cases g1
  cases hb:h.blk with
  |none=>
   have hc0:=q4 hb
   have hx0:xs=[]:=Wz (by omega)
   subst hx0
   have hy0:ys=[]:=Wz (by simpa using hle)
   subst hy0
   have hl0:h.len=0:=by simpa using q1
   have hrun:=JiQ (P:=P) w t t' o.type e i xa xc k1 k3 news hfirst
   refine upon_value (u:=goInt 0) (w':=w) ?_ (hK _ _ ⟨β,F,?_⟩)
   .
    simp only [List.length_nil] at hxv
    simp [execOp,ho,resolve,invoke,builtin,hdv,hxv,hb,J5,hl0,hc0,hrun]
   . exact(hR.put o.dst (.int .i64 ((0:Nat):Int)) (goInt 0) hdd (.int _ _)).fin rfl (by simp only [List.nil_append,List.length_nil,List.drop_zero,ASt.app,wrH];exact Jjl hH') (fun i hi=>Or.inl hi)
  |some b=>
   obtain⟨arr,ty',r1,r2,r3⟩:=q6 b hb
   have hfit:news.length<=arr.size:=by
    rw [hfl.1]
    exact Nat.le_trans (Nat.mul_le_mul_right _ (by omega)) r2
   have hrun:=JiR (P:=P) w t t' o.type e i b h.len h.cap xa ys.length xc arr ty' news k1 k3 r1 (by omega) hfirst hfit hfl.one
   have hS:=QV w b (news++arr.toList.drop news.length).toArray
   obtain⟨d4,d5,d6⟩:=f3 b (.inl hb)
   have hFw:∀k,F k->(w.setRow b (news++arr.toList.drop news.length).toArray).heap[k]? =w.heap[k]? :=fun k hk=>hS.block k (hR.news k hk).1 (fun e=>d5 (by cases e;exact hk))
   have hnew:YE (w.setRow b (news++arr.toList.drop news.length).toArray) F β h (.row i.size (ys++xs.drop ys.length)):=by
    have el:∀(k:Nat) (c:List AV),(ys++xs.drop ys.length)[k]? =some c->(k<ys.length∧ys[k]? =some c)∨(ys.length<=k∧xs[k]? =some c):=fun k c hk=>by
     by_cases hlt:k<ys.length
     . rw [Wc hlt] at hk;exact .inl ⟨hlt,hk⟩
     .
      rw [List.getElem?_append_right (by omega),List.getElem?_drop,show ys.length+(k - ys.length)=k by omega] at hk
      exact .inr ⟨by omega,hk⟩
    have hlen:(ys++xs.drop ys.length).length=xs.length:=by simp;omega
    refine⟨by rw [hlen];exact q1,by rw [hlen];exact q2,q3,q4,fun k c hk=> ?_,fun b' e=> ?_⟩
    .
     rcases el k c hk with⟨_,h1⟩|⟨_,h1⟩
     . exact hfl.2.1 _ _ h1
     . exact q5 _ _ h1
    .
     rw [hb] at e
     cases e
     refine⟨_,ty',setRow_heap w b arr _ ty' _ r1,?_,fun k c j u hk hj=> ?_⟩
     .
      simp only [List.size_toArray,List.length_append,List.length_drop,Array.length_toList]
      omega
     .
      rcases el k c hk with⟨hlt,h1⟩|⟨hlt,h1⟩
      .
       obtain⟨v,s1,s2⟩:=hfl.2.2 k c j u h1 hj
       have hp:=(List.getElem?_eq_some_iff.1 s1).1
       exact⟨v,by rw [List.getElem?_toArray,Wc hp];exact s1,s2.mono (fun _ x=>x) hFw (fun _ _ x=>x)⟩
      .
       obtain⟨v,s1,s2⟩:=r3 k c j u h1 hj
       have hle':news.length<=k*i.size+j:=by
        rw [hfl.1]
        exact Nat.le_trans (Nat.mul_le_mul_right _ hlt) (Nat.le_add_right _ _)
       refine⟨v,?_,s2.mono (fun _ x=>x) hFw (fun _ _ x=>x)⟩
       rw [List.getElem?_toArray,List.getElem?_append_right hle',List.getElem?_drop,show news.length+(k*i.size+j - news.length)=k*i.size+j by omega,Wu]
       exact s1
   refine upon_value (u:=goInt ys.length) (w':=w.setRow b (news++arr.toList.drop news.length).toArray) ?_ (hK _ _ ⟨β,F,?_⟩)
   . simp [execOp,ho,resolve,invoke,builtin,hdv,hxv,hb,J5,hrun]
   . exact((hR.write hH' f1 hb hS _ hnew).put o.dst (.int .i64 ((ys.length:Nat):Int)) _ hdd (.int _ _)).fin rfl rfl (fun i hi=>Or.inl hi)
end Go.Proofs.YtehhohbnhcogkaaGreatDoor.Ax
namespace Go.Proofs.YtehhohbnhcogkaaGreatDoor.Ax
open Go.RowKit
def eq1:AV->AV->Option Bool
 | .int k a,.int k' b=>if k=k' then some (a==b) else none
 | .str a,.str b=>some (a.toList==b.toList)
 | .bool a,.bool b=>some (a==b)
 | .bool a,.tru=>some (a==true)
 | .bool a,.fls=>some (a==false)
 | .tru,.bool b=>some (true==b)
 | .fls,.bool b=>some (false==b)
 | .tru,.tru=>some true
 | .fls,.fls=>some true
 | .tru,.fls=>some false
 | .fls,.tru=>some false
 |_,_=>none
def Yw:List AV->List AV->Option Bool
 |[],[]=>some true
 |x::l,y::m=>match eq1 x y,Yw l m with
  |some b,some r=>some (b&&r)
  |_,_=>none
 |_,_=>none
theorem Jfp:∀{c d:List AV} {r:Bool},Yw c d=some r->c.length=d.length
 |[],[],_,_=>rfl
 |x::l,y::m,r,h=>by
  simp only [Yw] at h
  split at h
  . rename_i _ e;simp [Jfp e]
  . cases h
 |[],y::m,r,h=>by simp [Yw] at h
 |x::l,[],r,h=>by simp [Yw] at h
theorem JfV:∀(n:Nat) {c d:List AV} {r:Bool},Yw c d=some r->∃r1 r2,Yw (c.take n) (d.take n)=some r1∧Yw (c.drop n) (d.drop n)=some r2∧r=(r1&&r2)
 |0,c,d,r,h=>⟨true,r,by simp [Yw],by simpa using h,by simp⟩
 |n+1,[],[],r,h=>⟨true,r,by simp [Yw],by simpa using h,by simp⟩
 |n+1,x::l,y::m,r,h=>by
  simp only [Yw] at h
  split at h
  .
   rename_i b r' e1 e2
   cases h
   obtain⟨r1,r2,h1,h2,h3⟩:=JfV n e2
   exact⟨b&&r1,r2,by simp [Yw,e1,h1],by simpa using h2,by rw [h3,Bool.and_assoc]⟩
  . cases h
 |n+1,[],y::m,r,h=>by simp [Yw] at h
 |n+1,x::l,[],r,h=>by simp [Yw] at h
def JfX (P:Program) (t:TypeId) (w:World) (F:Nat->Prop) (β:Nat->Option Hdr) (c:List AV) (x:Value):Prop:=
 match P.underlying t with
 |some (.struct _)=>∃cs,x= .agg cs∧RVs w F β c cs
 |_=>∃u,c=[u]∧RV w F β u x
theorem Js2 {P:Program} {t:TypeId} {w w':World} {F:Nat->Prop} {β:Nat->Option Hdr} {u v:AV} {x y:Value} {r:Bool} (hu:RV w F β u x) (hv:RV w F β v y) (h:eq1 u v=some r) (d:Nat)
  (ht:(∃k,P.underlying t=some (.int k))∨P.underlying t=some .string∨P.underlying t=some .bool) (hk:(∀k n,u= .int k n->∃k,P.underlying t=some (.int k))∧(∀s,u= .str s->P.underlying t=some .string)∧((u= .tru∨u= .fls∨∃b,u= .bool b)->P.underlying t=some .bool)):(Op.equalIn (d+1) t x y).run P w'= .ok r w':=by
 unfold eq1 at h
 split at h
 .
  split at h
  . rename_i e;subst e;cases h;cases hu;cases hv;obtain⟨k,hk⟩:=hk.1 _ _ rfl;exact run_equalIn_int w' d t _ _ _ _ hk
  . cases h
 . cases h;cases hu;cases hv;exact run_equalIn_string w' d t _ _ (hk.2.1 _ rfl)
 . cases h;cases hu;cases hv;exact run_equalIn_bool w' d t _ _ (hk.2.2 (.inr (.inr ⟨_,rfl⟩)))
 . cases h;cases hu;cases hv;exact run_equalIn_bool w' d t _ _ (hk.2.2 (.inr (.inr ⟨_,rfl⟩)))
 . cases h;cases hu;cases hv;exact run_equalIn_bool w' d t _ _ (hk.2.2 (.inr (.inr ⟨_,rfl⟩)))
 . cases h;cases hu;cases hv;exact run_equalIn_bool w' d t _ _ (hk.2.2 (.inl rfl))
 . cases h;cases hu;cases hv;exact run_equalIn_bool w' d t _ _ (hk.2.2 (.inr (.inl rfl)))
 . cases h;cases hu;cases hv;exact run_equalIn_bool w' d t _ _ (hk.2.2 (.inl rfl))
 . cases h;cases hu;cases hv;exact run_equalIn_bool w' d t _ _ (hk.2.2 (.inr (.inl rfl)))
 . cases h;cases hu;cases hv;exact run_equalIn_bool w' d t _ _ (hk.2.2 (.inl rfl))
 . cases h;cases hu;cases hv;exact run_equalIn_bool w' d t _ _ (hk.2.2 (.inr (.inl rfl)))
 . cases h
def Jjv (P:Program) (rec:TypeId->List AV->Bool):List Field->List AV->Bool
 |[],_=>true
 |f::fs,c=>match P.info? f.type with
  |some i=>rec f.type (c.take i.size)&&Jjv P rec fs (c.drop i.size)
  |none=>false
def Jfd (P:Program):Nat->TypeId->List AV->Bool
 |0,_,_=>false
 |d+1,t,c=>match P.underlying t with
  |some (.int _)=>match c with |[.int _ _]=>true |_=>false
  |some .string=>match c with |[.str _]=>true |_=>false
  |some .bool=>match c with |[.bool _]|[.tru]|[.fls]=>true |_=>false
  |some (.struct fs)=>Jjv P (Jfd P d) fs.toList c
  |_=>false
theorem JjG {P:Program} (m:Nat):∀(d:Nat) (t:TypeId),JgB P d t=true->∀(w w':World) (F:Nat->Prop) (β:Nat->Option Hdr) (c e:List AV) (x y:Value) (r:Bool),(∀i,P.info? t=some i->c.length=i.size)->JfX P t w F β c x->JfX P t w F β e y->Jfd P d t c=true->Yw c e=some r->(Op.equalIn (m+d) t x y).run P w'= .ok r w'
 |0,t,h=>by simp [JgB] at h
 |d+1,t,h=>by
  intro w w' F β c e x y r hsz hx hy hk hr
  unfold JgB at h
  unfold JfX at hx hy
  unfold Jfd at hk
  have scalar:∀{td:TypeDesc},P.underlying t=some td->(∃u,c=[u]∧RV w F β u x)->(∃u,e=[u]∧RV w F β u y)->((∃k,td= .int k)∨td= .string∨td= .bool)->(∀u,c=[u]->(∀k n,u= .int k n->∃k,td= .int k)∧(∀s,u= .str s->td= .string)∧((u= .tru∨u= .fls∨∃b,u= .bool b)->td= .bool))->(Op.equalIn (m+(d+1)) t x y).run P w'= .ok r w':=by
   rintro td ht ⟨u,rfl,hu⟩ ⟨v,rfl,hv⟩ hd hkk
   have he:eq1 u v=some r:=by
    simp only [Yw] at hr
    split at hr
    . rename_i e1 e2;cases e2;rw [e1,<-hr];simp
    . cases hr
   obtain⟨k1,k2,k3⟩:=hkk u rfl
   refine Js2 hu hv he (m+d) ?_ ⟨fun k n q=> ?_,fun s q=> ?_,fun q=> ?_⟩
   .
    rcases hd with⟨k,rfl⟩|rfl |rfl
    . exact .inl ⟨k,ht⟩
    . exact .inr (.inl ht)
    . exact .inr (.inr ht)
   . obtain⟨k',rfl⟩:=k1 k n q;exact⟨k',ht⟩
   . rw [ht,k2 s q]
   . rw [ht,k3 q]
  split at h
  .
   rename_i k i h1 h2
   rw [h1] at hx hy hk
   refine scalar h1 hx hy (.inl ⟨k,rfl⟩) (fun u hc=> ?_)
   subst hc
   simp only at hk
   split at hk<;>first |cases hk;done |skip
   rename_i e
   cases e
   exact⟨fun _ _ _=>⟨k,rfl⟩,fun s q=>(by cases q),fun q=>(by rcases q with q |q |⟨_,q⟩<;>cases q)⟩
  .
   rename_i i h1 h2
   rw [h1] at hx hy hk
   refine scalar h1 hx hy (.inr (.inl rfl)) (fun u hc=> ?_)
   subst hc
   simp only at hk
   split at hk<;>first |cases hk;done |skip
   rename_i e
   cases e
   exact⟨fun _ _ q=>(by cases q),fun s q=>rfl,fun q=>(by rcases q with q |q |⟨_,q⟩<;>cases q)⟩
  .
   rename_i i h1 h2
   rw [h1] at hx hy hk
   refine scalar h1 hx hy (.inr (.inr rfl)) (fun u hc=> ?_)
   subst hc
   simp only at hk
   refine⟨fun k n q=> ?_,fun s q=> ?_,fun _=>rfl⟩<;>subst q<;>simp at hk
  .
   rename_i fs i h1 h2
   simp only [Bool.and_eq_true,Bool.not_eq_true'] at h
   rw [h1] at hx hy hk
   simp only at hx hy hk
   obtain⟨xs,rfl,hx⟩:=hx
   obtain⟨ys,rfl,hy⟩:=hy
   have hfs:P.fieldsOf t=fs:=by simp [Program.fieldsOf,h1]
   rw [show m+(d+1)=(m+d)+1 from rfl,run_equalIn_struct w' (m+d) t xs ys (by rw [hfs];exact h1) h.1,hfs]
   have hlen:c.length=e.length:=Jfp hr
   have main:∀(l:List Field) (off:Nat) (r:Bool),JeZ P (JgB P d) l off i.size=true->Jjv P (Jfd P d) l (c.drop off)=true->Yw (c.drop off) (e.drop off)=some r->c.length=i.size->(Op.eqFields (m+d) xs ys l).run P w'= .ok r w':=by
    intro l
    induction l with
    |nil=>
     intro off r q1 q2 q3 q4
     simp only [JeZ,beq_iff_eq] at q1
     rw [List.drop_eq_nil_of_le (by omega),List.drop_eq_nil_of_le (by omega)] at q3
     simp only [Yw] at q3
     cases q3
     simp [Op.eqFields]
    |cons f l ih=>
     intro off r q1 q2 q3 q4
     simp only [JeZ] at q1
     simp only [Jjv] at q2
     split at q1
     .
      rename_i fi hfi
      rw [hfi] at q2
      simp only [Bool.and_eq_true,bne_iff_ne,ne_eq,beq_iff_eq] at q1 q2
      obtain⟨⟨⟨n1,n2⟩,n3⟩,n4⟩:=q1
      subst n2
      obtain⟨r1,r2,s1,s2,rfl⟩:=JfV fi.size q3
      rw [List.drop_drop,List.drop_drop] at s2
      have hrest:=ih (f.offset+fi.size) r2 n4 (by rw [<-List.drop_drop];exact q2.2) s2 q4
      obtain⟨fd,hfd⟩:∃fd,P.underlying f.type=some fd:=by
       cases hu:P.underlying f.type with
       |some fd=>exact⟨fd,rfl⟩
       |none=>cases d<;>simp [JgB,hu] at n3
      have size1:Jfv fd=false->fi.size=1∧True:=fun ha=>by
       cases d with
       |zero=>simp [JgB] at n3
       |succ d=>
        unfold JgB at n3
        rw [hfd,hfi] at n3
        cases fd<;>simp only [Bool.false_eq_true] at n3<;>first
         |(simp [Jfv] at ha;done)
         |exact⟨by simpa using n3,trivial⟩
      have hfit:Jfv fd=true->∃sfs,fd= .struct sfs:=fun ha=>by
       cases d with
       |zero=>simp [JgB] at n3
       |succ d=>
        unfold JgB at n3
        rw [hfd,hfi] at n3
        cases fd<;>simp only [Bool.false_eq_true] at n3<;>first
         |exact⟨_,rfl⟩
         |(simp [Jfv] at ha;done)
      have htot:f.offset+fi.size<=i.size:=by
       have:∀(l:List Field) (o:Nat),JeZ P (JgB P d) l o i.size=true->o<=i.size:=by
        intro l
        induction l with
        |nil=>intro o h;simp only [JeZ,beq_iff_eq] at h;omega
        |cons f' l' ih'=>
         intro o h
         simp only [JeZ] at h
         split at h
         .
          simp only [Bool.and_eq_true] at h
          have:=ih' _ h.2
          omega
         . cases h
       exact this l _ n4
      have hpart:∀(cc:List AV) (zs:Array Value),RVs w F β cc zs->cc.length=i.size->∃v,(part f.type zs f.offset).run P w'= .ok v w'∧JfX P f.type w F β ((cc.drop f.offset).take fi.size) v:=fun cc zs hz hcl=>by
       rw [Jdt w' hfi hfd]
       cases ha:Jfv fd with
       |true=>
        obtain⟨sfs,rfl⟩:=hfit ha
        refine⟨_,rfl,?_⟩
        unfold JfX
        rw [hfd]
        exact⟨_,rfl,hz.extract f.offset fi.size (by omega)⟩
       |false=>
        have h1s:=(size1 ha).1
        have hlt:f.offset<cc.length:=by omega
        obtain⟨v,hv,hrv⟩:=hz.at (Wg hlt)
        refine⟨v,by simp [hv],?_⟩
        unfold JfX
        rw [hfd]
        have hc1:(cc.drop f.offset).take fi.size=[cc[f.offset]]:=by
         rw [h1s,List.drop_eq_getElem_cons hlt]
         rfl
        cases fd<;>simp only [Jfv,Bool.true_eq_false] at ha<;>exact⟨_,hc1,hrv⟩
      obtain⟨a,p1,p2⟩:=hpart c xs hx q4
      obtain⟨b,p3,p4⟩:=hpart e ys hy (by omega)
      have hr1:=JjG m d f.type n3 w w' F β _ _ a b r1 (fun i' hi'=>by rw [hfi] at hi';cases hi';simp;omega) p2 p4 q2.1 s1
      simp only [Op.eqFields,n1,ne_eq,not_false_eq_true,if_true,Sem.run_bind,p1,p3,hr1,Result.andThen_ok]
      cases r1
      . simp
      . simpa using hrest
     . cases q1
   exact main fs.toList 0 r h.2 (by simpa using hk) (by simpa using hr) (hsz i h2)
  . cases h
end Go.Proofs.YtehhohbnhcogkaaGreatDoor.Ax
namespace Go.Proofs.YtehhohbnhcogkaaGreatDoor.Ax
open Go.RowKit
variable {o:Oper} {env:Nat->AV} {H:Nat->Option ABlk} {x:Operand} {t e:TypeId} {P:Program} {tab:Tab} {ti:TI} {lo hi:Option Operand} {l h sz eb:Nat} {ez:List AV} {xs:List (List AV)}
theorem JoJ {P:Program} {op:BinOp} {y:Operand} {t':TypeId} {c e:List AV} {r:Bool} {fs:Array Field} {i:TypeInfo} (ho:o.op= .binOp op t x y t') (hop:op= .eql∨op= .neq) (hu:P.underlying t=some (.struct fs)) (hi:P.info? t=some i)
  (he:JgB P 10 t=true) (hg:P.eqGuardType P.depth t=false) (hc:ev env x= .agg c) (hd:ev env y= .agg e) (hl:c.length=i.size) (hk:Jfd P 10 t c=true) (hr:Yw c e=some r):ZH P o env H (.bool (if op= .eql then r else !r)) []:=by
 intro w F β a hx _
 have h1:=hx x (by simp [ho,Op.operands])
 have h2:=hx y (by simp [ho,Op.operands])
 rw [hc] at h1
 rw [hd] at h2
 generalize hvx:a.eval x=vx at h1
 generalize hvy:a.eval y=vy at h2
 cases h1 with
 |agg _ xs k1 k2=>
  cases h2 with
  |agg _ ys k3 k4=>
   have hs:JfX P t w F β c (.agg xs):=by unfold JfX;rw [hu];exact⟨xs,rfl,k1,k2⟩
   have hs':JfX P t w F β e (.agg ys):=by unfold JfX;rw [hu];exact⟨ys,rfl,k3,k4⟩
   have hrun:=JjG 9990 10 t he w w F β c e _ _ r (fun i' hi'=>by rw [hi] at hi';cases hi';exact hl) hs hs' hk hr
   simp only [Nat.reduceAdd] at hrun
   have hgu:=run_eqGuard_agg (P:=P) w op t x y xs ys hg
   rcases hop with rfl |rfl
   .
    refine⟨.bool r,?_,.bool _⟩
    simp only [execOp,ho,hvx,hvy,Sem.run_bind,hgu,Result.andThen_ok,run_eql_struct,hrun,Sem.run_pure]
   .
    refine⟨.bool (!r),?_,.bool _⟩
    simp only [execOp,ho,hvx,hvy,Sem.run_bind,hgu,Result.andThen_ok,run_neq_struct,hrun,Sem.run_pure]
theorem Jkv (hT:J0 P tab) {op:BinOp} {y:Operand} {t':TypeId} {a b:Bool} (ho:o.op= .binOp op t x y t') (hop:op= .eql∨op= .neq) (ht:tab t=some ti) (hd:ti.d= .bool) (hx0:JoS (ev env x)=some a) (hy0:JoS (ev env y)=some b):ZH P o env H (.bool (if op= .eql then (a==b) else !(a==b))) []:=by
 intro w F β ac hx _
 have h1:=JnZ hx0 (hx x (by simp [ho,Op.operands]))
 have h2:=JnZ hy0 (hx y (by simp [ho,Op.operands]))
 obtain⟨ii,dd,z,g1,g2,_,_,_,_,h3⟩:=JP (hT t ti ht)
 rw [hd] at h3
 have hdd:dd= .bool:=by
  cases dd<;>simp only [Jf1] at h3<;>first |(cases h3;done)|rfl |((repeat' split at h3)<;>cases h3)
 subst hdd
 have hrun:(Op.equal t (.bool a) (.bool b)).run P w= .ok (a==b) w:=run_equalIn_bool w 9999 t a b g2
 rcases hop with rfl |rfl
 .
  refine⟨.bool (a==b),?_,.bool _⟩
  have hgu:(eqGuard .eql t x y (.bool a) (.bool b)).run P w= .ok () w:=rfl
  simp only [execOp,ho,h1,h2,Sem.run_bind,hgu,Result.andThen_ok,binOp,hrun,Sem.run_pure]
 .
  refine⟨.bool (!(a==b)),?_,.bool _⟩
  have hgu:(eqGuard .neq t x y (.bool a) (.bool b)).run P w= .ok () w:=rfl
  simp only [execOp,ho,h1,h2,Sem.run_bind,hgu,Result.andThen_ok,binOp,hrun,Sem.run_pure]
def Zy (env:Nat->AV) (x:Option Operand) (d n:Nat):Prop:=match x with
 |none=>n=d
 |some x=>∃k,ev env x= .int k n
theorem Jet {w:World} {F:Nat->Prop} {β:Nat->Option Hdr} {v:Value} {k:IntKind} {n y:Nat} (h:RV w F β (.int k n) v) (hn:n<=y) (code:BoundsCode):(Instr.sliceBound v y code).run P w= .ok n w:=by
 cases h
 simp [Instr.sliceBound,asIntOf]
 omega
theorem Jkr (hT:J0 P tab) {s:ByteArray} (ho:o.op= .slice t x lo hi none) (ht:tab t=some ti) (hd:ti.d= .str)
  (hx0:ev env x= .str s) (hl:Zy env lo 0 l) (hh:Zy env hi s.size h) (h1:l<=h) (h2:h<=s.size):ZH P o env H (.str (s.extract l h)) []:=by
 intro w F β a hx _
 have hv:=hx x (by simp [ho,Op.operands])
 rw [hx0] at hv
 generalize hvx:a.eval x=vx at hv
 obtain⟨ii,dd,z,g1,g2,_,_,_,_,g3⟩:=JP (hT t ti ht)
 rw [hd] at g3
 have hdd:dd= .string:=by
  cases dd<;>simp only [Jf1] at g3<;>first |rfl |((repeat' split at g3)<;>cases g3)
 subst hdd
 cases hv
 have hhi:∀v,hi=some v->(Instr.sliceBound (a.eval v) s.size .sliceAlen).run P w= .ok h w:=fun v e=>by
  subst e
  obtain⟨k,hk⟩:=hh
  exact Jet (hk▸hx v (by simp [ho,Op.operands])) h2 _
 have hlo:∀v,lo=some v->(Instr.sliceBound (a.eval v) h .sliceB).run P w= .ok l w:=fun v e=>by
  subst e
  obtain⟨k,hk⟩:=hl
  exact Jet (hk▸hx v (by simp [ho,Op.operands])) h1 _
 refine⟨.string (s.extract l h),?_,.str _⟩
 cases hi with
 |none=>
  simp only [Zy] at hh
  subst hh
  cases lo with
  |none=>
   simp only [Zy] at hl
   subst hl
   simp [execOp,ho,hvx,Instr.sliceAt,Instr.slice,Instr.sliceBounds,run_underlying g2]
  |some v=>simp [execOp,ho,hvx,Instr.sliceAt,Instr.slice,Instr.sliceBounds,run_underlying g2,hlo v rfl]
 |some u=>
  cases lo with
  |none=>
   simp only [Zy] at hl
   subst hl
   simp [execOp,ho,hvx,Instr.sliceAt,Instr.slice,Instr.sliceBounds,run_underlying g2,hhi u rfl]
  |some v=>simp [execOp,ho,hvx,Instr.sliceAt,Instr.slice,Instr.sliceBounds,run_underlying g2,hlo v rfl,hhi u rfl]
theorem JgP {w:World} {F:Nat->Prop} {β:Nat->Option Hdr} {a:Act} {mx:Option Operand} {i:TypeInfo} (ho:o.op= .slice t x lo hi mx) (hu:P.underlying t=some (.slice e)) (hi0:P.info? e=some i) {ad:Option Addr} {len cap:Nat} (hvx:a.eval x= .slice ad len cap)
  (hx:∀y∈o.op.operands,RV w F β (ev env y) (a.eval y)) {l h m:Nat} (hl:Zy env lo 0 l) (hh:Zy env hi len h) (hm:Zy env mx cap m) (h1:l<=h) (h2:h<=m) (h3:m<=cap) (h4:mx.isSome=true->hi.isSome=true):
  (execOp a.eval o).run P w= .ok (.value (.slice (if m=l then ad else ad.map (·.add (l*i.size))) (h - l) (m - l))) w:=by
 have hmr:∀v,mx=some v->(Instr.sliceBound (a.eval v) cap .slice3Acap).run P w= .ok m w:=fun v e=>by
  subst e
  obtain⟨k,hk⟩:=hm
  exact Jet (hk▸hx v (by simp [ho,Op.operands])) h3 _
 have hhi:∀v code,hi=some v->(Instr.sliceBound (a.eval v) m code).run P w= .ok h w:=fun v code e=>by
  subst e
  obtain⟨k,hk⟩:=hh
  exact Jet (hk▸hx v (by simp [ho,Op.operands])) h2 _
 have hlo:∀v code,lo=some v->(Instr.sliceBound (a.eval v) h code).run P w= .ok l w:=fun v code e=>by
  subst e
  obtain⟨k,hk⟩:=hl
  exact Jet (hk▸hx v (by simp [ho,Op.operands])) h1 _
 cases mx with
 |none=>
  simp only [Zy] at hm
  subst hm
  cases hi with
  |none=>
   simp only [Zy] at hh
   subst hh
   cases lo with
   |none=>
    simp only [Zy] at hl
    subst hl
    simp [execOp,ho,hvx,Instr.sliceAt,Instr.slice,Instr.sliceBounds,run_underlying hu,Qt w hi0]
   |some v=>simp [execOp,ho,hvx,Instr.sliceAt,Instr.slice,Instr.sliceBounds,run_underlying hu,Qt w hi0,hlo v _ rfl]
  |some u=>
   cases lo with
   |none=>
    simp only [Zy] at hl
    subst hl
    simp [execOp,ho,hvx,Instr.sliceAt,Instr.slice,Instr.sliceBounds,run_underlying hu,Qt w hi0,hhi u _ rfl]
   |some v=>simp [execOp,ho,hvx,Instr.sliceAt,Instr.slice,Instr.sliceBounds,run_underlying hu,Qt w hi0,hlo v _ rfl,hhi u _ rfl]
 |some q=>
  cases hi with
  |none=>simp at h4
  |some u=>
   cases lo with
   |none=>
    simp only [Zy] at hl
    subst hl
    simp [execOp,ho,hvx,Instr.sliceAt,Instr.slice,Instr.sliceBounds,run_underlying hu,Qt w hi0,hmr q rfl,hhi u _ rfl]
   |some v=>simp [execOp,ho,hvx,Instr.sliceAt,Instr.slice,Instr.sliceBounds,run_underlying hu,Qt w hi0,hmr q rfl,hlo v _ rfl,hhi u _ rfl]
theorem Jgy {P:Program} (hT:J0 P tab) (ho:o.op= .slice t x lo hi none) (ht:tab t=some ti) (hd:ti.d= .slc e sz eb ez)
  (hx0:ev env x= .lst sz xs∨(ev env x= .nils∧xs=[])) (hl:Zy env lo 0 l) (hh:Zy env hi xs.length h) (h1:l<=h) (h2:h<=xs.length):ZH P o env H (.lst sz ((xs.drop l).take (h - l))) []:=by
 intro w F β a hx _
 have hv:=hx x (by simp [ho,Op.operands])
 obtain⟨ii,dd,z,g1,g2,_,_,_,_,g3⟩:=JP (hT t ti ht)
 rw [hd] at g3
 obtain⟨i,zv,rfl,g4,rfl,_,_,_⟩:=JaD g3.symm
 have hlen:((xs.drop l).take (h - l)).length=h - l:=by simp;omega
 have hv':RV w F β (.lst i.size xs) (a.eval x):=by
  rcases hx0 with hx0 |⟨hx0,rfl⟩
  . rw [hx0] at hv;exact hv
  .
   rw [hx0] at hv
   generalize a.eval x=vx at hv
   cases hv
   exact .lst i.size [] none 0 (fun _ _=>undef) (Nat.le_refl _) (by simp [maxLen]) (fun _=>rfl) (fun ad e=>by cases e) (fun k c e=>by simp at e) (fun ad k c j u e=>by cases e) (fun k c j u e=>by simp at e)
 generalize hvx:a.eval x=vx at hv'
 cases hv' with
 |lst _ _ ad cap vs k1 k2 k3 k4 k5 k6 k7=>
  have hrun:=JgP (P:=P) ho g2 g4 hvx hx hl hh (show Zy env none cap cap from rfl) h1 (by omega) (Nat.le_refl _) (by simp)
  have el:∀(k:Nat) (c:List AV),((xs.drop l).take (h - l))[k]? =some c->k<h - l∧xs[l+k]? =some c:=fun k c hk=>by
   rw [List.getElem?_take,List.getElem?_drop] at hk
   split at hk
   . exact⟨‹_›,hk⟩
   . cases hk
  refine⟨_,hrun,?_⟩
  by_cases hcl:cap=l
  .
   have h0:h - l=0:=by omega
   rw [if_pos hcl,h0]
   have hnil:(xs.drop l).take 0=[]:=by simp
   refine .lstN i.size _ ad 0 _ (fun _ _=>undef) (by simp) (Nat.zero_le _) (by omega) (fun e=>by have:=k3 e;omega) (fun _ _ h=>by omega) (fun k c e=>by rw [hnil] at e;simp at e) (fun ad k c j u _ e=>by rw [hnil] at e;simp at e) (fun k c j u e=>by rw [hnil] at e;simp at e)
  .
   rw [if_neg hcl]
   cases ad with
   |none=>have:=k3 rfl;omega
   |some ad=>
    obtain⟨b,off,sp⟩:=ad
    refine .lstN i.size _ _ _ _ (fun k j=>vs (l+k) j) hlen (by omega) (by omega) (fun e=>by cases e) (fun ad e h0=> ?_) (fun k c e=>k5 _ c (el k c e).2) (fun ad k c j u e hk hj=> ?_) (fun k c j u hk hj=>k7 _ c j u (el k c hk).2 hj)
    .
     simp only [Option.map_some,Option.some.injEq] at e
     obtain⟨q1,q2⟩:=k4 _ rfl (by omega)
     simp only at q1 q2
     rw [JgH q1] at e
     subst e
     exact⟨rfl,q2⟩
    .
     simp only [Option.map_some,Option.some.injEq] at e
     obtain⟨hkn,hk'⟩:=el k c hk
     obtain⟨q1,q2⟩:=k4 _ rfl (by omega)
     simp only at q1 q2
     rw [JgH q1] at e
     subst e
     have:=k6 _ _ c j u rfl hk' hj
     simp only at this ⊢
     rw [show off+l*i.size+k*i.size+j=off+(l+k)*i.size+j by rw [Nat.add_mul];omega]
     exact this
theorem Jks {P:Program} (hT:J0 P tab) {q q':Operand} (ho:o.op= .slice t x none (some q) (some q')) (ht:tab t=some ti) (hd:ti.d= .slc e sz eb ez)
  (hx0:ev env x= .lst sz xs) (hh:Zy env (some q) xs.length h) (hm:Zy env (some q') 0 h) (h2:h<=xs.length):ZH P o env H (.lsc sz (xs.take h)) []:=by
 intro w F β a hx _
 have hv:=hx x (by simp [ho,Op.operands])
 obtain⟨ii,dd,z,g1,g2,_,_,_,_,g3⟩:=JP (hT t ti ht)
 rw [hd] at g3
 obtain⟨i,zv,rfl,g4,rfl,_,_,_⟩:=JaD g3.symm
 have hlen:(xs.take h).length=h:=by simp;omega
 rw [hx0] at hv
 generalize hvx:a.eval x=vx at hv
 cases hv with
 |lst _ _ ad cap vs k1 k2 k3 k4 k5 k6 k7=>
  have hrun:=JgP (P:=P) ho g2 g4 hvx hx (show Zy env none 0 0 from rfl) hh (show Zy env (some q') cap h from hm) (Nat.zero_le _) (Nat.le_refl _) (by omega) (by simp)
  have el:∀(k:Nat) (c:List AV),(xs.take h)[k]? =some c->k<h∧xs[k]? =some c:=fun k c hk=>by
   rw [List.getElem?_take] at hk
   split at hk
   . exact⟨‹_›,hk⟩
   . cases hk
  simp only [Nat.zero_mul,Nat.sub_zero] at hrun
  have ead:(if h=0 then ad else Option.map (fun x=>Addr.add x 0) ad)=ad:=by
   split
   . rfl
   .
    cases ad with
    |none=>rfl
    |some ad=>obtain⟨b,off,sp⟩:=ad;cases sp<;>simp [Addr.add]
  rw [ead] at hrun
  refine⟨_,hrun,?_⟩
  have key:RV w F β (.lst i.size (xs.take h)) (.slice ad (xs.take h).length (xs.take h).length):=by
   refine .lstN i.size _ ad _ _ vs rfl (Nat.le_refl _) (by omega) (fun e=>by have:=k3 e;omega) (fun ad' e h0=>k4 ad' e (by omega)) (fun k c e=>k5 _ c (el k c e).2) (fun ad' k c j u e hk hj=>k6 ad' k c j u e (el k c hk).2 hj) (fun k c j u hk hj=>k7 _ c j u (el k c hk).2 hj)
  have:=RV.lsc _ _ _ key
  rw [hlen] at this
  exact this
theorem Jgx {P:Program} (hT:J0 P tab) {mx:Option Operand} {id:Nat} {m:Nat} (ho:o.op= .slice t x lo hi mx) (ht:tab t=some ti) (hd:ti.d= .slc e sz eb ez)
  (hx0:ev env x= .osl id) (hH:H id=some (.row sz xs)) (hl:Zy env lo 0 l) (hh:Zy env hi xs.length h) (hm:∀q,mx=some q->∃k,ev env q= .int k m) (h1:l<=h) (h2:h<=xs.length) (h3:mx.isSome=true->h<=m∧m<=xs.length) (h4:mx.isSome=true->hi.isSome=true):
  ZH P o env H (.sub id sz l h (mx.map fun _=>m)) [id]:=by
 intro w F β a hx hK
 have hv:=hx x (by simp [ho,Op.operands])
 rw [hx0] at hv
 obtain⟨ii,dd,z,g1,g2,_,_,_,_,g3⟩:=JP (hT t ti ht)
 rw [hd] at g3
 obtain⟨i,zv,rfl,g4,rfl,_,_,_⟩:=JaD g3.symm
 obtain⟨g,e1,k1,k2,k3,k4,k5,k6⟩:=hK id (by simp) _ hH
 generalize hvx:a.eval x=vx at hv
 cases hv with
 |osl _ g' e2=>
  rw [e1] at e2
  cases e2
  have hh':Zy env hi g.len h:=by
   cases hi with
   |none=>simp only [Zy] at hh ⊢;omega
   |some v=>exact hh
  obtain⟨m',hm',hmc,hle1,hle2⟩:∃m',Zy env mx g.cap m'∧m'=(mx.map fun _=>m).getD g.cap∧h<=m'∧m'<=g.cap:=by
   cases mx with
   |none=>exact⟨g.cap,rfl,rfl,by omega,Nat.le_refl _⟩
   |some q=>
    obtain⟨q1,q2⟩:=h3 rfl
    exact⟨m,hm q rfl,rfl,q1,by omega⟩
  have hrun:=JgP (P:=P) ho g2 g4 hvx hx hl hh' hm' h1 hle1 hle2 h4
  refine⟨_,hrun,?_⟩
  have:=RV.sub (w:=w) (F:=F) (β:=β) id i.size l h (mx.map fun _=>m) g e1
  rw [<-hmc] at this
  have ead:(if m'=l then J5 g.blk 0 else Option.map (fun x=>Addr.add x (l*i.size)) (J5 g.blk 0))=J5 g.blk (if m'=l then 0 else l*i.size):=by
   split
   . rfl
   .
    unfold J5
    cases g.blk with
    |none=>rfl
    |some b=>simp [Addr.add_lit]
  rw [ead]
  exact this
end Go.Proofs.YtehhohbnhcogkaaGreatDoor.Ax
namespace Go.Proofs.YtehhohbnhcogkaaGreatDoor.Ax
open Go.RowKit
variable {P:Program} {o:Oper} {env:Nat->AV} {H:Nat->Option ABlk} {x:Operand}
theorem Jdj {tab:Tab} (hT:J0 P tab) {t:TypeId} {ti:TI} {n:Nat} {ids:List Nat} (ho:o.op= .call { callee:= .builtin .len,args:= #[x],argTypes:= #[t] }) (ht:tab t=some ti)
  (h:(∃s,ti.d= .str∧ev env x= .str s∧n=s.size∧ids=[])∨(∃e sz eb ez,ti.d= .slc e sz eb ez∧((∃sz' xs,ev env x= .lst sz' xs∧n=xs.length∧ids=[])∨(ev env x= .nils∧n=0∧ids=[])∨(∃id sz' xs,ev env x= .osl id∧H id=some (.row sz' xs)∧n=xs.length∧ids=[id])∨(∃id sz' lo hi mx,ev env x= .sub id sz' lo hi mx∧n=hi - lo∧ids=[])))∨(∃sz g,ti.d= .arr n sz g∧ids=[])):ZH P o env H (.int .i64 n) ids:=by
 intro w F β a hx hK
 have hv:=hx x (by simp [ho,Op.operands,Call.operands])
 obtain⟨ii,dd,z,g1,g2,_,_,_,_,g3⟩:=JP (hT t ti ht)
 refine⟨goInt n,?_,.int _ _⟩
 generalize hvx:a.eval x=vx at hv
 have hlen:(Builtin.len_ #[t] o.type #[vx]).run P w= .ok (goInt n) w:=by
  rcases h with⟨s,hd,he,rfl,rfl⟩|⟨e,sz,eb,ez,hd,h⟩|⟨sz,g,hd,rfl⟩
  .
   rw [hd] at g3
   have hdd:dd= .string:=by
    cases dd<;>simp only [Jf1] at g3<;>first |rfl |((repeat' split at g3)<;>cases g3)
   subst hdd
   rw [he] at hv
   cases hv
   simp [Builtin.len_,run_underlying g2]
  .
   rw [hd] at g3
   obtain⟨i,zv,rfl,g4,rfl,_,_,_⟩:=JaD g3.symm
   rcases h with⟨sz',xs,he,rfl,rfl⟩|⟨he,rfl,rfl⟩|⟨id,sz',xs,he,hH,rfl,rfl⟩|⟨id,sz',lo,hi,mx,he,rfl,rfl⟩<;>rw [he] at hv
   . cases hv;simp [Builtin.len_,run_underlying g2]
   . cases hv;simp [Builtin.len_,run_underlying g2]
   .
    obtain⟨g,e1,k1,_⟩:=hK id (by simp) _ hH
    cases hv with
    |osl _ g' e2=>
     rw [e1] at e2
     cases e2
     simp [Builtin.len_,run_underlying g2,k1]
   . cases hv;simp [Builtin.len_,run_underlying g2]
  .
   rw [hd] at g3
   obtain⟨e,i',d',rfl,_,_,_,_⟩:=JhX g3.symm
   simp [Builtin.len_,run_underlying g2]
 simp [execOp,ho,resolve,invoke,builtin,hvx,hlen]
theorem JoH {y:Operand} {ts:Array TypeId} {k k':IntKind} {m n:Int} (ho:o.op= .call { callee:= .builtin .min,args:= #[x,y],argTypes:=ts }) (h1:ev env x= .int k m) (h2:ev env y= .int k' n):ZH P o env H (.int k (if n<m then n else m)) []:=by
 intro w F β a hx _
 have v1:=hx x (by simp [ho,Op.operands,Call.operands])
 have v2:=hx y (by simp [ho,Op.operands,Call.operands])
 rw [h1] at v1
 rw [h2] at v2
 generalize hvx:a.eval x=vx at v1
 generalize hvy:a.eval y=vy at v2
 cases v1
 cases v2
 exact⟨.int k (if n<m then n else m),by simp [execOp,ho,resolve,invoke,builtin,hvx,hvy,Builtin.min_,Builtin.min2],.int _ _⟩
theorem JoI {y:Operand} {ts:Array TypeId} {k k':IntKind} {m n:Int} (ho:o.op= .call { callee:= .builtin .max,args:= #[x,y],argTypes:=ts }) (h1:ev env x= .int k m) (h2:ev env y= .int k' n):ZH P o env H (.int k (if m<n then n else m)) []:=by
 intro w F β a hx _
 have v1:=hx x (by simp [ho,Op.operands,Call.operands])
 have v2:=hx y (by simp [ho,Op.operands,Call.operands])
 rw [h1] at v1
 rw [h2] at v2
 generalize hvx:a.eval x=vx at v1
 generalize hvy:a.eval y=vy at v2
 cases v1
 cases v2
 exact⟨.int k (if m<n then n else m),by simp [execOp,ho,resolve,invoke,builtin,hvx,hvy,Builtin.max_,Builtin.max2],.int _ _⟩
theorem Jlb:∀(l:List Value) (k off:Nat) (cs:Array Value),((l.zipIdx k).foldl (fun cs x=>cs.setIfInBounds (off+x.2) x.1) cs).size=cs.size∧
  ∀p,((l.zipIdx k).foldl (fun cs x=>cs.setIfInBounds (off+x.2) x.1) cs)[p]? =if off+k<=p∧p<off+k+l.length∧p<cs.size then l[p - (off+k)]? else cs[p]?
 |[],k,off,cs=>⟨rfl,fun p=>by simp;intro h1 h2;omega⟩
 |v::l,k,off,cs=>by
  obtain⟨h1,h2⟩:=Jlb l (k+1) off (cs.setIfInBounds (off+k) v)
  simp only [List.zipIdx_cons,List.foldl_cons]
  refine⟨by rw [h1];simp,fun p=> ?_⟩
  rw [h2]
  simp only [Array.size_setIfInBounds,List.length_cons]
  by_cases hp:p=off+k
  .
   subst hp
   rw [if_neg (by omega)]
   by_cases hlt:off+k<cs.size
   . rw [if_pos (by omega)];simp [hlt]
   . rw [if_neg (by omega)];simp [Array.getElem?_eq_none (Nat.not_lt.1 hlt),hlt]
  .
   by_cases hc:off+(k+1)<=p∧p<off+(k+1)+l.length∧p<cs.size
   .
    rw [if_pos hc,if_pos (by omega),show p - (off+k)=(p - (off+(k+1)))+1 by omega]
    simp
   . rw [if_neg hc,if_neg (by omega),Array.getElem?_setIfInBounds_ne (by omega)]
theorem JoN (cs:Array Value) (v:Value) (off:Nat) (h:off+v.cells.size<=cs.size):∃cs',(v.cells.zipIdx.foldl (fun cs (x:Value×Nat)=>cs.setIfInBounds (off+x.2) x.1) cs)=cs'∧cs'.size=cs.size∧∀p,cs'[p]? =if off<=p∧p<off+v.cells.size then v.cells[p - off]? else cs[p]? :=by
 refine⟨_,rfl,?_⟩
 rw [<-Array.foldl_toList,Array.toList_zipIdx]
 obtain⟨h1,h2⟩:=Jlb v.cells.toList 0 off cs
 refine⟨h1,fun p=> ?_⟩
 rw [h2]
 simp only [Nat.add_zero,Array.length_toList,Wu]
 by_cases hc:off<=p∧p<off+v.cells.size
 . rw [if_pos hc,if_pos (by omega)]
 . rw [if_neg hc,if_neg (by omega)]
def JfU (place:List (Nat×Nat)) (c:List AV):List (Nat×AV)->Option (List AV)
 |[]=>some c
 |(i,x)::r=>match place[i]? with
  |some (off,size)=>match x.okc&&Nat.beq x.cells.length size&&Nat.ble (off+size) c.length with
   |true=>JfU place (Zr c off x.cells) r
   |false=>none
  |none=>none
theorem JhU {w:World} {F:Nat->Prop} {β:Nat->Option Hdr} {pl:Nat->Option (Nat×Nat)} {place:List (Nat×Nat)} (hp:∀i p,place[i]? =some p->pl i=some p):∀(l:List (Nat×AV)) (m:List (Nat×Value)) (c c':List AV) (cs:Array Value),JfU place c l=some c'->RVs w F β c cs->
  l.length=m.length->(∀(k:Nat) (i:Nat) (x:AV),l[k]? =some (i,x)->∃v,m[k]? =some (i,v)∧RV w F β x v)->∃cs',Instr.fill pl cs m=some cs'∧RVs w F β c' cs'
 |[],[],c,c',cs,h,hr,_,_=>by
  simp only [JfU] at h
  cases h
  exact⟨cs,rfl,hr⟩
 |(i,x)::l,[],c,c',cs,h,hr,hlen,_=>by simp at hlen
 |[],q::m,c,c',cs,h,hr,hlen,_=>by simp at hlen
 |(i,x)::l,q::m,c,c',cs,h,hr,hlen,hv=>by
  obtain⟨v,hq,hx⟩:=hv 0 i x rfl
  simp at hq
  subst hq
  simp only [JfU] at h
  split at h
  .
   rename_i off size hpl
   split at h
   .
    rename_i hc
    simp only [Bool.and_eq_true] at hc
    obtain⟨⟨c1,c2⟩,c3⟩:=hc
    have c2:=Nat.eq_of_beq_eq_true c2
    have c3:=Wl c3
    obtain⟨r1,r2⟩:=hx.cells c1
    obtain⟨cs2,e1,e2,e3⟩:=JoN cs v off (by rw [<-r1,c2,<-hr.1];exact c3)
    have hr2:RVs w F β (Zr c off x.cells) cs2:=by
     refine⟨by rw [Jf3 (by omega),e2];exact hr.1,fun j u u' hu hu'=> ?_⟩
     unfold Zr at hu
     rw [ZA (by omega)] at hu
     rw [e3] at hu'
     split at hu
     .
      rw [if_neg (by omega)] at hu'
      exact hr.2 j u u' hu hu'
     .
      split at hu
      .
       rw [if_pos (by omega)] at hu'
       exact r2 _ u u' hu hu'
      .
       rw [if_neg (by omega)] at hu'
       exact hr.2 j u u' hu hu'
    obtain⟨cs',h1,h2⟩:=JhU hp l m _ c' cs2 h hr2 (by simpa using hlen) (fun k i' x' hk=>hv (k+1) i' x' (by simpa using hk))
    refine⟨cs',?_,h2⟩
    simp only [Instr.fill,hp i _ hpl]
    have hne:¬(v.cells.size≠size||decide (off+v.cells.size>cs.size))=true:=by
     simp only [Bool.or_eq_true,decide_eq_true_eq,not_or]
     refine⟨by simp;omega,by rw [<-r1,<-hr.1];omega⟩
    rw [if_neg hne]
    rw [<-e1] at h1
    exact h1
   . cases h
  . cases h
def Jaq (fs:List (Nat×Nat×Bool)):List (Nat×Nat):=fs.map fun f=>(f.1,f.2.1)
theorem Jib {P:Program} {w:World}:∀{fs:List Field} {r:List (Nat×Nat×Bool)},fieldsOf P fs=some r->(fs.mapM (m:=Sem) fun f=>do pure (f.offset,<-sizeOf f.type)).run P w= .ok (Jaq r) w
 |[],r,h=>by
  simp only [fieldsOf] at h
  cases h
  simp [Jaq]
 |f::fs,r,h=>by
  simp only [fieldsOf] at h
  split at h
  .
   rename_i i d r' h1 h2 h3
   cases h
   have ih:=Jib (w:=w) h3
   simp only [List.mapM_cons,Sem.run_bind,Qt w h1,Result.andThen_ok,Sem.run_pure,ih,Jaq,List.map_cons]
  . cases h
theorem Jic {w:World} {F:Nat->Prop} {β:Nat->Option Hdr} {a:Act} {parts:Array (Nat×Operand)} (hx:∀y∈(parts.toList.map (·.2)),RV w F β (ev env y) (a.eval y)):∀(k:Nat) (i:Nat) (x:AV),(parts.toList.map fun p=>(p.1,ev env p.2))[k]? =some (i,x)->∃v,(parts.map fun p=>(p.1,a.eval p.2)).toList[k]? =some (i,v)∧RV w F β x v:=fun k i x h=>by
 rw [Wp] at h
 cases hk:parts.toList[k]? with
 |none=>rw [hk] at h;cases h
 |some p=>
  rw [hk] at h
  cases h
  refine⟨a.eval p.2,?_,hx p.2 (List.mem_map.2 ⟨p,Wm hk,rfl⟩)⟩
  simp only [Wu] at hk ⊢
  simp [hk]
theorem JlW {P:Program} {tab:Tab} (hT:J0 P tab) {t:TypeId} {ti:TI} {fs:List (Nat×Nat×Bool)} {parts:Array (Nat×Operand)} {c:List AV} (ho:o.op= .build t parts) (ht:tab t=some ti) (hd:ti.d= .struct fs)
  (hc:JfU (Jaq fs) ti.zero (parts.toList.map fun p=>(p.1,ev env p.2))=some c):ZH P o env H (.agg c) []:=by
 intro w F β a hx _
 obtain⟨ii,dd,z,g1,g2,g5,_,_,g6,g3⟩:=JP (hT t ti ht)
 rw [hd] at g3
 obtain⟨ff,rfl,h4⟩:=JgK g3.symm
 have hz:(zeroValue t).run P w= .ok z w:=by simp [zeroValue,run_typeInfo w g1,g5]
 have hpl:=Jib (P:=P) (w:=w) h4
 have hpa:(ff.mapM (m:=Sem) fun f=>do pure (f.offset,<-sizeOf f.type)).run P w= .ok (Jaq fs).toArray w:=by
  rw [Array.mapM_eq_mapM_toList]
  simp only [Sem.run_map,hpl,Result.andThen_ok]
 obtain⟨cs',e1,e2⟩:=JhU (w:=w) (F:=F) (β:=β) (pl:=fun i=>(Jaq fs).toArray[i]?) (place:=Jaq fs) (fun i p h=>by simpa using h) _ (parts.map fun p=>(p.1,a.eval p.2)).toList _ _ z.cells hc (by rw [g6];exact JeY _ _ _ _) (by simp)
  (Jic (fun y hy=>hx y (by simp [ho,Op.operands] at hy ⊢;exact hy)))
 refine⟨.agg cs',?_,.agg _ _ e2.1 e2.2⟩
 simp only [execOp,ho,Instr.build,Sem.run_bind,hz,Result.andThen_ok,run_underlying g2,hpa,e1,Sem.run_pure]
end Go.Proofs.YtehhohbnhcogkaaGreatDoor.Ax
