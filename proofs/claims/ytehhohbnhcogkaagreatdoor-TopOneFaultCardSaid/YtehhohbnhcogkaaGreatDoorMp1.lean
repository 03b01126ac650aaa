/- The plain law of the proof: that the answer is true. -/
import Derived.Test.YtehhohbnhcogkaaGreatDoorM3
import Derived.Test.YtehhohbnhcogkaaGreatDoorM4
set_option linter.unusedVariables false
set_option linter.unusedSimpArgs false
namespace Go.Proofs.YtehhohbnhcogkaaGreatDoor.Ex
open Go.RowKit Go.Proofs.YtehhohbnhcogkaaGreatDoor.Ax
def okP {α:Type} (o:Option α) (Q:α->Prop):Prop:=∃x,o=some x∧Q x
theorem Jf {α:Type} {x:α} {Q:α->Prop} (h:Q x):okP (some x) Q:=⟨x,rfl,h⟩
theorem Ji {α β:Type} {o:Option α} {f:α->Option β} {R:α->Prop} {Q:β->Prop} (h:okP o R) (k:∀x,R x->okP (f x) Q):okP (o.bind f) Q:=by
 obtain⟨x,rfl,hx⟩:=h
 exact k x hx
theorem JfE {α β:Type} {o:Option α} {x:α} {f:α->Option β} {Q:β->Prop} (h:o=some x) (k:okP (f x) Q):okP (o.bind f) Q:=by
 subst h
 exact k
theorem Jh {α:Type} {b:Bool} {x y:Option α} {Q:α->Prop} (h1:b=true->okP x Q) (h2:b=false->okP y Q):okP (cond b x y) Q:=by
 cases b
 . exact h2 rfl
 . exact h1 rfl
theorem Qx {α:Type} {o:Option α} {Q R:α->Prop} (h:okP o Q) (k:∀x,Q x->R x):okP o R:=by
 obtain⟨x,e,hx⟩:=h
 exact⟨x,e,k x hx⟩
theorem JuL {α:Type} {o:Option α} {x:α} (h:okP o (fun y=>y=x)):o=some x:=by
 obtain⟨y,e,rfl⟩:=h
 exact e
def YB {ρ σ:Type} (R:ρ->Prop) (S:σ->Prop):Ctl ρ σ->Prop
 | .ret r=>R r
 | .brk s=>S s
theorem JhO {ρ σ:Type} {o:Option (Ctl ρ σ)} {k:σ->Option ρ} {S:σ->Prop} {Q:ρ->Prop} (h:okP o (YB Q S)) (hk:∀s,S s->okP (k s) Q):okP (Ctl.fin o k) Q:=by
 obtain⟨c,rfl,hc⟩:=h
 cases c with
 |ret r=>exact⟨r,rfl,hc⟩
 |brk s=>exact hk s hc
theorem Q6 {ρ σ:Type} {o:Option (Ctl ρ σ)} {k:σ->Option ρ} {S:σ->Prop} {Q:ρ->Prop} (h:okP o (YB (fun _=>False) S)) (hk:∀s,S s->okP (k s) Q):okP (Ctl.fin o k) Q:=by
 obtain⟨c,rfl,hc⟩:=h
 cases c with
 |ret r=>exact hc.elim
 |brk s=>exact hk s hc
theorem JbZ {ρ σ τ:Type} {o:Option (Ctl ρ σ)} {k:σ->Option (Ctl ρ τ)} {R:ρ->Prop} {S:σ->Prop} {T:τ->Prop} (h:okP o (YB R S)) (hk:∀s,S s->okP (k s) (YB R T)):okP (Ctl.sub o k) (YB R T):=by
 obtain⟨c,rfl,hc⟩:=h
 cases c with
 |ret r=>exact⟨.ret r,rfl,hc⟩
 |brk s=>exact hk s hc
theorem Zv {ρ σ:Type} {o:Option (Ctl ρ σ)} {k:σ->Option ρ} {s:σ} (h:o=some (.brk s)):Ctl.fin o k=k s:=by subst h;rfl
theorem Je0 {ρ σ τ:Type} {o:Option (Ctl ρ σ)} {k:σ->Option (Ctl ρ τ)} {s:σ} (h:o=some (.brk s)):Ctl.sub o k=k s:=by subst h;rfl
theorem JaN {α:Type} {l:List α} {i:Int} {x:α} (m:Nat) (hm:i=m) (h:l[m]? =some x):ixL l i=some x:=by
 unfold ixL
 rw [if_pos (by omega),show i.toNat=m by omega,h]
theorem Jat {α:Type} {l:List α} {i:Int} (h1:0<=i) (h2:i<l.length) {Q:α->Prop} (k:∀x,x∈l->l[i.toNat]? =some x->Q x):okP (ixL l i) Q:=by
 have hl:i.toNat<l.length:=by omega
 exact⟨l[i.toNat],JaN i.toNat (by omega) (Wg hl),k _ (List.getElem_mem hl) (Wg hl)⟩
theorem QZ {α:Type} {l y:List α} (h:l.length+y.length<=16777216):apL l y=some (l++y):=if_pos h
theorem Je2 {α:Type} {l:List α} {a b:Int} (h1:0<=a) (h2:a<=b) (h3:b<=l.length):slL l a b=some ((l.drop a.toNat).take (b.toNat - a.toNat)):=if_pos ⟨h1,h2,h3⟩
theorem JgV {α:Type} {n:Int} {z:α} (h1:0<=n) (h2:n<=16777216):mkL n z=some (List.replicate n.toNat z):=if_pos ⟨h1,h2⟩
theorem Jes {α:Type} (b:Bool) (x y:α):cond b x y=if b=true then x else y:=by cases b<;>rfl
theorem toList_inj {a b:ByteArray} (h:a.toList=b.toList):a=b:=by
 have h2:a.data.toList=b.data.toList:=by
  have e:∀s:ByteArray,s.toList=s.data.toList:=fun s=>by
   exact ByteArray.toList_eq s
  rw [<-e a,<-e b,h]
 cases a
 cases b
 congr 1
 exact Array.toList_inj.1 h2
theorem JuN (x n:Int) (h1:1<=n) (h2:n<=4611686018427387904):Jfh x n=some (x % n):=by
 unfold Jfh
 rw [show decide (n<(1:Int))=false from We (by omega)]
 have hz:nz n=some ():=by unfold nz;rw [if_neg (by omega)]
 simp only [cond_false,hz,Wo]
 have t1:=Int.tmod_lt_of_pos x (show 0<n by omega)
 have t2:=Int.lt_tmod_of_pos x (show 0<n by omega)
 have e1:=Int.emod_nonneg x (show n≠0 by omega)
 have e2:=Int.emod_lt_of_pos x (show 0<n by omega)
 have he:=Int.tmod_eq_emod (a:=x) (b:=n)
 by_cases hneg:x.tmod n<0
 .
  rw [show decide (x.tmod n<0)=true from Wd hneg,cond_true,JM (by omega) (by omega)]
  congr 1
  split at he<;>omega
 .
  rw [show decide (x.tmod n<0)=false from We hneg,cond_false]
  congr 1
  split at he<;>omega
structure SrcOk (s:Src):Prop where
 lo:0<=s.At
 hi:s.At<=s.L.length
 len:s.L.length<=2000
theorem Jva (l:List Int):okP (Jfg l) SrcOk:=by
 unfold Jfg
 refine Jh (fun h=> ?_) (fun h=> ?_)
 .
  have h:=Wt h
  refine JfE (Je2 (by omega) (by omega) (by omega)) (Jf ⟨?_,?_,?_⟩)
  . exact Int.le_refl 0
  . exact Int.natCast_nonneg _
  . simp only [List.length_take];omega
 .
  have h:=Wf h
  exact Jf ⟨Int.le_refl 0,Int.natCast_nonneg _,by show l.length<=2000;omega⟩
theorem Ju9 (s:Src) (h:SrcOk s):okP (Jb8 s) (fun r=>SrcOk r.2):=by
 obtain⟨h1,h2,h3⟩:=h
 unfold Jb8
 refine Jh (fun h=>Jf ⟨h1,h2,h3⟩) (fun h=> ?_)
 have h:=Wf h
 rw [JM (z:=s.At+1) (by omega) (by omega),JM (z:=s.At+1 - 1) (by omega) (by omega)]
 refine Ji (Jat (Q:=fun _=>True) (by omega) (by omega) (fun _ _ _=>trivial)) (fun x _=>Jf ⟨?_,?_,h3⟩)
 . show 0<=s.At+1;omega
 . show s.At+1<=s.L.length;omega
theorem Jd8 (s:Src) (n:Int) (h:SrcOk s) (h1:1<=n) (h2:n<=4611686018427387904):okP (JF s n) (fun r=>0<=r.1∧r.1<n∧SrcOk r.2):=by
 unfold JF
 refine Ji (Ju9 s h) (fun r hr=>JfE (JuN _ _ h1 h2) (Jf ⟨Int.emod_nonneg _ (by omega),Int.emod_lt_of_pos _ (by omega),hr⟩))
theorem Jbl (k:Int):Qp k=some (decide (1<=k)&&decide (k<=6)):=by
 unfold Qp
 cases decide ((1:Int)<=k)<;>rfl
def ixF {α:Type} (f:α->Option Bool):List α->Nat->Option (Ctl Int Unit)
 |[],_=>some (.brk ())
 |e::q,k=>(f e).bind fun r=>cond r (some (.ret (k:Int))) (ixF f q (k+1))
theorem JqJ {α:Type} {f:α->Option Bool} {p:α->Bool}:∀(l:List α) (k:Nat),(∀e∈l,f e=some (p e))->ixF f l k=some (match l.findIdx? p with |some j=> .ret ((k+j:Nat):Int)|none=> .brk ())
 |[],k,_=>rfl
 |e::q,k,h=>by
  rw [ixF,h e (List.mem_cons_self ..),Wo,List.findIdx?_cons]
  cases he:p e with
  |true=>simp
  |false=>
   rw [cond_false,JqJ q (k+1) (fun x hx=>h x (List.mem_cons_of_mem _ hx))]
   cases q.findIdx? p with
   |none=>simp
   |some j=>simp;omega
theorem JfI {α:Type} {f:α->Option Bool} {p:α->Bool} (l:List α) (h:∀e∈l,f e=some (p e)):Ctl.fin (ixF f l 0) (fun _=>some (-1:Int))=some (match l.findIdx? p with |some j=>(j:Int)|none=> -1):=by
 rw [JqJ l 0 h]
 cases l.findIdx? p with
 |none=>rfl
 |some j=>simp [Ctl.fin]
theorem JnF {α:Type} (p:α->Bool) (l:List α):decide ((0:Int)<=(match l.findIdx? p with |some j=>(j:Int)|none=> -1))=l.any p:=by
 cases h:l.findIdx? p with
 |none=>
  rw [List.findIdx?_eq_none_iff] at h
  have:l.any p=false:=by
   rw [List.any_eq_false]
   intro x hx
   rw [h x hx]
   exact Bool.false_ne_true
  rw [this]
  rfl
 |some j=>
  obtain⟨hj,hp,_⟩:=List.findIdx?_eq_some_iff_getElem.1 h
  have:l.any p=true:=List.any_eq_true.2 ⟨l[j],List.getElem_mem hj,hp⟩
  rw [this]
  exact Wd (Int.natCast_nonneg j)
theorem Jdb {α:Type} {f:α->Option Bool} {p:α->Bool} (l:List α) (h:∀e∈l,f e=some (p e)):((Ctl.fin (ixF f l 0) (fun _=>some (-1:Int))).bind fun r=>some (decide ((0:Int)<=r)))=some (l.any p):=by
 rw [JfI l h,Wo,JnF]
def dlF {α:Type} (f:α->Option Bool):Nat->List α->Int->Int->Option (Ctl (List α) (List α×Int))
 |0,_,_,_=>none
 |q+1,a,i,j=>cond (decide (j<(a.length:Int))) ((ixL a j).bind fun e=>(f e).bind fun r=>cond (!r) ((ixL a i).bind fun _=>dlF f q (a.set i.toNat e) (w64 (i+(1:Int))) (w64 (j+(1:Int)))) (dlF f q a i (w64 (j+(1:Int)))))
  (some (.brk (a,i)))
theorem JmT {α:Type} {f:α->Option Bool} {p:α->Bool}:∀(n:Nat) (a:List α) (i j:Nat),i<=j->j<=a.length->a.length - j<n->a.length<=1000000000->(∀e∈a.drop j,f e=some (p e))->
  ∃(a':List α) (i':Nat),dlF f n a i j=some (.brk (a',(i':Int)))∧a'.length=a.length∧i'<=a.length∧a'.take i'=a.take i++(a.drop j).filter (fun e=> !p e)
 |0,a,i,j,h1,h2,h3,h4,h5=>by omega
 |n+1,a,i,j,h1,h2,h3,h4,h5=>by
  by_cases hj:j<a.length
  .
   have hd:a.drop j=a[j]::a.drop (j+1):=List.drop_eq_getElem_cons hj
   rw [dlF,show decide ((j:Int)<(a.length:Int))=true from Wd (by omega),cond_true,JaN j rfl (Wg hj),Wo,h5 a[j] (by rw [hd];exact List.mem_cons_self ..),Wo,JM (z:=(j:Int)+1) (by omega) (by omega)]
   have h5':∀e∈a.drop (j+1),f e=some (p e):=fun e he=>h5 e (by rw [hd];exact List.mem_cons_of_mem _ he)
   cases hp:p a[j] with
   |true=>
    obtain⟨a',i',e1,e2,e3,e4⟩:=JmT n a i (j+1) (by omega) (by omega) (by omega) h4 h5'
    refine⟨a',i',?_,e2,e3,?_⟩
    . rw [<-e1];simp
    . rw [e4,hd,List.filter_cons_of_neg (by simp [hp])]
   |false=>
    have hi:i<a.length:=by omega
    have hs:(a.set i a[j]).drop (j+1)=a.drop (j+1):=List.drop_set_of_lt (by omega)
    obtain⟨a',i',e1,e2,e3,e4⟩:=JmT n (a.set i a[j]) (i+1) (j+1) (by omega) (by simp only [List.length_set];omega) (by simp only [List.length_set];omega) (by simpa using h4) (by rw [hs];exact h5')
    refine⟨a',i',?_,by simpa using e2,by simpa using e3,?_⟩
    .
     rw [Bool.not_false,cond_true,JaN i rfl (Wg hi),Wo,JM (z:=(i:Int)+1) (by omega) (by omega),Int.toNat_natCast]
     exact_mod_cast e1
    .
     rw [e4,hs,hd,List.filter_cons_of_pos (by simp [hp])]
     rw [List.take_add_one,List.getElem?_set_self hi,List.take_set_of_le (Nat.le_refl _)]
     simp
  .
   refine⟨a,i,?_,rfl,by omega,?_⟩
   . rw [dlF,show decide ((j:Int)<(a.length:Int))=false from We (by omega),cond_false]
   . rw [List.drop_of_length_le (by omega)];simp
theorem JkA {α:Type} {f:α->Option Bool} {p:α->Bool} {z:α} {g:Option Int} {N:Nat} (l:List α) (hN:1000000000<=N) (hl:l.length<1000000000) (h:∀e∈l,f e=some (p e)) (hg:g=some (match l.findIdx? p with |some j=>(j:Int)|none=> -1)):
  (g.bind fun r=>cond (r==(-1:Int)) (some l) (Ctl.fin (dlF f N l r (w64 (r+(1:Int)))) fun s=>(slL s.1 s.2 (s.1.length:Int)).bind fun l2=>(slL (clT s.1 l2 z) 0 s.2).bind fun l3=>some l3))=some (l.filter fun e=> !p e):=by
 rw [hg,Wo]
 cases hf:l.findIdx? p with
 |none=>
  rw [List.findIdx?_eq_none_iff] at hf
  show some l=_
  rw [List.filter_eq_self.2]
  intro x hx
  rw [hf x hx];rfl
 |some j=>
  obtain⟨hj,hp,hb⟩:=List.findIdx?_eq_some_iff_getElem.1 hf
  show cond (((j:Nat):Int)==(-1:Int)) _ _=_
  rw [show (((j:Nat):Int)==(-1:Int))=false from by simp,cond_false]
  show Ctl.fin (dlF f N l (j:Int) (w64 ((j:Int)+1))) _=_
  rw [JM (by omega) (by omega)]
  obtain⟨a',i',e1,e2,e3,e4⟩:=JmT (f:=f) (p:=p) N l j (j+1) (by omega) (by omega) (by omega) (by omega) (fun e he=>h e (List.mem_of_mem_drop he))
  rw [show ((j:Int)+1)=((j+1:Nat):Int) by omega,e1]
  show ((slL a' i' (a'.length:Int)).bind fun l2=>(slL (clT a' l2 z) 0 i').bind fun l3=>some l3)=_
  rw [Je2 (by omega) (by omega) (by omega),Wo]
  have hlen:((a'.drop i').take (a'.length - i')).length=a'.length - i':=by simp
  unfold clT
  rw [show (Int.toNat (a'.length:Int))=a'.length by omega,show (Int.toNat (i':Int))=i' by omega,hlen,show a'.length - (a'.length - i')=i' by omega]
  rw [Je2 (by omega) (by omega) (by simp;omega),Wo]
  rw [show Int.toNat (i':Int)=i' by omega,show Int.toNat (0:Int)=0 by rfl,List.drop_zero,Nat.sub_zero]
  rw [List.take_append_of_le_length (by simp;omega),List.take_take,Nat.min_self,e4]
  congr 1
  conv=>rhs;rw [<-List.take_append_drop j l,List.filter_append]
  have h1:(l.take j).filter (fun e=> !p e)=l.take j:=by
   rw [List.filter_eq_self]
   intro x hx
   obtain⟨m,hm,rfl⟩:=List.getElem_of_mem hx
   have hm':m<j:=by simp at hm;omega
   have:=hb m hm'
   rw [List.getElem_take]
   simpa using this
  rw [h1,List.drop_eq_getElem_cons hj,List.filter_cons_of_neg (by simp [hp])]
theorem JlA (l:List Int) (x:Int):x∈Lib.compact l↔x∈l:=by
 unfold Lib.compact Lib.compactUpTo
 simp only [List.mem_map,List.mem_filter,List.mem_range]
 constructor
 .
  rintro⟨j,⟨hj,_⟩,rfl⟩
  rw [getElem!_pos l.toArray j (by simpa using hj)]
  simp
 .
  intro hx
  have hex:∃j,j<l.length∧l[j]? =some x:=by
   obtain⟨j,hj,e⟩:=List.getElem_of_mem hx
   exact⟨j,hj,by rw [Wg hj,e]⟩
  have hind:∀j,j<l.length->l[j]? =some x->∃a,(a<l.length∧Lib.keeps l.toArray a=true)∧l.toArray[a]! =x:=by
   intro j
   induction j with
   |zero=>
    intro hj he
    refine⟨0,⟨hj,by simp [Lib.keeps]⟩,?_⟩
    rw [getElem!_pos l.toArray 0 (by simpa using hj)]
    rw [Wg hj] at he
    simpa using he
   |succ k ih=>
    intro hj he
    by_cases hk:l[k]? =some x
    . exact ih (by omega) hk
    .
     refine⟨k+1,⟨hj,?_⟩,?_⟩
     .
      unfold Lib.keeps
      rw [getElem!_pos l.toArray (k+1) (by simpa using hj),getElem!_pos l.toArray (k+1 - 1) (by simp;omega)]
      rw [Wg hj] at he
      rw [Wg (show k<l.length by omega)] at hk
      simp only [List.getElem_toArray,Nat.add_sub_cancel,Option.some.injEq] at he hk ⊢
      subst he
      simp
      exact fun e=>hk e.symm
     .
      rw [getElem!_pos l.toArray (k+1) (by simpa using hj)]
      rw [Wg hj] at he
      simpa using he
  obtain⟨j,hj,he⟩:=hex
  obtain⟨a,⟨h1,h2⟩,h3⟩:=hind j hj he
  exact⟨a,⟨h1,h2⟩,h3⟩
theorem Jrh (l:List Int) (h:l.length<=1000000):okP (Jl4 l) (fun r=>r.length<=l.length∧∀x,x∈r↔x∈l):=by
 unfold Jl4
 rw [if_pos h]
 refine Jf ⟨?_,fun x=>JlA l x⟩
 unfold Lib.compact Lib.compactUpTo
 rw [List.length_map]
 exact Nat.le_trans (List.length_filter_le _ _) (by simp)
theorem JpX (l:List Int) (h:l.length<=1000000):okP (Jh1 l) (fun r=>r.length=l.length∧∀x,x∈r↔x∈l):=by
 unfold Jh1
 rw [if_pos h]
 exact Jf ⟨List.length_mergeSort _,fun x=>List.mem_mergeSort⟩
theorem JqI (x:Int):∀(l:List Int) (k:Nat),Yf x l k=ixF (fun e=>some (x==e)) l k
 |[],_=>rfl
 |e::q,k=>by rw [Yf,ixF,Wo,JqI x q (k+1)]
theorem JlT (l:List Int) (x:Int):Z7 l x=some (match l.findIdx? (fun e=>x==e) with |some j=>(j:Int)|none=> -1):=by
 unfold Z7
 rw [JqI]
 exact JfI l (fun _ _=>rfl)
theorem JdZ (l:List Int) (x:Int):QU l x=some (decide (x∈l)):=by
 unfold QU
 rw [JlT,Wo]
 refine(congrArg some (JnF (fun e=>x==e) l)).trans ?_
 congr 1
 rw [Bool.eq_iff_iff,List.any_eq_true,decide_eq_true_eq]
 constructor
 . rintro⟨y,hy,e⟩;rw [eq_of_beq e];exact hy
 . exact fun h=>⟨x,h,beq_self_eq_true x⟩
theorem JnA (s:ByteArray):∀(l:List Node) (k:Nat),Ql s l k=ixF (fun e=>some (e.Name.toList==s.toList)) l k
 |[],_=>rfl
 |e::q,k=>by rw [Ql,ixF,Jb6,Wo,Wo,JnA s q (k+1)]
theorem Js0 (x:Layout) (s:ByteArray):JbK x s=some (match x.Nodes.findIdx? (fun e=>e.Name.toList==s.toList) with |some j=>(j:Int)|none=> -1):=by
 unfold JbK Jao
 have:Ctl.fin (Ql s x.Nodes 0) (fun _=>some (-1:Int))=some (match x.Nodes.findIdx? (fun e=>e.Name.toList==s.toList) with |some j=>(j:Int)|none=> -1):=by
  rw [JnA]
  exact JfI x.Nodes (fun _ _=>rfl)
 rw [this]
 rfl
theorem JlN:∀(l:List Node) (k:Nat),J3 l k=ixF (fun e=>some (e.Kind==1)) l k
 |[],_=>rfl
 |e::q,k=>by rw [J3,ixF,JaM,Wo,Wo,JlN q (k+1)]
theorem Jq4 (l:List Node):QR l=some (l.any fun e=>e.Kind==1):=by
 unfold QR Zt
 rw [show J3 l 0=ixF (fun e=>some (e.Kind==1)) l 0 from JlN l 0]
 exact Jdb l (fun _ _=>rfl)
def JnU (x e:Device):Bool:=(x.Kind==e.Kind)&&((x.Node==e.Node)&&((x.Window==e.Window)&&true))
theorem JjI (x e:Device):JnU x e=true↔x=e:=by
 cases x;cases e
 simp [JnU]
theorem Jjx (x:Device):∀(l:List Device) (k:Nat),Qw x l k=ixF (fun e=>some (JnU x e)) l k
 |[],_=>rfl
 |e::q,k=>by rw [Qw,ixF,Wo,Jjx x q (k+1)];rfl
theorem JhF (l:List Device) (x:Device):YV l x=some (decide (x∈l)):=by
 unfold YV JaA
 rw [show Qw x l 0=ixF (fun e=>some (JnU x e)) l 0 from Jjx x l 0,Jdb l (fun _ _=>rfl)]
 congr 1
 rw [Bool.eq_iff_iff,List.any_eq_true,decide_eq_true_eq]
 constructor
 . rintro⟨y,hy,e⟩;rw [(JjI x y).1 e];exact hy
 . exact fun h=>⟨x,h,(JjI x x).2 rfl⟩
def JnK (x e:Fault):Bool:=(x.Kind==e.Kind)&&((x.Node==e.Node)&&((x.Window==e.Window)&&true))
theorem Jjz (x e:Fault):JnK x e=true↔x=e:=by
 cases x;cases e
 simp [JnK]
theorem JlM (x:Fault):∀(l:List Fault) (k:Nat),QE x l k=ixF (fun e=>some (JnK x e)) l k
 |[],_=>rfl
 |e::q,k=>by rw [QE,ixF,Wo,JlM x q (k+1)];rfl
theorem JiA (l:List Fault) (x:Fault):Zh l x=some (decide (x∈l)):=by
 unfold Zh JaI
 rw [show QE x l 0=ixF (fun e=>some (JnK x e)) l 0 from JlM x l 0,Jdb l (fun _ _=>rfl)]
 congr 1
 rw [Bool.eq_iff_iff,List.any_eq_true,decide_eq_true_eq]
 constructor
 . rintro⟨y,hy,e⟩;rw [(Jjz x y).1 e];exact hy
 . exact fun h=>⟨x,h,(Jjz x x).2 rfl⟩
def JgG (x e:Fault):Bool:=(x.Node==e.Node)&&(x.Window==e.Window)
theorem JlL (x:Fault):∀(l:List Fault) (k:Nat),Qg x l k=ixF (fun e=>some (JgG x e)) l k
 |[],_=>rfl
 |e::q,k=>by
  rw [Qg,ixF,Wo,JlL x q (k+1)]
  have:Y6 e x=some (JgG x e):=by
   unfold Y6 JgG
   cases x.Node==e.Node<;>rfl
  rw [this,Wo]
theorem JkE (l:List Fault) (x:Fault):Yc l x=some (l.any (JgG x)):=by
 unfold Yc ZS
 rw [show Qg x l 0=ixF (fun e=>some (JgG x e)) l 0 from JlL x l 0]
 exact Jdb l (fun _ _=>rfl)
theorem Jjw (x:Fault):∀(l:List Fault) (k:Nat),JW x l k=ixF (fun e=>some (JgG x e)) l k
 |[],_=>rfl
 |e::q,k=>by
  rw [JW,ixF,Wo,Jjw x q (k+1)]
  have:Zu e x=some (JgG x e):=by
   unfold Zu JgG
   cases x.Node==e.Node<;>rfl
  rw [this,Wo]
theorem Ji4 (l:List Fault) (x:Fault):QO l x=some (l.any (JgG x)):=by
 unfold QO Ze
 rw [show JW x l 0=ixF (fun e=>some (JgG x e)) l 0 from Jjw x l 0]
 exact Jdb l (fun _ _=>rfl)
theorem JnC (x:Fault):∀(l:List Fault) (k:Nat),JX x l k=ixF (fun e=>some (x.Node==e.Node)) l k
 |[],_=>rfl
 |e::q,k=>by rw [JX,ixF,Ja0,Wo,Wo,JnC x q (k+1)]
theorem JkF (l:List Fault) (x:Fault):QP l x=some (l.any fun e=>x.Node==e.Node):=by
 unfold QP Zf
 rw [show JX x l 0=ixF (fun e=>some (x.Node==e.Node)) l 0 from JnC x l 0]
 exact Jdb l (fun _ _=>rfl)
theorem Jnz:∀(l:List Int) (k:Nat),Qr l k=ixF (fun e=>some (e==0)) l k
 |[],_=>rfl
 |e::q,k=>by rw [Qr,ixF,Zq,Wo,Wo,Jnz q (k+1)]
theorem JnR:∀(n:Nat) (l:List Int) (i j:Int),Qm n l i j=dlF (fun e=>some (e==0)) n l i j
 |0,_,_,_=>rfl
 |n+1,l,i,j=>by
  rw [Qm,dlF]
  simp only [Zq,Wo,JnR n]
theorem Js5 (l:List Int) (hl:l.length<1000000000):Zg l=some (l.filter fun e=> !(e==0)):=by
 unfold Zg Jar
 rw [show Qr l 0=ixF (fun e=>some (e==0)) l 0 from Jnz l 0]
 simp only [JnR]
 exact JkA l (by omega) hl (fun _ _=>rfl) (JfI l (fun _ _=>rfl))
theorem JqG (x:Int):∀(l:List Int) (k:Nat),J8 x l k=ixF (fun e=>some (e==x)) l k
 |[],_=>rfl
 |e::q,k=>by rw [J8,ixF,Y9,Wo,Wo,JqG x q (k+1)]
theorem Jq9 (x:Int):∀(n:Nat) (l:List Int) (i j:Int),J4 x n l i j=dlF (fun e=>some (e==x)) n l i j
 |0,_,_,_=>rfl
 |n+1,l,i,j=>by
  rw [J4,dlF]
  simp only [Y9,Wo,Jq9 x n]
theorem Js6 (l:List Int) (x:Int) (hl:l.length<1000000000):Yr l x=some (l.filter fun e=> !(e==x)):=by
 unfold Yr ZC
 rw [show J8 x l 0=ixF (fun e=>some (e==x)) l 0 from JqG x l 0]
 simp only [Jq9]
 exact JkA l (by omega) hl (fun _ _=>rfl) (JfI l (fun _ _=>rfl))
theorem JqH:∀(l:List Passage) (k:Nat),J2 l k=ixF (fun e=>some (e.From==e.To)) l k
 |[],_=>rfl
 |e::q,k=>by rw [J2,ixF,Y8,Wo,Wo,JqH q (k+1)]
theorem Jra:∀(n:Nat) (l:List Passage) (i j:Int),JY n l i j=dlF (fun e=>some (e.From==e.To)) n l i j
 |0,_,_,_=>rfl
 |n+1,l,i,j=>by
  rw [JY,dlF]
  simp only [Y8,Wo,Jra n]
theorem JnV (l:List Passage) (hl:l.length<1000000000):Yb l=some (l.filter fun e=> !(e.From==e.To)):=by
 unfold Yb Zs
 rw [show J2 l 0=ixF (fun e=>some (e.From==e.To)) l 0 from JqH l 0]
 simp only [Jra]
 exact JkA l (by omega) hl (fun _ _=>rfl) (JfI l (fun _ _=>rfl))
theorem JlK (x1:Layout) (x2:Int) (x3:List Int) (x4 x5:List Bool):∀(l:List Int) (k:Nat),Qa x1 x2 x3 x4 x5 l k=ixF (fun e=>Zp e x1 x2 x3 x4 x5) l k
 |[],_=>rfl
 |e::q,k=>by rw [Qa,ixF,JlK x1 x2 x3 x4 x5 q (k+1)]
theorem JkD (l:List Int) (x1:Layout) (x2:Int) (x3:List Int) (x4 x5:List Bool) {p:Int->Bool} (h:∀e∈l,YU x1 x2 e x3 x4 x5=some (p e)):Qs l x1 x2 x3 x4 x5=some (l.any fun e=> !p e):=by
 unfold Qs ZE
 rw [show Qa x1 x2 x3 x4 x5 l 0=ixF (fun e=>Zp e x1 x2 x3 x4 x5) l 0 from JlK x1 x2 x3 x4 x5 l 0]
 refine Jdb l (fun e he=> ?_)
 unfold Zp
 rw [h e he]
 rfl
theorem Jui (x1:List Bool):∀(l:List Int) (k:Nat),J9 x1 l k=ixF (fun e=>Zo e x1) l k
 |[],_=>rfl
 |e::q,k=>by rw [J9,ixF,Jui x1 q (k+1)]
def isF (l:List Bool) (x:Int):Bool:=decide (1<=x)&&decide (x<=l.length)&&(l[(x - 1).toNat]?).getD false
theorem Juj (l:List Bool) (x:Int) (hl:l.length<=1000000):Jcw l x=some (isF l x):=by
 unfold Jcw isF
 by_cases h1:1<=x
 .
  by_cases h2:x<=l.length
  .
   have hk:(x - 1).toNat<l.length:=by omega
   rw [Wd h1,Wd h2,cond_true,cond_true,JM (by omega) (by omega),JaN (x - 1).toNat (by omega) (Wg hk),Wo,Wg hk]
   rfl
  . rw [Wd h1,We h2,cond_true,cond_false];rfl
 . rw [We h1,cond_false];rfl
theorem JkG (l:List Int) (x1:List Bool) (hl:x1.length<=1000000):Q5 l x1=some (l.any fun e=> !isF x1 e):=by
 unfold Q5 ZD
 rw [show J9 x1 l 0=ixF (fun e=>Zo e x1) l 0 from Jui x1 l 0]
 refine Jdb l (fun e he=> ?_)
 unfold Zo
 rw [Juj x1 e hl]
 rfl
theorem JnB (v:Plan):∀(l:List Hypothesis) (k:Nat),JR v l k=ixF (fun e=>JaT e v) l k
 |[],_=>rfl
 |e::q,k=>by rw [JR,ixF,JnB v q (k+1)]
theorem JkH (l:List Hypothesis) (v:Plan) {p:Hypothesis->Bool} (h:∀e∈l,YP v e.Plant=some (p e)):Qn l v=some (l.any fun e=> !p e):=by
 unfold Qn YQ
 rw [show JR v l 0=ixF (fun e=>JaT e v) l 0 from JnB v l 0]
 refine Jdb l (fun e he=> ?_)
 unfold JaT
 rw [h e he]
 rfl
variable {k i:Nat} {x:Node} {zs:Nat->Int} {ly:Layout}
theorem Qe {α:Type} {l q:List α} {e:α} (h:l.drop k=e::q):l[k]? =some e∧l.drop (k+1)=q∧k<l.length:=by
 have hk:k<l.length:=by
  rcases Nat.lt_or_ge k l.length with c |c
  . exact c
  . rw [List.drop_of_length_le c] at h;cases h
 rw [List.drop_eq_getElem_cons hk] at h
 injection h with h1 h2
 exact⟨by rw [Wg hk,h1],h2,hk⟩
theorem JG {α:Type} {l:List α} {x:α} (h:l[k]? =some x):ixL l (k:Int)=some x:=JaN k rfl h
theorem QD {α:Type} {l:List α} {i:Int} {x:α} (h0:0<=i) (h:l[i.toNat]? =some x):ixL l i=some x:=JaN i.toNat (by omega) h
theorem YO {α:Type} {l:List α} (h:k<l.length):∃x,l[k]? =some x:=⟨l[k],Wg h⟩
theorem JT {α:Type} {l:List α} {x:α} (h:l[k]? =some x):k<l.length:=(List.getElem?_eq_some_iff.1 h).1
theorem ZL {α:Type} {l:List α} {x:α} (h:l[k]? =some x):x∈l:=Wm h
def exN (k:Int):Int:=if k=8 then 0 else if k=9 then 0 else if k=4 then 2 else if k=5 then 2 else if k=6 then 2 else 1
theorem Jq3 (k:Int):Jb5 k=some (exN k):=by
 unfold Jb5 exN
 simp only [Jes,beq_iff_eq]
 split
 . rfl
 split
 . rfl
 split
 . rfl
 split
 . rfl
 split<;>rfl
structure NodeW (n:Nat) (zs:Nat->Int) (i:Nat) (x:Node):Prop where
 name:x.Name=⟨#[UInt8.ofNat (65+i)]⟩
 kind1:1<=x.Kind
 kind9:x.Kind<=9
 entry:x.Kind=1↔i=0
 zone:x.Zone=zs i
 zone01:x.Zone=0∨x.Zone=1
 z0:x.Kind=1∨x.Kind=3∨x.Kind=6->x.Zone=0
 z1:x.Kind=7∨x.Kind=8->x.Zone=1
 len0:6<x.Kind->x.Length=0
 len1:x.Kind<=6->1<=x.Length∧x.Length<=4
 len5:x.Kind=5->2<=x.Length
 exs:(x.Exits.length:Int)=exN x.Kind
 nodup:x.Exits.Nodup
 ex:∀(k:Nat) (e:Int),x.Exits[k]? =some e->(x.Kind=5∧k=0∧e=i)∨(¬(x.Kind=5∧k=0)∧(i:Int)<e∧e<n∧zs e.toNat=if x.Kind=6∧k=1 then 1 else x.Zone)
structure LayW (zs:Nat->Int) (ly:Layout):Prop where
 n1:1<=ly.Nodes.length
 n11:ly.Nodes.length<=11
 nodes:∀(i:Nat) (x:Node),ly.Nodes[i]? =some x->NodeW ly.Nodes.length zs i x
 devs:ly.Devices.length<=24
 dev:∀d∈ly.Devices,(d.Kind=1∨d.Kind=2)∧0<=d.Node∧d.Node<ly.Nodes.length∧0<=d.Window∧∃x,ly.Nodes[d.Node.toNat]? =some x∧d.Window<x.Length
 nodupD:ly.Devices.Nodup
theorem LayW.exit (h:LayW zs ly) (hx:ly.Nodes[i]? =some x) {k:Nat} {e:Int} (he:x.Exits[k]? =some e):0<=e∧(i:Int)<=e∧∃y,ly.Nodes[e.toNat]? =some y∧y.Zone=(if x.Kind=6∧k=1 then 1 else x.Zone)∧y.Kind≠1:=by
 have hw:=h.nodes i x hx
 have hi:=JT hx
 rcases hw.ex k e he with⟨h5,hk,rfl⟩|⟨_,h1,h2,h3⟩
 .
  refine⟨by omega,by omega,x,by simpa using hx,?_,by omega⟩
  rw [if_neg (by omega)]
 .
  obtain⟨y,hy⟩:=YO (l:=ly.Nodes) (k:=e.toNat) (by omega)
  have hw2:=h.nodes _ y hy
  refine⟨by omega,by omega,y,hy,by rw [hw2.zone,h3],?_⟩
  intro c
  have:=hw2.entry.1 c
  omega
theorem JsK:∀i:Fin 11,JdW ⟨#[UInt8.ofNat (65+i.val)]⟩ 12=some true:=by decide+kernel
theorem Jql:∀i j:Fin 11,((⟨#[UInt8.ofNat (65+i.val)]⟩:ByteArray).toList==(⟨#[UInt8.ofNat (65+j.val)]⟩:ByteArray).toList)=decide (i=j):=by decide+kernel
theorem Jki (ly:Layout) (i:Nat) (x:Node) (zs:Nat->Int) (hw:NodeW ly.Nodes.length zs i x) (hi:i<ly.Nodes.length):∀(q:List Int) (k:Nat),x.Exits.drop k=q->Zc ly (i:Int) x q k=some (.brk ())
 |[],_,_=>rfl
 |e::q,k,hd=>by
  obtain⟨h1,h2,h3⟩:=Qe hd
  have hin:e∉x.Exits.take k:=by
   intro hm
   obtain⟨m,hm2,hm3⟩:=List.getElem_of_mem hm
   have hmk:m<k:=by simp at hm2;omega
   rw [List.getElem_take] at hm3
   obtain⟨hk4,hk5⟩:=List.getElem?_eq_some_iff.1 h1
   have:=(List.getElem_inj hw.nodup (i:=m) (j:=k) (h₀:=by omega) (h₁:=hk4)).1 (by rw [hm3,hk5])
   omega
  have hsl:slL x.Exits 0 (k:Int)=some (x.Exits.take k):=by
   rw [Je2 (by omega) (by omega) (by omega)]
   simp
  rw [Zc]
  rcases hw.ex k e h1 with⟨h5,hk,rfl⟩|⟨h5,a1,a2,_⟩
  .
   rw [h5]
   simp only [beq_self_eq_true,cond_true]
   rw [We (by omega),cond_false,We (by omega),cond_false]
   subst hk
   rw [show (((0:Nat):Int)==(0:Int))=true from rfl,hsl]
   simp only [beq_self_eq_true,Bool.not_true,cond_false,Wo,JdZ,hin,decide_false]
   exact Jki ly i x zs hw hi q (0+1) h2
  .
   have hne:(e==(i:Int))=false:=by simp;omega
   rw [hsl,Wo,JdZ,Wo,We hin,cond_false,hne,We (show ¬e<0 by omega),We (show ¬((ly.Nodes.length:Nat):Int)<=e by omega),Jki ly i x zs hw hi q (k+1) h2]
   cases h6:x.Kind==5 with
   |true=>
    have:((k:Int)==0)=false:=by
     have:¬k=0:=fun c=>h5 ⟨eq_of_beq h6,c⟩
     simp;omega
    rw [this]
    rfl
   |false=>rfl
theorem Jqv (h:LayW zs ly) (hx:ly.Nodes[i]? =some x):Jbf ly (i:Int)=some true:=by
 have hw:=h.nodes i x hx
 unfold Jbf
 rw [JG hx,Wo,Jq3,Wo,show (((x.Exits.length:Nat):Int) != exN x.Kind)=false from by rw [hw.exs];simp,cond_false,Jki ly i x zs hw (JT hx) x.Exits 0 rfl]
 rfl
theorem Jox {n:Nat} (hw:NodeW n zs i x):Jbo x=some true:=by
 unfold Jbo
 rw [Jbl,Wo]
 by_cases h6:x.Kind<=6
 .
  have:=hw.len1 h6
  have h5:=hw.len5
  rw [Wd hw.kind1,Wd h6]
  simp only [Bool.and_self,Bool.not_true,cond_false]
  refine(Jes _ _ _).trans ?_
  split
  .
   rename_i c
   have:=h5 (eq_of_beq c)
   rw [Wd this,cond_true,Wd (show x.Length<=8 by omega)]
  . rw [Wd this.1,cond_true,Wd (show x.Length<=8 by omega)]
 .
  rw [We h6,Bool.and_false,hw.len0 (by omega)]
  rfl
theorem JsI (h:LayW zs ly) (hx:ly.Nodes[i]? =some x):JcI ly (i:Int)=some 0:=by
 have hw:=h.nodes i x hx
 have hi:=JT hx
 have hn:=h.n11
 unfold JcI
 rw [JG hx,Wo,hw.name,JsK ⟨i,by omega⟩,Wo,Bool.not_true,cond_false,We (show ¬x.Kind<1 by have:=hw.kind1;omega),cond_false,We (show ¬9<x.Kind by have:=hw.kind9;omega),cond_false,Jox hw,Wo,Bool.not_true,cond_false,Jqv h hx,Wo,Bool.not_true,cond_false]
 rcases hw.zone01 with e |e<;>rw [e]<;>rfl
theorem Jo3 {zs:Nat->Int} {ly:Layout} (h:LayW zs ly):∀(q:List Node) (k:Nat),ly.Nodes.drop k=q->Yy ly q k=some (.brk ())
 |[],_,_=>rfl
 |e::q,k,hd=>by
  obtain⟨h1,h2,h3⟩:=Qe hd
  rw [Yy,JsI h h1,Wo,Jo3 h q (k+1) h2]
  rfl
theorem Jnc:∀(q:List Node) (k:Nat) (i:Int),(∀x∈q,0<=x.Length∧x.Length<=4)->0<=i->i+4*q.length<=1000000->okP (ZM q k i) (YB (fun _=>False) (fun s=>0<=s∧s<=i+4*q.length))
 |[],k,i,_,h0,_=>Jf ⟨h0,by simp⟩
 |x::q,k,i,hq,h0,h1=>by
  have hx:=hq x (List.mem_cons_self ..)
  have hl:(x::q).length=q.length+1:=rfl
  rw [ZM,JM (by omega) (by omega)]
  refine Qx (Jnc q (k+1) (i+x.Length) (fun y hy=>hq y (List.mem_cons_of_mem _ hy)) (by omega) (by omega)) (fun c hc=> ?_)
  cases c with
  |ret r=>exact hc
  |brk s=>exact⟨hc.1,by have:=hc.2;show s<=i+4*((q.length+1:Nat):Int);omega⟩
theorem NodeW.lens {n:Nat} (h:NodeW n zs i x):0<=x.Length∧x.Length<=4:=by
 by_cases c:x.Kind<=6
 . have:=h.len1 c;omega
 . have:=h.len0 (by omega);omega
theorem LayW.lens (h:LayW zs ly):∀x∈ly.Nodes,0<=x.Length∧x.Length<=4:=fun x hx=>by
 obtain⟨i,hi,rfl⟩:=List.getElem_of_mem hx
 exact(h.nodes i _ (Wg hi)).lens
theorem Jo4 (h:LayW zs ly):okP (Jb3 ly) (fun s=>s<=80):=by
 have hn:=h.n11
 unfold Jb3
 exact Q6 (Jnc ly.Nodes 0 0 h.lens (by omega) (by omega)) (fun s hs=>Jf (by omega))
theorem JsZ (h:LayW zs ly) (hx:ly.Nodes[i]? =some x):JbK ly x.Name=some (i:Int):=by
 rw [Js0]
 have hn:=h.n11
 have hi:=JT hx
 have hf:ly.Nodes.findIdx? (fun e=>e.Name.toList==x.Name.toList)=some i:=by
  rw [List.findIdx?_eq_some_iff_getElem]
  refine⟨hi,?_,fun j hj=> ?_⟩
  . rw [(List.getElem?_eq_some_iff.1 hx).2];exact beq_self_eq_true _
  .
   have hj':j<ly.Nodes.length:=by omega
   have h1:=h.nodes j _ (Wg hj')
   rw [h1.name,(h.nodes i x hx).name,Jql ⟨j,by omega⟩ ⟨i,by omega⟩]
   simp
   omega
 rw [hf]
theorem Jns {zs:Nat->Int} {ly:Layout} (h:LayW zs ly):∀(q:List Node) (k:Nat),ly.Nodes.drop k=q->ZN ly q k=some (.brk ())
 |[],_,_=>rfl
 |e::q,k,hd=>by
  obtain⟨h1,h2,h3⟩:=Qe hd
  rw [ZN,JsZ h h1,Wo,Jns h q (k+1) h2]
  simp
theorem Jqk (h:LayW zs ly):Jb4 ly=some true:=by
 unfold Jb4
 rw [Jns h ly.Nodes 0 rfl]
 rfl
theorem JkS {zs:Nat->Int} {ly:Layout} (h:LayW zs ly) {i:Nat} {x:Node} (hx:ly.Nodes[i]? =some x) (h6:x.Kind≠6):∀(q:List Int) (k:Nat),x.Exits.drop k=q->JI ly x q k=some (.brk ())
 |[],_,_=>rfl
 |e::q,k,hd=>by
  obtain⟨h1,h2,h3⟩:=Qe hd
  obtain⟨a0,_,y,hy,hz,hk⟩:=h.exit hx h1
  rw [if_neg (fun c=>h6 c.1)] at hz
  rw [JI,QD a0 hy,Wo,JkS h hx h6 q (k+1) h2,show (y.Kind==1)=false from by simp;exact hk,cond_false,Wo,show (y.Zone != x.Zone)=false from by simp;exact hz,cond_false]
theorem JkR {zs:Nat->Int} {ly:Layout} (h:LayW zs ly) {i:Nat} {x:Node} (hx:ly.Nodes[i]? =some x) (h6:x.Kind=6):∀(q:List Int) (k:Nat),x.Exits.drop k=q->Zb ly x q k=some (.brk ())
 |[],_,_=>rfl
 |e::q,k,hd=>by
  obtain⟨h1,h2,h3⟩:=Qe hd
  obtain⟨a0,_,y,hy,hz,hk⟩:=h.exit hx h1
  rw [Zb,QD a0 hy,Wo,JkR h hx h6 q (k+1) h2,Wo,show (y.Kind==1)=false from by simp;exact hk,cond_false]
  by_cases c:k=1
  .
   rw [if_pos ⟨h6,c⟩] at hz
   rw [show ((k:Int)==1)=true from by simp;omega,cond_true,show (y.Zone != 1)=false from by simp;exact hz,cond_false]
  .
   rw [if_neg (fun d=>c d.2)] at hz
   simp only [show ((k:Int)==1)=false from by simp;omega,cond_false,Wo,show (y.Kind==1)=false from by simp;exact hk,show (y.Zone != x.Zone)=false from by simp;exact hz,cond_false]
theorem JoY (h:LayW zs ly) (hx:ly.Nodes[i]? =some x):Jb2 ly (i:Int)=some true:=by
 have hw:=h.nodes i x hx
 unfold Jb2
 rw [JG hx,Wo]
 by_cases c6:x.Kind=6
 .
  rw [JkR h hx c6 x.Exits 0 rfl,c6,hw.z0 (by omega)]
  rfl
 .
  have h6:(x.Kind==6)=false:=by simp;exact c6
  rw [JkS h hx c6 x.Exits 0 rfl,h6]
  have k1:=hw.z0
  have k2:=hw.z1
  simp only [Jes,beq_iff_eq,bne_iff_ne,Bool.false_eq_true,if_false,ne_eq]
  split
  . rw [if_neg (by have:=k1 (by omega);omega)];rfl
  split
  . rw [if_neg (by have:=k1 (by omega);omega)];rfl
  split
  . rw [if_neg (by have:=k2 (by omega);omega)];rfl
  split
  . rw [if_neg (by have:=k2 (by omega);omega)];rfl
  rfl
theorem Jo2 {zs:Nat->Int} {ly:Layout} (h:LayW zs ly):∀(q:List Node) (k:Nat),ly.Nodes.drop k=q->Yx ly q k=some (.brk ())
 |[],_,_=>rfl
 |e::q,k,hd=>by
  obtain⟨h1,h2,h3⟩:=Qe hd
  rw [Yx,JoY h h1,Wo,Jo2 h q (k+1) h2]
  rfl
theorem Jrc {zs:Nat->Int} {ly:Layout} (h:LayW zs ly):∀(q:List Device) (k:Nat),ly.Devices.drop k=q->Ym ly q k=some (.brk ())
 |[],_,_=>rfl
 |e::q,k,hd=>by
  obtain⟨h1,h2,h3⟩:=Qe hd
  obtain⟨a1,a2,a3,a4,y,hy,a5⟩:=h.dev e (ZL h1)
  rw [Ym,Jrc h q (k+1) h2,We (show ¬e.Node<0 by omega),We (show ¬((ly.Nodes.length:Nat):Int)<=e.Node by omega),We (show ¬e.Window<0 by omega),QD a2 hy]
  simp only [cond_false,Wo]
  rw [We (show ¬y.Length<=e.Window by omega),cond_false]
  rcases a1 with e1 |e1<;>rw [e1]<;>rfl
theorem Jmp {α:Type} [DecidableEq α] {l:List α} (hn:l.Nodup) {e:α} (h:l[k]? =some e):e∉l.take k:=by
 intro hm
 obtain⟨m,hm2,hm3⟩:=List.getElem_of_mem hm
 have hmk:m<k:=by simp at hm2;omega
 rw [List.getElem_take] at hm3
 obtain⟨hk4,hk5⟩:=List.getElem?_eq_some_iff.1 h
 have:=(List.getElem_inj hn (i:=m) (j:=k) (h₀:=by omega) (h₁:=hk4)).1 (by rw [hm3,hk5])
 omega
theorem Jrb {zs:Nat->Int} {ly:Layout} (h:LayW zs ly):∀(q:List Device) (k:Nat),ly.Devices.drop k=q->Y3 ly q k=some (.brk ())
 |[],_,_=>rfl
 |e::q,k,hd=>by
  obtain⟨h1,h2,h3⟩:=Qe hd
  rw [Y3,Je2 (by omega) (by omega) (by omega),Wo,JhF,Wo]
  have:=Jmp h.nodupD h1
  simp only [Int.toNat_natCast,Int.toNat_zero,List.drop_zero,Nat.sub_zero,We this,cond_false]
  exact Jrb h q (k+1) h2
theorem JmU (h:LayW zs ly):Ja7 ly=some 0:=by
 unfold Ja7
 rw [Jrc h ly.Devices 0 rfl,Jrb h ly.Devices 0 rfl]
 rfl
theorem JqO (h:LayW zs ly):QR ly.Nodes=some true:=by
 rw [Jq4]
 congr 1
 obtain⟨x,hx⟩:=YO (l:=ly.Nodes) (k:=0) (by have:=h.n1;omega)
 exact List.any_eq_true.2 ⟨x,ZL hx,by rw [(h.nodes 0 x hx).entry.2 rfl];rfl⟩
theorem Jk1 (h:LayW zs ly) {o:List Int} (hs:Jax ly=some o) (hl:o.length=ly.Nodes.length):Q9 ly=some 0:=by
 have hn:=h.n11
 obtain⟨t,ht,ht2⟩:=Jo4 h
 unfold Q9
 rw [We (show ¬(24:Int)<((ly.Nodes.length:Nat):Int) by omega),cond_false,We (show ¬(24:Int)<((ly.Devices.length:Nat):Int) by have:=h.devs;omega),cond_false,Jo3 h ly.Nodes 0 rfl,Zv rfl,ht,Wo,We (show ¬(80:Int)<t by omega),cond_false,Jqk h,Wo,Bool.not_true,cond_false,Jo2 h ly.Nodes 0 rfl,Zv rfl,hs,Wo,We (show ¬((o.length:Nat):Int)<((ly.Nodes.length:Nat):Int) by omega),cond_false,JmU h,Wo,JqO h]
 rfl
end Go.Proofs.YtehhohbnhcogkaaGreatDoor.Ex
namespace Go.Proofs.YtehhohbnhcogkaaGreatDoor.Ex
open Go.RowKit Go.Proofs.YtehhohbnhcogkaaGreatDoor.Ax
variable {W:List (Int×Int)} {x:Int} {i:Nat} {zs:Nat->Int} {ly:Layout}
theorem Jja {a:Int} (h1: -9223372036854775808<=a) (h2:a<=9223372036854775807):wI a=true:=by
 unfold wI
 simp [Lit.wf,IntKind.min,IntKind.max,IntKind.signed,IntKind.bits]
 omega
theorem Jlw {y:Int} (h1: -1000000000<=x) (h2:x<=1000000000) (h3: -1000000000<=y) (h4:y<=1000000000) (h5:W.length<1000000):JcY wI wI W x y=some ((x,y)::W):=by
 unfold JcY
 rw [Jja (by omega) (by omega),Jja (by omega) (by omega),Wd h5]
 rfl
theorem JgS {z:Int} (h1: -1000000000<=x) (h2:x<=1000000000):Jb0 wI W x z=some (Y1 W x z):=by
 unfold Jb0
 rw [Jja (by omega) (by omega)]
 rfl
theorem Jif {y z u:Int}:Y1 ((x,y)::W) u z=if x=u then y else Y1 W u z:=by
 simp [Y1,Jes]
def Jc9 (i:Nat) (es:List Int):List Int:=es.filter (fun e=>e != (i:Int))
theorem Jlm {e:Int} {q:List Int} (h:(e != (i:Int))=true):Jc9 i (e::q)=e::Jc9 i q:=by
 simp only [Jc9,List.filter,h]
theorem Jln {e:Int} {q:List Int} (h:(e != (i:Int))=false):Jc9 i (e::q)=Jc9 i q:=by
 simp only [Jc9,List.filter,h]
def JdX:List Node->Nat->List Int
 |[],_=>[]
 |x::q,k=>Jc9 k x.Exits++JdX q (k+1)
theorem JgO (i:Nat):∀(q:List Int) (k:Nat) (W:List (Int×Int)) (E:List Int),(∀e∈q,0<=e∧e<=1000)->(∀x,Y1 W x 0=(E.count x:Int))->E.length+q.length<=1000->W.length+q.length<=10000->
  okP (YM i q k W) (YB (fun _=>False) (fun W'=>(∀x,Y1 W' x 0=((E++Jc9 i q).count x:Int))∧W'.length<=W.length+q.length))
 |[],k,W,E,_,hW,_,_=>Jf ⟨by simpa [Jc9] using hW,by simp⟩
 |e::q,k,W,E,hq,hW,hE,hL=>by
  have he:=hq e (List.mem_cons_self ..)
  have hl:(e::q).length=q.length+1:=rfl
  have hq':∀x∈q,0<=x∧x<=1000:=fun x hx=>hq x (List.mem_cons_of_mem _ hx)
  rw [YM]
  cases hc:e != (i:Int) with
  |true=>
   have hcnt:(E.count e:Int)<=1000:=by have:=List.count_le_length (a:=e) (l:=E);omega
   rw [cond_true,JgS (by omega) (by omega),Wo,hW e,JM (by omega) (by omega),Jlw (by omega) (by omega) (by omega) (by omega) (by omega),Wo]
   refine Qx (JgO i q (k+1) _ (E++[e]) hq' (fun x=> ?_) (by simp;omega) (by simp;omega)) (fun c hc2=> ?_)
   .
    rw [Jif]
    split
    . rename_i h;subst h;simp
    . rename_i h;rw [hW x,List.count_append,List.count_singleton];simp [h]
   .
    cases c with
    |ret r=>exact hc2
    |brk s=>
     refine⟨fun x=> ?_,?_⟩
     . rw [hc2.1 x,Jlm hc];simp
     . have:=hc2.2;simp at this ⊢;omega
  |false=>
   rw [cond_false]
   refine Qx (JgO i q (k+1) W E hq' hW (by omega) (by omega)) (fun c hc2=> ?_)
   cases c with
   |ret r=>exact hc2
   |brk s=>
    refine⟨fun x=> ?_,?_⟩
    . rw [hc2.1 x,Jln hc]
    . have:=hc2.2;omega
theorem JjH:∀(q:List Node) (k:Nat),(∀x∈q,x.Exits.length<=2)->(JdX q k).length<=2*q.length
 |[],_,_=>by simp [JdX]
 |x::q,k,h=>by
  have h1:=h x (List.mem_cons_self ..)
  have h2:=JjH q (k+1) (fun y hy=>h y (List.mem_cons_of_mem _ hy))
  have h3:(Jc9 k x.Exits).length<=x.Exits.length:=List.length_filter_le _ _
  simp only [JdX,List.length_append,List.length_cons]
  omega
theorem Jjg:∀(q:List Node) (k:Nat) (W:List (Int×Int)) (E:List Int),(∀x∈q,x.Exits.length<=2∧∀e∈x.Exits,0<=e∧e<=1000)->(∀x,Y1 W x 0=(E.count x:Int))->E.length+2*q.length<=1000->W.length+2*q.length<=1000->
  okP (Zl q k W) (YB (fun _=>False) (fun W'=>(∀x,Y1 W' x 0=((E++JdX q k).count x:Int))∧W'.length<=1000))
 |[],k,W,E,_,hW,_,hL=>Jf ⟨by simpa [JdX] using hW,by simpa using hL⟩
 |x::q,k,W,E,hq,hW,hE,hL=>by
  have hx:=hq x (List.mem_cons_self ..)
  have hl:(x::q).length=q.length+1:=rfl
  rw [Zl]
  refine JbZ (JgO k x.Exits 0 W E hx.2 hW (by omega) (by omega) |> fun h=>Qx h (R:=YB (fun _=>False) (fun W'=>(∀y,Y1 W' y 0=((E++Jc9 k x.Exits).count y:Int))∧W'.length<=W.length+x.Exits.length)) (fun c hc=>hc)) (fun W' hW'=> ?_)
  have h3:(Jc9 k x.Exits).length<=x.Exits.length:=List.length_filter_le _ _
  refine Qx (Jjg q (k+1) W' (E++Jc9 k x.Exits) (fun y hy=>hq y (List.mem_cons_of_mem _ hy)) hW'.1 (by simp only [List.length_append];omega) (by have:=hW'.2;omega)) (fun c hc=> ?_)
  cases c with
  |ret r=>exact hc
  |brk s=>exact⟨fun y=>by rw [hc.1 y,JdX,List.append_assoc],hc.2⟩
theorem Jje (W:List (Int×Int)) (D:List Bool) (r n:Nat) (hD:∀j,j<n->D[j]? =some (decide (j<r))) (hr:r<n) (hn:n<=1000) (hW:Y1 W (r:Int) 0=0):∀(q:List Node) (k:Nat),k+q.length=n->k<=r->YL W D q k=some (.brk (r:Int))
 |[],k,h1,h2=>by simp at h1;omega
 |x::q,k,h1,h2=>by
  have hl:(x::q).length=q.length+1:=rfl
  rw [YL,JG (hD k (by omega)),Wo]
  by_cases c:k<r
  .
   rw [Wd c,Bool.not_true,cond_false]
   exact Jje W D r n hD hr hn hW q (k+1) (by omega) (by omega)
  .
   have:k=r:=by omega
   subst this
   rw [We c,Bool.not_false,cond_true,JgS (by omega) (by omega),Wo,hW]
   rfl
theorem JgN (r:Nat):∀(q:List Int) (k:Nat) (W:List (Int×Int)) (E:List Int),(∀e∈q,0<=e∧e<=1000)->(∀x,Y1 W x 0=((Jc9 r q++E).count x:Int))->E.length+q.length<=1000->W.length+q.length<=10000->
  okP (YK (r:Int) q k W) (YB (fun _=>False) (fun W'=>(∀x,Y1 W' x 0=(E.count x:Int))∧W'.length<=W.length+q.length))
 |[],k,W,E,_,hW,_,_=>Jf ⟨by simpa [Jc9] using hW,by simp⟩
 |e::q,k,W,E,hq,hW,hE,hL=>by
  have he:=hq e (List.mem_cons_self ..)
  have hl:(e::q).length=q.length+1:=rfl
  have hq':∀x∈q,0<=x∧x<=1000:=fun x hx=>hq x (List.mem_cons_of_mem _ hx)
  rw [YK]
  cases hc:e != (r:Int) with
  |true=>
   have ho:Jc9 r (e::q)=e::Jc9 r q:=Jlm hc
   rw [ho] at hW
   have h3:(Jc9 r q).length<=q.length:=List.length_filter_le _ _
   have hcnt:((Jc9 r q++E).count e:Int)<=1000:=by have:=List.count_le_length (a:=e) (l:=Jc9 r q++E);simp only [List.length_append] at this;omega
   have hv:Y1 W e 0=((Jc9 r q++E).count e:Int)+1:=by rw [hW e,List.cons_append,List.count_cons_self];omega
   rw [cond_true,JgS (by omega) (by omega),Wo,hv,JM (by omega) (by omega),Jlw (by omega) (by omega) (by omega) (by omega) (by omega),Wo]
   refine Qx (JgN r q (k+1) _ E hq' (fun x=> ?_) (by omega) (by simp;omega)) (fun c hc2=> ?_)
   .
    rw [Jif]
    split
    . rename_i h;subst h;omega
    . rename_i h;rw [hW x,List.cons_append,List.count_cons];simp [h]
   .
    cases c with
    |ret r=>exact hc2
    |brk s=>exact⟨hc2.1,by have:=hc2.2;simp at this ⊢;omega⟩
  |false=>
   have ho:Jc9 r (e::q)=Jc9 r q:=Jln hc
   rw [ho] at hW
   rw [cond_false]
   refine Qx (JgN r q (k+1) W E hq' hW (by omega) (by omega)) (fun c hc2=> ?_)
   cases c with
   |ret r=>exact hc2
   |brk s=>exact⟨hc2.1,by have:=hc2.2;omega⟩
theorem Jix (h:LayW zs ly) {x:Node} (hx:ly.Nodes[i]? =some x):x.Exits.length<=2∧∀e∈x.Exits,0<=e∧e<=1000:=by
 have hw:=h.nodes i x hx
 have:=hw.exs
 have hn:=h.n11
 refine⟨?_,fun e he=> ?_⟩
 .
  unfold exN at this
  split at this
  . omega
  split at this
  . omega
  split at this
  . omega
  split at this
  . omega
  split at this<;>omega
 .
  obtain⟨k,hk,rfl⟩:=List.getElem_of_mem he
  obtain⟨a,_,y,hy,_⟩:=h.exit hx (Wg hk)
  have:=JT hy
  omega
theorem Jl1 {zs:Nat->Int} {ly:Layout} (h:LayW zs ly):∀(q:List Node) (k:Nat),ly.Nodes.drop k=q->∀e∈JdX q k,(k:Int)<e
 |[],_,_,e,he=>by simp [JdX] at he
 |x::q,k,hd,e,he=>by
  obtain⟨h1,h2,h3⟩:=Qe hd
  simp only [JdX,List.mem_append] at he
  rcases he with he |he
  .
   unfold Jc9 at he
   rw [List.mem_filter] at he
   obtain⟨j,hj,rfl⟩:=List.getElem_of_mem he.1
   have:=(h.exit h1 (Wg hj)).2.1
   have:=he.2
   simp at this
   omega
  .
   have:=Jl1 h q (k+1) h2 e he
   omega
theorem Jjf {zs:Nat->Int} {ly:Layout} (h:LayW zs ly):∀(q:List Node) (r:Nat) (W:List (Int×Int)) (D:List Bool),ly.Nodes.drop r=q->r<=ly.Nodes.length->(∀x,Y1 W x 0=((JdX q r).count x:Int))->W.length+2*q.length<=5000->(∀j,j<ly.Nodes.length->D[j]? =some (decide (j<r)))->
  Zk ly q r W ((List.range r).map (fun(k:Nat)=>(k:Int))) D=some (.brk ((List.range ly.Nodes.length).map (fun(k:Nat)=>(k:Int))))
 |[],r,W,D,hd,hr,hW,hL,hD=>by
  have:r=ly.Nodes.length:=by
   have:=congrArg List.length hd
   simp at this
   omega
  subst this
  rfl
 |x::q,r,W,D,hd,hr,hW,hL,hD=>by
  obtain⟨h1,h2,h3⟩:=Qe hd
  have hn:=h.n11
  have hl:(x::q).length=q.length+1:=rfl
  have hx:=Jix h h1
  have h0:Y1 W (r:Int) 0=0:=by
   rw [hW]
   have:List.count (r:Int) (JdX (x::q) r)=0:=by
    rw [List.count_eq_zero]
    intro hm
    have:=Jl1 h (x::q) r hd _ hm
    omega
   rw [this];rfl
  rw [Zk,Jje W D r ly.Nodes.length hD h3 (by omega) h0 ly.Nodes 0 (by simp) (by omega),Je0 rfl,We (by omega),cond_false,JG (hD r h3),Wo,QZ (by simp;omega),Wo,JG h1,Wo]
  have hq2:∀y∈q,y.Exits.length<=2:=fun y hy=>by
   rw [<-h2] at hy
   obtain⟨j,hj,rfl⟩:=List.getElem_of_mem (List.mem_of_mem_drop hy)
   exact(Jix h (Wg hj)).1
  have hql:q.length<=11:=by rw [<-h2];simp;omega
  have hel:=JjH q (r+1) hq2
  obtain⟨c,hc,hc2⟩:=JgN r x.Exits 0 W (JdX q (r+1)) hx.2 (by simpa only [JdX] using hW) (by omega) (by omega)
  cases c with
  |ret _=>exact hc2.elim
  |brk W'=>
   rw [hc,Je0 rfl]
   have hD':∀j,j<ly.Nodes.length->(D.set (Int.toNat (r:Int)) true)[j]? =some (decide (j<r+1)):=fun j hj=>by
    rw [Int.toNat_natCast,List.getElem?_set]
    have hDl:r<D.length:=JT (hD r h3)
    by_cases c:r=j
    . subst c;rw [if_pos rfl,if_pos hDl];simp
    . rw [if_neg c,hD j hj];congr 1;rw [decide_eq_decide];omega
   have:=Jjf h q (r+1) W' _ h2 (by omega) hc2.1 (by have:=hc2.2;omega) hD'
   rw [List.range_succ,List.map_append] at this
   exact this
theorem Jjd (h:LayW zs ly):Jax ly=some ((List.range ly.Nodes.length).map (fun(k:Nat)=>(k:Int))):=by
 have hn:=h.n11
 unfold Jax
 obtain⟨c,hc,hc2⟩:=Jjg ly.Nodes 0 [] [] (fun x hx=>by
  obtain⟨j,hj,rfl⟩:=List.getElem_of_mem hx
  exact Jix h (Wg hj)) (fun x=>rfl) (by simp;omega) (by simp;omega)
 cases c with
 |ret _=>exact hc2.elim
 |brk W=>
  rw [hc,Zv rfl,JgV (by omega) (by omega),Wo]
  have:=Jjf h ly.Nodes 0 W (List.replicate (Int.toNat (ly.Nodes.length:Int)) false) rfl (by omega) (by simpa using hc2.1) (by have:=hc2.2;omega) (fun j hj=>by simp [hj])
  rw [show (List.range 0).map (fun(k:Nat)=>(k:Int))=[] from rfl] at this
  rw [this]
  rfl
theorem JdM (h:LayW zs ly):Q9 ly=some 0:=Jk1 h (Jjd h) (by simp)
def JQ (ly:Layout):Plan:=⟨ly,(List.range ly.Nodes.length).map (fun(k:Nat)=>(k:Int))⟩
theorem Jha (h:LayW zs ly):JbC ly=some (some (JQ ly),true):=by
 unfold JbC Jda
 rw [JdM h,Jjd h]
 rfl
end Go.Proofs.YtehhohbnhcogkaaGreatDoor.Ex
namespace Go.Proofs.YtehhohbnhcogkaaGreatDoor.Ex
open Go.RowKit Go.Proofs.YtehhohbnhcogkaaGreatDoor.Ax
theorem Jeu (s:Src) (lo hi:Int) (h:SrcOk s) (h0:lo<=hi) (h1: -1000000000<=lo) (h2:hi<=1000000000):okP (Yu s lo hi) (fun r=>lo<=r.1∧r.1<=hi∧SrcOk r.2):=by
 unfold Yu
 rw [JM (z:=hi - lo) (by omega) (by omega),JM (z:=hi - lo+1) (by omega) (by omega)]
 refine Ji (Jd8 s _ h (by omega) (by omega)) (fun r ⟨r1,r2,r3⟩=>Jf ?_)
 rw [JM (by omega) (by omega)]
 exact⟨by omega,by omega,r3⟩
theorem JkP (s:Src) (l:List Int) (h:SrcOk s) (h1:1<=l.length) (h2:l.length<=1000000):okP (Jay s l) (fun r=>r.1∈l∧SrcOk r.2):=by
 unfold Jay
 refine Ji (Jd8 s _ h (by omega) (by omega)) (fun r ⟨r1,r2,r3⟩=> ?_)
 exact Ji (Jat (Q:=fun x=>x∈l) r1 r2 (fun x hx _=>hx)) (fun x hx=>Jf ⟨hx,r3⟩)
theorem Jv5 (x:Int):∀(l:List Int) (k:Nat),Jbx x l k=some (if x∈l then .ret true else .brk ())
 |[],_=>rfl
 |e::q,k=>by
  rw [Jbx,Jv5 x q (k+1)]
  by_cases c:e=x
  . subst c;simp
  .
   have:(e==x)=false:=by simp;exact c
   rw [this,cond_false]
   congr 1
   have:(x∈e::q)↔x∈q:=by
    rw [List.mem_cons]
    exact⟨fun h=>h.resolve_left (fun d=>c d.symm),.inr⟩
   simp only [this]
theorem Jv4 (l:List Int) (x:Int):Jgu l x=some (decide (x∈l)):=by
 unfold Jgu
 rw [Jv5]
 by_cases c:x∈l
 . rw [if_pos c,Wd c];rfl
 . rw [if_neg c,We c];rfl
theorem Jj1 (x:Int):∀(l:List Int) (k:Nat) (a:List Int),a.length+l.length<=1000000->Q0 x l k a=some (.brk (a++l.filter (fun e=>e != x)))
 |[],k,a,_=>by simp [Q0]
 |e::q,k,a,h=>by
  have hl:(e::q).length=q.length+1:=rfl
  rw [Q0]
  cases c:e != x with
  |true=>
   rw [cond_true,QZ (by simp;omega),Wo,Jj1 x q (k+1) _ (by simp;omega),List.filter_cons_of_pos (by simpa using c)]
   simp
  |false=>
   rw [cond_false,Jj1 x q (k+1) a (by omega),List.filter_cons_of_neg (by simpa using c)]
theorem Jlo (s:Src) (l:List Int) (x:Int) (h:SrcOk s) (hl:l.length<=1000):okP (JaG s l x) (fun r=>SrcOk r.2∧((r.1= -1∧∀e∈l,e=x)∨(r.1∈l∧r.1≠x))):=by
 unfold JaG
 rw [Jj1 x l 0 [] (by simp;omega),Zv rfl,List.nil_append]
 have hfl:(l.filter (fun e=>e != x)).length<=l.length:=List.length_filter_le _ _
 refine Jh (fun c=>Jf ⟨h,.inl ⟨rfl,fun e he=> ?_⟩⟩) (fun c=> ?_)
 .
  have c:=eq_of_beq c
  have:l.filter (fun e=>e != x)=[]:=Wz (by omega)
  rw [List.filter_eq_nil_iff] at this
  have:=this e he
  simpa using this
 .
  have c:¬((l.filter (fun e=>e != x)).length:Int)=0:=by simpa using c
  refine Ji (Jd8 s _ h (by omega) (by omega)) (fun r hr=> ?_)
  refine Ji (Jat (Q:=fun e=>e∈l∧e≠x) hr.1 hr.2.1 (fun e he _=> ?_)) (fun e he=>Jf ⟨hr.2.2,.inr he⟩)
  rw [List.mem_filter] at he
  exact⟨he.1,by simpa using he.2⟩
structure StripN (i zone:Int) (to:List Int) (x:Node):Prop where
 zone:x.Zone=zone
 len:1<=x.Length∧x.Length<=4
 len5:x.Kind=5->2<=x.Length
 exits:(x.Kind=5∧∃f∈to,x.Exits=[i,f])∨(x.Kind=4∧∃f∈to,∃g∈to,f≠g∧x.Exits=[f,g])∨(x.Kind≠5∧x.Kind≠4∧∃f∈to,x.Exits=[f])
theorem Jh0 (s:Src) (i zone:Int) (ks to:List Int) (h:SrcOk s) (hk:1<=ks.length) (hk2:ks.length<=1000) (ht:1<=to.length) (ht2:to.length<=1000) (hto:∀e∈to,0<=e):
  okP (Jai s i zone ks to) (fun r=>SrcOk r.2∧StripN i zone to r.1∧(r.1.Kind∈ks∨(r.1.Kind=2∧4∈ks))):=by
 unfold Jai
 refine Ji (JkP s ks h hk (by omega)) (fun r1 h1=> ?_)
 refine Ji (Jeu r1.2 1 3 h1.2 (by omega) (by omega) (by omega)) (fun r2 h2=> ?_)
 refine Ji (Jlo r2.2 to (-1) h2.2.2 ht2) (fun r3 h3=> ?_)
 have hf:r3.1∈to:=by
  rcases h3.2 with⟨_,c⟩|c
  .
   obtain⟨e,he⟩:=List.exists_mem_of_length_pos (l:=to) (by omega)
   have:=c e he
   have:=hto e he
   omega
  . exact c.1
 refine Jh (fun c=>Jf ?_) (fun c=> ?_)
 .
  have c:=eq_of_beq c
  rw [JM (by omega) (by omega)]
  exact⟨h3.1,⟨rfl,⟨by show 1<=r2.1+1;omega,by show r2.1+1<=4;omega⟩,fun _=>by show 2<=r2.1+1;omega,.inl ⟨c,r3.1,hf,rfl⟩⟩,.inl h1.1⟩
 .
  have c5:r1.1≠5:=by simpa using c
  refine Jh (fun c=> ?_) (fun c=>Jf ?_)
  .
   have c:=eq_of_beq c
   refine Ji (Jlo r3.2 to r3.1 h3.1 ht2) (fun r4 h4=> ?_)
   refine Jh (fun d=>Jf ?_) (fun d=>Jf ?_)
   . exact⟨h4.1,⟨rfl,⟨h2.1,by show r2.1<=4;omega⟩,(fun e=>by have e:(2:Int)=5:=e;omega),.inr (.inr ⟨by show ¬(2:Int)=5;omega,by show ¬(2:Int)=4;omega,r3.1,hf,rfl⟩)⟩,.inr ⟨rfl,c▸h1.1⟩⟩
   .
    have d:=Wf d
    have hg:r4.1∈to∧r4.1≠r3.1:=h4.2.resolve_left (fun e=>by omega)
    exact⟨h4.1,⟨rfl,⟨h2.1,by show r2.1<=4;omega⟩,fun e=>absurd e c5,.inr (.inl ⟨c,r3.1,hf,r4.1,hg.1,fun e=>hg.2 e.symm,rfl⟩)⟩,.inl h1.1⟩
  .
   have c4:r1.1≠4:=by simpa using c
   exact⟨h3.1,⟨rfl,⟨h2.1,by show r2.1<=4;omega⟩,fun e=>absurd e c5,.inr (.inr ⟨c5,c4,r3.1,hf,rfl⟩)⟩,.inl h1.1⟩
theorem JhQ:∀i:Fin 11,YS [IntKind.u8.wrap (w64 ((65:Int)+(i.val:Int)))]=(⟨#[UInt8.ofNat (65+i.val)]⟩:ByteArray):=by decide+kernel
def zsF (A n:Nat) (i:Nat):Int:=if i<=A then 0 else if i+2=n then 0 else 1
theorem JcA {n A i:Nat} {zone:Int} {to:List Int} {x:Node} {L:Int} (hx:StripN (i:Int) zone to x) (hi:i<n) (hi11:i<11) (hz:zsF A n i=zone) (hz01:zone=0∨zone=1) (hto:∀e∈to,(i:Int)<e∧e<n∧zsF A n e.toNat=zone)
  (hk1:1<=x.Kind) (hk7:x.Kind<=7) (hk6:x.Kind≠6) (he:x.Kind=1↔i=0) (h3:x.Kind=1∨x.Kind=3->zone=0) (h7:x.Kind=7->zone=1) (hL:L=if x.Kind=7 then 0 else x.Length):
  NodeW n (zsF A n) i ⟨YS [IntKind.u8.wrap (w64 ((65:Int)+(i:Int)))],x.Kind,L,x.Zone,x.Exits⟩:=by
 have hxz:=hx.zone
 have hxl:=hx.len
 have hxl5:=hx.len5
 refine⟨JhQ ⟨i,hi11⟩,hk1,by show x.Kind<=9;omega,he,by show x.Zone=_;rw [hxz,hz],by show x.Zone=0∨x.Zone=1;rw [hxz];exact hz01,fun c=> ?_,fun c=> ?_,fun c=> ?_,fun c=> ?_,fun c=> ?_,?_,?_,?_⟩
 .
  show x.Zone=0
  rw [hxz]
  rcases c with c |c |c
  . exact h3 (.inl c)
  . exact h3 (.inr c)
  . exact absurd c hk6
 .
  show x.Zone=1
  rw [hxz]
  rcases c with c |c
  . exact h7 c
  . have:x.Kind=8:=c;omega
 .
  have c:6<x.Kind:=c
  show L=0
  rw [hL,if_pos (by omega)]
 .
  have c:x.Kind<=6:=c
  show 1<=L∧L<=4
  rw [hL,if_neg (by omega)]
  exact hxl
 .
  have c:x.Kind=5:=c
  show 2<=L
  rw [hL,if_neg (by omega)]
  exact hxl5 c
 .
  show ((x.Exits.length:Nat):Int)=exN x.Kind
  unfold exN
  rcases hx.exits with⟨k,f,_,e⟩|⟨k,f,_,g,_,_,e⟩|⟨k5,k4,f,_,e⟩
  . rw [e,k];rfl
  . rw [e,k];rfl
  . rw [e,if_neg (by omega),if_neg (by omega),if_neg k4,if_neg k5,if_neg hk6];rfl
 .
  show x.Exits.Nodup
  rcases hx.exits with⟨k,f,hf,e⟩|⟨k,f,_,g,_,hfg,e⟩|⟨k5,k4,f,_,e⟩
  .
   rw [e]
   have:=(hto f hf).1
   simp
   omega
  . rw [e];simp;exact hfg
  . rw [e];simp
 .
  intro k e hke
  have hke:x.Exits[k]? =some e:=hke
  have fin:∀f∈to,¬(x.Kind=5∧k=0)->e=f->(x.Kind=5∧k=0∧e=(i:Int))∨(¬(x.Kind=5∧k=0)∧(i:Int)<e∧e<(n:Int)∧zsF A n e.toNat=if x.Kind=6∧k=1 then 1 else x.Zone):=fun f hf hne ef=>by
   subst ef
   obtain⟨a,b,c⟩:=hto e hf
   refine .inr ⟨hne,a,b,?_⟩
   rw [if_neg (fun d=>hk6 d.1),c,hxz]
  show (x.Kind=5∧k=0∧e=(i:Int))∨_
  rcases hx.exits with⟨k5,f,hf,ee⟩|⟨k4,f,hf,g,hg,hfg,ee⟩|⟨k5,k4,f,hf,ee⟩
  .
   rw [ee] at hke
   match k,hke with
   |0,hke=>exact .inl ⟨k5,rfl,by simpa using hke.symm⟩
   |1,hke=>exact fin f hf (by omega) (by simpa using hke.symm)
   |k+2,hke=>simp at hke
  .
   rw [ee] at hke
   match k,hke with
   |0,hke=>exact fin f hf (by omega) (by simpa using hke.symm)
   |1,hke=>exact fin g hg (by omega) (by simpa using hke.symm)
   |k+2,hke=>simp at hke
  .
   rw [ee] at hke
   match k,hke with
   |0,hke=>exact fin f hf (by omega) (by simpa using hke.symm)
   |k+1,hke=>simp at hke
theorem Jqx (r1:Int×Src) (lo:Int) (h0:0<=lo) (hA:r1.1<=400):∀(d N:Nat) (a:List Int) (i:Int),(r1.1+1 - i).toNat=d->d<N->lo<=i->i<=500->(∀e∈a,lo<=e∧e<i∧e<=r1.1)->a.Nodup->(a.length:Int)<=i - lo->
  okP (YA r1 N a i) (YB (fun _=>False) (fun l=>(∀e∈l,lo<=e∧e<=r1.1)∧l.Nodup∧l.length<=500))
 |d,0,a,i,h1,h2,h3,h4,h5,h6,h7=>by omega
 |d,N+1,a,i,h1,h2,h3,h4,h5,h6,h7=>by
  rw [YA]
  refine Jh (fun c=> ?_) (fun c=> ?_)
  .
   have c:=Wt c
   rw [QZ (by simp;omega),Wo,JM (by omega) (by omega)]
   refine Jqx r1 lo h0 hA (d - 1) N _ (i+1) (by omega) (by omega) (by omega) (by omega) (fun e he=> ?_) ?_ (by simp;omega)
   .
    rw [List.mem_append,List.mem_singleton] at he
    rcases he with he |rfl
    . have:=h5 e he;omega
    . omega
   .
    rw [List.nodup_append]
    refine⟨h6,by simp,fun x hx y hy=> ?_⟩
    rw [List.mem_singleton] at hy
    have:=h5 x hx
    omega
  . exact Jf ⟨fun e he=>⟨(h5 e he).1,(h5 e he).2.2⟩,h6,by omega⟩
theorem Jqw (r1 r2 r3:Int×Src) (M lo:Int) (hM:w64 (w64 (w64 (w64 (w64 (r1.1+1)+r2.1)+r3.1)+2) - 2)=M) (h0:0<=lo) (hA:M<=400):∀(d N:Nat) (a:List Int) (i:Int),(M - i).toNat=d->d<N->lo<=i->i<=500->(∀e∈a,lo<=e∧e<i∧e<M)->a.Nodup->(a.length:Int)<=i - lo->
  okP (Yz r1 r2 r3 N a i) (YB (fun _=>False) (fun l=>(∀e∈l,lo<=e∧e<M)∧l.Nodup∧l.length<=500))
 |d,0,a,i,h1,h2,h3,h4,h5,h6,h7=>by omega
 |d,N+1,a,i,h1,h2,h3,h4,h5,h6,h7=>by
  rw [Yz,hM]
  refine Jh (fun c=> ?_) (fun c=> ?_)
  .
   have c:=Wt c
   rw [QZ (by simp;omega),Wo,JM (z:=i+1) (by omega) (by omega)]
   refine Jqw r1 r2 r3 M lo hM h0 hA (d - 1) N _ (i+1) (by omega) (by omega) (by omega) (by omega) (fun e he=> ?_) ?_ (by simp;omega)
   .
    rw [List.mem_append,List.mem_singleton] at he
    rcases he with he |rfl
    . have:=h5 e he;omega
    . omega
   .
    rw [List.nodup_append]
    refine⟨h6,by simp,fun x hx y hy=> ?_⟩
    rw [List.mem_singleton] at hy
    have:=h5 x hx
    omega
  . exact Jf ⟨fun e he=>⟨(h5 e he).1,(h5 e he).2.2⟩,h6,by omega⟩
theorem Jth {α:Type} {P:Nat->α->Prop} {a:List α} {y:α} (h:∀j x,a[j]? =some x->P j x) (hy:P a.length y):∀j x,(a++[y])[j]? =some x->P j x:=fun j x hx=>by
 rw [List.getElem?_append] at hx
 split at hx
 . exact h j x hx
 .
  rename_i c
  have:j - a.length=0:=by
   have:=JT hx
   simp at this
   omega
  rw [this] at hx
  have:j=a.length:=by omega
  subst this
  simpa using (show y=x by simpa using hx)▸hy
def Jhg (A n:Nat) (l:List Node):Prop:=∀j x,l[j]? =some x->NodeW n (zsF A n) j x∧(j<A->x.Kind<=5)
theorem Jqy (r1 r2 r3:Int×Src) (A B C n:Nat) (hr1:r1.1=A) (hr2:r2.1=B) (hr3:r3.1=C) (hA1:1<=A) (hA3:A<=3) (hB:B<=3) (hC1:1<=C) (hC2:C<=2) (hn:n=A+1+B+C+2):
  ∀(d N:Nat) (a4:List Int) (i5:Int) (a6:List Node) (k:Nat),n - k=d->d<N->SrcOk ⟨a4,i5⟩->a6.length=k->k<=n->Jhg A n a6->
  okP (JU r1 r2 r3 N a4 i5 a6 (k:Int)) (YB (fun _=>False) (fun z=>SrcOk ⟨z.2.2.1,z.2.2.2.1⟩∧z.2.2.2.2.length=n∧Jhg A n z.2.2.2.2))
 |d,0,a4,i5,a6,k,h1,h2,h3,h4,h5,h6=>by omega
 |d,N+1,a4,i5,a6,k,h1,h2,h3,h4,h5,h6=>by
  have hG:w64 (w64 (r1.1+1)+r2.1)=((A+1+B:Nat):Int):=by rw [hr1,hr2,JM (z:=(A:Int)+1) (by omega) (by omega),JM (by omega) (by omega)];omega
  have hE:w64 (w64 (((A+1+B:Nat):Int)+r3.1)+2)=(n:Int):=by
   rw [hr3,JM (z:=((A+1+B:Nat):Int)+(C:Int)) (by omega) (by omega),JM (by omega) (by omega)];omega
  have hE2:w64 ((n:Int) - 2)=((n - 2:Nat):Int):=by rw [JM (by omega) (by omega)];omega
  have hE1:w64 ((n:Int) - 1)=((n - 1:Nat):Int):=by rw [JM (by omega) (by omega)];omega
  have hk1:w64 ((k:Int)+1)=((k+1:Nat):Int):=by rw [JM (by omega) (by omega)];omega
  have next:∀(a4':List Int) (i5':Int) (y:Node),SrcOk ⟨a4',i5'⟩->k<n->NodeW n (zsF A n) k y->(k<A->y.Kind<=5)->
    okP ((apL a6 [y]).bind fun l=>JU r1 r2 r3 N a4' i5' l ((k+1:Nat):Int)) (YB (fun _=>False) (fun z=>SrcOk ⟨z.2.2.1,z.2.2.2.1⟩∧z.2.2.2.2.length=n∧Jhg A n z.2.2.2.2)):=fun a4' i5' y hs hk hy hy2=>by
   rw [QZ (by simp;omega),Wo]
   exact Jqy r1 r2 r3 A B C n hr1 hr2 hr3 hA1 hA3 hB hC1 hC2 hn (d - 1) N a4' i5' _ (k+1) (by omega) (by omega) hs (by simp;omega) (by omega) (Jth h6 (by rw [h4];exact⟨hy,hy2⟩))
  rw [JU]
  simp only [hE,hE1,hE2,hk1,hG]
  refine Jh (fun c=> ?_) (fun c=>Jf ⟨h3,(by have c:=Wf c;show a6.length=n;omega),h6⟩)
  have hkn:k<n:=by have:=Wt c;omega
  refine JbZ (Jqx r1 ((k+1:Nat):Int) (by omega) (by omega) _ _ [] ((k+1:Nat):Int) rfl (by omega) (by omega) (by omega) (by simp) (by simp) (by simp)) (fun z12 hz12=> ?_)
  rw [QZ (by simp;omega),Wo]
  have hst:w64 ((if (k:Int)<r1.1 then r1.1 else (k:Int))+1)=((max k A+1:Nat):Int):=by
   rw [hr1,JM (by split<;>omega) (by split<;>omega)]
   split<;>omega
  rw [hst]
  refine JbZ (Jqw r1 r2 r3 ((n - 2:Nat):Int) ((max k A+1:Nat):Int) (by rw [hG,hE,hE2]) (by omega) (by omega) _ _ [] ((max k A+1:Nat):Int) rfl (by omega) (by omega) (by omega) (by simp) (by simp) (by simp)) (fun z18 hz18=> ?_)
  rw [QZ (by simp;omega),Wo]
  have hzero:k<A∨k=0->∀e∈z12++[((n - 2:Nat):Int)],(k:Int)<e∧e<n∧zsF A n e.toNat=0:=fun hkA e he=>by
   rw [List.mem_append,List.mem_singleton] at he
   unfold zsF
   rcases he with he |rfl
   .
    have:=hz12.1 e he
    rw [hr1] at this
    rw [if_pos (by omega)]
    omega
   .
    rw [if_neg (by omega),if_pos (by omega)]
    omega
  have hone:k+2<n->∀e∈z18++[((n - 1:Nat):Int)],(k:Int)<e∧e<n∧zsF A n e.toNat=1∧e≠((n - 2:Nat):Int):=fun hkM e he=>by
   rw [List.mem_append,List.mem_singleton] at he
   unfold zsF
   rcases he with he |rfl
   .
    have:=hz18.1 e he
    rw [if_neg (by omega),if_neg (by omega)]
    omega
   .
    rw [if_neg (by omega),if_neg (by omega)]
    omega
  have hl0:(z12++[((n - 2:Nat):Int)]).length<=1000∧1<=(z12++[((n - 2:Nat):Int)]).length:=by
   have:=hz12.2.2
   simp only [List.length_append,List.length_singleton]
   omega
  have hl1:(z18++[((n - 1:Nat):Int)]).length<=1000∧1<=(z18++[((n - 1:Nat):Int)]).length:=by
   have:=hz18.2.2
   simp only [List.length_append,List.length_singleton]
   omega
  refine Jh (fun c=> ?_) (fun c=> ?_)
  .
   have c:k=0:=by have:=eq_of_beq c;omega
   refine Ji (Jh0 ⟨a4,i5⟩ (k:Int) 0 [1] _ h3 (by simp) (by simp) hl0.2 hl0.1 (fun e he=>by have:=hzero (.inr c) e he;omega)) (fun r hr=> ?_)
   have hk:r.1.Kind=1:=by
    rcases hr.2.2 with e |⟨_,e⟩
    . simpa using e
    . simp at e
   refine next _ _ _ hr.1 hkn (JcA hr.2.1 hkn (by omega) (by unfold zsF;rw [if_pos (by omega)]) (.inl rfl) (fun e he=>by have:=hzero (.inr c) e he;omega) (by omega) (by omega) (by omega) (by omega) (fun _=>rfl) (fun e=>by omega) (by rw [if_neg (by omega)])) (fun _=>by show r.1.Kind<=5;omega)
  have hk0:k≠0:=by
   have:¬(k:Int)=0:=by simpa using c
   omega
  refine Jh (fun c=> ?_) (fun c=> ?_)
  .
   have c:k<A:=by have:=Wt c;omega
   refine Ji (Jh0 ⟨a4,i5⟩ (k:Int) 0 [2,3,4,5,3] _ h3 (by simp) (by simp) hl0.2 hl0.1 (fun e he=>by have:=hzero (.inl c) e he;omega)) (fun r hr=> ?_)
   have hk:2<=r.1.Kind∧r.1.Kind<=5:=by
    rcases hr.2.2 with e |⟨e,_⟩
    . simp at e;omega
    . omega
   refine next _ _ _ hr.1 hkn (JcA hr.2.1 hkn (by omega) (by unfold zsF;rw [if_pos (by omega)]) (.inl rfl) (fun e he=>by have:=hzero (.inl c) e he;omega) (by omega) (by omega) (by omega) (by omega) (fun _=>rfl) (fun e=>by omega) (by rw [if_neg (by omega)])) (fun _=>by show r.1.Kind<=5;omega)
  have hkA:A<=k:=by have:=Wf c;omega
  refine Jh (fun c=> ?_) (fun c=> ?_)
  .
   have c:k=A:=by have:=eq_of_beq c;omega
   refine Ji (Jeu ⟨a4,i5⟩ 1 3 h3 (by omega) (by omega) (by omega)) (fun r24 h24=> ?_)
   refine Ji (Jd8 r24.2 _ h24.2.2 (by omega) (by omega)) (fun r25 h25=> ?_)
   refine Ji (Jat (Q:=fun e=>e∈z18++[((n - 1:Nat):Int)]) h25.1 h25.2.1 (fun e he _=>he)) (fun e he=> ?_)
   obtain⟨e1,e2,e3,e4⟩:=hone (by omega) e he
   refine next _ _ _ h25.2.2 hkn ?_ (fun d=>by omega)
   refine⟨JhQ ⟨k,by omega⟩,by show 1<=(6:Int);omega,by show (6:Int)<=9;omega,?_,?_,.inl rfl,fun _=>rfl,fun d=> ?_,fun d=> ?_,fun _=> ?_,fun d=> ?_,rfl,?_,?_⟩
   .
    show (6:Int)=1↔k=0
    omega
   .
    show (0:Int)=zsF A n k
    unfold zsF
    rw [if_pos (by omega)]
   .
    have d:(6:Int)=7∨(6:Int)=8:=d
    omega
   .
    have d:6<(6:Int):=d
    omega
   .
    show 1<=r24.1∧r24.1<=4
    omega
   .
    have d:(6:Int)=5:=d
    omega
   .
    show [((n - 2:Nat):Int),e].Nodup
    simp
    omega
   .
    intro j f hf
    have hf:[((n - 2:Nat):Int),e][j]? =some f:=hf
    refine .inr ⟨fun d=>by have d:(6:Int)=5:=d.1;omega,?_⟩
    show (k:Int)<f∧f<(n:Int)∧zsF A n f.toNat=if (6:Int)=6∧j=1 then 1 else 0
    match j,hf with
    |0,hf=>
     have hf:((n - 2:Nat):Int)=f:=by simpa using hf
     subst hf
     rw [if_neg (by omega)]
     unfold zsF
     rw [if_neg (by omega),if_pos (by omega)]
     omega
    |1,hf=>
     have hf:e=f:=by simpa using hf
     subst hf
     rw [if_pos ⟨rfl,rfl⟩]
     omega
    |j+2,hf=>simp at hf
  have hkA:A<k:=by
   have:¬(k:Int)=r1.1:=by simpa using c
   omega
  refine Jh (fun c=> ?_) (fun c=> ?_)
  .
   have c:k<A+1+B:=by have:=Wt c;omega
   have hto:∀e∈z18++[((n - 1:Nat):Int)],(k:Int)<e∧e<n∧zsF A n e.toNat=1:=fun e he=>by have:=hone (by omega) e he;omega
   refine Ji (Jh0 ⟨a4,i5⟩ (k:Int) 1 [2,4,5,7] _ h3 (by simp) (by simp) hl1.2 hl1.1 (fun e he=>by have:=hto e he;omega)) (fun r hr=> ?_)
   have hk:(2<=r.1.Kind∧r.1.Kind<=5∧r.1.Kind≠3)∨r.1.Kind=7:=by
    rcases hr.2.2 with e |⟨e,_⟩
    . simp at e;omega
    . omega
   refine Jh (fun c7=> ?_) (fun c7=> ?_)
   .
    have c7:=eq_of_beq c7
    exact next _ _ _ hr.1 hkn (JcA hr.2.1 hkn (by omega) (by unfold zsF;rw [if_neg (by omega),if_neg (by omega)]) (.inr rfl) hto (by omega) (by omega) (by omega) (by omega) (fun e=>by omega) (fun _=>rfl) (by rw [if_pos c7])) (fun d=>by omega)
   .
    have c7:r.1.Kind≠7:=by simpa using c7
    exact next _ _ _ hr.1 hkn (JcA hr.2.1 hkn (by omega) (by unfold zsF;rw [if_neg (by omega),if_neg (by omega)]) (.inr rfl) hto (by omega) (by omega) (by omega) (by omega) (fun e=>by omega) (fun _=>rfl) (by rw [if_neg c7])) (fun d=>by omega)
  refine Jh (fun c=> ?_) (fun c2=> ?_)
  .
   have c:k<n - 2:=by have:=Wt c;omega
   refine next _ _ _ h3 hkn ?_ (fun d=>by omega)
   refine⟨JhQ ⟨k,by omega⟩,by show 1<=(8:Int);omega,by show (8:Int)<=9;omega,by show (8:Int)=1↔k=0;omega,?_,.inr rfl,fun d=> ?_,fun _=>rfl,fun _=>rfl,fun d=> ?_,fun d=> ?_,rfl,by show ([]:List Int).Nodup;simp,fun j f hf=> ?_⟩
   .
    show (1:Int)=zsF A n k
    unfold zsF
    rw [if_neg (by omega),if_neg (by omega)]
   .
    have d:(8:Int)=1∨(8:Int)=3∨(8:Int)=6:=d
    omega
   .
    have d:(8:Int)<=6:=d
    omega
   .
    have d:(8:Int)=5:=d
    omega
   .
    have hf:([]:List Int)[j]? =some f:=hf
    simp at hf
  .
   have c2:n - 2<=k:=by have:=Wf c2;omega
   refine next _ _ _ h3 hkn ?_ (fun d=>by omega)
   have hz:w64 ((k:Int) - ((n - 2:Nat):Int))=zsF A n k:=by
    rw [JM (by omega) (by omega)]
    unfold zsF
    rw [if_neg (by omega)]
    split<;>omega
   rw [hz]
   refine⟨JhQ ⟨k,by omega⟩,by show 1<=(9:Int);omega,by show (9:Int)<=9;omega,by show (9:Int)=1↔k=0;omega,rfl,?_,fun d=> ?_,fun d=> ?_,fun _=>rfl,fun d=> ?_,fun d=> ?_,rfl,by show ([]:List Int).Nodup;simp,fun j f hf=> ?_⟩
   .
    show zsF A n k=0∨zsF A n k=1
    unfold zsF
    split
    . exact .inl rfl
    .
     split
     . exact .inl rfl
     . exact .inr rfl
   .
    have d:(9:Int)=1∨(9:Int)=3∨(9:Int)=6:=d
    omega
   .
    have d:(9:Int)=7∨(9:Int)=8:=d
    omega
   .
    have d:(9:Int)<=6:=d
    omega
   .
    have d:(9:Int)=5:=d
    omega
   .
    have hf:([]:List Int)[j]? =some f:=hf
    simp at hf
variable {x:Node} {ns:List Node} {b:Bool} {k:Nat} {w:Int} {a:List Device}
theorem Jj9 {A n i:Nat} {l:List Int} (hw:NodeW n (zsF A n) i x) (hi:i<A) (hA:A<n) (h5:x.Kind<=5) (hn5:x.Kind≠5) (hin:((i+1:Nat):Int)∉x.Exits) (hl:l=((i+1:Nat):Int)::x.Exits.drop 1):
  NodeW n (zsF A n) i ⟨x.Name,x.Kind,x.Length,x.Zone,l⟩:=by
 have hex:=hw.exs
 have hpos:1<=x.Exits.length:=by
  have:1<=exN x.Kind:=by
   have:=hw.kind1
   unfold exN
   (repeat' split)<;>omega
  omega
 have hz:zsF A n i=0:=by unfold zsF;rw [if_pos (by omega)]
 refine⟨hw.name,hw.kind1,hw.kind9,hw.entry,hw.zone,hw.zone01,hw.z0,hw.z1,hw.len0,hw.len1,hw.len5,?_,?_,?_⟩
 .
  show ((l.length:Nat):Int)=exN x.Kind
  rw [<-hex,hl,List.length_cons,List.length_drop]
  omega
 .
  show l.Nodup
  rw [hl,List.nodup_cons]
  exact⟨fun c=>hin (List.mem_of_mem_drop c),List.Nodup.sublist (List.drop_sublist 1 _) hw.nodup⟩
 .
  intro k e he
  have he:l[k]? =some e:=he
  show (x.Kind=5∧k=0∧e=(i:Int))∨(¬(x.Kind=5∧k=0)∧(i:Int)<e∧e<(n:Int)∧zsF A n e.toNat=if x.Kind=6∧k=1 then 1 else x.Zone)
  rw [hl] at he
  match k,he with
  |0,he=>
   have he:((i+1:Nat):Int)=e:=by simpa using he
   subst he
   refine .inr ⟨by omega,by omega,by omega,?_⟩
   rw [if_neg (by omega),hw.zone,hz]
   unfold zsF
   rw [if_pos (by omega)]
  |k+1,he=>
   rw [List.getElem?_cons_succ,List.getElem?_drop,Nat.add_comm 1 k] at he
   exact hw.ex (k+1) e he
theorem Jkj (r1:Int×Src) (A n:Nat) (hr1:r1.1=A) (hA3:A<=3) (hAn:A<n) (hn:n<=11):∀(d N:Nat) (a:List Node) (i:Nat),A - i=d->d<N->a.length=n->Jhg A n a->
  okP (QL r1 N a (i:Int)) (YB (fun _=>False) (fun l=>l.length=n∧Jhg A n l))
 |d,0,a,i,h1,h2,h3,h4=>by omega
 |d,N+1,a,i,h1,h2,h3,h4=>by
  rw [QL]
  refine Jh (fun c=> ?_) (fun c=>Jf ⟨h3,h4⟩)
  have c:i<A:=by have:=Wt c;omega
  obtain⟨x,hx⟩:=YO (l:=a) (k:=i) (by omega)
  have hk1:w64 ((i:Int)+1)=((i+1:Nat):Int):=by rw [JM (by omega) (by omega)];omega
  simp only [JG hx,Wo,hk1,Jv4]
  refine Jh (fun c5=> ?_) (fun c5=>Jkj r1 A n hr1 hA3 hAn hn (d - 1) N a (i+1) (by omega) (by omega) h3 h4)
  have c5:x.Kind≠5:=by simpa using c5
  refine Jh (fun ci=> ?_) (fun ci=>Jkj r1 A n hr1 hA3 hAn hn (d - 1) N a (i+1) (by omega) (by omega) h3 h4)
  have ci:((i+1:Nat):Int)∉x.Exits:=by simpa using ci
  obtain⟨hw,hw5⟩:=h4 i x hx
  have hex:=hw.exs
  have hpos:1<=x.Exits.length∧x.Exits.length<=2:=by
   have:=hw.kind1
   have:=hw5 c
   have:exN x.Kind=2∨exN x.Kind=1:=by
    unfold exN
    (repeat' split)<;>omega
   omega
  rw [Je2 (by omega) (by omega) (by omega),Wo,QZ (by simp;omega),Wo]
  refine Jkj r1 A n hr1 hA3 hAn hn (d - 1) N _ (i+1) (by omega) (by omega) (by simpa using h3) (fun j y hy=> ?_)
  rw [Int.toNat_natCast,List.getElem?_set] at hy
  split at hy
  .
   rename_i e
   subst e
   rw [if_pos (by omega)] at hy
   have hy:=(Wi hy).symm
   subst hy
   refine⟨Jj9 hw c hAn (hw5 c) c5 ci ?_,hw5⟩
   rw [List.singleton_append]
   congr 1
   rw [List.take_of_length_le (by simp)]
   rfl
  . exact h4 j y hy
structure DevI (ns:List Node) (b:Bool) (k:Nat) (w:Int) (a:List Device):Prop where
 len:a.length<=24
 nodup:a.Nodup
 ok:∀d∈a,(d.Kind=1∨d.Kind=2)∧0<=d.Node∧d.Node<ns.length∧0<=d.Window∧∃x,ns[d.Node.toNat]? =some x∧d.Window<x.Length
 bef:∀d∈a,d.Node<k∨(d.Node=k∧(d.Window<w∨(b=true∧d.Window=w∧d.Kind=2)))
theorem DevI.next (h:DevI ns b k w a):DevI ns false k (w+1) a:=⟨h.len,h.nodup,h.ok,fun d hd=>by
 rcases h.bef d hd with c |⟨c,e⟩
 . exact .inl c
 . exact .inr ⟨c,.inl (by rcases e with e |e<;>omega)⟩⟩
theorem DevI.row (h:DevI ns b k w a):DevI ns false (k+1) 0 a:=⟨h.len,h.nodup,h.ok,fun d hd=>by
 rcases h.bef d hd with c |⟨c,e⟩
 . exact .inl (by omega)
 . exact .inl (by omega)⟩
theorem DevI.add2 (h:DevI ns false k w a) (hx:ns[k]? =some x) (hw0:0<=w) (hw:w<x.Length) (hl:(a.length:Int)<24):DevI ns true k w (a++[⟨2,(k:Int),w⟩]):=by
 have hk:=JT hx
 refine⟨by simp;omega,?_,fun d hd=> ?_,fun d hd=> ?_⟩
 .
  rw [List.nodup_append]
  refine⟨h.nodup,by simp,fun d hd y hy=> ?_⟩
  rw [List.mem_singleton] at hy
  subst hy
  rintro rfl
  rcases h.bef _ hd with c |⟨c,e⟩
  . have:(k:Int)<k:=c;omega
  .
   rcases e with e |e
   . have:w<w:=e;omega
   . cases e.1
 .
  rw [List.mem_append,List.mem_singleton] at hd
  rcases hd with hd |rfl
  . exact h.ok d hd
  . exact⟨.inr rfl,by show 0<=(k:Int);omega,by show (k:Int)<_;omega,hw0,x,by simpa using hx,hw⟩
 .
  rw [List.mem_append,List.mem_singleton] at hd
  rcases hd with hd |rfl
  .
   rcases h.bef d hd with c |⟨c,e⟩
   . exact .inl c
   . exact .inr ⟨c,.inl (by rcases e with e |e;exact e;cases e.1)⟩
  . exact .inr ⟨rfl,.inr ⟨rfl,rfl,rfl⟩⟩
theorem DevI.add1 (h:DevI ns b k w a) (hx:ns[k]? =some x) (hw0:0<=w) (hw:w<x.Length) (hl:(a.length:Int)<24):DevI ns false k (w+1) (a++[⟨1,(k:Int),w⟩]):=by
 have hk:=JT hx
 refine⟨by simp;omega,?_,fun d hd=> ?_,fun d hd=> ?_⟩
 .
  rw [List.nodup_append]
  refine⟨h.nodup,by simp,fun d hd y hy=> ?_⟩
  rw [List.mem_singleton] at hy
  subst hy
  rintro rfl
  rcases h.bef _ hd with c |⟨c,e⟩
  . have:(k:Int)<k:=c;omega
  .
   rcases e with e |e
   . have:w<w:=e;omega
   . have:(1:Int)=2:=e.2.2;omega
 .
  rw [List.mem_append,List.mem_singleton] at hd
  rcases hd with hd |rfl
  . exact h.ok d hd
  . exact⟨.inl rfl,by show 0<=(k:Int);omega,by show (k:Int)<_;omega,hw0,x,by simpa using hx,hw⟩
 .
  rw [List.mem_append,List.mem_singleton] at hd
  rcases hd with hd |rfl
  . exact h.next.bef d hd
  . exact .inr ⟨rfl,.inl (by show w<w+1;omega)⟩
theorem JnS (ns:List Node) (k:Nat) (x:Node) (hx:ns[k]? =some x) (hxl:x.Length<=100) (hxl0:0<=x.Length):∀(d N:Nat) (a7:List Int) (i8:Int) (a:List Device) (w:Int),(x.Length - w).toNat=d->d<N->0<=w->w<=x.Length->SrcOk ⟨a7,i8⟩->DevI ns false k w a->
  okP (Jt k x N a7 i8 a w) (YB (fun _=>False) (fun z=>SrcOk ⟨z.2.2.1,z.2.2.2.1⟩∧DevI ns false (k+1) 0 z.2.2.2.2))
 |d,0,a7,i8,a,w,h1,h2,h3,h4,h5,h6=>by omega
 |d,N+1,a7,i8,a,w,h1,h2,h3,h4,h5,h6=>by
  rw [Jt]
  refine Jh (fun c=> ?_) (fun c=>Jf ⟨h5,h6.row⟩)
  have c:=Wt c
  rw [JM (z:=w+1) (by omega) (by omega)]
  have rcv:∀(s:Src) (a':List Device),SrcOk s->DevI ns false k (w+1) a'->okP (Jt k x N s.L s.At a' (w+1)) (YB (fun _=>False) (fun z=>SrcOk ⟨z.2.2.1,z.2.2.2.1⟩∧DevI ns false (k+1) 0 z.2.2.2.2)):=
   fun s a' hs ha=>JnS ns k x hx hxl hxl0 (d - 1) N s.L s.At a' (w+1) (by omega) (by omega) (by omega) (by omega) hs ha
  have tail:∀(b:Bool) (s:Src) (a':List Device),SrcOk s->DevI ns b k w a'->
    okP (cond (decide ((a'.length:Int)<(24:Int))) ((JF s (2:Int)).bind fun r=>cond (r.1==(0:Int)) ((apL a' ([(⟨(1:Int),(k:Int),w⟩:Device)]:List Device)).bind fun l=>Jt k x N r.2.L r.2.At l (w+1)) (Jt k x N r.2.L r.2.At a' (w+1))) (Jt k x N s.L s.At a' (w+1)))
     (YB (fun _=>False) (fun z=>SrcOk ⟨z.2.2.1,z.2.2.2.1⟩∧DevI ns false (k+1) 0 z.2.2.2.2)):=fun b s a' hs ha=>by
   refine Jh (fun c2=> ?_) (fun c2=>rcv s a' hs ha.next)
   have c2:=Wt c2
   refine Ji (Jd8 s 2 hs (by omega) (by omega)) (fun r hr=> ?_)
   refine Jh (fun c3=> ?_) (fun c3=>rcv r.2 a' hr.2.2 ha.next)
   rw [QZ (by simp;omega),Wo]
   exact rcv r.2 _ hr.2.2 (ha.add1 hx h3 c c2)
  refine Jh (fun c2=> ?_) (fun c2=>rcv ⟨a7,i8⟩ a h5 h6.next)
  have c2:=Wt c2
  refine Ji (Jd8 ⟨a7,i8⟩ 3 h5 (by omega) (by omega)) (fun r hr=> ?_)
  have t1:okP ((apL a ([(⟨(2:Int),(k:Int),w⟩:Device)]:List Device)).bind fun l=>cond (decide ((l.length:Int)<(24:Int))) ((JF r.2 (2:Int)).bind fun r=>cond (r.1==(0:Int)) ((apL l ([(⟨(1:Int),(k:Int),w⟩:Device)]:List Device)).bind fun l=>Jt k x N r.2.L r.2.At l (w+1)) (Jt k x N r.2.L r.2.At l (w+1))) (Jt k x N r.2.L r.2.At l (w+1)))
     (YB (fun _=>False) (fun z=>SrcOk ⟨z.2.2.1,z.2.2.2.1⟩∧DevI ns false (k+1) 0 z.2.2.2.2)):=by
   rw [QZ (by simp;omega),Wo]
   exact tail true r.2 _ hr.2.2 (h6.add2 hx h3 c c2)
  have t2:okP ((JF r.2 (2:Int)).bind fun r=>cond (r.1==(0:Int)) ((apL a ([(⟨(1:Int),(k:Int),w⟩:Device)]:List Device)).bind fun l=>Jt k x N r.2.L r.2.At l (w+1)) (Jt k x N r.2.L r.2.At a (w+1)))
     (YB (fun _=>False) (fun z=>SrcOk ⟨z.2.2.1,z.2.2.2.1⟩∧DevI ns false (k+1) 0 z.2.2.2.2)):=by
   have:=tail false r.2 a hr.2.2 h6
   rw [Wd c2,cond_true] at this
   exact this
  refine Jh (fun c3=>t1) (fun c3=> ?_)
  refine Jh (fun c4=> ?_) (fun c4=>t2)
  exact Jh (fun c5=>t1) (fun c5=>t2)
theorem JnT (ns:List Node) (hns:∀x∈ns,0<=x.Length∧x.Length<=4):∀(q:List Node) (k:Nat) (a1:List Int) (i2:Int) (a:List Device),ns.drop k=q->SrcOk ⟨a1,i2⟩->DevI ns false k 0 a->
  okP (Yh q k a1 i2 a) (YB (fun _=>False) (fun z=>SrcOk ⟨z.1,z.2.1⟩∧∃k,DevI ns false k 0 z.2.2))
 |[],k,a1,i2,a,hd,h1,h2=>Jf ⟨h1,k,h2⟩
 |x::q,k,a1,i2,a,hd,h1,h2=>by
  obtain⟨g1,g2,g3⟩:=Qe hd
  have hx:=hns x (ZL g1)
  rw [Yh]
  refine JbZ (JnS ns k x g1 (by omega) hx.1 _ _ a1 i2 a 0 rfl (by omega) (by omega) hx.1 h1 h2) (fun z hz=> ?_)
  exact JnT ns hns q (k+1) _ _ _ g2 hz.1 hz.2
theorem Jl2 (s:Src) (ns:List Node) (hs:SrcOk s) (hns:∀x∈ns,0<=x.Length∧x.Length<=4):okP (Zm s ⟨ns,[]⟩) (fun r=>SrcOk r.2.1∧r.2.2=ns∧∃k,DevI ns false k 0 r.1):=by
 unfold Zm
 exact Q6 (JnT ns hns ns 0 s.L s.At [] rfl hs ⟨by simp,by simp,by simp,by simp⟩) (fun z hz=>Jf ⟨hz.1,rfl,hz.2⟩)
theorem JoW (s:Src) (hs:SrcOk s):okP (JaP s) (fun r=>SrcOk r.2∧∃zs,LayW zs r.1):=by
 unfold JaP
 refine Ji (Jeu s 1 3 hs (by omega) (by omega) (by omega)) (fun r1 h1=> ?_)
 refine Ji (Jeu r1.2 0 3 h1.2.2 (by omega) (by omega) (by omega)) (fun r2 h2=> ?_)
 refine Ji (Jeu r2.2 1 2 h2.2.2 (by omega) (by omega) (by omega)) (fun r3 h3=> ?_)
 have hn:r1.1.toNat+1+r2.1.toNat+r3.1.toNat+2<=11:=by omega
 have hl:=Jqy r1 r2 r3 r1.1.toNat r2.1.toNat r3.1.toNat _ (by omega) (by omega) (by omega) (by omega) (by omega) (by omega) (by omega) (by omega) rfl _ 9223372036854775807 r3.2.L r3.2.At [] 0 rfl (by omega) h3.2.2 rfl (by omega) (fun j x hx=>by simp at hx)
 generalize hN:r1.1.toNat+1+r2.1.toNat+r3.1.toNat+2=n at hl hn
 refine Q6 hl (fun z hz=> ?_)
 refine Ji (Jd8 _ 4 hz.1 (by omega) (by omega)) (fun r35 h35=> ?_)
 have fin:∀ns:List Node,ns.length=n->Jhg r1.1.toNat n ns->okP ((Zm r35.2 (⟨ns,([]:(List Device))⟩:Layout)).bind fun r=>some ((⟨r.2.2,r.1⟩:Layout),r.2.1)) (fun r=>SrcOk r.2∧∃zs,LayW zs r.1):=fun ns hl hw=>by
  have hlens:∀x∈ns,0<=x.Length∧x.Length<=4:=fun x hx=>by
   obtain⟨j,hj,rfl⟩:=List.getElem_of_mem hx
   exact(hw j _ (Wg hj)).1.lens
  refine Ji (Jl2 r35.2 ns h35.2.2 hlens) (fun r hr=>Jf ⟨hr.1,zsF r1.1.toNat n,?_⟩)
  obtain⟨_,he,k,hd⟩:=hr
  refine⟨by show 1<=r.2.2.length;rw [he];omega,by show r.2.2.length<=11;rw [he];omega,fun i x hx=> ?_,hd.len,fun d hd'=> ?_,hd.nodup⟩
  .
   have hx:r.2.2[i]? =some x:=hx
   show NodeW r.2.2.length _ i x
   rw [he] at hx ⊢
   rw [hl]
   exact(hw i x hx).1
  .
   have:=hd.ok d hd'
   show _∧_∧d.Node<((r.2.2.length:Nat):Int)∧_∧∃x,r.2.2[d.Node.toNat]? =some x∧_
   rw [he]
   exact this
 refine Jh (fun c=> ?_) (fun c=>fin _ hz.2.1 hz.2.2)
 exact Q6 (Jkj r1 r1.1.toNat n (by omega) (by omega) (by omega) hn _ 9223372036854775807 _ 0 rfl (by omega) hz.2.1 hz.2.2) (fun ns hns=>fin ns hns.1 hns.2)
end Go.Proofs.YtehhohbnhcogkaaGreatDoor.Ex
namespace Go.Proofs.YtehhohbnhcogkaaGreatDoor.Ex
open Go.RowKit Go.Proofs.YtehhohbnhcogkaaGreatDoor.Ax
variable {ly:Layout} {p:Plant} {i:Nat} {zs:Nat->Int}
structure PlW (ly:Layout) (P:Nat->Int->Prop) (p:Plant):Prop where
 ls:p.Slots.length=ly.Nodes.length
 lb:p.Bins.length=ly.Nodes.length
 lens:∀(i:Nat) (x:Node) (s:List Int),ly.Nodes[i]? =some x->p.Slots[i]? =some s->(s.length:Int)=x.Length
 vs:∀(i:Nat) (s:List Int),p.Slots[i]? =some s->∀v∈s,P i v
 vb:∀(i:Nat) (b:List Int),p.Bins[i]? =some b->∀v∈b,P i v
theorem PlW.mono {P Q:Nat->Int->Prop} (h:PlW ly P p) (hPQ:∀i v,P i v->Q i v):PlW ly Q p:=
 ⟨h.ls,h.lb,h.lens,fun i s hs v hv=>hPQ i v (h.vs i s hs v hv),fun i s hs v hv=>hPQ i v (h.vb i s hs v hv)⟩
theorem PlW.slot {P:Nat->Int->Prop} (h:PlW ly P p) {x:Node} (hx:ly.Nodes[i]? =some x):∃s,p.Slots[i]? =some s∧(s.length:Int)=x.Length:=by
 obtain⟨s,hs⟩:=YO (l:=p.Slots) (k:=i) (by rw [h.ls];exact JT hx)
 exact⟨s,hs,h.lens i x s hx hs⟩
theorem PlW.bin {P:Nat->Int->Prop} (h:PlW ly P p) {x:Node} (hx:ly.Nodes[i]? =some x):∃s,p.Bins[i]? =some s:=YO (l:=p.Bins) (k:=i) (by rw [h.lb];exact JT hx)
def JeT (v:Int):Nat:=if v=0 then 0 else 1
def nzN (s:List Int):Nat:=(s.map JeT).sum
def cnt (p:Plant):Nat:=(p.Slots.map nzN).sum+(p.Bins.map List.length).sum
theorem JbR {α:Type} (f:α->Nat):∀(l:List α) (i:Nat) (x y:α),l[i]? =some x->((l.set i y).map f).sum+f x=(l.map f).sum+f y
 |[],i,x,y,h=>by simp at h
 |a::l,0,x,y,h=>by
  have:a=x:=by simpa using h
  subst this
  simp
  omega
 |a::l,i+1,x,y,h=>by
  have:=JbR f l i x y (by simpa using h)
  simp only [List.set_cons_succ,List.map_cons,List.sum_cons]
  omega
theorem Jil {α:Type} (f:α->Nat):∀(l:List α) (i:Nat) (x:α),l[i]? =some x->f x<=(l.map f).sum
 |[],i,x,h=>by simp at h
 |a::l,0,x,h=>by
  have:a=x:=by simpa using h
  subst this
  simp
 |a::l,i+1,x,h=>by
  have:=Jil f l i x (by simpa using h)
  simp
  omega
structure PlOk (ly:Layout) (n:Nat) (p:Plant):Prop where
 w:PlW ly (fun _ v=>0<=v∧v<=n) p
 c:cnt p<=n
theorem PlOk.binlen {n:Nat} (h:PlOk ly n p) {b:List Int} (hb:p.Bins[i]? =some b):b.length<=n:=by
 have:=Jil List.length p.Bins i b hb
 have:=h.c
 unfold cnt at this
 omega
theorem PlOk.slotlen (hw:LayW zs ly) {P:Nat->Int->Prop} (h:PlW ly P p) {s:List Int} (hs:p.Slots[i]? =some s):s.length<=4:=by
 obtain⟨x,hx⟩:=YO (l:=ly.Nodes) (k:=i) (by rw [<-h.ls];exact JT hs)
 have:=h.lens i x s hx hs
 have:=(hw.nodes i x hx).lens
 omega
theorem Jq0 (ly:Layout) (P:Nat->Int->Prop) (p:Plant) (h:PlW ly P p):∀(q:List Node) (k:Nat),ly.Nodes.drop k=q->Yl p q k=some (.brk ())
 |[],_,_=>rfl
 |x::q,k,hd=>by
  obtain⟨h1,h2,h3⟩:=Qe hd
  obtain⟨s,hs,hl⟩:=h.slot h1
  rw [Yl,JG hs,Wo,hl,Jq0 ly P p h q (k+1) h2]
  simp
theorem Jky {P:Nat->Int->Prop} (h:PlW ly P p):YP (JQ ly) p=some true:=by
 unfold YP
 rw [show (JQ ly).L=ly from rfl,h.ls,h.lb,Jq0 ly P p h ly.Nodes 0 rfl]
 simp [Ctl.fin]
theorem Jjk (ly:Layout) (P:Nat->Int->Prop) (p:Plant) (h:PlW ly P p):∀(q:List Node) (k:Nat),ly.Nodes.drop k=q->Jaa p q k=some (.brk ())
 |[],_,_=>rfl
 |x::q,k,hd=>by
  obtain⟨h1,h2,h3⟩:=Qe hd
  obtain⟨s,hs,hl⟩:=h.slot h1
  rw [Jaa,JG hs,Wo,hl,Jjk ly P p h q (k+1) h2]
  simp
theorem Jh2 {P:Nat->Int->Prop} (h:PlW ly P p):ZX ly p=some true:=by
 unfold ZX
 rw [h.ls,h.lb,Jjk ly P p h ly.Nodes 0 rfl]
 simp [Ctl.fin]
theorem Jrd:∀(q:List (List Int)) (k:Nat) (a:List (List Int)),(∀r∈q,r.length<=1000)->a.length+q.length<=1000->Zw q k a=some (.brk (a++q))
 |[],k,a,_,_=>by simp [Zw]
 |r::q,k,a,h,hl=>by
  have hr:=h r (List.mem_cons_self ..)
  have hc:(r::q).length=q.length+1:=rfl
  rw [Zw,QZ (by simp;omega),Wo,QZ (by simp;omega),Wo,Jrd q (k+1) _ (fun x hx=>h x (List.mem_cons_of_mem _ hx)) (by simp;omega)]
  simp
theorem JnW {l:List (List Int)} (h:∀r∈l,r.length<=1000) (hl:l.length<=1000):JbM l=some l:=by
 unfold JbM
 rw [Jrd l 0 [] h (by simpa using hl)]
 simp [Ctl.fin]
theorem JgD (hw:LayW zs ly) {P:Nat->Int->Prop} (h:PlW ly P p) (hc:cnt p<=1000):Jbg p=some p:=by
 have hn:=hw.n11
 unfold Jbg
 rw [JnW (fun r hr=> ?_) (by rw [h.ls];omega),Wo,JnW (fun r hr=> ?_) (by rw [h.lb];omega),Wo]
 .
  obtain⟨i,hi,rfl⟩:=List.getElem_of_mem hr
  have:=Jil List.length p.Bins i _ (Wg hi)
  unfold cnt at hc
  omega
 .
  obtain⟨i,hi,rfl⟩:=List.getElem_of_mem hr
  have:=PlOk.slotlen hw h (Wg hi)
  omega
theorem Jud:∀(q:List Node) (k:Nat) (a b:List (List Int)),(∀x∈q,0<=x.Length∧x.Length<=4)->a.length+q.length<=1000->b.length+q.length<=1000->
  Jas q k a b=some (.brk (a++q.map (fun x=>List.replicate x.Length.toNat (0:Int)),b++q.map (fun _=>([]:List Int))))
 |[],k,a,b,_,_,_=>by simp [Jas]
 |x::q,k,a,b,h,h1,h2=>by
  have hx:=h x (List.mem_cons_self ..)
  have hc:(x::q).length=q.length+1:=rfl
  rw [Jas,JgV (by omega) (by omega),Wo,QZ (by simp;omega),Wo,QZ (by simp;omega),Wo,Jud q (k+1) _ _ (fun y hy=>h y (List.mem_cons_of_mem _ hy)) (by simp;omega) (by simp;omega)]
  simp
def JaF (ly:Layout):Plant:=⟨ly.Nodes.map (fun x=>List.replicate x.Length.toNat (0:Int)),ly.Nodes.map (fun _=>([]:List Int))⟩
theorem Jqj (hw:LayW zs ly):Jdh ly=some (JaF ly,0):=by
 have hn:=hw.n11
 unfold Jdh
 rw [JdM hw,Wo,Jud ly.Nodes 0 [] [] hw.lens (by simp;omega) (by simp;omega)]
 simp [Ctl.fin,JaF]
theorem Jlk (hw:LayW zs ly) {P:Nat->Int->Prop} (hP:∀i,P i 0):PlW ly P (JaF ly):=by
 refine⟨by simp [JaF],by simp [JaF],fun i x s hx hs=> ?_,fun i s hs v hv=> ?_,fun i s hs v hv=> ?_⟩
 .
  simp only [JaF,Wp,hx,Option.map_some,Option.some.injEq] at hs
  subst hs
  have:=(hw.nodes i x hx).lens
  simp
  omega
 .
  simp only [JaF,Wp,Option.map_eq_some_iff] at hs
  obtain⟨x,_,rfl⟩:=hs
  rw [(List.mem_replicate.1 hv).2]
  exact hP i
 .
  simp only [JaF,Wp,Option.map_eq_some_iff] at hs
  obtain⟨x,_,rfl⟩:=hs
  simp at hv
theorem Jmy (ly:Layout):cnt (JaF ly)=0:=by
 unfold cnt JaF
 have h1:∀l:List Node,((l.map (fun x=>List.replicate x.Length.toNat (0:Int))).map nzN).sum=0:=fun l=>by
  induction l with
  |nil=>rfl
  |cons x l ih=>
   simp only [List.map_cons,List.sum_cons,ih]
   simp [nzN,JeT]
 have h2:∀l:List Node,((l.map (fun _=>([]:List Int))).map List.length).sum=0:=fun l=>by
  induction l with
  |nil=>rfl
  |cons x l ih=>simp only [List.map_cons,List.sum_cons,ih];rfl
 simp only [h1,h2]
theorem Joj (hw:LayW zs ly):PlOk ly 0 (JaF ly):=⟨Jlk hw (fun _=>by simp),by rw [Jmy];omega⟩
theorem JsW (hw:LayW zs ly) {b:Int} (h0:0<=b) (h2:b<=2):Jen ly b=some (⟨b,[⟨0,JaF ly⟩]⟩,0):=by
 unfold Jen
 rw [Jqj hw,Wo,We (show ¬b<0 by omega),We (show ¬2<b by omega)]
 rfl
def JaO (p:Plate):Prop:=0<=p.Lead∧p.Lead<=9∧1<=p.Airline∧p.Airline<=999∧0<=p.Serial∧p.Serial<1000000
theorem Jqi (r:Int×Src) (hr0:0<=r.1) (hr3:r.1<3):∀(d N:Nat) (a:List Int) (i:Int) (l:List Plate) (k:Int),(40 - k).toNat=d->d<N->0<=k->k<=40->SrcOk ⟨a,i⟩->(l.length:Int)=k->(∀p∈l,JaO p)->
  okP (Yj r N a i l k) (YB (fun _=>False) (fun z=>SrcOk ⟨z.1,z.2.1⟩∧z.2.2.length=40∧∀p∈z.2.2,JaO p))
 |d,0,a,i,l,k,h1,h2,h3,h4,h5,h6,h7=>by omega
 |d,N+1,a,i,l,k,h1,h2,h3,h4,h5,h6,h7=>by
  rw [Yj]
  refine Jh (fun c=> ?_) (fun c=>Jf ⟨h5,by have:=Wf c;show l.length=40;omega,h7⟩)
  have c:=Wt c
  refine Ji (Jd8 _ 2 h5 (by omega) (by omega)) (fun r6 h6'=> ?_)
  have hmul:0<=k*(1+r6.1)∧k*(1+r6.1)<=80:=by
   have:r6.1=0∨r6.1=1:=by omega
   rcases this with e |e<;>rw [e]<;>omega
  rw [QZ (by simp;omega),Wo,JM (z:=k+1) (by omega) (by omega),JM (z:=117+r.1) (by omega) (by omega),JM (z:=1+r6.1) (by omega) (by omega),JM (z:=k*(1+r6.1)) (by omega) (by omega)]
  refine Jqi r hr0 hr3 (d - 1) N _ _ _ (k+1) (by omega) (by omega) (by omega) (by omega) h6'.2.2 (by simp;omega) (fun p hp=> ?_)
  rw [List.mem_append,List.mem_singleton] at hp
  rcases hp with hp |rfl
  . exact h7 p hp
  . exact⟨by show (0:Int)<=0;omega,by show (0:Int)<=9;omega,by show 1<=117+r.1;omega,by show 117+r.1<=999;omega,hmul.1,by show k*(1+r6.1)<1000000;omega⟩
theorem JmF (i11:Nat):∀(d N:Nat) (l:List Plate) (k:Nat),i11 - k=d->d<N->i11<l.length->l.length=40->(∀p∈l,JaO p)->
  okP (QW (i11:Int) N l (k:Int)) (YB (fun _=>False) (fun z=>z.length=40∧∀p∈z,JaO p))
 |d,0,l,k,h1,h2,h3,h4,h5=>by omega
 |d,N+1,l,k,h1,h2,h3,h4,h5=>by
  rw [QW]
  refine Jh (fun c=> ?_) (fun c=>Jf ⟨h4,h5⟩)
  have c:=Wt c
  have hk1:w64 ((k:Int)+1)=((k+1:Nat):Int):=by rw [JM (by omega) (by omega)];omega
  obtain⟨x,hx⟩:=YO (l:=l) (k:=k) (by omega)
  obtain⟨y,hy⟩:=YO (l:=l) (k:=i11) h3
  have hyW:=h5 y (Wm hy)
  rw [JG hx,Wo,JG hy,Wo,hk1]
  refine Jh (fun c2=> ?_) (fun c2=>JmF i11 (d - 1) N l (k+1) (by omega) (by omega) h3 h4 h5)
  rw [Wo]
  have hset:∀p∈l.set (Int.toNat (i11:Int)) (⟨1,y.Airline,y.Serial⟩:Plate),JaO p:=fun p hp=>by
   rcases List.mem_or_eq_of_mem_set hp with hp |rfl
   . exact h5 p hp
   . exact⟨by show (0:Int)<=1;omega,by show (1:Int)<=9;omega,hyW.2.2.1,hyW.2.2.2.1,hyW.2.2.2.2.1,hyW.2.2.2.2.2⟩
  refine Ji (Jat (Q:=JaO) (by omega) (by simp;omega) (fun p hp _=>hset p hp)) (fun z hz=> ?_)
  refine JmF i11 (d - 1) N _ (k+1) (by omega) (by omega) (by simpa using h3) (by simpa using h4) (fun p hp=> ?_)
  rcases List.mem_or_eq_of_mem_set hp with hp |rfl
  . exact hset p hp
  . exact⟨hz.1,hz.2.1,hz.2.2.1,hz.2.2.2.1,by show (0:Int)<=(i11:Int);omega,by show (i11:Int)<1000000;omega⟩
theorem Jqh:∀(d N:Nat) (k:Nat) (l:List Plate),l.length - k=d->d<N->l.length=40->(∀p∈l,JaO p)->
  okP (Yi N (k:Int) l) (YB (fun _=>False) (fun z=>z.length=40∧∀p∈z,JaO p))
 |d,0,k,l,h1,h2,h3,h4=>by omega
 |d,N+1,k,l,h1,h2,h3,h4=>by
  rw [Yi]
  refine Jh (fun c=> ?_) (fun c=>Jf ⟨h3,h4⟩)
  have c:=Wt c
  have hk1:w64 ((k:Int)+1)=((k+1:Nat):Int):=by rw [JM (by omega) (by omega)];omega
  refine JbZ (JmF k _ _ l 0 rfl (by omega) (by omega) h3 h4) (fun z hz=> ?_)
  rw [hk1]
  exact Jqh (d - 1) N (k+1) z (by omega) (by omega) hz.1 hz.2
theorem Jm6 (s:Src) (h:SrcOk s):okP (Z8 s) (fun r=>SrcOk r.2∧r.1.length=40∧∀p∈r.1,JaO p):=by
 unfold Z8
 refine Ji (Jd8 s 3 h (by omega) (by omega)) (fun r1 h1=> ?_)
 refine Q6 (Jqi r1 h1.1 h1.2.1 _ _ r1.2.L r1.2.At [] 0 rfl (by omega) (by omega) (by omega) h1.2.2 rfl (by simp)) (fun z hz=> ?_)
 exact Q6 (Jqh _ _ 0 z.2.2 rfl (by omega) hz.2.1 hz.2.2) (fun y hy=>Jf ⟨hz.1,hy.1,hy.2⟩)
theorem JkY (b:Int):∀(q:List (List Int)) (k:Nat),okP (Jag b q k) (YB (fun _=>True) (fun _=>True))
 |[],_=>Jf trivial
 |r::q,k=>by
  rw [Jag,JlT,Wo]
  exact Jh (fun _=>Jf trivial) (fun _=>JkY b q (k+1))
theorem JkX (b:Int):∀(q:List (List Int)) (k:Nat),okP (Jaf b q k) (YB (fun _=>True) (fun _=>True))
 |[],_=>Jf trivial
 |r::q,k=>by
  rw [Jaf,JdZ,Wo]
  exact Jh (fun _=>Jf trivial) (fun _=>JkX b q (k+1))
theorem Jo1 (p:Plant) (b:Int):okP (JbJ p b) (fun _=>True):=by
 unfold JbJ
 refine Jh (fun _=>Jf trivial) (fun _=> ?_)
 refine JhO (JkY b p.Slots 0) (fun _ _=> ?_)
 exact JhO (JkX b p.Bins 0) (fun _ _=>Jf trivial)
theorem JeC {α:Type} {l:List α} {x v:α} (h:v∈l.set i x):v∈l∨v=x:=by
 exact List.mem_or_eq_of_mem_set h
theorem JcC {α:Type} {l:List α} {j:Nat} {x y:α} (h:(l.set i x)[j]? =some y):(i=j∧x=y)∨(i≠j∧l[j]? =some y):=by
 rw [List.getElem?_set] at h
 by_cases c:i=j
 .
  rw [if_pos c] at h
  split at h
  . exact .inl ⟨c,by simpa using h⟩
  . cases h
 .
  rw [if_neg c] at h
  exact .inr ⟨c,h⟩
theorem PlW.setSlot {P:Nat->Int->Prop} (h:PlW ly P p) {s s':List Int} (hs:p.Slots[i]? =some s) (hl:s'.length=s.length) (hv:∀v∈s',P i v):PlW ly P ⟨p.Slots.set i s',p.Bins⟩:=by
 refine⟨by simpa using h.ls,h.lb,fun j x r hx hr=> ?_,fun j r hr v hv2=> ?_,h.vb⟩
 .
  rcases JcC hr with⟨rfl,rfl⟩|⟨_,hr⟩
  .
   rw [hl]
   exact h.lens i x s hx hs
  . exact h.lens j x r hx hr
 .
  rcases JcC hr with⟨rfl,rfl⟩|⟨_,hr⟩
  . exact hv v hv2
  . exact h.vs j r hr v hv2
theorem Jl0 (hw:LayW zs ly) {P:Nat->Int->Prop} (h:PlW ly P p) (hc:cnt p<=1000) {b:Int} (hb1:1<=b) (hb2:b<=40):
  okP (YH ly p 0 b) (fun r=>r.2=0->(∀Q:Nat->Int->Prop,PlW ly Q p->Q 0 b->PlW ly Q r.1)∧cnt r.1<=cnt p+1):=by
 have hn1:=hw.n1
 obtain⟨x,hx⟩:=YO (l:=ly.Nodes) (k:=0) (by omega)
 have hk:=(hw.nodes 0 x hx).entry.2 rfl
 have hl:=(hw.nodes 0 x hx).len1 (by omega)
 obtain⟨s,hs,hsl⟩:=h.slot hx
 unfold YH
 rw [We (show ¬(0:Int)<0 by omega),cond_false,We (show ¬((ly.Nodes.length:Nat):Int)<=0 by omega),cond_false,We (show ¬b<1 by omega),cond_false,We (show ¬40<b by omega),cond_false,JaN (i:=0) 0 rfl hx,Wo,hk]
 show okP ((JbJ p b).bind _) _
 refine Ji (Jo1 p b) (fun r2 _=> ?_)
 refine Jh (fun _=>Jf (fun e=>by have e:(5:Int)=0:=e;omega)) (fun _=> ?_)
 rw [We (show ¬((p.Slots.length:Nat):Int)<=0 by rw [h.ls];omega),cond_false,JaN (i:=0) 0 rfl hs,Wo]
 obtain⟨v0,hv0⟩:=YO (l:=s) (k:=0) (by omega)
 have hpush:Jdl s b=some (if v0=0 then (s.set 0 b,true) else ([],false)):=by
  unfold Jdl Zj
  rw [show (((s.length:Nat):Int)==0)=false from by simp;intro e;rw [e] at hsl;simp at hsl;omega,cond_false,JaN (i:=0) 0 rfl hv0,Wo,QZ (by simp;omega),Wo]
  simp only [List.nil_append,JaN (i:=0) 0 rfl hv0,Wo,show (b==0)=false from by simp;omega,cond_false,Jes,bne_iff_ne,ne_eq,ite_not]
  split<;>rfl
 rw [hpush,Wo]
 by_cases hz:v0=0
 .
  rw [if_pos hz]
  simp only [Bool.not_true,cond_false]
  rw [JgD hw h hc,Wo,JaN (i:=0) 0 rfl hs,Wo]
  refine Jf (fun _=>⟨fun Q hQ hQb=> ?_,?_⟩)
  .
   refine hQ.setSlot (i:=0) hs (by simp) (fun v hv=> ?_)
   rcases JeC hv with e |rfl
   . exact hQ.vs 0 s hs v e
   . exact hQb
  .
   show cnt ⟨p.Slots.set 0 (s.set 0 b),p.Bins⟩<=_
   unfold cnt
   have h1:=JbR nzN p.Slots 0 s (s.set 0 b) hs
   have h2:=JbR JeT s 0 v0 b hv0
   have h3:nzN (s.set 0 b)=((s.set 0 b).map JeT).sum:=rfl
   have h4:nzN s=(s.map JeT).sum:=rfl
   have h5:JeT b<=1:=by unfold JeT;split<;>omega
   show (List.map nzN (p.Slots.set 0 (s.set 0 b))).sum+(List.map List.length p.Bins).sum<=(List.map nzN p.Slots).sum+(List.map List.length p.Bins).sum+1
   omega
 .
  rw [if_neg hz]
  exact Jf (fun e=>by have e:(8:Int)=0:=e;omega)
end Go.Proofs.YtehhohbnhcogkaaGreatDoor.Ex
namespace Go.Proofs.YtehhohbnhcogkaaGreatDoor.Ex
open Go.RowKit Go.Proofs.YtehhohbnhcogkaaGreatDoor.Ax
variable {i:Int} {n m:Nat} {x:Node} {zs:Nat->Int} {ly:Layout} {p:Plant}
theorem JhW {z:Int} (h0:0<=z) (h1:z<18446744073709551616):IntKind.u64.wrap z=z:=by
 unfold IntKind.wrap
 simp [IntKind.signed,IntKind.bits]
 omega
theorem JuC (k:Nat) (hk:k<60):Jmv .u64 (1:Int) (k:Int)=((2^k:Nat):Int):=by
 unfold Jmv
 have h:(2:Nat)^k<2^60:=Nat.pow_lt_pow_right (by omega) hk
 rw [show min (Int.toNat (k:Int)) (IntKind.bits .u64)=k from by simp [IntKind.bits];omega]
 rw [Int.one_mul]
 have e:(2:Int)^k=((2^k:Nat):Int):=by simp
 rw [e]
 generalize (2:Nat)^k=q at h
 exact JhW (by omega) (by have:(2:Nat)^60=1152921504606846976:=rfl;omega)
theorem JkJ (h0:0<=i) (h1:i<18446744073709551616):(BitVec.ofInt (IntKind.bits .u64) i).toNat=i.toNat:=by
 show (BitVec.ofInt 64 i).toNat=i.toNat
 rw [BitVec.toNat_ofInt]
 simp
 omega
theorem JvY {k:Nat} (h0:0<=i) (h1:i.toNat<2^n) (hk:k<n) (hn:n<=24):0<=orF .u64 i (Jmv .u64 (1:Int) (k:Int))∧(orF .u64 i (Jmv .u64 (1:Int) (k:Int))).toNat<2^n:=by
 have hp:(2:Nat)^n<=2^24:=Nat.pow_le_pow_right (by omega) hn
 have hp2:(2:Nat)^24=16777216:=rfl
 have hk2:(2:Nat)^k<2^n:=Nat.pow_lt_pow_right (by omega) hk
 rw [JuC k (by omega)]
 generalize (2:Nat)^k=q at hk2
 unfold orF
 have hor:(BitVec.ofInt (IntKind.bits .u64) i ||| BitVec.ofInt (IntKind.bits .u64) (q:Int)).toNat=i.toNat ||| q:=by
  rw [BitVec.toNat_or,JkJ h0 (by omega),JkJ (by omega) (by omega),Int.toNat_natCast]
 rw [hor]
 have hlt:=Nat.or_lt_two_pow h1 hk2
 rw [JhW (by omega) (by omega)]
 exact⟨by omega,by simpa using hlt⟩
theorem Jti (h0:0<i) (h1:i<18446744073709551616):0<=Ji5 .u64 i (IntKind.u64.wrap (i - 1))∧Ji5 .u64 i (IntKind.u64.wrap (i - 1))<i:=by
 rw [JhW (z:=i - 1) (by omega) (by omega)]
 unfold Ji5
 have hor:(BitVec.ofInt (IntKind.bits .u64) i &&& BitVec.ofInt (IntKind.bits .u64) (i - 1)).toNat=i.toNat &&& (i - 1).toNat:=by
  rw [BitVec.toNat_and,JkJ (by omega) h1,JkJ (by omega) (by omega)]
 rw [hor]
 have hle:i.toNat &&& (i - 1).toNat<=(i - 1).toNat:=Nat.and_le_right
 rw [JhW (by omega) (by omega)]
 omega
theorem Jtm {x:Int} (h0:0<x) (h1:x.toNat<2^n) (hn:n<=24):okP (tzF x) (fun r=>0<=r∧r<n):=by
 have hp:(2:Nat)^n<=2^24:=Nat.pow_le_pow_right (by omega) hn
 have hp2:(2:Nat)^24=16777216:=rfl
 unfold tzF
 rw [Wd (show 0<=x by omega),Wd (show x<18446744073709551616 by omega)]
 refine Jf ⟨by omega,?_⟩
 unfold Lib.ctz
 rw [if_neg (by omega)]
 obtain⟨m,hm,_⟩:=Lib.ctzFrom_spec 64 x.toNat (by omega) (by omega)
 have hle:2^Lib.ctzFrom 64 x.toNat<=x.toNat:=by
  conv=>rhs;rw [hm]
  exact Nat.le_mul_of_pos_right _ (by omega)
 have:Lib.ctzFrom 64 x.toNat<n:=by
  rcases Nat.lt_or_ge (Lib.ctzFrom 64 x.toNat) n with c |c
  . exact c
  .
   have:=Nat.pow_le_pow_right (show 0<2 by omega) c
   omega
 omega
def JiK (x:Node) (c:Int):Prop:=(x.Kind<=6∧((0<=c∧c<x.Exits.length)∨c= -1))∨(x.Kind=7∧0<=c∧c<=40)∨(7<x.Kind∧c=0)
structure CmdsW (ly:Layout) (cs:List Int):Prop where
 len:cs.length=ly.Nodes.length
 known:∀(i:Nat) (x:Node) (c:Int),ly.Nodes[i]? =some x->cs[i]? =some c->JiK x c
structure FaultW (ly:Layout) (f:Fault):Prop where
 kind:f.Kind=1∨f.Kind=2
 n0:0<=f.Node
 w0:0<=f.Window
 w:∃x,ly.Nodes[f.Node.toNat]? =some x∧f.Window<x.Length
def JbF (x:Node) (p:Plant) (m:Nat) (c:Int) (fs:List Fault):Int:=
 if x.Kind=7 then (if c∈(p.Bins[m]?).getD [] then 0 else -1) else if 6<x.Kind then -1 else
 if ((p.Slots[m]?).getD []).getLastD 0=0 then -1 else if (⟨1,(m:Int),x.Length - 1⟩:Fault)∈fs then -1 else c
theorem Jfc {s:List Int} (h:1<=s.length):s[s.length - 1]? =some (s.getLastD 0):=by
 rw [<-List.getLast?_eq_getElem?]
 cases s with
 |nil=>simp at h
 |cons a l=>simp [List.getLastD,List.getLast?_eq_some_getLast]
theorem Joe (hw:LayW zs ly) {P:Nat->Int->Prop} (h:PlW ly P p) (hx:ly.Nodes[m]? =some x) (c:Int) (fs:List Fault):
  Jal (JQ ly) p (m:Int) c fs=some (JbF x p m c fs):=by
 have hn:=hw.nodes m x hx
 unfold Jal JbF
 rw [show (JQ ly).L.Nodes=ly.Nodes from rfl,JG hx,Wo]
 by_cases h7:x.Kind=7
 .
  obtain⟨b,hb⟩:=h.bin hx
  rw [show (x.Kind==7)=true from by simp [h7],cond_true,JG hb,Wo,JdZ,Wo,if_pos h7,hb,Option.getD_some]
  by_cases c1:c∈b
  . rw [Wd c1,if_pos c1];rfl
  . rw [We c1,if_neg c1];rfl
 .
  rw [show (x.Kind==7)=false from by simp [h7],cond_false,Jbl,Wo,if_neg h7,Wd hn.kind1,Bool.true_and]
  by_cases h6:x.Kind<=6
  .
   obtain⟨s,hs,hl⟩:=h.slot hx
   have hlen:=hn.len1 h6
   have hi:w64 (x.Length - 1)=((s.length - 1:Nat):Int):=by rw [JM (by omega) (by omega)];omega
   rw [Wd h6,Bool.not_true,cond_false,if_neg (by omega),JG hs,Wo,hi,JG (Jfc (by omega)),Wo,hs,Option.getD_some,JiA,show ((s.length - 1:Nat):Int)=x.Length - 1 by omega]
   by_cases c0:s.getLastD 0=0
   . rw [if_pos c0,c0];rfl
   .
    rw [if_neg c0,show (s.getLastD 0==0)=false from beq_eq_false_iff_ne.2 c0,cond_false,Wo]
    by_cases c1:(⟨1,(m:Int),x.Length - 1⟩:Fault)∈fs
    . rw [Wd c1,if_pos c1];rfl
    . rw [We c1,if_neg c1];rfl
  . rw [We h6,if_pos (by omega)];rfl
theorem Jk0 {c:Int} {fs:List Fault} (hn:NodeW n zs m x) (hk:JiK x c): -1<=JbF x p m c fs∧(0<=JbF x p m c fs->JbF x p m c fs<x.Exits.length):=by
 have hex:=hn.exs
 have hk1:=hn.kind1
 unfold JbF
 split
 .
  rename_i h7
  have:exN x.Kind=1:=by rw [h7];rfl
  split<;>omega
 split
 . omega
 split
 . omega
 split
 . omega
 rcases hk with⟨_,hk⟩|⟨hk,_⟩|⟨hk,_⟩
 . omega
 . omega
 . omega
def Jbj (ly:Layout) (p:Plant) (cs:List Int) (fs:List Fault):List Int:=(List.range ly.Nodes.length).map fun m=>match ly.Nodes[m]? with |some x=>JbF x p m ((cs[m]?).getD 0) fs |none=> -1
theorem Jev {cs:List Int} {fs:List Fault} {c:Int} (hx:ly.Nodes[m]? =some x) (hc:cs[m]? =some c):(Jbj ly p cs fs)[m]? =some (JbF x p m c fs):=by
 unfold Jbj
 rw [Wp,List.getElem?_range (JT hx)]
 simp [hx,hc]
theorem JhT {zs:Nat->Int} {ly:Layout} (hw:LayW zs ly) {P:Nat->Int->Prop} {p:Plant} (h:PlW ly P p) {cs:List Int} (hc:CmdsW ly cs) (fs:List Fault):∀(q:List Node) (k:Nat),ly.Nodes.drop k=q->k<=ly.Nodes.length->
  QK (JQ ly) p cs fs q k (List.replicate k (-1)) (List.replicate k (-1)) ((Jbj ly p cs fs).take k)=some (.brk (List.replicate ly.Nodes.length (-1),List.replicate ly.Nodes.length (-1),Jbj ly p cs fs))
 |[],k,hd,hk=>by
  have:k=ly.Nodes.length:=by
   have:=congrArg List.length hd
   simp at this
   omega
  subst this
  rw [QK,List.take_of_length_le (by simp [Jbj])]
 |x::q,k,hd,hk=>by
  obtain⟨h1,h2,h3⟩:=Qe hd
  obtain⟨c,hcc⟩:=YO (l:=cs) (k:=k) (by rw [hc.len];exact h3)
  have hn:=hw.n11
  have hwl:(Jbj ly p cs fs).length=ly.Nodes.length:=by simp [Jbj]
  have r1:List.replicate k (-1:Int)++[-1]=List.replicate (k+1) (-1):=by rw [List.replicate_succ']
  have t1:(Jbj ly p cs fs).take k++[JbF x p k c fs]=(Jbj ly p cs fs).take (k+1):=by
   rw [List.take_add_one,Jev h1 hcc];rfl
  rw [QK,QZ (by simp;omega),Wo,Wo,JG hcc,Wo,Joe hw h h1,Wo,QZ (by simp;omega),Wo,r1,t1]
  exact JhT hw h hc fs q (k+1) h2 (by omega)
theorem JnL (z:(List Int)×(List Int)×(List Int)) (n:Nat) (hn:n<=24) (V:Nat->Int->Prop) (hl:z.2.2.length=n) (hV:∀m w,z.2.2[m]? =some w->V m w):∀(N:Nat) (a:List Int) (i:Int),i.toNat<N->0<=i->i.toNat<2^n->a.length=n->(∀m v,a[m]? =some v->V m v)->
  okP (Js z N a i) (YB (fun _=>False) (fun s=>s.2.length=n∧∀m v,s.2[m]? =some v->V m v))
 |0,a,i,h1,h2,h3,h4,h5=>by omega
 |N+1,a,i,h1,h2,h3,h4,h5=>by
  have hp:(2:Nat)^n<=2^24:=Nat.pow_le_pow_right (by omega) hn
  have hp2:(2:Nat)^24=16777216:=rfl
  rw [Js]
  refine Jh (fun c=> ?_) (fun c=>Jf ⟨h4,h5⟩)
  have c:i≠0:=by simpa using c
  unfold bits_TrailingZeros
  refine Ji (Jtm (n:=n) (by omega) h3 hn) (fun r hr=> ?_)
  refine Ji (Jat (Q:=fun w=>z.2.2[r.toNat]? =some w) hr.1 (by omega) (fun w _ hw=>hw)) (fun w hw=> ?_)
  refine Ji (Jat (Q:=fun _=>True) hr.1 (by omega) (fun _ _ _=>trivial)) (fun _ _=> ?_)
  have hlt:=Jti (i:=i) (by omega) (by omega)
  refine JnL z n hn V hl hV N _ _ (by omega) hlt.1 (by omega) (by simpa using h4) (fun m v hv=> ?_)
  rcases JcC hv with⟨rfl,rfl⟩|⟨_,hv⟩
  . exact hV _ _ hw
  . exact h5 m v hv
theorem Jft {ly:Layout} (n:Nat) (hn:n<=24) (hnl:ly.Nodes.length=n) (t:Int) (ws:List Int) (hws:∀(k:Nat) (w:Int) (x:Node),ws[k]? =some w->ly.Nodes[k]? =some x->w<x.Exits.length) (hwl:ws.length=n):∀(q:List Int) (k:Nat) (i:Int),ws.drop k=q->0<=i->i.toNat<2^n->
  okP (Qf (JQ ly) t q k i) (YB (fun _=>False) (fun s=>0<=s∧s.toNat<2^n))
 |[],k,i,_,h0,h1=>Jf ⟨h0,h1⟩
 |w::q,k,i,hd,h0,h1=>by
  obtain⟨g1,g2,g3⟩:=Qe hd
  obtain⟨x,hx⟩:=YO (l:=ly.Nodes) (k:=k) (by omega)
  have hwx:=hws k w x g1 hx
  rw [Qf]
  refine Jh (fun _=> ?_) (fun _=>Jft n hn hnl t ws hws hwl q (k+1) i g2 h0 h1)
  refine Jh (fun c=> ?_) (fun _=>Jft n hn hnl t ws hws hwl q (k+1) i g2 h0 h1)
  have c:=Wt c
  rw [show (JQ ly).L.Nodes=ly.Nodes from rfl,JG hx,Wo]
  refine Ji (Jat (Q:=fun _=>True) c hwx (fun _ _ _=>trivial)) (fun e _=> ?_)
  refine Jh (fun _=> ?_) (fun _=>Jft n hn hnl t ws hws hwl q (k+1) i g2 h0 h1)
  have hng:ng (k:Int)=some ():=by unfold ng;rw [if_neg (by omega)]
  rw [hng,Wo]
  have:=JvY (k:=k) h0 h1 (by omega) hn
  exact Jft n hn hnl t ws hws hwl q (k+1) _ g2 this.1 this.2
theorem JmP:∀(q:List Int) (k:Nat) (i:Int),okP (ZY q k i) (YB (fun _=>False) (fun _=>True))
 |[],_,_=>Jf trivial
 |v::q,k,i=>by
  rw [ZY]
  exact Jh (fun _=>JmP q _ _) (fun _=>JmP q _ _)
theorem Jno (hw:LayW zs ly) {P:Nat->Int->Prop} (h:PlW ly P p) (hx:ly.Nodes[m]? =some x):okP (QT (JQ ly) p (m:Int)) (fun _=>True):=by
 have hn:=hw.nodes m x hx
 obtain⟨s,hs,hl⟩:=h.slot hx
 unfold QT
 rw [show (JQ ly).L.Nodes=ly.Nodes from rfl,JG hx,Wo,Jbl,Wo]
 refine Jh (fun _=>Jf trivial) (fun c=> ?_)
 have c:x.Kind<=6:=by simp at c;omega
 have hlen:=hn.len1 c
 obtain⟨v,hv⟩:=YO (l:=s) (k:=0) (by omega)
 simp only [Wo,JG hs,JaN (i:=0) 0 rfl hv]
 refine Jh (fun _=> ?_) (fun _=>Jf trivial)
 unfold Jew
 refine Ji (Q6 (JmP s 0 0) (fun _ _=>Jf trivial)) (fun _ (_:True)=> ?_)
 exact Jh (fun _=>Jf trivial) (fun _=>Jf trivial)
def JcQ (ly:Layout) (ws:List Int) (m:Nat) (v:Int):Prop:=v= -1∨(0<=v∧∃(w:Int) (x:Node),ws[m]? =some w∧ly.Nodes[m]? =some x∧0<=w∧(v=w∨(x.Kind=5∧v=0)))
theorem JnM {zs:Nat->Int} {ly:Layout} (hw:LayW zs ly) {P:Nat->Int->Prop} {p:Plant} (h:PlW ly P p) (z:(List Int)×(List Int)×(List Int)) (hws:∀(k:Nat) (w:Int) (x:Node),z.2.2[k]? =some w->ly.Nodes[k]? =some x-> -1<=w∧w<x.Exits.length) (hwl:z.2.2.length=ly.Nodes.length):
  ∀(q:List Int) (k:Nat) (a b:List Int),(∀e∈q,0<=e∧e<ly.Nodes.length)->a.length=ly.Nodes.length->b.length=ly.Nodes.length->(∀m v,a[m]? =some v->JcQ ly z.2.2 m v)->
  okP (Jj (JQ ly) p z q k a b) (YB (fun _=>False) (fun s=>s.1.length=ly.Nodes.length∧∀m v,s.1[m]? =some v->JcQ ly z.2.2 m v))
 |[],k,a,b,_,h1,h2,h3=>Jf ⟨h1,h3⟩
 |e::q,k,a,b,hq,h1,h2,h3=>by
  have hn:=hw.n11
  have he:=hq e (List.mem_cons_self ..)
  have hq':∀e∈q,0<=e∧e<ly.Nodes.length:=fun e he=>hq e (List.mem_cons_of_mem _ he)
  obtain⟨m,rfl⟩:∃m:Nat,e=(m:Int):=⟨e.toNat,by omega⟩
  obtain⟨x,hx⟩:=YO (l:=ly.Nodes) (k:=m) (by omega)
  obtain⟨w,hwm⟩:=YO (l:=z.2.2) (k:=m) (by omega)
  obtain⟨s,hs,hsl⟩:=h.slot hx
  have hV:∀m w,z.2.2[m]? =some w->JcQ ly z.2.2 m w:=fun m w hmw=>by
   obtain⟨y,hy⟩:=YO (l:=ly.Nodes) (k:=m) (by have:=JT hmw;omega)
   have:=hws m w y hmw hy
   by_cases c:w= -1
   . exact .inl c
   . exact .inr ⟨by omega,w,y,hmw,hy,by omega,.inl rfl⟩
  have rcv:∀a b,a.length=ly.Nodes.length->b.length=ly.Nodes.length->(∀m v,a[m]? =some v->JcQ ly z.2.2 m v)->
    okP (Jj (JQ ly) p z q (k+1) a b) (YB (fun _=>False) (fun s=>s.1.length=ly.Nodes.length∧∀m v,s.1[m]? =some v->JcQ ly z.2.2 m v)):=fun a b=>JnM hw h z hws hwl q (k+1) a b hq'
  have hcm:okP (QC (JQ ly) z.2.2 (m:Int)) (fun s=>0<=s∧s.toNat<2^ly.Nodes.length):=by
   unfold QC
   have hp:0<2^ly.Nodes.length:=Nat.two_pow_pos _
   exact Q6 (Jft ly.Nodes.length (by omega) rfl (m:Int) z.2.2 (fun k w x a b=>(hws k w x a b).2) hwl z.2.2 0 0 rfl (by omega) (by simpa using hp)) (fun s hs=>Jf hs)
  have hl3:∀a' (i:Int),0<=i->i.toNat<2^ly.Nodes.length->a'.length=ly.Nodes.length->(∀m v,a'[m]? =some v->JcQ ly z.2.2 m v)->
    okP (Ctl.sub (Js z 9223372036854775807 a' i) fun z2=>Jj (JQ ly) p z q (k+1) z2.2 b) (YB (fun _=>False) (fun s=>s.1.length=ly.Nodes.length∧∀m v,s.1[m]? =some v->JcQ ly z.2.2 m v)):=fun a' i i0 i1 l1 v1=>by
   have hp:(2:Nat)^ly.Nodes.length<=2^24:=Nat.pow_le_pow_right (by omega) (by omega)
   have hp2:(2:Nat)^24=16777216:=rfl
   refine JbZ (JnL z ly.Nodes.length (by omega) (JcQ ly z.2.2) hwl hV 9223372036854775807 a' i (by omega) i0 i1 l1 v1) (fun z2 hz2=> ?_)
   exact rcv _ _ hz2.1 h2 hz2.2
  have tail:okP ((QC (JQ ly) z.2.2 (m:Int)).bind fun r=>(ixL (JQ ly).L.Nodes (m:Int)).bind fun e2=>(Qp e2.Kind).bind fun t=>cond (!t)
    (Ctl.sub (Js z 9223372036854775807 a r) fun z2=>Jj (JQ ly) p z q (k+1) z2.2 b)
    (cond (r != (0:Int)) ((QT (JQ ly) p (m:Int)).bind fun o=>cond o ((bits_TrailingZeros r).bind fun r2=>(ixL z.2.2 r2).bind fun e3=>(ixL a r2).bind fun _=>(ixL b (m:Int)).bind fun _=>
     Jj (JQ ly) p z q (k+1) (a.set r2.toNat e3) (b.set (Int.toNat (m:Int)) r2)) (Jj (JQ ly) p z q (k+1) a b)) (Jj (JQ ly) p z q (k+1) a b)))
    (YB (fun _=>False) (fun s=>s.1.length=ly.Nodes.length∧∀m v,s.1[m]? =some v->JcQ ly z.2.2 m v)):=by
   refine Ji hcm (fun r hr=> ?_)
   rw [show (JQ ly).L.Nodes=ly.Nodes from rfl,JG hx,Wo,Jbl,Wo]
   refine Jh (fun _=>hl3 a r hr.1 hr.2 h1 h3) (fun _=> ?_)
   refine Jh (fun c=> ?_) (fun _=>rcv a b h1 h2 h3)
   have c:r≠0:=by simpa using c
   refine Ji (Jno hw h hx) (fun o _=> ?_)
   refine Jh (fun _=> ?_) (fun _=>rcv a b h1 h2 h3)
   unfold bits_TrailingZeros
   refine Ji (Jtm (n:=ly.Nodes.length) (by omega) hr.2 (by omega)) (fun r2 hr2=> ?_)
   refine Ji (Jat (Q:=fun w=>z.2.2[r2.toNat]? =some w) hr2.1 (by omega) (fun w _ hw=>hw)) (fun w2 hw2=> ?_)
   refine Ji (Jat (Q:=fun _=>True) hr2.1 (by omega) (fun _ _ _=>trivial)) (fun _ _=> ?_)
   refine Ji (Jat (Q:=fun _=>True) (by omega) (by omega) (fun _ _ _=>trivial)) (fun _ _=> ?_)
   refine rcv _ _ (by simpa using h1) (by simpa using h2) (fun m v hv=> ?_)
   rcases JcC hv with⟨rfl,rfl⟩|⟨_,hv⟩
   . exact hV _ _ hw2
   . exact h3 m v hv
  rw [show (JQ ly).L.Nodes=ly.Nodes from rfl,JG hx] at tail
  rw [Jj,show (JQ ly).L.Nodes=ly.Nodes from rfl,JG hx,Wo]
  refine Jh (fun c5=> ?_) (fun _=>tail)
  have c5:=eq_of_beq c5
  have hlen:=(hw.nodes m x hx).len1 (by omega)
  obtain⟨v0,hv0⟩:=YO (l:=s) (k:=0) (by omega)
  obtain⟨u,hu⟩:=YO (l:=a) (k:=m) (by omega)
  rw [JG hwm,Wo]
  refine Jh (fun cw=> ?_) (fun _=>tail)
  have cw:=Wt cw
  rw [JG hu,Wo]
  refine Jh (fun _=> ?_) (fun _=>tail)
  rw [JG hs,Wo,JaN (i:=0) 0 rfl hv0,Wo]
  refine Jh (fun _=> ?_) (fun _=>tail)
  rw [Wo]
  have h3':∀m' v,(a.set (Int.toNat (m:Int)) (0:Int))[m']? =some v->JcQ ly z.2.2 m' v:=fun m' v hv=>by
   rcases JcC hv with⟨rfl,rfl⟩|⟨_,hv⟩
   . exact .inr ⟨by omega,w,x,by simpa using hwm,by simpa using hx,cw,.inr ⟨c5,rfl⟩⟩
   . exact h3 m' v hv
  refine Ji hcm (fun r hr=> ?_)
  rw [Wo,Jbl,Wo]
  refine Jh (fun _=>hl3 _ r hr.1 hr.2 (by simpa using h1) h3') (fun _=> ?_)
  refine Jh (fun c=> ?_) (fun _=>rcv _ b (by simpa using h1) h2 h3')
  refine Ji (Jno hw h hx) (fun o _=> ?_)
  exact Jh (fun _=>rcv _ b (by simpa using h1) h2 h3') (fun _=>rcv _ b (by simpa using h1) h2 h3')
theorem Jiu (hw:LayW zs ly) {P:Nat->Int->Prop} {p:Plant} (h:PlW ly P p) {cs:List Int} (hc:CmdsW ly cs) (fs:List Fault):
  okP (Yn (JQ ly) p cs fs) (fun f=>f.Leave.length=ly.Nodes.length∧∀m v,f.Leave[m]? =some v->JcQ ly (Jbj ly p cs fs) m v):=by
 unfold Yn
 have h1:=JhT hw h hc fs ly.Nodes 0 rfl (by omega)
 rw [show (JQ ly).L.Nodes=ly.Nodes from rfl]
 rw [show List.replicate 0 (-1:Int)=[] from rfl,List.take_zero] at h1
 rw [h1,Zv rfl]
 refine JfE (show JaB _=some _ from rfl) ?_
 refine Q6 (JnM hw h _ (fun k w x hk hx=> ?_) (by simp [Jbj]) _ 0 _ _ (fun e he=> ?_) (by simp) (by simp) (fun m v hv=> ?_)) (fun s hs=>Jf hs)
 .
  obtain⟨c,hcc⟩:=YO (l:=cs) (k:=k) (by rw [hc.len];exact JT hx)
  have hk:(Jbj ly p cs fs)[k]? =some w:=hk
  rw [Jev hx hcc] at hk
  have hk:=Wi hk
  subst hk
  have:=Jk0 (p:=p) (m:=k) (fs:=fs) (hw.nodes k x hx) (hc.known k x c hx hcc)
  refine⟨this.1,?_⟩
  rcases Int.lt_or_le (JbF x p k c fs) 0 with c1 |c1
  . omega
  . exact this.2 c1
 .
  rw [List.mem_reverse] at he
  simp only [JQ,List.mem_map,List.mem_range] at he
  obtain⟨j,hj,rfl⟩:=he
  omega
 .
  have hv:(List.replicate ly.Nodes.length (-1:Int))[m]? =some v:=hv
  rw [List.getElem?_replicate] at hv
  split at hv
  . exact .inl (by simpa using hv.symm)
  . cases hv
end Go.Proofs.YtehhohbnhcogkaaGreatDoor.Ex
namespace Go.Proofs.YtehhohbnhcogkaaGreatDoor.Ex
open Go.RowKit Go.Proofs.YtehhohbnhcogkaaGreatDoor.Ax
def atF (l:List Int) (k:Nat):Int:=(l[k]?).getD 0
theorem JiD (l:List Int) (k:Nat):Jea l (k:Int)=some (atF l k):=by
 unfold Jea atF
 by_cases c:l.length<=k
 . rw [Wd (by omega),cond_true,List.getElem?_eq_none c];rfl
 .
  obtain⟨x,hx⟩:=YO (l:=l) (k:=k) (by omega)
  rw [We (by omega),cond_false,JG hx,hx];rfl
def JfL (s:List Int) (k:Nat) (f:Int):Nat:=if f=1 then k else if atF s (k+1)≠0 then k else if f=2∧k+2<s.length∧atF s (k+2)=0 then k+2 else k+1
theorem Jbi {l:List Int} {k:Nat} {x:Int} (h:l[k]? =some x):atF l k=x:=by unfold atF;rw [h];rfl
theorem JgL (s:List Int) (k:Nat) (f:Int) (hk:k+1<s.length) (hl:s.length<=1000):JbS s (k:Int) f=some (JfL s k f:Int):=by
 have h1:w64 ((k:Int)+1)=((k+1:Nat):Int):=by rw [JM (by omega) (by omega)];omega
 have h2:w64 ((k:Int)+2)=((k+2:Nat):Int):=by rw [JM (by omega) (by omega)];omega
 obtain⟨x,hx⟩:=YO hk
 unfold JbS JfL
 rw [h1,h2,JG hx,Wo,Jbi hx]
 by_cases c1:f=1
 . rw [if_pos c1,c1];rfl
 rw [if_neg c1,beq_eq_false_iff_ne.2 c1,cond_false]
 by_cases c2:x=0
 .
  rw [if_neg (fun d=>d c2),c2]
  show cond (f==2) _ _=_
  by_cases c3:f=2
  .
   rw [c3,show ((2:Int)==2)=true from rfl,cond_true]
   by_cases c4:k+2<s.length
   .
    obtain⟨y,hy⟩:=YO c4
    rw [Wd (show ((k+2:Nat):Int)<(s.length:Int) by omega),cond_true,JG hy,Wo,Jbi hy]
    by_cases c5:y=0
    . rw [if_pos ⟨rfl,c4,c5⟩,c5];rfl
    . rw [if_neg (fun d=>c5 d.2.2),beq_eq_false_iff_ne.2 c5];rfl
   . rw [We (show ¬((k+2:Nat):Int)<(s.length:Int) by omega),if_neg (fun d=>c4 d.2.1)];rfl
  . rw [beq_eq_false_iff_ne.2 c3,if_neg (fun d=>c3 d.1)];rfl
 . rw [if_pos c2,show (x != 0)=true from by simp [c2]];rfl
theorem Jsj (s:List Int) (k:Nat) (f:Int) (hk:k+1<s.length):k<=JfL s k f∧JfL s k f<s.length:=by
 unfold JfL
 split
 . omega
 split
 . omega
 split<;>omega
theorem Jsl {a:List Int} {k t:Nat} {x y:Int} (hx:a[k]? =some x) (hy:a[t]? =some y):nzN ((a.set k y).set t x)=nzN a:=by
 have h1:=JbR JeT a k x y hx
 have h2:(a.set k y)[t]? =some y:=by
  rw [List.getElem?_set]
  split
  . rw [if_pos (JT hx)]
  . exact hy
 have h3:=JbR JeT (a.set k y) t y x h2
 unfold nzN
 omega
def JaX (s ks:List Int) (op:Bool):Prop:=op=true∧atF ks (s.length - 1)≠1∧atF s (s.length - 1)≠0
instance (s ks:List Int) (op:Bool):Decidable (JaX s ks op):=by unfold JaX;exact inferInstance
theorem Jmc (s ks:List Int) (op:Bool) (hl:s.length<=1000):∀(k N:Nat) (a:List Int) (l:Int),k<=s.length->k<N->a.length=s.length->(∀j,j<k->a[j]? =s[j]?)->(∀v∈a,v∈s∨v=0)->
  nzN a+(if k<s.length∧JaX s ks op then 1 else 0)<=nzN s->l=(if k<s.length∧JaX s ks op then atF s (s.length - 1) else 0)->
  okP (JO s ks op N ((k:Int) - 1) a l) (YB (fun _=>False) (fun r=>r.1.length=s.length∧(∀v∈r.1,v∈s∨v=0)∧nzN r.1+(if 0<s.length∧JaX s ks op then 1 else 0)<=nzN s∧r.2=(if 0<s.length∧JaX s ks op then atF s (s.length - 1) else 0)))
 |k,0,a,l,h1,h2,h3,h4,h5,h6,h7=>by omega
 |0,N+1,a,l,h1,h2,h3,h4,h5,h6,h7=>by
  rw [JO,show ((0:Nat):Int) - 1= -1 from rfl]
  exact Jf ⟨h3,h5,h6,h7⟩
 |k+1,N+1,a,l,h1,h2,h3,h4,h5,h6,h7=>by
  rw [JO,show ((k+1:Nat):Int) - 1=(k:Int) by omega,Wd (show (0:Int)<=(k:Int) by omega),cond_true]
  obtain⟨e,he⟩:=YO (l:=s) (k:=k) (by omega)
  have hak:a[k]? =some e:=by rw [h4 k (by omega),he]
  rw [JG he,Wo,JM (z:=(k:Int) - 1) (by omega) (by omega),JM (z:=(s.length:Int) - 1) (by omega) (by omega)]
  have hpre:∀j,j<k->a[j]? =s[j]? :=fun j hj=>h4 j (by omega)
  refine Jh (fun c=> ?_) (fun c=> ?_)
  .
   have c:=eq_of_beq c
   have hsame:(k<s.length∧JaX s ks op)=(k+1<s.length∧JaX s ks op):=propext ⟨fun d=>⟨by
    rcases Nat.lt_or_ge (k+1) s.length with g |g
    . exact g
    . exact absurd (by rw [show s.length - 1=k by omega,Jbi he,c]) d.2.2.2,d.2⟩,fun d=>⟨by omega,d.2⟩⟩
   exact Jmc s ks op hl k N a l (by omega) (by omega) h3 hpre h5 (by simp only [hsame];exact h6) (by simp only [hsame];exact h7)
  have c:e≠0:=by simpa using c
  by_cases hk:k+1<s.length
  .
   rw [Wd (show (k:Int)<(s.length:Int) - 1 by omega),cond_true,JiD,Wo,JgL s k _ hk hl,Wo]
   obtain⟨t1,t2⟩:=Jsj s k (atF ks k) hk
   generalize JfL s k (atF ks k)=t at t1 t2
   obtain⟨y,hy⟩:=YO (l:=a) (k:=t) (by omega)
   rw [JG hy,Wo,JG hak,Wo,Wo]
   refine Ji (Jat (Q:=fun _=>True) (by omega) (by simp;omega) (fun _ _ _=>trivial)) (fun _ _=> ?_)
   rw [Int.toNat_natCast,Int.toNat_natCast]
   have hsame:(k<s.length∧JaX s ks op)=(k+1<s.length∧JaX s ks op):=propext ⟨fun d=>⟨hk,d.2⟩,fun d=>⟨by omega,d.2⟩⟩
   refine Jmc s ks op hl k N _ l (by omega) (by omega) (by simpa using h3) (fun j hj=> ?_) (fun v hv=> ?_) (by rw [Jsl hak hy];simp only [hsame];exact h6) (by simp only [hsame];exact h7)
   .
    rw [List.getElem?_set_ne (by omega),List.getElem?_set_ne (by omega)]
    exact hpre j hj
   .
    rcases JeC hv with hv |rfl
    .
     rcases JeC hv with hv |rfl
     . exact h5 v hv
     . exact h5 _ (ZL hy)
    . exact h5 _ (ZL hak)
  .
   have hkl:k=s.length - 1:=by omega
   rw [We (show ¬(k:Int)<(s.length:Int) - 1 by omega),cond_false]
   have hno:∀P:Prop,¬(k+1<s.length∧P):=fun P d=>by omega
   rw [if_neg (hno _)] at h6 h7
   by_cases hlv:JaX s ks op
   .
    have hop:=hlv.1
    subst hop
    rw [cond_true,JiD,Wo]
    have h1k:atF ks k≠1:=by rw [hkl];exact hlv.2.1
    rw [show (atF ks k != 1)=true from by simp [h1k],cond_true,Wo,JG hak,Wo,Int.toNat_natCast]
    have hs:=JbR JeT a k e 0 hak
    have hi:JeT e=1:=by unfold JeT;rw [if_neg c]
    have h0:JeT 0=0:=rfl
    refine Jmc s ks true hl k N _ e (by omega) (by omega) (by simpa using h3) (fun j hj=> ?_) (fun v hv=> ?_) ?_ ?_
    .
     rw [List.getElem?_set_ne (by omega)]
     exact hpre j hj
    .
     rcases JeC hv with hv |rfl
     . exact h5 v hv
     . exact .inr rfl
    .
     rw [if_pos ⟨by omega,hlv⟩]
     unfold nzN at h6 ⊢
     omega
    . rw [if_pos ⟨by omega,hlv⟩,<-hkl,Jbi he]
   .
    have hno2:¬(k<s.length∧JaX s ks op):=fun d=>hlv d.2
    have rcv:=Jmc s ks op hl k N a l (by omega) (by omega) h3 hpre h5 (by rw [if_neg hno2];exact h6) (by rw [if_neg hno2];exact h7)
    refine Jh (fun cop=> ?_) (fun _=>rcv)
    rw [JiD,Wo]
    refine Jh (fun c1=> ?_) (fun _=>rcv)
    have c1:atF ks k≠1:=by simpa using c1
    exact absurd ⟨cop,by rw [<-hkl];exact c1,by rw [<-hkl,Jbi he];exact c⟩ hlv
theorem Jm5 (s ks:List Int) (op:Bool) (h0:1<=s.length) (hl:s.length<=1000):okP (Yq s ks op) (fun r=>r.1.length=s.length∧(∀v∈r.1,v∈s∨v=0)∧nzN r.1+(if JaX s ks op then 1 else 0)<=nzN s∧r.2=(if JaX s ks op then atF s (s.length - 1) else 0)):=by
 unfold Yq Zj
 rw [QZ (by simp;omega),Wo,List.nil_append,JM (by omega) (by omega)]
 refine Q6 (Jmc s ks op hl s.length 9223372036854775807 s 0 (by omega) (by omega) rfl (fun _ _=>rfl) (fun v hv=> .inl hv) (by rw [if_neg (fun d=>by omega)];omega) (by rw [if_neg (fun d=>by omega)])) (fun r hr=>Jf ?_)
 have hs:(0<s.length∧JaX s ks op)=JaX s ks op:=propext ⟨fun d=>d.2,fun d=>⟨by omega,d⟩⟩
 simp only [hs] at hr
 exact hr
theorem Jn6 (s ks ks':List Int) (op:Bool) (hl:s.length<=1000) (h:∀k v,s[k]? =some v->v≠0->(k+1<s.length->JfL s k (atF ks k)=JfL s k (atF ks' k))∧(k+1=s.length->op=true->(atF ks k=1↔atF ks' k=1))):
  ∀(N:Nat) (i:Int) (a:List Int) (l:Int),i<s.length->JO s ks op N i a l=JO s ks' op N i a l
 |0,i,a,l,hi=>rfl
 |N+1,i,a,l,hi=>by
  rw [JO,JO]
  by_cases h0:0<=i
  .
   obtain⟨k,rfl⟩:∃k:Nat,i=(k:Int):=⟨i.toNat,by omega⟩
   obtain⟨e,he⟩:=YO (l:=s) (k:=k) (by omega)
   rw [Wd h0,cond_true,cond_true,JG he,JM (z:=(k:Int) - 1) (by omega) (by omega),JM (z:=(s.length:Int) - 1) (by omega) (by omega)]
   simp only [Wo]
   have rcv:∀a l,JO s ks op N ((k:Int) - 1) a l=JO s ks' op N ((k:Int) - 1) a l:=fun a l=>Jn6 s ks ks' op hl h N _ a l (by omega)
   simp only [rcv]
   cases hz:e==0 with
   |true=>rfl
   |false=>
    rw [cond_false,cond_false]
    have hz:e≠0:=by simpa using hz
    by_cases hk:k+1<s.length
    . rw [Wd (show (k:Int)<(s.length:Int) - 1 by omega),cond_true,cond_true,JiD,JiD,Wo,Wo,JgL s k _ hk hl,JgL s k _ hk hl,(h k e he hz).1 hk]
    .
     rw [We (show ¬(k:Int)<(s.length:Int) - 1 by omega),cond_false,cond_false,JiD,JiD,Wo,Wo]
     cases op with
     |false=>rfl
     |true=>
      rw [cond_true,cond_true]
      have:=(h k e he hz).2 (by omega) rfl
      have e1:(atF ks k != 1)=(atF ks' k != 1):=by
       rw [Bool.eq_iff_iff]
       simp only [bne_iff_ne,ne_eq,this]
      rw [e1]
  . rw [We h0];rfl
theorem Jmb (s ks ks':List Int) (op:Bool) (hl:s.length<=1000) (h:∀k v,s[k]? =some v->v≠0->(k+1<s.length->JfL s k (atF ks k)=JfL s k (atF ks' k))∧(k+1=s.length->op=true->(atF ks k=1↔atF ks' k=1))):Yq s ks op=Yq s ks' op:=by
 unfold Yq Zj
 rw [QZ (by simp;omega),Wo,Wo,JM (by omega) (by omega),Jn6 s ks ks' op hl h _ _ _ _ (by omega)]
def Jbw (n:Int) (fs:List Fault) (a:List Int):List Int:=fs.foldl (fun a f=>if f.Node=n then a.set f.Window.toNat f.Kind else a) a
theorem Jkm (n:Int):∀(fs:List Fault) (k:Nat) (a:List Int),(∀f∈fs,f.Node=n->0<=f.Window∧f.Window<a.length)->QA n fs k a=some (.brk (Jbw n fs a))
 |[],_,_,_=>rfl
 |f::q,k,a,h=>by
  rw [QA]
  by_cases c:f.Node=n
  .
   obtain⟨w0,w1⟩:=h f (List.mem_cons_self ..) c
   obtain⟨x,hx⟩:=YO (l:=a) (k:=f.Window.toNat) (by omega)
   rw [beq_iff_eq.2 c,cond_true,QD w0 hx,Wo,Jkm n q (k+1) _ (fun g hg e=>by simpa using h g (List.mem_cons_of_mem _ hg) e)]
   show _=some (Ctl.brk (Jbw n q (if f.Node=n then a.set f.Window.toNat f.Kind else a)))
   rw [if_pos c]
  .
   rw [beq_eq_false_iff_ne.2 c,cond_false,Jkm n q (k+1) _ (fun g hg e=>h g (List.mem_cons_of_mem _ hg) e)]
   show _=some (Ctl.brk (Jbw n q (if f.Node=n then a.set f.Window.toNat f.Kind else a)))
   rw [if_neg c]
theorem Jju (n:Int):∀(fs:List Fault) (a:List Int) (j:Nat) (v:Int),(Jbw n fs a)[j]? =some v->a[j]? =some v∨∃f∈fs,f.Node=n∧f.Window.toNat=j∧f.Kind=v
 |[],a,j,v,h=> .inl h
 |f::q,a,j,v,h=>by
  rcases Jju n q (if f.Node=n then a.set f.Window.toNat f.Kind else a) j v h with h |⟨g,hg,e⟩
  .
   split at h
   .
    rename_i c
    rcases JcC h with⟨e1,e2⟩|⟨_,h⟩
    . exact .inr ⟨f,List.mem_cons_self ..,c,e1,e2⟩
    . exact .inl h
   . exact .inl h
  . exact .inr ⟨g,List.mem_cons_of_mem _ hg,e⟩
def JcR (x:Node) (m:Nat) (fs:List Fault):List Int:=Jbw (m:Int) fs (List.replicate x.Length.toNat 0)
theorem Jfs {zs:Nat->Int} {ly:Layout} (hw:LayW zs ly) {P:Nat->Int->Prop} {p:Plant} (h:PlW ly P p) {m:Nat} {x:Node} (hx:ly.Nodes[m]? =some x) {s:List Int} (hs:p.Slots[m]? =some s) {fs:List Fault} (hf:∀f∈fs,FaultW ly f) (op:Bool):
  Yk (JQ ly) p (m:Int) fs op=Yq s (JcR x m fs) op:=by
 have hn:=(hw.nodes m x hx).lens
 unfold Yk
 rw [show (JQ ly).L.Nodes=ly.Nodes from rfl,JG hx,Wo,JgV hn.1 (by omega),Wo,Jkm (m:Int) fs 0 _ (fun f hf' e=> ?_),Zv rfl,JG hs,Wo]
 .
  show (Yq s (JcR x m fs) op).bind _=_
  cases Yq s (JcR x m fs) op<;>rfl
 .
  have hW:=hf f hf'
  obtain⟨y,hy,hy2⟩:=hW.w
  rw [e,Int.toNat_natCast,hx] at hy
  cases hy
  have:=hW.w0
  simp
  omega
theorem JlD {x:Node} {m:Nat} {fs:List Fault} (hx:1<=x.Length) (h:(⟨1,(m:Int),x.Length - 1⟩:Fault)∉fs) (hf:∀f∈fs,0<=f.Window):atF (JcR x m fs) (x.Length.toNat - 1)≠1:=by
 unfold atF
 cases hg:(JcR x m fs)[x.Length.toNat - 1]? with
 |none=>simp
 |some v=>
  rw [Option.getD_some]
  rintro rfl
  rcases Jju _ _ _ _ _ hg with h1 |⟨f,hf1,e1,e2,e3⟩
  .
   rw [List.getElem?_replicate] at h1
   split at h1<;>simp at h1
  .
   apply h
   have hw:=hf f hf1
   have:f=⟨1,(m:Int),x.Length - 1⟩:=by
    cases f
    simp only at e1 e2 e3 hw
    simp only [Fault.mk.injEq]
    exact⟨e3,e1,by omega⟩
   rw [<-this]
   exact hf1
theorem JsO (x y:Int):Jcg x y=some (decide (x<y)):=by
 unfold Jcg Z5
 simp
theorem JuQ (i j:Int) (h0:0<=i) (h1:i<=j) (h2:j<=1000000):IntKind.i64.wrap (JjY .u64 (IntKind.u64.wrap (w64 (i+j))) (1:Int))=(i+j) / 2:=by
 rw [JM (z:=i+j) (by omega) (by omega),JhW (by omega) (by omega)]
 have:JjY .u64 (i+j) (1:Int)=(i+j) / 2:=by
  unfold JjY
  rw [Int.fdiv_eq_ediv_of_nonneg _ (by simp [IntKind.bits])]
  rfl
 rw [this]
 exact JM (by omega) (by omega)
theorem Ju1 (l:List Int) (x:Int) (hl:l.length<=1000000):∀(N:Nat) (i j:Int),(j - i).toNat<N->0<=i->i<=j->j<=l.length->okP (Qb l x N i j) (YB (fun _=>False) (fun r=>0<=r∧r<=l.length))
 |0,i,j,h1,h2,h3,h4=>by omega
 |N+1,i,j,h1,h2,h3,h4=>by
  rw [Qb,JuQ i j h2 h3 (by omega)]
  refine Jh (fun c=> ?_) (fun c=>Jf ⟨h2,by omega⟩)
  have c:=Wt c
  refine Ji (Jat (Q:=fun _=>True) (by omega) (by omega) (fun _ _ _=>trivial)) (fun e _=> ?_)
  rw [JsO,Wo,JM (z:=(i+j) / 2+1) (by omega) (by omega)]
  refine Jh (fun _=>Ju1 l x hl N _ _ (by omega) (by omega) (by omega) h4) (fun _=>Ju1 l x hl N _ _ (by omega) h2 (by omega) (by omega))
theorem Jv6 (l:List Int) (x:Int) (hl:l.length<=1000000):okP (YG l x) (fun r=>0<=r.1∧r.1<=l.length):=by
 unfold YG
 refine Q6 (Ju1 l x hl _ 0 _ (by omega) (by omega) (by omega) (by omega)) (fun z hz=> ?_)
 refine Jh (fun c=> ?_) (fun _=>Jf hz)
 have c:=Wt c
 obtain⟨y,hy⟩:=YO (l:=l) (k:=z.toNat) (by omega)
 rw [QD hz.1 hy,Wo]
 refine Jh (fun _=>Jf hz) (fun _=> ?_)
 rw [Wo]
 unfold JaE
 rw [Wo]
 exact Jh (fun _=>Jf hz) (fun _=>Jf hz)
theorem JuH (l:List Int) (x:Int) (hl:l.length<=100000):okP (JdE l x) (fun r=>r.length=l.length+1∧∀v∈r,v∈l∨v=x):=by
 unfold JdE JbT
 refine Ji (Jv6 l x (by omega)) (fun r hr=> ?_)
 have:JoE l r.1 [x]=some (l.take r.1.toNat++[x]++l.drop r.1.toNat):=by
  unfold JoE
  rw [if_pos ⟨hr.1,by omega,by simp,by simp;omega⟩]
 rw [this,Wo]
 refine Jf ⟨by simp;omega,fun v hv=> ?_⟩
 rw [List.mem_append,List.mem_append,List.mem_singleton] at hv
 rcases hv with(hv |hv)|hv
 . exact .inl (List.mem_of_mem_take hv)
 . exact .inr hv
 . exact .inl (List.mem_of_mem_drop hv)
variable {ly:Layout} {p:Plant}
def Jur (ly:Layout) (p:Plant) (cs:List Int) (m:Nat) (e:Int) (b:Int):Prop:=
 ∃(x:Node) (c:Int) (w:Nat),ly.Nodes[m]? =some x∧cs[m]? =some c∧x.Exits[w]? =some e∧
  ((x.Kind=7∧b=c∧∃l,p.Bins[m]? =some l∧c∈l)∨(x.Kind<=6∧((w:Int)=c∨x.Kind=5)∧∃s,p.Slots[m]? =some s∧s[s.length - 1]? =some b))
def Jfw (ly:Layout) (p:Plant) (cs:List Int) (Q:Nat->Int->Prop):Prop:=(∀i,Q i 0)∧∀(m:Nat) (e b:Int),Jur ly p cs m e b->Q m b->Q e.toNat b
theorem PlW.setBin {P:Nat->Int->Prop} (h:PlW ly P p) {i:Nat} {s s':List Int} (hs:p.Bins[i]? =some s) (hv:∀v∈s',P i v):PlW ly P ⟨p.Slots,p.Bins.set i s'⟩:=by
 refine⟨h.ls,by simpa using h.lb,h.lens,h.vs,fun j r hr v hv2=> ?_⟩
 rcases JcC hr with⟨rfl,rfl⟩|⟨_,hr⟩
 . exact hv v hv2
 . exact h.vb j r hr v hv2
def Jmf (ly:Layout) (p:Plant) (cs:List Int) (y:Passage):Prop:=∃m:Nat,y.From=(m:Int)∧m<ly.Nodes.length∧Jur ly p cs m y.To y.Bag
theorem Jq1 {l:List Int} {c:Int} (h:c∈l):(l.filter fun e=> !(e==c)).length+1<=l.length:=by
 have h1:=List.length_filter_lt_length_iff_exists (l:=l) (p:=fun e=> !(e==c)) |>.2 ⟨c,h,by simp⟩
 omega
theorem JfB {zs:Nat->Int} {ly:Layout} (hw:LayW zs ly) {P:Nat->Int->Prop} {p:Plant} (h:PlW ly P p) (hcn:cnt p<=1000) {cs:List Int} (hc:CmdsW ly cs) {fs:List Fault} (hf:∀f∈fs,FaultW ly f) {fl:Flow} (hfl:fl.Leave.length=ly.Nodes.length) (hfv:∀m v,fl.Leave[m]? =some v->JcQ ly (Jbj ly p cs fs) m v):
  ∀(q:List Node) (k:Nat) (a b:List (List Int)) (mv:List Passage),ly.Nodes.drop k=q->a.length=ly.Nodes.length->b.length=ly.Nodes.length->(∀j,k<=j->a[j]? =p.Slots[j]?)->(∀j,k<=j->b[j]? =p.Bins[j]?)->
  cnt ⟨a,b⟩+mv.length<=cnt p->(∀Q,PlW ly Q p->Jfw ly p cs Q->PlW ly Q ⟨a,b⟩)->(∀y∈mv,Jmf ly p cs y)->
  okP (JK (JQ ly) p cs fs fl q k a mv b) (YB (fun _=>False) (fun r=>cnt ⟨r.1,r.2.1⟩+r.2.2.length<=cnt p∧(∀Q,PlW ly Q p->Jfw ly p cs Q->PlW ly Q ⟨r.1,r.2.1⟩)∧∀y∈r.2.2,Jmf ly p cs y))
 |[],k,a,b,mv,hd,ha,hb,hpa,hpb,hcnt,hQ,hmv=>Jf ⟨hcnt,hQ,hmv⟩
 |x::q,k,a,b,mv,hd,ha,hb,hpa,hpb,hcnt,hQ,hmv=>by
  obtain⟨h1,h2,h3⟩:=Qe hd
  have hn:=hw.nodes k x h1
  have hwl:=hw.n11
  obtain⟨c,hcc⟩:=YO (l:=cs) (k:=k) (by rw [hc.len];exact h3)
  obtain⟨v,hv⟩:=YO (l:=fl.Leave) (k:=k) (by rw [hfl];exact h3)
  have hlv:=hfv k v hv
  have hwant:=Jev (p:=p) (fs:=fs) h1 hcc
  have hkn:=hc.known k x c h1 hcc
  have hwlt:=Jk0 (p:=p) (m:=k) (fs:=fs) hn hkn
  rw [JK,JG hcc,Wo,JG hv,Wo,Jbl,Wo,Wd hn.kind1,Bool.true_and]
  by_cases h6:x.Kind<=6
  .
   rw [Wd h6,cond_true]
   obtain⟨s,hs,hsl⟩:=h.slot h1
   have hlen:=hn.len1 h6
   have hak:a[k]? =some s:=by rw [hpa k (by omega),hs]
   rw [Jfs hw h h1 hs hf]
   refine Ji (Jm5 s (JcR x k fs) (decide (0<=v)) (by omega) (by omega)) (fun r hr=> ?_)
   obtain⟨r1,r2,r3,r4⟩:=hr
   rw [JG hak,Wo,Int.toNat_natCast]
   have hset:∀Q,PlW ly Q p->Jfw ly p cs Q->PlW ly Q ⟨a.set k r.1,b⟩:=fun Q hq hst=>by
    refine(hQ Q hq hst).setSlot (i:=k) hak r1 (fun u hu=> ?_)
    rcases r2 u hu with e |rfl
    . exact hq.vs k s hs u e
    . exact hst.1 k
   have hsum:=JbR nzN a k s r.1 hak
   have hcnt2:cnt ⟨a.set k r.1,b⟩+nzN s=cnt ⟨a,b⟩+nzN r.1:=by
    show ((a.set k r.1).map nzN).sum+(b.map List.length).sum+nzN s=(a.map nzN).sum+(b.map List.length).sum+nzN r.1
    omega
   have hpa':∀j,k+1<=j->(a.set k r.1)[j]? =p.Slots[j]? :=fun j hj=>by rw [List.getElem?_set_ne (by omega)];exact hpa j (by omega)
   by_cases hv0:0<=v
   .
    rw [Wd hv0,cond_true,Wo]
    rcases hlv with hlv |⟨_,w,y,hw1,hy,hw2,hw3⟩
    . omega
    rw [hwant] at hw1
    have hw1:=Wi hw1
    subst hw1
    rw [h1] at hy
    cases hy
    have hlt:=hwlt.2 hw2
    have hlast:JbF x p k c fs=c∧s.getLastD 0≠0∧(⟨1,(k:Int),x.Length - 1⟩:Fault)∉fs:=by
     unfold JbF at hw2 ⊢
     rw [if_neg (by omega),if_neg (by omega),hs,Option.getD_some] at hw2 ⊢
     split at hw2
     . omega
     rename_i g1
     split at hw2
     . omega
     rename_i g2
     exact⟨by rw [if_neg g1,if_neg g2],g1,g2⟩
    obtain⟨e1,e2,e3⟩:=hlast
    have hvl:v<x.Exits.length:=by
     rcases hw3 with e |⟨e,e'⟩
     . omega
     .
      have:=hn.exs
      rw [e] at this
      have h52:exN 5=2:=rfl
      omega
    obtain⟨t,ht⟩:=YO (l:=x.Exits) (k:=v.toNat) (by omega)
    have hlg:=Jfc (s:=s) (by omega)
    have hlv2:JaX s (JcR x k fs) (decide (0<=v)):=by
     refine⟨Wd hv0,?_,?_⟩
     .
      have:=JlD (x:=x) (m:=k) hlen.1 e3 (fun f hf'=>(hf f hf').w0)
      rw [show s.length - 1=x.Length.toNat - 1 by omega]
      exact this
     . rw [Jbi hlg];exact e2
    rw [if_pos hlv2] at r3 r4
    rw [QD hv0 ht,Wo]
    have hmvl:mv.length<=cnt p:=by omega
    rw [QZ (by simp;omega),Wo]
    refine JfB hw h hcn hc hf hfl hfv q (k+1) _ b _ h2 (by simpa using ha) hb hpa' (fun j hj=>hpb j (by omega)) (by simp;omega) hset (fun y hy=> ?_)
    rw [List.mem_append,List.mem_singleton] at hy
    rcases hy with hy |rfl
    . exact hmv y hy
    .
     refine⟨k,rfl,h3,x,c,v.toNat,h1,hcc,ht,.inr ⟨h6,?_,s,hs,?_⟩⟩
     .
      rcases hw3 with e |⟨e,_⟩
      . left;omega
      . exact .inr e
     .
      rw [hlg]
      congr 1
      show s.getLastD 0=r.2
      rw [r4,Jbi hlg]
   .
    rw [We hv0,cond_false]
    have hnl:¬JaX s (JcR x k fs) (decide (0<=v)):=fun d=>by have:=Wt d.1;omega
    rw [if_neg hnl] at r3
    exact JfB hw h hcn hc hf hfl hfv q (k+1) _ b mv h2 (by simpa using ha) hb hpa' (fun j hj=>hpb j (by omega)) (by omega) hset hmv
  .
   rw [We h6,cond_false]
   obtain⟨l,hl⟩:=h.bin h1
   have hbk:b[k]? =some l:=by rw [hpb k (by omega),hl]
   have hll:l.length<=cnt p:=by
    have:=Jil List.length p.Bins k l hl
    unfold cnt
    omega
   by_cases hv0:0<=v
   .
    rw [Wd hv0,cond_true,JG hbk,Wo,Js6 l c (by omega),Wo,Wo]
    rcases hlv with hlv |⟨_,w,y,hw1,hy,hw2,hw3⟩
    . omega
    rw [hwant] at hw1
    have hw1:=Wi hw1
    subst hw1
    rw [h1] at hy
    cases hy
    have hlt:=hwlt.2 hw2
    have h7:x.Kind=7∧c∈l:=by
     unfold JbF at hw2
     by_cases g:x.Kind=7
     .
      rw [if_pos g,hl,Option.getD_some] at hw2
      refine⟨g,?_⟩
      by_cases g2:c∈l
      . exact g2
      . rw [if_neg g2] at hw2;omega
     .
      rw [if_neg g,if_pos (by omega)] at hw2
      omega
    have hvw:v=JbF x p k c fs:=by
     rcases hw3 with e |⟨e,_⟩
     . exact e
     . omega
    obtain⟨t,ht⟩:=YO (l:=x.Exits) (k:=v.toNat) (by omega)
    rw [QD hv0 ht,Wo]
    rw [QZ (by simp;omega),Wo,Int.toNat_natCast]
    have hdel:=Jq1 h7.2
    have hsum:=JbR List.length b k l (l.filter fun e=> !(e==c)) hbk
    refine JfB hw h hcn hc hf hfl hfv q (k+1) a _ _ h2 ha (by simpa using hb) (fun j hj=>hpa j (by omega)) (fun j hj=>by rw [List.getElem?_set_ne (by omega)];exact hpb j (by omega)) ?_ (fun Q hq hst=> ?_) (fun y hy=> ?_)
    .
     show (a.map nzN).sum+((b.set k (l.filter fun e=> !(e==c))).map List.length).sum+(mv++[_]).length<=cnt p
     unfold cnt at hcnt ⊢
     simp only [List.length_append,List.length_singleton] at hcnt ⊢
     omega
    .
     refine(hQ Q hq hst).setBin (i:=k) hbk (fun u hu=> ?_)
     exact hq.vb k l hl u (List.mem_filter.1 hu).1
    .
     rw [List.mem_append,List.mem_singleton] at hy
     rcases hy with hy |rfl
     . exact hmv y hy
     . exact⟨k,rfl,h3,x,c,v.toNat,h1,hcc,ht,.inl ⟨h7.1,rfl,l,hl,h7.2⟩⟩
   .
    rw [We hv0,cond_false]
    exact JfB hw h hcn hc hf hfl hfv q (k+1) a b mv h2 ha hb (fun j hj=>hpa j (by omega)) (fun j hj=>hpb j (by omega)) hcnt hQ hmv
theorem JhL {zs:Nat->Int} {ly:Layout} (hw:LayW zs ly) {P:Nat->Int->Prop} {p:Plant} (h:PlW ly P p) (hcn:cnt p<=1000) {cs:List Int} (hP:Jfw ly p cs P):
  ∀(q:List Passage) (k:Nat) (a b:List (List Int)),(∀y∈q,Jmf ly p cs y)->cnt ⟨a,b⟩+q.length<=cnt p->(∀Q,PlW ly Q p->Jfw ly p cs Q->PlW ly Q ⟨a,b⟩)->
  okP (QX (JQ ly) q k a b) (YB (fun _=>False) (fun r=>cnt ⟨r.1,r.2⟩<=cnt p∧∀Q,PlW ly Q p->Jfw ly p cs Q->PlW ly Q ⟨r.1,r.2⟩))
 |[],k,a,b,hq,hcnt,hQ=>Jf ⟨by simpa using hcnt,hQ⟩
 |y::q,k,a,b,hq,hcnt,hQ=>by
  obtain⟨m,hm1,hm2,hm3⟩:=hq y (List.mem_cons_self ..)
  have hq':∀y∈q,Jmf ly p cs y:=fun z hz=>hq z (List.mem_cons_of_mem _ hz)
  obtain⟨x,c,w,g1,g2,g3,g4⟩:=id hm3
  obtain⟨e0,_,t,ht,_,_⟩:=hw.exit g1 g3
  have hlc:(y::q).length=q.length+1:=rfl
  have hab:=hQ P h hP
  have hbag:∀Q,PlW ly Q p->Jfw ly p cs Q->Q y.To.toNat y.Bag:=fun Q hq hst=>by
   refine hst.2 m y.To y.Bag hm3 ?_
   rcases g4 with⟨_,hb,l,hl,hcl⟩|⟨_,_,s,hs,hb⟩
   . rw [hb];exact hq.vb m l hl c hcl
   . exact hq.vs m s hs _ (ZL hb)
  have hn:=hw.nodes _ t ht
  rw [QX,show (JQ ly).L.Nodes=ly.Nodes from rfl,QD e0 ht,Wo,Jbl,Wo,Wd hn.kind1,Bool.true_and]
  by_cases h6:t.Kind<=6
  .
   obtain⟨s,hs,hsl⟩:=hab.slot ht
   have hs:a[y.To.toNat]? =some s:=hs
   have hlen:=hn.len1 h6
   obtain⟨v0,hv0⟩:=YO (l:=s) (k:=0) (by omega)
   rw [Wd h6,cond_true,QD e0 hs,Wo,JaN (i:=0) 0 rfl hv0,Wo,show Int.toNat 0=0 from rfl]
   have h1:=JbR nzN a _ s (s.set 0 y.Bag) hs
   have h2:=JbR JeT s 0 v0 y.Bag hv0
   have h3:JeT y.Bag<=1:=by unfold JeT;split<;>omega
   refine JhL hw h hcn hP q (k+1) _ b hq' ?_ (fun Q hq hst=> ?_)
   .
    unfold cnt at hcnt ⊢
    simp only at hcnt ⊢
    have h4:nzN (s.set 0 y.Bag)=((s.set 0 y.Bag).map JeT).sum:=rfl
    have h5:nzN s=(s.map JeT).sum:=rfl
    omega
   .
    refine(hQ Q hq hst).setSlot (i:=y.To.toNat) hs (by simp) (fun u hu=> ?_)
    rcases JeC hu with e |rfl
    . exact(hQ Q hq hst).vs _ s hs u e
    . exact hbag Q hq hst
  .
   obtain⟨l,hl⟩:=hab.bin ht
   have hl:b[y.To.toNat]? =some l:=hl
   have hll:l.length<=cnt p:=by
    have:=Jil List.length b _ l hl
    unfold cnt at hcnt ⊢
    simp only at hcnt ⊢
    omega
   rw [We h6,cond_false,QD e0 hl,Wo]
   refine Ji (JuH l y.Bag (by omega)) (fun r hr=> ?_)
   have h1:=JbR List.length b _ l r hl
   refine JhL hw h hcn hP q (k+1) a _ hq' ?_ (fun Q hq hst=> ?_)
   .
    unfold cnt at hcnt ⊢
    simp only at hcnt ⊢
    have:=hr.1
    omega
   .
    refine(hQ Q hq hst).setBin (i:=y.To.toNat) hl (fun u hu=> ?_)
    rcases hr.2 u hu with e |rfl
    . exact(hQ Q hq hst).vb _ l hl u e
    . exact hbag Q hq hst
theorem Jnh {zs:Nat->Int} (hw:LayW zs ly) {P:Nat->Int->Prop} (h:PlW ly P p) (hcn:cnt p<=1000) {cs:List Int} (hc:CmdsW ly cs) {fs:List Fault} (hf:∀f∈fs,FaultW ly f):
  okP (J6 (JQ ly) p cs fs) (fun r=>cnt r.1<=cnt p∧(∀Q,PlW ly Q p->Jfw ly p cs Q->PlW ly Q r.1)∧∀y∈r.2,Jmf ly p cs y):=by
 have hT:PlW ly (fun _ _=>True) p:=h.mono (fun _ _ _=>trivial)
 have hTQ:Jfw ly p cs (fun _ _=>True):=⟨fun _=>trivial,fun _ _ _ _ _=>trivial⟩
 unfold J6
 refine Ji (Jiu hw h hc fs) (fun fl hfl=> ?_)
 rw [JgD hw h hcn,Wo]
 rw [show (JQ ly).L.Nodes=ly.Nodes from rfl]
 refine Q6 (JfB hw h hcn hc hf hfl.1 hfl.2 ly.Nodes 0 p.Slots p.Bins [] rfl h.ls h.lb (fun _ _=>rfl) (fun _ _=>rfl) (by show cnt p+0<=cnt p;omega) (fun Q hq _=>hq) (by simp)) (fun r hr=> ?_)
 refine Q6 (JhL hw hT hcn hTQ r.2.2 0 r.1 r.2.1 hr.2.2 hr.1 hr.2.1) (fun r2 hr2=> ?_)
 rw [JnV r.2.2 (by have:=hr.1;omega),Wo]
 exact Jf ⟨hr2.1,hr2.2,fun y hy=>hr.2.2 y (List.mem_filter.1 hy).1⟩
theorem Jng {zs:Nat->Int} (hw:LayW zs ly) {n:Nat} (hn:n<=3) (h:PlOk ly n p) {cs:List Int} (hc:CmdsW ly cs) {fs:List Fault} (hf:∀f∈fs,FaultW ly f):
  okP (J6 (JQ ly) p cs fs) (fun r=>PlOk ly n r.1):=by
 have hcn:=h.c
 refine Qx (Jnh hw h.w (by omega) hc hf) (fun r hr=>⟨hr.2.1 _ h.w ⟨fun _=>by constructor<;>omega,fun _ _ _ _ q=>q⟩,by have:=hr.1;omega⟩)
end Go.Proofs.YtehhohbnhcogkaaGreatDoor.Ex
namespace Go.Proofs.YtehhohbnhcogkaaGreatDoor.Ex
open Go.RowKit Go.Proofs.YtehhohbnhcogkaaGreatDoor.Ax
variable {zs:Nat->Int} {ly:Layout}
theorem JqD {x:Node} {c:Int} (hk1:1<=x.Kind) (h:JiK x c) (h5:x.Kind=5->c≠ -1):Jcb x c=some true:=by
 unfold Jcb
 rw [Jbl,Wo,Wd hk1,Bool.true_and]
 rcases h with⟨h6,h⟩|⟨h7,c0,c40⟩|⟨h8,rfl⟩
 .
  rw [Wd h6,cond_true]
  rcases h with⟨c0,cl⟩|rfl
  . rw [Wd c0,Wd cl];rfl
  .
   have:x.Kind≠5:=fun e=>h5 e rfl
   rw [We (by omega),cond_false,show ((-1:Int)== -1)=true from rfl,cond_true]
   simp [this]
 . rw [We (by omega),cond_false,show (x.Kind==7)=true from by simp [h7],cond_true,Wd c0,cond_true,Wd c40]
 . rw [We (by omega),cond_false,show (x.Kind==7)=false from by simp;omega];rfl
structure CmdsK (ly:Layout) (cs:List Int):Prop where
 w:CmdsW ly cs
 loop:∀(i:Nat) (x:Node) (c:Int),ly.Nodes[i]? =some x->cs[i]? =some c->x.Kind=5->c≠ -1
theorem Jp6 {zs:Nat->Int} {ly:Layout} (hw:LayW zs ly) {cs:List Int} (hc:CmdsK ly cs):∀(q:List Int) (k:Nat),cs.drop k=q->QN (JQ ly) q k=some (.brk ())
 |[],_,_=>rfl
 |c::q,k,hd=>by
  obtain⟨h1,h2,h3⟩:=Qe hd
  obtain⟨x,hx⟩:=YO (l:=ly.Nodes) (k:=k) (by rw [<-hc.w.len];exact h3)
  rw [QN,show (JQ ly).L.Nodes=ly.Nodes from rfl,JG hx,Wo,JqD (hw.nodes k x hx).kind1 (hc.w.known k x c hx h1) (hc.loop k x c hx h1),Wo,Jp6 hw hc q (k+1) h2]
  rfl
theorem Jp5 {ly:Layout}:∀(q:List Fault) (k:Nat),(∀f∈q,FaultW ly f)->QB (JQ ly) q k=some (.brk ())
 |[],_,_=>rfl
 |f::q,k,hf=>by
  have h:=hf f (List.mem_cons_self ..)
  obtain⟨x,hx,hxw⟩:=h.w
  have hlt:=JT hx
  have h0:=h.n0
  have hw0:=h.w0
  rw [QB,Jp5 q (k+1) (fun g hg=>hf g (List.mem_cons_of_mem _ hg)),show (JQ ly).L.Nodes=ly.Nodes from rfl,We (show ¬f.Node<0 by omega),We (show ¬((ly.Nodes.length:Nat):Int)<=f.Node by omega),We (show ¬f.Window<0 by omega),QD h0 hx]
  simp only [cond_false,Wo]
  rw [We (show ¬x.Length<=f.Window by omega),cond_false]
  rcases h.kind with e |e<;>rw [e]<;>rfl
theorem Jh8 (hw:LayW zs ly) {cs:List Int} (hc:CmdsK ly cs) {fs:List Fault} (hf:∀f∈fs,FaultW ly f) (h1:fs.length<=1):Za (JQ ly) cs fs=some 0:=by
 unfold Za
 rw [show (JQ ly).L.Nodes=ly.Nodes from rfl,hc.w.len,Jp6 hw hc cs 0 rfl,Jp5 fs 0 hf]
 simp only [bne_self_eq_false,cond_false]
 rw [Zv rfl,We (by omega),cond_false,Zv rfl]
 have:QM fs fs 0=some (.brk ()):=by
  match fs,h1 with
  |[],_=>rfl
  |[f],_=>
   rw [QM,Je2 (by omega) (by omega) (by simp),Wo,JkE]
   rfl
 rw [this]
 rfl
theorem Jp7 (hw:LayW zs ly) {P:Nat->Int->Prop} {p:Plant} (h:PlW ly P p) (hcn:cnt p<=1000) {cs:List Int} (hc:CmdsK ly cs) {fs:List Fault} (hf:∀f∈fs,FaultW ly f) (h1:fs.length<=1):
  ∃(q:Plant) (mv mv2:List Passage),J6 (JQ ly) p cs fs=some (q,mv)∧Jbu ly p cs fs=some (q,mv2,0)∧cnt q<=cnt p∧∀Q,PlW ly Q p->Jfw ly p cs Q->PlW ly Q q:=by
 obtain⟨⟨q,mv⟩,he,h2,h3,h4⟩:=Jnh hw h hcn hc.w hf
 have hs:∃mv2,ZB mv=some mv2:=by
  unfold ZB Jji
  have hlen:mv.length<=1000000:=by
   rcases Nat.lt_or_ge 1000000 mv.length with c |c
   .
    exfalso
    unfold J6 at he
    obtain⟨fl,hfl,he⟩:=bind_some he
    obtain⟨fl',hfl',hfl1,hfl2⟩:=Jiu hw h hc.w fs
    rw [hfl'] at hfl
    cases hfl
    rw [JgD hw h hcn,Wo] at he
    obtain⟨c1,hc1,hc2⟩:=JfB hw h hcn hc.w hf hfl1 hfl2 ly.Nodes 0 p.Slots p.Bins [] rfl h.ls h.lb (fun _ _=>rfl) (fun _ _=>rfl) (by show cnt p+0<=cnt p;omega) (fun Q hq _=>hq) (by simp)
    rw [show (JQ ly).L.Nodes=ly.Nodes from rfl,hc1] at he
    cases c1 with
    |ret _=>exact hc2
    |brk z=>
     rw [Zv rfl] at he
     obtain⟨c2,hc3,he⟩:=Jr he
     cases c2 with
     |ret r=>
      cases he
      obtain⟨c4,hc4,hc5⟩:=JhL (P:=fun _ _=>True) hw (h.mono (fun _ _ _=>trivial)) hcn ⟨fun _=>trivial,fun _ _ _ _ _=>trivial⟩ z.2.2 0 z.1 z.2.1 hc2.2.2 hc2.1 hc2.2.1
      rw [hc3] at hc4
      cases hc4
      exact hc5
     |brk z2=>
      have he:=Jw he
      rw [JnV z.2.2 (by have:=hc2.1;omega),Wo] at he
      cases he
      have:=List.length_filter_le (fun e:Passage=> !(e.From==e.To)) z.2.2
      have:=hc2.1
      omega
   . exact c
  have hall:mv.all Jaw=true:=by
   rw [List.all_eq_true]
   intro y hy
   obtain⟨m,e,hm,_⟩:=h4 y hy
   have:=hw.n11
   unfold Jaw
   rw [e,Wd (by omega),Wd (by omega)]
   rfl
  rw [if_pos ⟨hall,hlen⟩]
  exact⟨_,rfl⟩
 obtain⟨mv2,hs⟩:=hs
 refine⟨q,mv,mv2,he,?_,h2,h3⟩
 unfold Jbu
 rw [Jha hw,Wo]
 simp only [JiX,Bool.not_true,cond_false]
 rw [Jky h,Wo,Bool.not_true,cond_false,Jh8 hw hc hf h1,Wo,he,Wo,hs]
 rfl
theorem Jkf (r5 r9:Int×Src):∀(q:List Fault) (k:Nat) (b:Bool),okP (Q1 r5 r9 q k b) (YB (fun _=>False) (fun _=>True))
 |[],_,_=>Jf trivial
 |f::q,k,b=>by
  rw [Q1]
  exact Jh (fun _=>Jkf r5 r9 q _ _) (fun _=>Jh (fun _=>Jkf r5 r9 q _ _) (fun _=>Jkf r5 r9 q _ _))
theorem Jkg {zs:Nat->Int} {ly:Layout} (hw:LayW zs ly) (n:Int) (hn:n<=100):∀(d N:Nat) (a:List Int) (i:Int) (k:Int) (l:List Fault),(n - k).toNat=d->d<N->0<=k->k<=max n 0->SrcOk ⟨a,i⟩->(l.length:Int)<=k->(∀f∈l,FaultW ly f)->
  okP (Q2 ly n N a i k l) (YB (fun _=>False) (fun z=>SrcOk ⟨z.1,z.2.1⟩∧(z.2.2.length:Int)<=max n 0∧∀f∈z.2.2,FaultW ly f))
 |d,0,a,i,k,l,h1,h2,h3,h4,h5,h6,h7=>by omega
 |d,N+1,a,i,k,l,h1,h2,h3,h4,h5,h6,h7=>by
  have hn1:=hw.n1
  have hn11:=hw.n11
  rw [Q2]
  refine Jh (fun c=> ?_) (fun c=>Jf ⟨h5,by show (l.length:Int)<=_;omega,h7⟩)
  have c:=Wt c
  rw [JM (z:=k+1) (by omega) (by omega)]
  refine Ji (Jd8 _ _ h5 (by omega) (by omega)) (fun r5 h5'=> ?_)
  obtain⟨x,hx⟩:=YO (l:=ly.Nodes) (k:=r5.1.toNat) (by omega)
  rw [QD h5'.1 hx,Wo]
  have hlen:=(hw.nodes _ x hx).lens
  refine Jh (fun _=>Jkg hw n hn (d - 1) N _ _ (k+1) l (by omega) (by omega) (by omega) (by omega) h5'.2.2 (by omega) h7) (fun c0=> ?_)
  have c0:x.Length≠0:=by simpa using c0
  refine Ji (Jeu r5.2 1 2 h5'.2.2 (by omega) (by omega) (by omega)) (fun r7 h7'=> ?_)
  rw [Wo]
  refine Ji (Jd8 _ _ h7'.2.2 (by omega) (by omega)) (fun r9 h9=> ?_)
  refine JbZ (Jkf r5 r9 l 0 false) (fun b _=> ?_)
  refine Jh (fun _=> ?_) (fun _=>Jkg hw n hn (d - 1) N _ _ (k+1) l (by omega) (by omega) (by omega) (by omega) h9.2.2 (by omega) h7)
  rw [QZ (by simp;omega),Wo]
  refine Jkg hw n hn (d - 1) N _ _ (k+1) _ (by omega) (by omega) (by omega) (by omega) h9.2.2 (by simp;omega) (fun f hf=> ?_)
  rw [List.mem_append,List.mem_singleton] at hf
  rcases hf with hf |rfl
  . exact h7 f hf
  . exact⟨by show r7.1=1∨r7.1=2;omega,h5'.1,h9.1,x,hx,h9.2.1⟩
theorem JrD (hw:LayW zs ly) (s:Src) (hs:SrcOk s) (n:Int) (hn:n<=100):okP (Jak s ly n) (fun r=>SrcOk r.2∧(r.1.length:Int)<=max n 0∧∀f∈r.1,FaultW ly f):=by
 unfold Jak
 exact Q6 (Jkg hw n hn _ _ s.L s.At 0 [] rfl (by omega) (by omega) (by omega) hs (by simp) (by simp)) (fun z hz=>Jf hz)
end Go.Proofs.YtehhohbnhcogkaaGreatDoor.Ex
namespace Go.Proofs.YtehhohbnhcogkaaGreatDoor.Ex
open Go.RowKit Go.Proofs.YtehhohbnhcogkaaGreatDoor.Ax
variable {m k:Nat} {s:List Int}
def Jhm (s:List Int) (c:Int) (k:Nat) (kind:Int):Prop:=atF s k≠0∧(k+1=s.length->0<=c)∧(k+1<s.length->atF s (k+1)=0)∧(kind=2->k+2<s.length∧atF s (k+2)=0)
structure FaultsR (k3:Nat) (s:List Int) (c:Int) (k7:Nat) (a r:List Fault) (m:Nat):Prop where
 old:∀f∈a,f∈r
 new:∀f∈r,f∈a∨(f.Node=k3∧(f.Kind=1∨f.Kind=2)∧0<=f.Window∧f.Window<s.length)
 all:∀(j:Nat) (kind:Int),k7<=j->j<s.length->(kind=1∨kind=2)->Jhm s c j kind->(⟨kind,k3,j⟩:Fault)∈r
 len:r.length<=a.length+2*m
theorem JjD (cs:List Int) (k3:Nat) (s:List Int) (c:Int) (hc:cs[k3]? =some c) (hl:s.length<=1000):∀(q:List Int) (k7:Nat) (a:List Fault),s.drop k7=q->a.length+2*q.length<=1000000->
  okP (JL cs k3 s q k7 a) (YB (fun _=>False) (fun r=>FaultsR k3 s c k7 a r q.length))
 |[],k7,a,hd,hal=>Jf ⟨fun f hf=>hf,fun f hf=> .inl hf,fun j kind h1 h2=>by
   have:=congrArg List.length hd
   simp at this
   omega,by simp⟩
 |v::q,k7,a,hd,hal=>by
  obtain⟨h1,h2,h3⟩:=Qe hd
  have hlc:(v::q).length=q.length+1:=rfl
  have hat:atF s k7=v:=Jbi h1
  rw [hlc] at hal ⊢
  have rcv:∀a':List Fault,a'.length<=a.length+2->(∀f∈a,f∈a')->(∀f∈a',f∈a∨(f.Node=k3∧(f.Kind=1∨f.Kind=2)∧0<=f.Window∧f.Window<s.length))->
    (∀kind:Int,(kind=1∨kind=2)->Jhm s c k7 kind->(⟨kind,k3,k7⟩:Fault)∈a')->
    okP (JL cs k3 s q (k7+1) a') (YB (fun _=>False) (fun r=>FaultsR k3 s c k7 a r (q.length+1))):=fun a' g1 g2 g3 g4=>by
   refine Qx (JjD cs k3 s c hc hl q (k7+1) a' h2 (by omega)) (fun x hx=> ?_)
   cases x with
   |ret _=>exact hx
   |brk r=>
    have hx:FaultsR k3 s c (k7+1) a' r q.length:=hx
    refine⟨fun f hf=>hx.old f (g2 f hf),fun f hf=> ?_,fun j kind j1 j2 j3 j4=> ?_,by have:=hx.len;omega⟩
    .
     rcases hx.new f hf with e |e
     . exact g3 f e
     . exact .inr e
    .
     rcases Nat.lt_or_ge k7 j with e |e
     . exact hx.all j kind e j2 j3 j4
     .
      have:j=k7:=by omega
      subst this
      exact hx.old _ (g4 kind j3 j4)
  have none':(∀kind:Int,¬Jhm s c k7 kind)->okP (JL cs k3 s q (k7+1) a) (YB (fun _=>False) (fun r=>FaultsR k3 s c k7 a r (q.length+1))):=fun hno=>
   rcv a (by omega) (fun f hf=>hf) (fun f hf=> .inl hf) (fun kind _ hd=>absurd hd (hno kind))
  have hw2:w64 ((k7:Int)+2)=((k7+2:Nat):Int):=by rw [JM (by omega) (by omega)];omega
  have some':okP ((apL a ([(⟨(1:Int),(k3:Int),(k7:Int)⟩:Fault)]:List Fault)).bind fun l=>
    cond (decide ((w64 ((k7:Int)+(2:Int)))<(s.length:Int)))
    ((ixL s (w64 ((k7:Int)+(2:Int)))).bind fun e=>
    cond (e==(0:Int))
    ((apL l ([(⟨(2:Int),(k3:Int),(k7:Int)⟩:Fault)]:List Fault)).bind fun l2=>JL cs k3 s q (k7+1) l2)
    (JL cs k3 s q (k7+1) l))
    (JL cs k3 s q (k7+1) l)) (YB (fun _=>False) (fun r=>FaultsR k3 s c k7 a r (q.length+1))):=by
   rw [QZ (by simp;omega),Wo,hw2]
   have one:(¬(k7+2<s.length∧atF s (k7+2)=0))->okP (JL cs k3 s q (k7+1) (a++[⟨1,(k3:Int),(k7:Int)⟩])) (YB (fun _=>False) (fun r=>FaultsR k3 s c k7 a r (q.length+1))):=fun hno=>by
    refine rcv _ (by simp) (fun f hf=>List.mem_append_left _ hf) (fun f hf=> ?_) (fun kind hk hd=> ?_)
    .
     rw [List.mem_append,List.mem_singleton] at hf
     rcases hf with hf |rfl
     . exact .inl hf
     . exact .inr ⟨rfl,.inl rfl,by show (0:Int)<=(k7:Int);omega,by show (k7:Int)<_;omega⟩
    .
     rcases hk with rfl |rfl
     . simp
     . exact absurd (hd.2.2.2 rfl) hno
   refine Jh (fun c2=> ?_) (fun c2=>one (fun d=>by have:=Wf c2;omega))
   have c2:k7+2<s.length:=by have:=Wt c2;omega
   obtain⟨y,hy⟩:=YO c2
   rw [JG hy,Wo]
   refine Jh (fun c3=> ?_) (fun c3=>one (fun d=>by rw [Jbi hy] at d;exact absurd (by rw [d.2];rfl) (Bool.eq_false_iff.1 c3)))
   rw [QZ (by simp;omega),Wo]
   refine rcv _ (by simp) (fun f hf=>List.mem_append_left _ (List.mem_append_left _ hf)) (fun f hf=> ?_) (fun kind hk hd=> ?_)
   .
    rw [List.mem_append,List.mem_append,List.mem_singleton,List.mem_singleton] at hf
    rcases hf with(hf |rfl)|rfl
    . exact .inl hf
    . exact .inr ⟨rfl,.inl rfl,by show (0:Int)<=(k7:Int);omega,by show (k7:Int)<_;omega⟩
    . exact .inr ⟨rfl,.inr rfl,by show (0:Int)<=(k7:Int);omega,by show (k7:Int)<_;omega⟩
   . rcases hk with rfl |rfl<;>simp
  rw [JL]
  refine Jh (fun c0=>none' (fun kind hd=>hd.1 (by rw [hat];exact eq_of_beq c0))) (fun c0=> ?_)
  have c0:v≠0:=by simpa using c0
  refine Jh (fun cl=> ?_) (fun cl=> ?_)
  .
   have cl:=eq_of_beq cl
   rw [JM (by omega) (by omega)] at cl
   rw [JG hc,Wo]
   refine Jh (fun c1=>none' (fun kind hd=> ?_)) (fun c1=>some')
   have:=hd.2.1 (by omega)
   have:=Wt c1
   omega
  .
   have cl:k7+1<s.length:=by
    rw [JM (by omega) (by omega)] at cl
    have cl:¬(k7:Int)=(s.length:Int) - 1:=by simpa using cl
    omega
   obtain⟨y,hy⟩:=YO cl
   rw [JG hy,Wo]
   refine Jh (fun c1=>none' (fun kind hd=> ?_)) (fun c1=>some')
   have:=hd.2.2.1 cl
   rw [Jbi hy] at this
   rw [this] at c1
   cases c1
theorem JjE {zs:Nat->Int} {ly:Layout} (hw:LayW zs ly) {P:Nat->Int->Prop} {p:Plant} (h:PlW ly P p) {cs:List Int} (hc:cs.length=ly.Nodes.length):∀(q:List (List Int)) (k:Nat) (a:List Fault),p.Slots.drop k=q->a.length+8*q.length<=1000->(∀f∈a,FaultW ly f)->
  okP (ZO cs q k a) (YB (fun _=>False) (fun r=>(∀f∈a,f∈r)∧(∀f∈r,FaultW ly f)∧r.length<=1000∧
   ∀(m:Nat) (s:List Int) (c:Int),k<=m->p.Slots[m]? =some s->cs[m]? =some c->∀(j:Nat) (kind:Int),j<s.length->(kind=1∨kind=2)->Jhm s c j kind->(⟨kind,m,j⟩:Fault)∈r))
 |[],k,a,hd,hl,ha=>Jf ⟨fun f hf=>hf,ha,by omega,fun m s c hm hs=>by
   have:=congrArg List.length hd
   have:=JT hs
   simp at*
   omega⟩
 |s::q,k,a,hd,hl,ha=>by
  obtain⟨h1,h2,h3⟩:=Qe hd
  have hlc:(s::q).length=q.length+1:=rfl
  obtain⟨x,hx⟩:=YO (l:=ly.Nodes) (k:=k) (by rw [<-h.ls];exact h3)
  obtain⟨c,hcc⟩:=YO (l:=cs) (k:=k) (by rw [hc];exact JT hx)
  have hsl:=h.lens k x s hx h1
  have hs4:=PlOk.slotlen hw h h1
  rw [ZO]
  refine JbZ (Qx (JjD cs k s c hcc (by omega) s 0 a rfl (by omega)) (R:=YB (fun _=>False) (fun r=>FaultsR k s c 0 a r s.length)) (fun c hc=>hc)) (fun r hr=> ?_)
  have hW:∀f∈r,FaultW ly f:=fun f hf=>by
   rcases hr.new f hf with e |⟨e1,e2,e3,e4⟩
   . exact ha f e
   . exact⟨e2,by omega,e3,x,by rw [e1];simpa using hx,by omega⟩
  refine Qx (JjE hw h hc q (k+1) r h2 (by have:=hr.len;omega) hW) (fun z hz=> ?_)
  cases z with
  |ret _=>exact hz
  |brk r2=>
   obtain⟨g1,g2,g3,g4⟩:=hz
   refine⟨fun f hf=>g1 f (hr.old f hf),g2,g3,fun m s' c' hm hs' hc' j kind j1 j2 j3=> ?_⟩
   rcases Nat.lt_or_ge k m with e |e
   . exact g4 m s' c' e hs' hc' j kind j1 j2 j3
   .
    have:m=k:=by omega
    subst this
    rw [h1] at hs'
    cases hs'
    rw [hcc] at hc'
    cases hc'
    exact g1 _ (hr.all j kind (by omega) j1 j2 j3)
theorem JoP {zs:Nat->Int} {ly:Layout} (hw:LayW zs ly) {P:Nat->Int->Prop} {p:Plant} (h:PlW ly P p) {cs:List Int} (hc:cs.length=ly.Nodes.length):
  okP (Jb9 (JQ ly) p cs) (fun r=>(∀f∈r,FaultW ly f)∧r.length<=1000∧∀(m:Nat) (s:List Int) (c:Int),p.Slots[m]? =some s->cs[m]? =some c->∀(j:Nat) (kind:Int),j<s.length->(kind=1∨kind=2)->Jhm s c j kind->(⟨kind,m,j⟩:Fault)∈r):=by
 have hn:=hw.n11
 have hls:=h.ls
 unfold Jb9
 exact Q6 (JjE hw h hc p.Slots 0 [] rfl (by simp;omega) (by simp)) (fun r hr=>Jf ⟨hr.2.1,hr.2.2.1,fun m s c=>hr.2.2.2 m s c (by omega)⟩)
theorem Joz {x:Node} :atF (JcR x m []) k=0:=by
 unfold JcR Jbw atF
 rw [List.foldl_nil,List.getElem?_replicate]
 split<;>rfl
theorem Joy {x:Node} {f:Fault} (hk:k<x.Length.toNat):atF (JcR x m [f]) k=if f.Node=m∧f.Window.toNat=k then f.Kind else 0:=by
 unfold JcR Jbw atF
 rw [List.foldl_cons,List.foldl_nil]
 by_cases c:f.Node=m
 .
  rw [if_pos c,List.getElem?_set]
  by_cases c2:f.Window.toNat=k
  . rw [if_pos c2,if_pos (by simpa [c2] using hk),if_pos ⟨c,c2⟩];rfl
  .
   rw [if_neg c2,if_neg (fun d=>c2 d.2),List.getElem?_replicate]
   split<;>rfl
 .
  rw [if_neg c,if_neg (fun d=>c d.1),List.getElem?_replicate]
  split<;>rfl
theorem JhK {f:Int} (h:atF s (k+1)≠0):JfL s k f=k:=by
 unfold JfL
 rw [if_pos h]
 split<;>rfl
theorem Joh (h:atF s (k+1)=0):JfL s k 0=k+1:=by
 unfold JfL
 rw [if_neg (by omega),if_neg (fun d=>d h),if_neg (fun d=>by omega)]
theorem Jog (h:atF s (k+1)=0) (h2:¬(k+2<s.length∧atF s (k+2)=0)):JfL s k 2=k+1:=by
 unfold JfL
 rw [if_neg (by omega),if_neg (fun d=>d h),if_neg (fun d=>h2 d.2)]
theorem Jk6 {zs:Nat->Int} {ly:Layout} (hw:LayW zs ly) {P:Nat->Int->Prop} {p:Plant} (h:PlW ly P p) (hcn:cnt p<=1000) {cs:List Int} (hc:CmdsW ly cs) {f:Fault} (hf:FaultW ly f) (hm:f.Node=m) {k:Nat} (hk:f.Window=k) {s:List Int} (hs:p.Slots[m]? =some s) {c:Int} (hcc:cs[m]? =some c) (hno:¬Jhm s c k f.Kind):
  J6 (JQ ly) p cs [f]=J6 (JQ ly) p cs []:=by
 obtain⟨x,hx,hxk⟩:=hf.w
 rw [hm,Int.toNat_natCast] at hx
 have hsl:=h.lens m x s hx hs
 have hs4:=PlOk.slotlen hw h hs
 have hwants:Jbj ly p cs [f]=Jbj ly p cs []:=by
  unfold Jbj
  apply List.map_congr_left
  intro j hj
  rw [List.mem_range] at hj
  obtain⟨y,hy⟩:=YO hj
  obtain⟨c',hc'⟩:=YO (l:=cs) (k:=j) (by rw [hc.len];exact hj)
  rw [hy,hc',Option.getD_some]
  show JbF y p j c' [f]=JbF y p j c' []
  unfold JbF
  split
  . rfl
  split
  . rfl
  split
  . rfl
  rename_i g7 g6 g0
  rw [if_neg (show (⟨1,(j:Int),y.Length - 1⟩:Fault)∉[] by simp)]
  by_cases g:(⟨1,(j:Int),y.Length - 1⟩:Fault)∈[f]
  .
   rw [if_pos g]
   rw [List.mem_singleton] at g
   have gm:j=m:=by
     have:f.Node=(j:Int):=by rw [<-g]
     omega
   subst gm
   rw [hx] at hy
   cases hy
   rw [hcc] at hc'
   cases hc'
   have gk:(k:Int)=x.Length - 1:=by rw [<-hk,<-g]
   have gkind:f.Kind=1:=by rw [<-g]
   have hc1:¬0<=c:=fun d=>hno ⟨by
     rw [hs,Option.getD_some] at g0
     have:=Jfc (s:=s) (by omega)
     rw [show s.length - 1=k by omega] at this
     rw [Jbi this]
     exact g0,fun _=>d,fun e=>by omega,fun e=>by omega⟩
   rcases hc.known j x c hx hcc with⟨_,e |e⟩|⟨e,_⟩|⟨e,_⟩
   . omega
   . exact e.symm
   . exact absurd e g7
   . omega
  . rw [if_neg g]
 have hflows:Yn (JQ ly) p cs [f]=Yn (JQ ly) p cs []:=by
  have h1:=JhT hw h hc [f] ly.Nodes 0 rfl (by omega)
  have h2:=JhT hw h hc [] ly.Nodes 0 rfl (by omega)
  rw [hwants] at h1
  rw [show List.replicate 0 (-1:Int)=[] from rfl,List.take_zero] at h1 h2
  unfold Yn
  rw [show (JQ ly).L.Nodes=ly.Nodes from rfl,h1,h2]
 obtain⟨fl,hfl,hfl1,hfl2⟩:=Jiu hw h hc []
 have hadv:∀(j:Nat) (y:Node) (s':List Int) (v:Int),ly.Nodes[j]? =some y->p.Slots[j]? =some s'->fl.Leave[j]? =some v->Yk (JQ ly) p (j:Int) [f] (decide (0<=v))=Yk (JQ ly) p (j:Int) [] (decide (0<=v)):=fun j y s' v hy hs' hv=>by
  rw [Jfs hw h hy hs' (fun g hg=>by rw [List.mem_singleton] at hg;rw [hg];exact hf),Jfs hw h hy hs' (by simp)]
  have hs'l:=h.lens j y s' hy hs'
  refine Jmb s' _ _ _ (by have:=PlOk.slotlen hw h hs';omega) (fun i u hi hu=> ?_)
  have hil:=JT hi
  rw [Joz,Joy (by omega),hm,hk]
  by_cases g:(m:Int)=(j:Int)∧Int.toNat (k:Int)=i
  .
   rw [if_pos g]
   obtain⟨g1,g2⟩:=g
   have g1:m=j:=by omega
   have g2:k=i:=by omega
   subst g1
   subst g2
   rw [hs] at hs'
   cases hs'
   rw [hx] at hy
   cases hy
   have ha:atF s k≠0:=by rw [Jbi hi];exact hu
   refine⟨fun i1=> ?_,fun i1 hop=> ?_⟩
   .
    rcases hf.kind with e |e
    .
     have:atF s (k+1)≠0:=fun d=>hno ⟨ha,fun e=>by omega,fun _=>d,fun e'=>by omega⟩
     rw [JhK this,JhK this]
    .
     rw [e]
     by_cases d:atF s (k+1)≠0
     . rw [JhK d,JhK d]
     .
      have d:atF s (k+1)=0:=by omega
      rw [Jog d (fun d2=>hno ⟨ha,fun e=>by omega,fun _=>d,fun _=>d2⟩),Joh d]
   .
    rcases hf.kind with e |e
    .
     exfalso
     have hv0:=Wt hop
     rcases hfl2 m v hv with e1 |⟨_,w,z,hw1,hz,hw2,hw3⟩
     . omega
     .
      rw [Jev hx hcc] at hw1
      have hw1:=Wi hw1
      refine hno ⟨ha,fun _=> ?_,fun e=>by omega,fun e'=>by omega⟩
      have hk6:x.Kind<=6:=by
       have:=(hw.nodes m x hx).len0
       omega
      have:JbF x p m c []=c∨JbF x p m c []= -1:=by
       unfold JbF
       rw [if_neg (by omega),if_neg (by omega)]
       split
       . exact .inr rfl
       . rw [if_neg (by simp)];exact .inl rfl
      omega
    . rw [e];omega
  .
   rw [if_neg g]
   exact⟨fun _=>rfl,fun _ _=>Iff.rfl⟩
 have hL1:∀(q:List Node) (j:Nat) (a b:List (List Int)) (mv:List Passage),ly.Nodes.drop j=q->JK (JQ ly) p cs [f] fl q j a mv b=JK (JQ ly) p cs [] fl q j a mv b:=by
  intro q
  induction q with
  |nil=>intros;rfl
  |cons y q ih=>
   intro j a b mv hd
   obtain⟨d1,d2,d3⟩:=Qe hd
   obtain⟨v,hv⟩:=YO (l:=fl.Leave) (k:=j) (by omega)
   obtain⟨s',hs',_⟩:=h.slot d1
   have rcv:∀a b mv,JK (JQ ly) p cs [f] fl q (j+1) a mv b=JK (JQ ly) p cs [] fl q (j+1) a mv b:=fun a b mv=>ih (j+1) a b mv d2
   rw [JK,JK]
   simp only [JG hv,Wo,hadv j y s' v d1 hs' hv,rcv]
 unfold J6
 rw [hflows,hfl,Wo,Wo,JgD hw h hcn,Wo,Wo,show (JQ ly).L.Nodes=ly.Nodes from rfl,hL1 ly.Nodes 0 _ _ _ rfl]
end Go.Proofs.YtehhohbnhcogkaaGreatDoor.Ex
namespace Go.Proofs.YtehhohbnhcogkaaGreatDoor.Ex
open Go.RowKit Go.Proofs.YtehhohbnhcogkaaGreatDoor.Ax
variable {zs:Nat->Int} {ly:Layout} {p:Plant} {i:Nat} {ps:List Plate}
theorem Joi (p:Plate):okP (JbI p) (fun v=>v=true->JaO p)∧(JaO p->JbI p=some true):=by
 unfold JbI JaO
 refine⟨?_,fun⟨a,b,c,d,e,f⟩=>by rw [Wd a,Wd b,Wd c,Wd d,Wd e,Wd f];rfl⟩
 have no:∀Q:Bool->Prop,(Q false)->okP (some false) Q:=fun Q h=>Jf h
 refine Jh (fun c1=> ?_) (fun _=>no _ (fun h=>by cases h))
 refine Jh (fun c2=> ?_) (fun _=>no _ (fun h=>by cases h))
 refine Jh (fun c3=> ?_) (fun _=>no _ (fun h=>by cases h))
 refine Jh (fun c4=> ?_) (fun _=>no _ (fun h=>by cases h))
 refine Jh (fun c5=> ?_) (fun _=>no _ (fun h=>by cases h))
 exact Jf (fun c6=>⟨Wt c1,Wt c2,Wt c3,Wt c4,Wt c5,Wt c6⟩)
theorem Jhn (l:List Int):(YS l).size=l.length:=by
 have h:∀(l:List Int) (s:ByteArray),(l.foldl (fun r n=>r.push (UInt8.ofNat n.toNat)) s).size=s.size+l.length:=by
  intro l
  induction l with
  |nil=>intro s;rfl
  |cons a l ih=>intro s;rw [List.foldl_cons,ih,ByteArray.size_push,List.length_cons];omega
 unfold YS
 rw [h]
 simp
theorem Jun:∀(d N:Nat) (a:List Int) (n:Int) (i:Int),(10 - i).toNat=d->d<N->0<=i->i<=10->a.length=10->okP (ZK N a n i) (YB (fun _=>False) (fun z=>z.length=10))
 |d,0,a,n,i,h1,h2,h3,h4,h5=>by omega
 |d,N+1,a,n,i,h1,h2,h3,h4,h5=>by
  rw [ZK]
  refine Jh (fun c=> ?_) (fun _=>Jf h5)
  have c:=Wt c
  rw [JM (z:=9 - i) (by omega) (by omega),JM (z:=i+1) (by omega) (by omega)]
  have hg:gdA 10 (9 - i)=some ():=by unfold gdA;rw [if_pos (by omega)]
  rw [hg,Wo]
  refine Ji (Jat (Q:=fun _=>True) (by omega) (by omega) (fun _ _ _=>trivial)) (fun _ _=> ?_)
  exact Jun (d - 1) N _ _ (i+1) (by omega) (by omega) (by omega) (by omega) (by simpa using h5)
theorem Jjy (p:Plate):okP (JaL p) (fun b=>(JaO p->b.size=10)∧(b.size=0∨b.size=10)):=by
 obtain⟨⟨v,hv,hv1⟩,hv2⟩:=Joi p
 unfold JaL
 rw [hv,Wo]
 refine Jh (fun c=>Jf ⟨fun h=> ?_,.inl rfl⟩) (fun c=> ?_)
 .
  rw [hv2 h] at hv
  cases hv
  cases c
 .
  unfold alL Jc8
  rw [Wo,Wo]
  refine Q6 (Jun _ _ _ _ 0 rfl (by omega) (by omega) (by omega) (by simp)) (fun z hz=> ?_)
  have:ldL 10 z=some ():=by unfold ldL;rw [if_pos hz]
  rw [this,Wo]
  exact Jf ⟨fun _=>by rw [Jhn,hz],.inr (by rw [Jhn,hz])⟩
def JoM (p:Plate):ByteArray:=(JaL p).getD ⟨#[]⟩
theorem JqV (p:Plate):JaL p=some (JoM p):=by
 obtain⟨b,hb,_⟩:=Jjy p
 unfold JoM
 rw [hb]
 rfl
theorem JlX (p:Plate):(JaO p->(JoM p).size=10)∧((JoM p).size=0∨(JoM p).size=10):=by
 obtain⟨b,hb,h⟩:=Jjy p
 rw [JqV] at hb
 cases hb
 exact h
def JjV (ps:List Plate) (v:Int):ByteArray:=if 1<=v then (match ps[(v - 1).toNat]? with |some p=>JoM p |none=>⟨#[]⟩) else ⟨#[]⟩
theorem Jk2 (ps:List Plate) (v:Int):(JjV ps v).size=0∨(JjV ps v).size=10:=by
 unfold JjV
 split
 .
  split
  . exact(JlX _).2
  . exact .inl rfl
 . exact .inl rfl
def Z0 (ly:Layout) (p:Plant) (ps:List Plate) (i:Nat):View:=match ly.Devices[i]? with
 |some d=>⟨i,d.Kind,atF ((p.Slots[d.Node.toNat]?).getD []) d.Window.toNat,JjV ps (atF ((p.Slots[d.Node.toNat]?).getD []) d.Window.toNat)⟩
 |none=>⟨i,0,0,⟨#[]⟩⟩
theorem Jiz (hw:LayW zs ly) {P:Nat->Int->Prop} (h:PlW ly P p) {d:Device} (hd:ly.Devices[i]? =some d):(d.Kind=1∨d.Kind=2)∧0<=d.Node∧d.Node<ly.Nodes.length∧0<=d.Window∧∃s v,p.Slots[d.Node.toNat]? =some s∧s[d.Window.toNat]? =some v∧d.Window<s.length:=by
 obtain⟨a1,a2,a3,a4,x,hx,a5⟩:=hw.dev d (ZL hd)
 obtain⟨s,hs,hl⟩:=h.slot hx
 obtain⟨v,hv⟩:=YO (l:=s) (k:=d.Window.toNat) (by omega)
 exact⟨a1,a2,a3,a4,s,v,hs,hv,by omega⟩
theorem Jii {d:Device} {s:List Int} {v:Int} (hd:ly.Devices[i]? =some d) (hs:p.Slots[d.Node.toNat]? =some s) (hv:s[d.Window.toNat]? =some v):Z0 ly p ps i=⟨i,d.Kind,v,JjV ps v⟩:=by
 unfold Z0
 rw [hd]
 simp only [hs,Option.getD_some,Jbi hv]
theorem JhR (hw:LayW zs ly) {P:Nat->Int->Prop} (h:PlW ly P p) (hps:ps.length=40) (hi:i<ly.Devices.length):JaH ly p ps (i:Int)=some (Z0 ly p ps i):=by
 obtain⟨d,hd⟩:=YO hi
 obtain⟨a1,a2,a3,a4,s,v,hs,hv,a5⟩:=Jiz hw h hd
 unfold JaH
 rw [Jii hd hs hv,JG hd,Wo,QD a2 hs,Wo,QD a4 hv,Wo]
 unfold JjV
 by_cases c1:1<=v
 .
  rw [Wd c1,cond_true,if_pos c1]
  by_cases c2:v<=(ps.length:Int)
  .
   obtain⟨q,hq⟩:=YO (l:=ps) (k:=(v - 1).toNat) (by omega)
   rw [Wd c2,cond_true,JM (by omega) (by omega),QD (by omega) hq,Wo,JqV,Wo,hq]
  . rw [We c2,cond_false,List.getElem?_eq_none (by omega)]
 . rw [We c1,cond_false,if_neg c1]
def Ja6 (v:View):Report:=if v.kind=2∧v.bag≠0 then ⟨v.device,v.bag != 0,v.text⟩ else ⟨v.device,v.bag != 0,⟨#[]⟩⟩
theorem Jh6 (v:View):YX v=some (Ja6 v):=by
 unfold YX Ja6
 by_cases c1:v.kind=2
 .
  by_cases c2:v.bag=0
  . rw [if_neg (fun d=>d.2 c2),c1,c2];rfl
  . rw [if_pos ⟨c1,c2⟩,c1,show (v.bag != 0)=true from by simp [c2]];rfl
 . rw [if_neg (fun d=>c1 d.1),show (v.kind==2)=false from by simp [c1]];rfl
theorem Jee (v:View):(Ja6 v).Device=v.device:=by unfold Ja6;split<;>rfl
def JfM (v:View) (k:Int):Bool:=if k=3 then v.bag != 0 else if k=4 then (v.kind==1&&v.bag==0) else (v.kind==2&&(v.bag != 0&& !(v.text.toList==(⟨#[]⟩:ByteArray).toList)))
theorem Jqr (v:View) (k:Int):ZJ v k=some (JfM v k):=by
 unfold ZJ JfM
 by_cases c1:k=3
 . rw [if_pos c1,c1];rfl
 rw [if_neg c1,show (k==3)=false from by simp [c1],cond_false]
 by_cases c2:k=4
 .
  rw [if_pos c2,c2]
  cases v.kind==1<;>rfl
 .
  rw [if_neg c2,show (k==4)=false from by simp [c2],cond_false]
  cases v.kind==2<;>cases v.bag != 0<;>rfl
def Jcm (k:Int):Int:=if k=5∨k=6 then 9 else 0
theorem Jnu (k:Int):JbG k=some (Jcm k):=by
 unfold JbG Jcm
 by_cases c1:k=5
 . rw [if_pos (.inl c1),c1];rfl
 .
  by_cases c2:k=6
  . rw [if_pos (.inr c2),c2];rfl
  . rw [if_neg (fun d=>d.elim c1 c2),show (k==5)=false from by simp [c1],show (k==6)=false from by simp [c2]];rfl
theorem Jqq {v:View} {k:Int} (h3:3<=k) (h6:k<=6) (h:JfM v k=true) (hk:k≠3) (hk4:k≠4) (ht:v.text.size=0∨v.text.size=10):v.text.size=10:=by
 unfold JfM at h
 rw [if_neg hk,if_neg hk4] at h
 rcases ht with e |e
 .
  exfalso
  have:v.text=⟨#[]⟩:=by
   cases hv:v.text with
   |mk d=>
    rw [hv] at e
    have:d= #[]:=Array.eq_empty_of_size_eq_zero e
    rw [this]
  rw [this] at h
  simp at h
 . exact e
theorem Jnb (v:View) (k w:Int) (h3:3<=k) (h6:k<=6) (h:JfM v k=true) (ht:v.text.size=0∨v.text.size=10) (hw0:0<=w) (hw:w<=Jcm k):okP (Qu v k w) (fun r=>r.Device=v.device):=by
 unfold Qu
 rw [Jh6,Wo]
 refine Jh (fun _=>Jf rfl) (fun c3=> ?_)
 refine Jh (fun _=>Jf (Jee v)) (fun c4=> ?_)
 have c3:k≠3:=by simpa using c3
 have c4:k≠4:=by simpa using c4
 have hs:=Jqq h3 h6 h c3 c4 ht
 have hl:(Jhd v.text).length=10:=by
  unfold Jhd
  rw [List.length_map,Array.length_toList]
  exact hs
 have hm:w<=9:=by unfold Jcm at hw;split at hw<;>omega
 obtain⟨x,hx⟩:=YO (l:=Jhd v.text) (k:=w.toNat) (by omega)
 rw [QD hw0 hx,Wo,Wo,Wo]
 exact Jh (fun _=>Jf (Jee v)) (fun _=>Jf (Jee v))
theorem JlY (v:View) (k:Int) (h3:3<=k) (h6:k<=6) (ht:v.text.size=0∨v.text.size=10):∀(d N:Nat) (w:Int) (acc:List Report),(20 - w).toNat=d->d<N->0<=w->w<=20->
  okP (Jfo v N k w acc) (fun l=>(∀r∈acc,r∈l)∧(JfM v k=true->∀w' r,w<=w'->w'<=Jcm k->Qu v k w'=some r->r∈l))
 |d,0,w,acc,h1,h2,h4,h5=>by omega
 |d,N+1,w,acc,h1,h2,h4,h5=>by
  rw [Jfo,Jnu,Wo]
  refine Jh (fun c=> ?_) (fun c=>Jf ⟨fun r hr=>hr,fun _ w' r e1 e2=>by have:=Wf c;omega⟩)
  have c:=Wt c
  have hm:Jcm k<=9:=by unfold Jcm;split<;>omega
  rw [Jqr,Wo]
  refine Jh (fun cm=> ?_) (fun cm=>Jf ⟨fun r hr=>hr,fun e=>by rw [cm] at e;cases e⟩)
  obtain⟨r,hr,_⟩:=Jnb v k w h3 h6 cm ht h4 c
  rw [hr,Wo,JM (by omega) (by omega)]
  refine Qx (JlY v k h3 h6 ht (d - 1) N (w+1) _ (by omega) (by omega) (by omega) (by omega)) (fun l hl=>⟨fun r' hr'=>hl.1 r' (List.mem_append_left _ hr'),fun e w' r' e1 e2 e3=> ?_⟩)
  by_cases e4:w'=w
  .
   subst e4
   rw [hr] at e3
   cases e3
   exact hl.1 _ (by simp)
  . exact hl.2 e w' r' (by omega) e2 e3
theorem JjF (v:View) (ht:v.text.size=0∨v.text.size=10):∀(d N:Nat) (k:Int) (acc:List Report),(7 - k).toNat=d->d<N->3<=k->k<=7->
  okP (JdD v N k acc) (fun l=>(∀r∈acc,r∈l)∧∀k' w r,k<=k'->k'<=6->JfM v k'=true->0<=w->w<=Jcm k'->Qu v k' w=some r->r∈l)
 |d,0,k,acc,h1,h2,h3,h4=>by omega
 |d,N+1,k,acc,h1,h2,h3,h4=>by
  rw [JdD]
  refine Jh (fun c=> ?_) (fun c=>Jf ⟨fun r hr=>hr,fun k' w r e1 e2=>by have:=Wf c;omega⟩)
  have c:=Wt c
  refine Ji (JlY v k h3 c ht _ 100 0 acc rfl (by omega) (by omega) (by omega)) (fun a ha=> ?_)
  rw [JM (by omega) (by omega)]
  refine Qx (JjF v ht (d - 1) N (k+1) a (by omega) (by omega) (by omega) (by omega)) (fun l hl=>⟨fun r hr=>hl.1 r (ha.1 r hr),fun k' w r e1 e2 e3 e4 e5 e6=> ?_⟩)
  by_cases e7:k'=k
  .
   subst e7
   exact hl.1 r (ha.2 e3 w r e4 e5 e6)
  . exact hl.2 k' w r (by omega) e2 e3 e4 e5 e6
theorem JoO (v:View) (ht:v.text.size=0∨v.text.size=10):okP (Jap v) (fun l=>∀k w r,3<=k->k<=6->JfM v k=true->0<=w->w<=Jcm k->Qu v k w=some r->r∈l):=by
 unfold Jap
 exact Qx (JjF v ht _ 6 3 [] rfl (by decide) (by omega) (by omega)) (fun l hl=>hl.2)
def Jlg (x y:Report):Bool:=(x.Device==y.Device)&&((x.Seen==y.Seen)&&((x.Read.toList==y.Read.toList)&&true))
theorem Jh7 (x:Report):Jlg x x=true:=by simp [Jlg]
theorem Jre (r:Report):∀(l:List Report) (k:Nat),okP (Jae r l k) (fun c=>match c with | .ret x=>x=(1,true)| .brk _=>r∉l)
 |[],_=>Jf (by simp)
 |e::q,k=>by
  rw [Jae]
  show okP (cond (Jlg e r) _ _) _
  refine Jh (fun _=>Jf rfl) (fun c=>Qx (Jre r q (k+1)) (fun x hx=> ?_))
  cases x with
  |ret _=>exact hx
  |brk _=>
   show r∉e::q
   rw [List.mem_cons]
   rintro(rfl |h)
   . rw [Jh7] at c;cases c
   . exact hx h
theorem JnX (hw:LayW zs ly) {P:Nat->Int->Prop} (h:PlW ly P p) (hps:ps.length=40) (hi:i<ly.Devices.length) {r:Report} (hr:r.Device=i):
  okP (JcF ly p ps r) (fun c=>0<=c.1∧c.1<=1∧(r=Ja6 (Z0 ly p ps i)->c=(0,true))∧∀k w,3<=k->k<=6->JfM (Z0 ly p ps i) k=true->0<=w->w<=Jcm k->Qu (Z0 ly p ps i) k w=some r->c.2=true):=by
 obtain⟨d,hd⟩:=YO hi
 obtain⟨a1,a2,a3,a4,s,v,hs,hv,a5⟩:=Jiz hw h hd
 have hls:=h.ls
 have ht:(Z0 ly p ps i).text.size=0∨(Z0 ly p ps i).text.size=10:=by rw [Jii hd hs hv];exact Jk2 ps v
 unfold JcF
 rw [hr,We (show ¬(i:Int)<0 by omega),cond_false,We (show ¬((ly.Devices.length:Nat):Int)<=(i:Int) by omega),cond_false,JG hd,Wo,We (show ¬d.Node<0 by omega),cond_false,We (show ¬((p.Slots.length:Nat):Int)<=d.Node by omega),cond_false,We (show ¬d.Window<0 by omega),cond_false,QD a2 hs,Wo,We (show ¬((s.length:Nat):Int)<=d.Window by omega),cond_false,JhR hw h hps hi,Wo,Jh6,Wo]
 rw [show (((i:Int)==(Ja6 (Z0 ly p ps i)).Device)&&((r.Seen==(Ja6 (Z0 ly p ps i)).Seen)&&((r.Read.toList==(Ja6 (Z0 ly p ps i)).Read.toList)&&true)))=Jlg r (Ja6 (Z0 ly p ps i)) from by unfold Jlg;rw [hr]]
 refine Jh (fun _=>Jf ⟨by show (0:Int)<=0;omega,by show (0:Int)<=1;omega,fun _=>rfl,fun _ _ _ _ _ _ _ _=>rfl⟩) (fun cr=> ?_)
 have hnr:r≠Ja6 (Z0 ly p ps i):=fun e=>by rw [e,Jh7] at cr;cases cr
 unfold JaK
 rw [Wo]
 refine Ji (JoO (Z0 ly p ps i) ht) (fun l hl=> ?_)
 obtain⟨c,hc,hc2⟩:=Jre r l 0
 rw [hc]
 cases c with
 |ret x=>
  have hc2:x=(1,true):=hc2
  subst hc2
  exact Jf ⟨by show (0:Int)<=1;omega,by show (1:Int)<=1;omega,fun e=>absurd e hnr,fun _ _ _ _ _ _ _ _=>rfl⟩
 |brk _=>
  have hc2:r∉l:=hc2
  exact Jf ⟨by show (0:Int)<=0;omega,by show (0:Int)<=1;omega,fun e=>absurd e hnr,fun k w e1 e2 e3 e4 e5 e6=>absurd (hl k w r e1 e2 e3 e4 e5 e6) hc2⟩
end Go.Proofs.YtehhohbnhcogkaaGreatDoor.Ex
namespace Go.Proofs.YtehhohbnhcogkaaGreatDoor.Ex
open Go.RowKit Go.Proofs.YtehhohbnhcogkaaGreatDoor.Ax
variable {ps:List Plate} {zs:Nat->Int} {ly:Layout} {p:Plant}
structure GlitchW (ly:Layout) (p:Plant) (ps:List Plate) (f:Fault):Prop where
 k3:3<=f.Kind
 k6:f.Kind<=6
 n0:0<=f.Node
 n1:f.Node<ly.Devices.length
 w0:0<=f.Window
 w1:f.Window<=Jcm f.Kind
 may:JfM (Z0 ly p ps f.Node.toNat) f.Kind=true
theorem JqP (r5:Int×Src):∀(q:List Fault) (k:Nat) (b:Bool),okP (QJ r5 q k b) (YB (fun _=>False) (fun _=>True))
 |[],_,_=>Jf trivial
 |f::q,k,b=>by
  rw [QJ]
  exact Jh (fun _=>JqP r5 q _ _) (fun _=>JqP r5 q _ _)
theorem Juv (hps:ps.length=40) (hpw:∀p∈ps,JaO p) {v:Int} (h1:1<=v) (h2:v<=40):(!((JjV ps v).toList==(⟨#[]⟩:ByteArray).toList))=true:=by
 obtain⟨q,hq⟩:=YO (l:=ps) (k:=(v - 1).toNat) (by omega)
 have hs:(JjV ps v).size=10:=by
  unfold JjV
  rw [if_pos h1,hq]
  exact(JlX q).1 (hpw q (ZL hq))
 rw [Bool.not_eq_true',beq_eq_false_iff_ne]
 intro e
 rw [toList_inj e] at hs
 cases hs
theorem Jum {zs:Nat->Int} {ly:Layout} (hw:LayW zs ly) {p:Plant} (h:PlW ly (fun _ v=>0<=v∧v<=3) p) {ps:List Plate} (hps:ps.length=40) (hpw:∀p∈ps,JaO p) (n:Int) (hn:n<=100):∀(d N:Nat) (a:List Int) (i:Int) (l:List Fault) (k:Int),(n - k).toNat=d->d<N->0<=k->k<=max n 0->SrcOk ⟨a,i⟩->(l.length:Int)<=k->(∀f∈l,GlitchW ly p ps f)->
  okP (JE ly p n N a i l k) (YB (fun _=>False) (fun z=>SrcOk ⟨z.1,z.2.1⟩∧(z.2.2.length:Int)<=max n 0∧∀f∈z.2.2,GlitchW ly p ps f))
 |d,0,a,i,l,k,h1,h2,h3,h4,h5,h6,h7=>by omega
 |d,N+1,a,i,l,k,h1,h2,h3,h4,h5,h6,h7=>by
  have hdl:=hw.devs
  rw [JE]
  refine Jh (fun c=> ?_) (fun c=>Jf ⟨h5,by show (l.length:Int)<=_;omega,h7⟩)
  have c:=Wt c
  refine Jh (fun cd=> ?_) (fun _=>Jf ⟨h5,by show (l.length:Int)<=_;omega,h7⟩)
  have cd:=Wt cd
  rw [JM (z:=k+1) (by omega) (by omega)]
  have rcv:∀(s:Src) (l':List Fault),SrcOk s->(l'.length:Int)<=k+1->(∀f∈l',GlitchW ly p ps f)->okP (JE ly p n N s.L s.At l' (k+1)) (YB (fun _=>False) (fun z=>SrcOk ⟨z.1,z.2.1⟩∧(z.2.2.length:Int)<=max n 0∧∀f∈z.2.2,GlitchW ly p ps f)):=
   fun s l' hs hl hf=>Jum hw h hps hpw n hn (d - 1) N s.L s.At l' (k+1) (by omega) (by omega) (by omega) (by omega) hs hl hf
  have app:∀(s:Src) (f:Fault),SrcOk s->GlitchW ly p ps f->okP ((apL l ([f]:List Fault)).bind fun l2=>JE ly p n N s.L s.At l2 (k+1)) (YB (fun _=>False) (fun z=>SrcOk ⟨z.1,z.2.1⟩∧(z.2.2.length:Int)<=max n 0∧∀f∈z.2.2,GlitchW ly p ps f)):=fun s f hs hf=>by
   rw [QZ (by simp;omega),Wo]
   refine rcv s _ hs (by simp;omega) (fun g hg=> ?_)
   rw [List.mem_append,List.mem_singleton] at hg
   rcases hg with hg |rfl
   . exact h7 g hg
   . exact hf
  refine Ji (Jd8 _ _ h5 (by omega) (by omega)) (fun r5 h5'=> ?_)
  obtain⟨dv,hd⟩:=YO (l:=ly.Devices) (k:=r5.1.toNat) (by omega)
  obtain⟨a1,a2,a3,a4,s,v,hs,hv,a5⟩:=Jiz hw h hd
  have hvr:=h.vs _ s hs v (ZL hv)
  have hlk:=Jii (ps:=ps) hd hs hv
  rw [QD h5'.1 hd,Wo]
  refine JbZ (JqP r5 l 0 false) (fun z12 _=> ?_)
  rw [QD a2 hs,Wo,QD a4 hv,Wo]
  refine Jh (fun cs=> ?_) (fun cs=> ?_)
  .
   have cs:v≠0:=by simpa using cs
   refine Jh (fun ck=> ?_) (fun ck=> ?_)
   .
    have ck:=eq_of_beq ck
    have htx:=Juv hps hpw (v:=v) (by omega) (by omega)
    refine Ji (JkP r5.2 [3,5,6,6] h5'.2.2 (by simp) (by simp)) (fun r15 h15=> ?_)
    have hk:r15.1=3∨r15.1=5∨r15.1=6:=by have:=h15.1;simp at this;omega
    have hmay:JfM (Z0 ly p ps r5.1.toNat) r15.1=true:=by
     rw [hlk]
     unfold JfM
     rcases hk with e |e |e
     . rw [if_pos e];simp [cs]
     . rw [if_neg (by omega),if_neg (by omega)];simp only [ck,htx];simp [cs]
     . rw [if_neg (by omega),if_neg (by omega)];simp only [ck,htx];simp [cs]
    refine Jh (fun c3=> ?_) (fun c3=> ?_)
    .
     have c3:r15.1≠3:=by simpa using c3
     refine Ji (JkP r15.2 [9,8,0,5] h15.2 (by simp) (by simp)) (fun r16 h16=> ?_)
     have hwd:0<=r16.1∧r16.1<=9:=by have:=h16.1;simp at this;omega
     refine Jh (fun _=>app r16.2 _ h16.2 ⟨by show 3<=r15.1;omega,by show r15.1<=6;omega,h5'.1,h5'.2.1,hwd.1,?_,hmay⟩) (fun _=>rcv r16.2 l h16.2 (by omega) h7)
     show r16.1<=Jcm r15.1
     unfold Jcm
     rw [if_pos (by omega)]
     exact hwd.2
    .
     have c3:r15.1=3:=by simpa using c3
     refine Jh (fun _=>app r15.2 _ h15.2 ⟨by show 3<=r15.1;omega,by show r15.1<=6;omega,h5'.1,h5'.2.1,by show (0:Int)<=0;omega,?_,hmay⟩) (fun _=>rcv r15.2 l h15.2 (by omega) h7)
     show 0<=Jcm r15.1
     unfold Jcm
     split<;>omega
   .
    refine Jh (fun _=>app r5.2 _ h5'.2.2 ⟨by show (3:Int)<=3;omega,by show (3:Int)<=6;omega,h5'.1,h5'.2.1,by show (0:Int)<=0;omega,by show (0:Int)<=Jcm 3;decide,?_⟩) (fun _=>rcv r5.2 l h5'.2.2 (by omega) h7)
    show JfM (Z0 ly p ps r5.1.toNat) 3=true
    rw [hlk]
    unfold JfM
    simp [cs]
  .
   have cs:v=0:=by simpa using cs
   refine Jh (fun _=>rcv r5.2 l h5'.2.2 (by omega) h7) (fun ck=> ?_)
   have ck:dv.Kind≠2:=by simpa using ck
   refine Jh (fun _=>app r5.2 _ h5'.2.2 ⟨by show (3:Int)<=4;omega,by show (4:Int)<=6;omega,h5'.1,h5'.2.1,by show (0:Int)<=0;omega,by show (0:Int)<=Jcm 4;decide,?_⟩) (fun _=>rcv r5.2 l h5'.2.2 (by omega) h7)
   show JfM (Z0 ly p ps r5.1.toNat) 4=true
   rw [hlk]
   unfold JfM
   simp [cs]
   omega
theorem Jmh (hw:LayW zs ly) (h:PlW ly (fun _ v=>0<=v∧v<=3) p) (hps:ps.length=40) (hpw:∀p∈ps,JaO p) (s:Src) (hs:SrcOk s) (n:Int) (hn:n<=100):okP (Y5 s ly p n) (fun r=>SrcOk r.2∧(r.1.length:Int)<=max n 0∧∀f∈r.1,GlitchW ly p ps f):=by
 unfold Y5
 exact Q6 (Jum hw h hps hpw n hn _ _ s.L s.At [] 0 rfl (by omega) (by omega) (by omega) hs (by simp) (by simp)) (fun z hz=>Jf hz)
theorem Jqg {zs:Nat->Int} {ly:Layout} (hw:LayW zs ly) {P:Nat->Int->Prop} {p:Plant} (h:PlW ly P p) {ps:List Plate} (hps:ps.length=40):∀(q:List Fault) (k:Nat),(∀f∈q,GlitchW ly p ps f)->Y0 ly p ps q k=some (.brk ())
 |[],_,_=>rfl
 |f::q,k,hf=>by
  have g:=hf f (List.mem_cons_self ..)
  obtain⟨m,hm⟩:∃m:Nat,f.Node=(m:Int):=⟨f.Node.toNat,by have:=g.n0;omega⟩
  have g3:=g.k3;have g6:=g.k6;have g0:=g.n0;have g1:=g.n1;have gw0:=g.w0;have gw1:=g.w1;have gm:=g.may
  rw [hm,Int.toNat_natCast] at gm
  rw [Y0,We (show ¬f.Kind<3 by omega),cond_false,We (show ¬6<f.Kind by omega),cond_false,We (show ¬f.Node<0 by omega),cond_false,We (show ¬((ly.Devices.length:Nat):Int)<=f.Node by omega),cond_false,We (show ¬f.Window<0 by omega),cond_false,Jnu,Wo,We (show ¬Jcm f.Kind<f.Window by omega),cond_false,hm,JhR hw h hps (by omega),Wo,Jqr,Wo,gm,Jqg hw h hps q (k+1) (fun x hx=>hf x (List.mem_cons_of_mem _ hx))]
  rfl
theorem Jqf {zs:Nat->Int} {ly:Layout} (hw:LayW zs ly) {P:Nat->Int->Prop} {p:Plant} (h:PlW ly P p) {ps:List Plate} (hps:ps.length=40):∀(q:List Device) (k:Nat),ly.Devices.drop k=q->k<=ly.Devices.length->YY ly p ps q k ((List.range k).map fun i=>Ja6 (Z0 ly p ps i))=some (.brk ((List.range ly.Devices.length).map fun i=>Ja6 (Z0 ly p ps i)))
 |[],k,hd,hk=>by
  have:k=ly.Devices.length:=by
   have:=congrArg List.length hd
   simp at this
   omega
  subst this
  rfl
 |d::q,k,hd,hk=>by
  obtain⟨h1,h2,h3⟩:=Qe hd
  have hdl:=hw.devs
  rw [YY,JhR hw h hps h3,Wo,Jh6,Wo,QZ (by simp;omega),Wo]
  have:=Jqf hw h hps q (k+1) h2 (by omega)
  rw [List.range_succ,List.map_append] at this
  exact this
def JrB (ly:Layout) (p:Plant) (ps:List Plate) (gl:List Fault) (i:Nat) (r:Report):Prop:=
 r.Device=i∧(r=Ja6 (Z0 ly p ps i)∨∃f∈gl,f.Node=i∧Qu (Z0 ly p ps i) f.Kind f.Window=some r)
theorem Jij (ly:Layout) (p:Plant) (ps:List Plate) (i:Nat):(Z0 ly p ps i).device=i:=by unfold Z0;split<;>rfl
theorem Jqt (ly:Layout) (p:Plant) (ps:List Plate) (i:Nat):(Z0 ly p ps i).text.size=0∨(Z0 ly p ps i).text.size=10:=by
 unfold Z0
 split
 . exact Jk2 _ _
 . exact .inl rfl
theorem JmE (hw:LayW zs ly) {P:Nat->Int->Prop} (h:PlW ly P p) (hps:ps.length=40) {gl:List Fault} (hg:∀f∈gl,GlitchW ly p ps f) (h1:gl.length<=1):
  okP (Jad ly p ps gl) (fun r=>r.2=0∧r.1.length=ly.Devices.length∧∀i x,r.1[i]? =some x->JrB ly p ps gl i x):=by
 unfold Jad
 rw [Jha hw,Wo]
 simp only [JiX,Bool.not_true,cond_false]
 rw [Jky h,Wo,Bool.not_true,cond_false,We (show ¬(4:Int)<(gl.length:Int) by omega),cond_false,Jqg hw h hps gl 0 hg,Zv rfl]
 have hL2:YZ gl gl 0=some (.brk ()):=by
  match gl,h1 with
  |[],_=>rfl
  |[f],_=>
   rw [YZ,Je2 (by omega) (by omega) (by simp),Wo,JkF]
   rfl
 have hL3:=Jqf hw h hps ly.Devices 0 rfl (by omega)
 rw [show (List.range 0).map (fun i=>Ja6 (Z0 ly p ps i))=[] from rfl] at hL3
 rw [hL2,Zv rfl,hL3,Zv rfl]
 have hget:∀i x,((List.range ly.Devices.length).map fun i=>Ja6 (Z0 ly p ps i))[i]? =some x->i<ly.Devices.length∧x=Ja6 (Z0 ly p ps i):=fun i x hx=>by
  rw [Wp,Option.map_eq_some_iff] at hx
  obtain⟨j,hj,rfl⟩:=hx
  have hjl:=JT hj
  rw [List.length_range] at hjl
  rw [List.getElem?_range hjl] at hj
  cases hj
  exact⟨hjl,rfl⟩
 match gl,h1,hg with
 |[],_,_=>
  refine Jf ⟨rfl,by simp,fun i x hx=> ?_⟩
  obtain⟨hi,rfl⟩:=hget i x hx
  exact⟨by rw [Jee,Jij],.inl rfl⟩
 |[f],_,hg=>
  have g:=hg f (List.mem_singleton.2 rfl)
  obtain⟨m,hm⟩:∃m:Nat,f.Node=(m:Int):=⟨f.Node.toNat,by have:=g.n0;omega⟩
  have g1:=g.n1;have gm:=g.may
  rw [hm,Int.toNat_natCast] at gm
  obtain⟨r,hr,hrd⟩:=Jnb (Z0 ly p ps m) f.Kind f.Window g.k3 g.k6 gm (Jqt ly p ps m) g.w0 g.w1
  refine Q6 (S:=fun s=>s=((List.range ly.Devices.length).map fun i=>Ja6 (Z0 ly p ps i)).set m r) ?_ (fun s hs=>Jf ?_)
  .
   rw [ZF,hm,JhR hw h hps (by omega),Wo,hr,Wo]
   refine Ji (Jat (Q:=fun _=>True) (by omega) (by simp;omega) (fun _ _ _=>trivial)) (fun _ _=> ?_)
   exact Jf rfl
  .
   subst hs
   refine⟨rfl,by simp,fun i x hx=> ?_⟩
   rcases JcC hx with⟨rfl,rfl⟩|⟨hne,hx⟩
   . exact⟨by rw [hrd,Jij],.inr ⟨f,List.mem_singleton.2 rfl,hm,hr⟩⟩
   .
    obtain⟨hi,rfl⟩:=hget i x hx
    exact⟨by rw [Jee,Jij],.inl rfl⟩
theorem Jof (hw:LayW zs ly) {P:Nat->Int->Prop} (h:PlW ly P p) (hps:ps.length=40) {rs:List Report} (hrl:rs.length=ly.Devices.length) (hr:∀(i:Nat) (x:Report),rs[i]? =some x->x.Device=(i:Int)) (b:Belief):
  okP (Z3 p rs ly ps b) (fun c=>c.2=true->0<=c.1∧c.1<=100):=by
 have hdl:=hw.devs
 have hL:∀(q:List Report) (k:Nat) (acc:Int),rs.drop k=q->0<=acc->acc+q.length<=100->okP (Ya p ly ps b q k acc) (YB (fun c=>c.2=true->0<=c.1∧c.1<=100) (fun s=>0<=s∧s<=100)):=by
  intro q
  induction q with
  |nil=>intro k acc _ h1 h2;exact Jf ⟨h1,by simpa using h2⟩
  |cons r q ih=>
   intro k acc hd h1 h2
   obtain⟨d1,d2,d3⟩:=Qe hd
   have hlc:(r::q).length=q.length+1:=rfl
   rw [Ya]
   refine Ji (JnX hw h hps (i:=k) (by omega) (hr k r d1)) (fun c hc=> ?_)
   rw [JM (by omega) (by omega)]
   refine Jh (fun _=>Jf (fun e=>by cases e)) (fun _=> ?_)
   refine Jh (fun _=>Jf (fun e=>by cases e)) (fun _=>ih (k+1) _ d2 (by omega) (by omega))
 unfold Z3
 exact JhO (hL rs 0 0 rfl (by omega) (by omega)) (fun s hs=>Jf (fun _=>hs))
theorem Jmo (hw:LayW zs ly) {P:Nat->Int->Prop} (h:PlW ly P p) (hps:ps.length=40) {gl:List Fault} (hg:∀f∈gl,GlitchW ly p ps f) (h1:gl.length<=1) {rs:List Report} (hrl:rs.length=ly.Devices.length) (hr:∀i x,rs[i]? =some x->JrB ly p ps gl i x) (b:Belief) (hb:(gl.length:Int)<=b.Budget):
  okP (Z3 p rs ly ps b) (fun c=>c.2=true∧0<=c.1∧c.1<=gl.length):=by
 have hdl:=hw.devs
 have hL:∀(q:List Report) (k:Nat) (acc:Int),rs.drop k=q->0<=acc->acc<=gl.length->(∀f∈gl,(k:Int)<=f.Node->acc=0)->okP (Ya p ly ps b q k acc) (YB (fun _=>False) (fun s=>0<=s∧s<=gl.length)):=by
  intro q
  induction q with
  |nil=>intro k acc _ h1 h2 _;exact Jf ⟨h1,h2⟩
  |cons r q ih=>
   intro k acc hd h2 h3 h4
   obtain⟨d1,d2,d3⟩:=Qe hd
   obtain⟨hrd,hrr⟩:=hr k r d1
   rw [Ya]
   refine Ji (JnX hw h hps (i:=k) (by omega) hrd) (fun c hc=> ?_)
   obtain⟨c0,c1,c2,c3⟩:=hc
   rw [JM (by omega) (by omega)]
   have key:c.2=true∧acc+c.1<=gl.length∧∀f∈gl,((k+1:Nat):Int)<=f.Node->acc+c.1=0:=by
    rcases hrr with e |⟨f,hf,e1,e2⟩
    .
     have:=c2 e
     rw [this]
     refine⟨rfl,by show acc+0<=_;omega,fun f hf hk=> ?_⟩
     have:=h4 f hf (by omega)
     show acc+0=0
     omega
    .
     have g:=hg f hf
     have gm:=g.may
     rw [e1,Int.toNat_natCast] at gm
     have hc2:=c3 f.Kind f.Window g.k3 g.k6 gm g.w0 g.w1 e2
     have hacc:=h4 f hf (by omega)
     have hpos:1<=gl.length:=List.length_pos_of_mem hf
     refine⟨hc2,by omega,fun f' hf' hk=> ?_⟩
     match gl,h1,hf,hf' with
     |[g0],_,hf,hf'=>
      rw [List.mem_singleton] at hf hf'
      rw [hf',<-hf,e1] at hk
      omega
   rw [key.1,Bool.not_true,cond_false,We (by omega),cond_false]
   exact ih (k+1) _ d2 (by omega) key.2.1 key.2.2
 unfold Z3
 exact Q6 (hL rs 0 0 rfl (by omega) (by omega) (fun _ _ _=>rfl)) (fun s hs=>Jf ⟨rfl,hs.1,hs.2⟩)
end Go.Proofs.YtehhohbnhcogkaaGreatDoor.Ex
namespace Go.Proofs.YtehhohbnhcogkaaGreatDoor.Ex
open Go.RowKit Go.Proofs.YtehhohbnhcogkaaGreatDoor.Ax
theorem Jjs:∀s,Jbn s s=0
 |[]=>rfl
 |a::s=>by
  unfold Jbn
  rw [if_neg (by omega),if_neg (by omega)]
  exact Jjs s
theorem Jik:∀s t u,Jbn s t<0->Jbn t u<0->Jbn s u<0
 |[],[],_,h,_=>by simp [Jbn] at h
 |[],_::_,[],_,h=>by simp [Jbn] at h
 |[],_::_,_::_,_,_=>by simp [Jbn]
 |_::_,[],_,h,_=>by simp [Jbn] at h
 |_::_,_::_,[],_,h=>by simp [Jbn] at h
 |a::s,b::t,c::u,h,k=>by
  unfold Jbn at h k ⊢
  by_cases h1:a<b
  .
   by_cases k1:b<c
   . rw [if_pos (by omega)];decide
   .
    rw [if_neg k1] at k
    by_cases k2:c<b
    . rw [if_pos k2] at k;omega
    . rw [if_pos (by omega)];decide
  .
   rw [if_neg h1] at h
   by_cases h2:b<a
   . rw [if_pos h2] at h;omega
   .
    rw [if_neg h2] at h
    have hab:a=b:=by omega
    subst hab
    by_cases k1:a<c
    . rw [if_pos k1];decide
    .
     rw [if_neg k1] at k ⊢
     by_cases k2:c<a
     . rw [if_pos k2] at k;omega
     .
      rw [if_neg k2] at k ⊢
      exact Jik s t u h k
theorem Jhj:∀s t u,¬Jbn s t<0->¬Jbn t u<0->¬Jbn s u<0
 |[],[],[],_,_=>by simp [Jbn]
 |[],[],_::_,_,k=>by simp [Jbn] at k
 |[],_::_,_,h,_=>by simp [Jbn] at h
 |_::_,[],[],_,_=>by simp [Jbn]
 |_::_,[],_::_,_,k=>by simp [Jbn] at k
 |_::_,_::_,[],_,_=>by simp [Jbn]
 |a::s,b::t,c::u,h,k=>by
  unfold Jbn at h k ⊢
  by_cases h1:a<b
  . rw [if_pos h1] at h;omega
  .
   rw [if_neg h1] at h
   by_cases k1:b<c
   . rw [if_pos k1] at k;omega
   .
    rw [if_neg k1] at k
    rw [if_neg (by omega)]
    by_cases h2:b<a
    . rw [if_pos (by omega)];decide
    .
     by_cases k2:c<b
     . rw [if_pos (by omega)];decide
     .
      rw [if_neg h2] at h
      rw [if_neg k2] at k
      rw [if_neg (by omega)]
      exact Jhj s t u h k
theorem JhS:Go.Sort.SWO (Go.Proofs.ltOf Jgw) where
 irrefl x:=by simp [Go.Proofs.ltOf,Jgw,Jjs]
 trans x y z h1 h2:=Wd (Jik _ _ _ (Wt h1) (Wt h2))
 ntrans x y z h1 h2:=We (Jhj _ _ _ (Wf h1) (Wf h2))
variable {zs:Nat->Int} {ly:Layout} {n:Nat} {p:Plant}
def JfT (l:List (List Int)):List Int:=(l.map fun b=>(b.length:Int)::b).flatten
def JdV (p:Plant):List Int:=p.Slots.flatten++JfT p.Bins
theorem JpU {α:Type} (f:α->Nat) (c:Nat):∀l:List α,(∀x∈l,f x<=c)->(l.map f).sum<=c*l.length
 |[],_=>by simp
 |a::l,h=>by
  have h1:=h a (List.mem_cons_self ..)
  have h2:=JpU f c l (fun x hx=>h x (List.mem_cons_of_mem _ hx))
  simp only [List.map_cons,List.sum_cons,List.length_cons,Nat.mul_add]
  omega
theorem JnO:∀(q:List (List Int)) (k:Nat) (a:List Int),a.length+(q.map List.length).sum<=1000000->Z2 q k a=some (.brk (a++q.flatten))
 |[],k,a,_=>by simp [Z2]
 |r::q,k,a,h=>by
  simp only [List.map_cons,List.sum_cons] at h
  rw [Z2,QZ (by omega),Wo,JnO q (k+1) _ (by simp;omega)]
  simp
theorem JnN:∀(q:List (List Int)) (k:Nat) (a:List Int),a.length+(q.map List.length).sum+q.length<=1000000->Z1 q k a=some (.brk (a++JfT q))
 |[],k,a,_=>by simp [Z1,JfT]
 |r::q,k,a,h=>by
  simp only [List.map_cons,List.sum_cons,List.length_cons] at h
  rw [Z1,QZ (by simp;omega),Wo,QZ (by simp;omega),Wo,JnN q (k+1) _ (by simp;omega)]
  simp [JfT]
theorem Jnl (hw:LayW zs ly) (h:PlOk ly n p):(p.Slots.map List.length).sum<=44∧(p.Bins.map List.length).sum<=n∧p.Bins.length<=11:=by
 have hn:=hw.n11
 have h1:=JpU List.length 4 p.Slots (fun s hs=>by
  obtain⟨i,hi,rfl⟩:=List.getElem_of_mem hs
  exact PlOk.slotlen hw h.w (Wg hi))
 have h2:=h.c
 have h3:=h.w.ls
 have h4:=h.w.lb
 unfold cnt at h2
 omega
theorem Jkx (hw:LayW zs ly) (hn:n<=3) (h:PlOk ly n p):Ja8 p=some (JdV p):=by
 obtain⟨h1,h2,h3⟩:=Jnl hw h
 unfold Ja8
 rw [JnO p.Slots 0 [] (by simp;omega),Zv rfl,List.nil_append,JnN p.Bins 0 _ (by simp [List.length_flatten];omega),Zv rfl]
 rfl
theorem JjB:∀l:List (List Int),(JfT l).length=(l.map List.length).sum+l.length
 |[]=>rfl
 |r::l=>by
  have:=JjB l
  simp only [JfT,List.map_cons,List.flatten_cons,List.length_append,List.length_cons,List.sum_cons] at this ⊢
  omega
theorem Jg6 (hw:LayW zs ly) (hn:n<=3) (h:PlOk ly n p):(JdV p).length<=100∧∀v∈JdV p,0<=v∧v<=9:=by
 obtain⟨h1,h2,h3⟩:=Jnl hw h
 refine⟨?_,fun v hv=> ?_⟩
 .
  unfold JdV
  rw [List.length_append,JjB,List.length_flatten]
  omega
 .
  unfold JdV at hv
  rw [List.mem_append] at hv
  rcases hv with hv |hv
  .
   rw [List.mem_flatten] at hv
   obtain⟨s,hs,hv⟩:=hv
   obtain⟨i,hi,rfl⟩:=List.getElem_of_mem hs
   have:=h.w.vs i _ (Wg hi) v hv
   omega
  .
   unfold JfT at hv
   rw [List.mem_flatten] at hv
   obtain⟨s,hs,hv⟩:=hv
   rw [List.mem_map] at hs
   obtain⟨b,hb,rfl⟩:=hs
   obtain⟨i,hi,rfl⟩:=List.getElem_of_mem hb
   rw [List.mem_cons] at hv
   rcases hv with rfl |hv
   .
    have:=h.binlen (Wg hi)
    omega
   .
    have:=h.w.vb i _ (Wg hi) v hv
    omega
theorem JjA:∀(a b:List (List Int)) (x y:List Int),a.length=b.length->(∀(i:Nat) (s t:List Int),a[i]? =some s->b[i]? =some t->s.length=t.length)->a.flatten++x=b.flatten++y->a=b∧x=y
 |[],[],x,y,_,_,h=>⟨rfl,by simpa using h⟩
 |[],_::_,_,_,h,_,_=>by simp at h
 |_::_,[],_,_,h,_,_=>by simp at h
 |r::a,s::b,x,y,hl,hr,h=>by
  rw [List.flatten_cons,List.flatten_cons,List.append_assoc,List.append_assoc] at h
  obtain⟨h1,h2⟩:=List.append_inj h (hr 0 r s rfl rfl)
  obtain⟨h3,h4⟩:=JjA a b x y (by simpa using hl) (fun i s t hs ht=>hr (i+1) s t (by simpa using hs) (by simpa using ht)) h2
  exact⟨by rw [h1,h3],h4⟩
theorem JjC:∀(a b:List (List Int)),a.length=b.length->JfT a=JfT b->a=b
 |[],[],_,_=>rfl
 |[],_::_,h,_=>by simp at h
 |_::_,[],h,_=>by simp at h
 |r::a,s::b,hl,h=>by
  simp only [JfT,List.map_cons,List.flatten_cons,List.cons_append,List.cons.injEq] at h
  obtain⟨h1,h2⟩:=List.append_inj h.2 (by omega)
  rw [h1,JjC a b (by simpa using hl) h2]
theorem JqW {m:Nat} {q:Plant} (hp:PlOk ly n p) (hq:PlOk ly m q) (h:JdV p=JdV q):p=q:=by
 unfold JdV at h
 obtain⟨h1,h2⟩:=JjA p.Slots q.Slots _ _ (by rw [hp.w.ls,hq.w.ls]) (fun i s t hs ht=>by
  obtain⟨x,hx⟩:=YO (l:=ly.Nodes) (k:=i) (by rw [<-hp.w.ls];exact JT hs)
  have a:=hp.w.lens i x s hx hs
  have b:=hq.w.lens i x t hx ht
  omega) h
 have h3:=JjC p.Bins q.Bins (by rw [hp.w.lb,hq.w.lb]) h2
 cases p
 cases q
 simp only at h1 h3
 rw [h1,h3]
def JgZ:List Int->List UInt8
 |[]=>[]
 |n::ns=>UInt8.ofNat (48+n.toNat)::32::JgZ ns
theorem Jnw:∀l:List Int,(∀v∈l,0<=v∧v<=9)->JoA l=some (JgZ l)
 |[],_=>rfl
 |n::ns,h=>by
  have hn:=h n (List.mem_cons_self ..)
  rw [JoA,Jnw ns (fun v hv=>h v (List.mem_cons_of_mem _ hv))]
  unfold JnD
  rw [Wd hn.1,Wd (show n<100 by omega),Wd (show n<10 by omega)]
  rfl
theorem JlF:∀l:List Int,(JgZ l).length=2*l.length
 |[]=>rfl
 |n::ns=>by rw [JgZ,List.length_cons,List.length_cons,JlF ns,List.length_cons];omega
theorem Js4:∀i j:Fin 10,UInt8.ofNat (48+i.val)=UInt8.ofNat (48+j.val)->i=j:=by decide
theorem JlG:∀a b:List Int,(∀v∈a,0<=v∧v<=9)->(∀v∈b,0<=v∧v<=9)->JgZ a=JgZ b->a=b
 |[],[],_,_,_=>rfl
 |[],_::_,_,_,h=>by simp [JgZ] at h
 |_::_,[],_,_,h=>by simp [JgZ] at h
 |m::a,n::b,ha,hb,h=>by
  have hm:=ha m (List.mem_cons_self ..)
  have hn:=hb n (List.mem_cons_self ..)
  simp only [JgZ,List.cons.injEq,true_and] at h
  have:=Js4 ⟨m.toNat,by omega⟩ ⟨n.toNat,by omega⟩ h.1
  have:m.toNat=n.toNat:=by simpa using this
  rw [JlG a b (fun v hv=>ha v (List.mem_cons_of_mem _ hv)) (fun v hv=>hb v (List.mem_cons_of_mem _ hv)) h.2,show m=n by omega]
def JgY (p:Plant):ByteArray:=⟨(JgZ (JdV p)).toArray⟩
theorem JuT (hw:LayW zs ly) (hn:n<=3) (h:PlOk ly n p):JuU (JdV p)=some (JgY p)∧(JgY p).size<=200:=by
 obtain⟨h1,h2⟩:=Jg6 hw hn h
 have h3:=JlF (JdV p)
 unfold JuU
 rw [Jnw _ h2,Wo,Wd (by omega)]
 refine⟨rfl,?_⟩
 show (JgZ (JdV p)).toArray.size<=200
 rw [List.size_toArray]
 omega
theorem JsQ (hw:LayW zs ly) {m:Nat} (hn:n<=3) (hm:m<=3) {q:Plant} (hp:PlOk ly n p) (hq:PlOk ly m q) (h:JgY p=JgY q):p=q:=by
 unfold JgY at h
 have h:(JgZ (JdV p)).toArray=(JgZ (JdV q)).toArray:=by
  injection h
 exact JqW hp hq (JlG _ _ (Jg6 hw hn hp).2 (Jg6 hw hm hq).2 (by simpa using h))
def Jfz (ly:Layout) (n:Nat) (b:Int) (h:Hypothesis):Prop:=PlOk ly n h.Plant∧0<=h.Used∧h.Used<=b
structure ColI (ly:Layout) (n:Nat) (b:Int) (m:List (ByteArray×Int)) (l:List Hypothesis):Prop where
 hyp:∀h∈l,Jfz ly n b h
 len:m.length=l.length
 idx:∀k,Jfb m k=true->∃(j:Nat) (h:Hypothesis),Y1 m k 0=(j:Int)∧l[j]? =some h∧JgY h.Plant=k
def Jcz (l:List Hypothesis) (p:Plant) (u:Int):Prop:=∃h∈l,h.Plant=p∧h.Used<=u
theorem Jl5 (ly:Layout) (n:Nat) (b:Int):ColI ly n b [] []:=⟨by simp,rfl,fun k h=>by simp [Jfb] at h⟩
theorem Jru (a b:ByteArray):(a==b)=decide (a=b):=by
 cases a with
 |mk x=>
 cases b with
 |mk y=>
 rw [Bool.eq_iff_iff,decide_eq_true_eq,ByteArray.mk.injEq]
 show (x==y)=true↔x=y
 exact beq_iff_eq
theorem JmI {m:List (ByteArray×Int)} {k k':ByteArray} {v:Int}:Jfb ((k',v)::m) k=(k'==k||Jfb m k):=rfl
theorem Jrz (hw:LayW zs ly) (hn:n<=3) {b:Int} (hb:b<=2) {m:List (ByteArray×Int)} {l:List Hypothesis} (hI:ColI ly n b m l) (hl:l.length<=1000) (hp:PlOk ly n p) {u:Int} (hu0:0<=u) (hub:u<=b):
  okP (Q7 m l p u) (fun r=>ColI ly n b r.1 r.2∧l.length<=r.2.length∧r.2.length<=l.length+1∧Jcz r.2 p u∧∀q v,Jcz l q v->Jcz r.2 q v):=by
 obtain⟨hk,hks⟩:=JuT hw hn hp
 have hlm:=hI.len
 unfold Q7
 rw [Jkx hw hn hp,Wo,hk,Wo]
 have hwS:wS (JgY p)=true:=by
  unfold wS maxLen
  exact Wd (by omega)
 unfold Jgq
 rw [hwS,cond_true,Wo]
 refine Jh (fun c=> ?_) (fun c=> ?_)
 .
  have c:Jfb m (JgY p)=false:=by simpa using c
  have hput:JcY wS wI m (JgY p) (l.length:Int)=some ((JgY p,(l.length:Int))::m):=by
   unfold JcY
   rw [hwS,Jja (by omega) (by omega),Wd (by omega)]
   rfl
  rw [hput,Wo,QZ (by simp;omega),Wo]
  refine Jf ⟨⟨fun h hh=> ?_,by simp [hlm],fun k hk2=> ?_⟩,by simp,by simp,⟨⟨u,p⟩,by simp,rfl,Int.le_refl u⟩,fun q v ⟨h,h1,h2⟩=>⟨h,List.mem_append_left _ h1,h2⟩⟩
  .
   rw [List.mem_append,List.mem_singleton] at hh
   rcases hh with hh |rfl
   . exact hI.hyp h hh
   . exact⟨hp,hu0,hub⟩
  .
   by_cases e:JgY p=k
   .
    subst e
    refine⟨l.length,⟨u,p⟩,?_,by simp,rfl⟩
    simp [Y1,Jru]
   .
    have hne:(JgY p==k)=false:=by rw [Jru];exact We e
    rw [JmI,hne,Bool.false_or] at hk2
    obtain⟨j,h,g1,g2,g3⟩:=hI.idx k hk2
    refine⟨j,h,?_,?_,g3⟩
    . rw [Y1,hne,cond_false,g1]
    . rw [Wc (JT g2)];exact g2
 .
  have c:Jfb m (JgY p)=true:=by simpa using c
  obtain⟨j,h,g1,g2,g3⟩:=hI.idx _ c
  have hh:=hI.hyp h (ZL g2)
  have hpe:h.Plant=p:=JsQ hw hn hn hh.1 hp g3
  rw [g1,JG g2,Wo,Int.toNat_natCast]
  generalize hmin:(if u<h.Used then u else h.Used)=w
  have hw1:w<=u∧w<=h.Used∧0<=w:=by
   have:=hh.2
   rw [<-hmin]
   split<;>omega
  have hjl:=JT g2
  refine Jf ⟨⟨fun x hx=> ?_,by simpa using hlm,fun k hk2=> ?_⟩,by simp,by simp,⟨{ h with Used:=w },?_,hpe,hw1.1⟩,fun q v ⟨x,h1,h2,h3⟩=> ?_⟩
  .
   rcases JeC hx with hx |rfl
   . exact hI.hyp x hx
   . exact⟨hh.1,hw1.2.2,by show w<=b;omega⟩
  .
   obtain⟨i,x,e1,e2,e3⟩:=hI.idx k hk2
   by_cases e:j=i
   .
    subst e
    rw [g2] at e2
    cases e2
    exact⟨j,{ h with Used:=w },e1,by rw [List.getElem?_set_self hjl],e3⟩
   . exact⟨i,x,e1,by rw [List.getElem?_set_ne e];exact e2,e3⟩
  . exact Wm (List.getElem?_set_self hjl)
  .
   obtain⟨i,hi,rfl⟩:=List.getElem_of_mem h1
   by_cases e:j=i
   .
    subst e
    have:l[j]=h:=by rw [Wg hjl] at g2;exact Wi g2
    rw [this] at h2 h3
    exact⟨{ h with Used:=w },Wm (List.getElem?_set_self hjl),h2,by show w<=v;omega⟩
   . exact⟨l[i],Wm (by rw [List.getElem?_set_ne e,Wg hi]),h2,h3⟩
theorem Js7 (x y:Int):JaR x y=some (if x<y then -1 else if y<x then 1 else 0):=by
 unfold JaR Z5
 rw [bne_self_eq_false,bne_self_eq_false,Wo,Wo,cond_false,cond_false]
 by_cases c1:x<y
 . rw [Wd c1,if_pos c1];rfl
 .
  rw [We c1,if_neg c1,cond_false]
  by_cases c2:y<x
  . rw [Wd c2,if_pos c2];rfl
  . rw [We c2,if_neg c2];rfl
theorem JjL (b:List Int):∀(q:List Int) (k:Nat),k<=b.length->(QF b q k=some (.ret (Jbn q (b.drop k))))∨(QF b q k=some (.brk ())∧q.length<=(b.drop k).length∧Jbn q (b.drop k)=if q.length<(b.drop k).length then -1 else 0)
 |[],k,hk=> .inr ⟨rfl,by simp,by
   cases h:b.drop k with
   |nil=>rfl
   |cons a s=>simp [Jbn]⟩
 |e::q,k,hk=>by
  rw [QF]
  by_cases c:b.length<=k
  .
   left
   rw [Wd (by omega),cond_true,List.drop_of_length_le c]
   rfl
  .
   obtain⟨x,hx⟩:=YO (l:=b) (k:=k) (by omega)
   have hd:b.drop k=x::b.drop (k+1):=Jl hx
   rw [We (by omega),cond_false,JG hx,Wo,Js7,Wo,hd]
   by_cases c1:e<x
   .
    left
    rw [if_pos c1]
    simp [Jbn,c1]
   .
    rw [if_neg c1]
    by_cases c2:x<e
    .
     left
     rw [if_pos c2]
     simp [Jbn,c1,c2]
    .
     rw [if_neg c2]
     have hlex:Jbn (e::q) (x::b.drop (k+1))=Jbn q (b.drop (k+1)):=by rw [Jbn,if_neg c1,if_neg c2]
     rw [hlex]
     rcases JjL b q (k+1) (by omega) with h |⟨h1,h2,h3⟩
     .
      left
      rw [h];rfl
     .
      right
      refine⟨by rw [h1];rfl,by simp only [List.length_cons];omega,?_⟩
      rw [h3]
      simp only [List.length_cons]
      split<;>split<;>omega
theorem JmW (a b:List Int):Jac a b=some (Jbn a b):=by
 unfold Jac
 rcases JjL b a 0 (by omega) with h |⟨h1,h2,h3⟩
 . rw [h];rfl
 .
  rw [h1,Zv rfl]
  rw [List.drop_zero] at h2 h3
  rw [h3]
  by_cases c:a.length<b.length
  . rw [Wd (by omega),if_pos c];rfl
  . rw [We (by omega),if_neg c];rfl
theorem JjN (hw:LayW zs ly) (hn:n<=3) {b:Int} {l:List Hypothesis} (hl:∀h∈l,Jfz ly n b h) (hlen:l.length<=1000) (bud:Int):
  okP (Q3 l bud) (fun r=>r.Budget=bud∧r.L.Perm l):=by
 have hc:(l.all fun x=>l.all fun y=>decide (JV x y=some (Jgw x y)))=true:=by
  rw [List.all_eq_true]
  intro x hx
  rw [List.all_eq_true]
  intro y hy
  apply Wd
  unfold JV Jgw JqZ
  rw [Jkx hw hn (hl x hx).1,Jkx hw hn (hl y hy).1,Wo,Wo,JmW]
  rfl
 unfold Q3
 rw [hc,cond_true]
 have hs:okP (Jjh Jgw l) (fun r=>r.Perm l):=by
  unfold Jjh
  match l,hlen with
  |[],_=>exact Jf (List.Perm.refl _)
  |x0::t,hlen=>
   simp only
   rw [if_pos (by omega)]
   have hO:Go.Sort.SWO (Go.Proofs.ltOf fun i j=>Jgw (atL (x0::t) x0 i) (atL (x0::t) x0 j)):=⟨fun x=>JhS.irrefl _,fun x y z=>JhS.trans _ _ _,fun x y z=>JhS.ntrans _ _ _⟩
   exact Jf (Jms (Jll hO (x0::t).length).1)
 exact Ji hs (fun r hr=>Jf ⟨rfl,hr⟩)
end Go.Proofs.YtehhohbnhcogkaaGreatDoor.Ex
namespace Go.Proofs.YtehhohbnhcogkaaGreatDoor.Ex
open Go.RowKit Go.Proofs.YtehhohbnhcogkaaGreatDoor.Ax
variable {l:List Hypothesis} {p:Plant} {u:Int} {zs:Nat->Int} {ly:Layout} {n:Nat} {b:Belief}
structure BelOk (ly:Layout) (n:Nat) (b:Belief):Prop where
 b0:0<=b.Budget
 b2:b.Budget<=2
 hyp:∀h∈b.L,Jfz ly n b.Budget h
 len:b.L.length<=40
theorem Jcz.mono {v:Int} (h:Jcz l p u) (huv:u<=v):Jcz l p v:=by
 obtain⟨x,h1,h2,h3⟩:=h
 exact⟨x,h1,h2,by omega⟩
theorem Jcz.perm {r:List Hypothesis} (h:Jcz l p u) (hp:r.Perm l):Jcz r p u:=by
 obtain⟨x,h1,h2,h3⟩:=h
 exact⟨x,hp.mem_iff.2 h1,h2,h3⟩
theorem Jq5 (hw:LayW zs ly) (hn:n<=2) (h:PlOk ly n p):okP (YH ly p 0 ((n+1:Nat):Int)) (fun r=>r.2=0->PlOk ly (n+1) r.1):=by
 have hc:=h.c
 refine Qx (Jl0 hw h.w (by omega) (b:=((n+1:Nat):Int)) (by omega) (by omega)) (fun r hr e=> ?_)
 obtain⟨h1,h2⟩:=hr e
 exact⟨h1 _ (h.w.mono (fun _ v hv=>⟨hv.1,by omega⟩)) ⟨by omega,by omega⟩,by omega⟩
theorem Jg0 {zs:Nat->Int} {ly:Layout} (hw:LayW zs ly) {n:Nat} (hn:n<=2) {b:Int} (hb:b<=2):∀(q:List Hypothesis) (m:List (ByteArray×Int)) (l:List Hypothesis),(∀h∈q,Jfz ly n b h)->ColI ly (n+1) b m l->l.length+q.length<=40->
  okP (Jff ly 0 ((n+1:Nat):Int) q m l) (fun r=>ColI ly (n+1) b r.1 r.2∧r.2.length<=l.length+q.length∧(∀p v,Jcz l p v->Jcz r.2 p v)∧∀h∈q,∀p,YH ly h.Plant 0 ((n+1:Nat):Int)=some (p,0)->Jcz r.2 p h.Used)
 |[],m,l,_,hI,hl=>Jf ⟨hI,by simp,fun _ _ h=>h,by simp⟩
 |h::q,m,l,hq,hI,hl=>by
  have hh:=hq h (List.mem_cons_self ..)
  have hq':∀h∈q,Jfz ly n b h:=fun x hx=>hq x (List.mem_cons_of_mem _ hx)
  have hlc:(h::q).length=q.length+1:=rfl
  obtain⟨r,hr,hr2⟩:=Jq5 hw hn hh.1
  have hf1:Jba h.Plant ly 0 ((n+1:Nat):Int)=some (r.1,(r.2==0)):=by
   unfold Jba
   rw [hr]
   rfl
  rw [Jff,hf1,Wo]
  refine Jh (fun c=> ?_) (fun c=> ?_)
  .
   have c:r.2=0:=eq_of_beq c
   refine Ji (Jrz hw (show n+1<=3 by omega) hb hI (by omega) (hr2 c) hh.2.1 hh.2.2) (fun ml hml=> ?_)
   obtain⟨g1,g2,g3,g4,g5⟩:=hml
   refine Qx (Jg0 hw hn hb q ml.1 ml.2 hq' g1 (by omega)) (fun s hs=>⟨hs.1,by have:=hs.2.1;omega,fun p v hv=>hs.2.2.1 p v (g5 p v hv),fun x hx p hp=> ?_⟩)
   rw [List.mem_cons] at hx
   rcases hx with rfl |hx
   .
    rw [hr] at hp
    cases hp
    exact hs.2.2.1 _ _ g4
   . exact hs.2.2.2 x hx p hp
  .
   refine Qx (Jg0 hw hn hb q m l hq' hI (by omega)) (fun s hs=>⟨hs.1,by have:=hs.2.1;omega,hs.2.2.1,fun x hx p hp=> ?_⟩)
   rw [List.mem_cons] at hx
   rcases hx with rfl |hx
   .
    rw [hr] at hp
    cases hp
    cases c
   . exact hs.2.2.2 x hx p hp
theorem JoF (hw:LayW zs ly) (hn:n<=2) (hb:BelOk ly n b) {q:Plant} (hh:Jcz b.L p u) (he:YH ly p 0 ((n+1:Nat):Int)=some (q,0)):
  okP (Jbb ly b 0 ((n+1:Nat):Int)) (fun r=>r.2=0∧BelOk ly (n+1) r.1∧r.1.Budget=b.Budget∧Jcz r.1.L q u):=by
 have hn1:=hw.n1
 obtain⟨x,hx⟩:=YO (l:=ly.Nodes) (k:=0) (by omega)
 have hk:=(hw.nodes 0 x hx).entry.2 rfl
 have hb2:=hb.b2
 have hbl:=hb.len
 unfold Jbb
 rw [We (show ¬(0:Int)<0 by omega),cond_false,We (show ¬((ly.Nodes.length:Nat):Int)<=0 by omega),cond_false,We (show ¬((n+1:Nat):Int)<1 by omega),cond_false,We (show ¬40<((n+1:Nat):Int) by omega),cond_false,JaN (i:=0) 0 rfl hx,Wo,hk]
 show okP ((Jdy b ly 0 ((n+1:Nat):Int)).bind _) _
 unfold Jdy
 obtain⟨ml,hml,g1,g2,g3,g4⟩:=Jg0 hw hn hb2 b.L [] [] hb.hyp (Jl5 ly (n+1) b.Budget) (by simpa using hbl)
 rw [hml,Wo]
 have hhas:Jcz ml.2 q u:=by
  obtain⟨h,h1,h2,h3⟩:=hh
  exact(g4 h h1 q (by rw [h2];exact he)).mono h3
 have hpos:((ml.2.length:Int)==0)=false:=by
  obtain⟨h,h1,_⟩:=hhas
  have:=List.length_pos_of_mem h1
  simp
  intro e
  rw [e] at h1
  simp at h1
 simp only [List.length_nil,Nat.zero_add] at g2
 rw [hpos,cond_false]
 obtain⟨r,hr,hr1,hr2⟩:=JjN hw (show n+1<=3 by omega) g1.hyp (by omega) b.Budget
 rw [hr]
 refine Jf ⟨rfl,⟨by show 0<=r.Budget;rw [hr1];exact hb.b0,by show r.Budget<=2;rw [hr1];exact hb2,fun h hh=> ?_,by show r.L.length<=40;rw [hr2.length_eq];omega⟩,hr1,hhas.perm hr2⟩
 show Jfz ly (n+1) r.Budget h
 rw [hr1]
 exact g1.hyp h (hr2.mem_iff.1 hh)
def Jd7 (rs:List Report) (ly:Layout) (ps:List Plate) (b:Belief) (cs:List Int) (bud:Int) (h:Hypothesis) (fs:List Fault) (l:List Hypothesis):Prop:=
 ∀q mv c,J6 (JQ ly) h.Plant cs fs=some (q,mv)->Z3 q rs ly ps b=some c->c.2=true->h.Used+fs.length+c.1<=bud->Jcz l q (h.Used+fs.length+c.1)
theorem Jd7.mono {rs:List Report} {ps:List Plate} {cs:List Int} {bud:Int} {h:Hypothesis} {fs:List Fault} {r:List Hypothesis} (ha:Jd7 rs ly ps b cs bud h fs l) (hlr:∀q v,Jcz l q v->Jcz r q v):Jd7 rs ly ps b cs bud h fs r:=fun q mv c h1 h2 h3 h4=>hlr _ _ (ha q mv c h1 h2 h3 h4)
structure EachR (ly:Layout) (n:Nat) (bud:Int) (l:List Hypothesis) (r:List (ByteArray×Int)×List Hypothesis):Prop where
 col:ColI ly n bud r.1 r.2
 le:l.length<=r.2.length
 le41:r.2.length<=41
 mono:∀q v,Jcz l q v->Jcz r.2 q v
theorem EachR.trans {bud:Int} {r s:List (ByteArray×Int)×List Hypothesis} (h:EachR ly n bud l r) (k:EachR ly n bud r.2 s):EachR ly n bud l s:=⟨k.col,Nat.le_trans h.le k.le,k.le41,fun q v hv=>k.mono q v (h.mono q v hv)⟩
theorem Jhb {ly:Layout} {n:Nat} {bud:Int} (rec':List Fault->List Fault->List (ByteArray×Int)->List Hypothesis->Option (List (ByteArray×Int)×List Hypothesis)) (fs:List Fault) (A:List Fault->List Hypothesis->Prop) (hA:∀g l r,A g l->(∀q v,Jcz l q v->Jcz r q v)->A g r) (hfs:∀f∈fs,FaultW ly f) (F:Nat)
  (hrec:∀(q g:List Fault) (m:List (ByteArray×Int)) (l:List Hypothesis),q.length<F->(∀f∈q,FaultW ly f)->(∀f∈g,FaultW ly f)->g.length+q.length<=1000->ColI ly n bud m l->l.length<=41->okP (rec' q g m l) (fun r=>EachR ly n bud l r∧(r.2.length<=40->A g r.2))):
  ∀(q:List Fault) (m:List (ByteArray×Int)) (l:List Hypothesis),q.length<=F->(∀f∈q,FaultW ly f)->fs.length+q.length<=1000->ColI ly n bud m l->l.length<=41->
  okP (Jcf rec' fs q m l) (fun r=>EachR ly n bud l r∧(r.2.length<=40->∀f∈q,fs.any (JgG f)=false->A (fs++[f]) r.2))
 |[],m,l,_,_,_,hI,hl=>Jf ⟨⟨hI,Nat.le_refl _,hl,fun _ _ h=>h⟩,fun _ f hf=>by simp at hf⟩
 |f::q,m,l,h1,h2,h3,hI,hl=>by
  have hlc:(f::q).length=q.length+1:=rfl
  have h2':∀g∈q,FaultW ly g:=fun g hg=>h2 g (List.mem_cons_of_mem _ hg)
  rw [Jcf,Ji4,Wo]
  refine Jh (fun c=> ?_) (fun c=> ?_)
  .
   have c:fs.any (JgG f)=false:=by simpa using c
   unfold JaJ
   rw [QZ (by simp;omega),Wo,List.nil_append,QZ (by simp;omega),Wo]
   refine Ji (hrec q (fs++[f]) m l (by omega) h2' (fun g hg=> ?_) (by simp;omega) hI hl) (fun ml hml=> ?_)
   .
    rw [List.mem_append,List.mem_singleton] at hg
    rcases hg with hg |rfl
    . exact hfs g hg
    . exact h2 _ (List.mem_cons_self ..)
   .
    refine Qx (Jhb rec' fs A hA hfs F hrec q ml.1 ml.2 (by omega) h2' (by omega) hml.1.col hml.1.le41) (fun r hr=>⟨hml.1.trans hr.1,fun h40 g hg hgn=> ?_⟩)
    rw [List.mem_cons] at hg
    rcases hg with rfl |hg
    . exact hA _ _ _ (hml.2 (Nat.le_trans hr.1.le h40)) hr.1.mono
    . exact hr.2 h40 g hg hgn
  .
   have c:fs.any (JgG f)=true:=by simpa using c
   refine Qx (Jhb rec' fs A hA hfs F hrec q m l (by omega) h2' (by omega) hI hl) (fun r hr=>⟨hr.1,fun h40 g hg hgn=> ?_⟩)
   rw [List.mem_cons] at hg
   rcases hg with rfl |hg
   . rw [c] at hgn;cases hgn
   . exact hr.2 h40 g hg hgn
theorem JnQ {zs:Nat->Int} {ly:Layout} (hw:LayW zs ly) {n:Nat} (hn:n<=3) {rs:List Report} (hrl:rs.length=ly.Devices.length) (hrd:∀(i:Nat) (x:Report),rs[i]? =some x->x.Device=(i:Int)) {ps:List Plate} (hps:ps.length=40) (b:Belief) {cs:List Int} (hc:CmdsW ly cs) {bud:Int} (hbud:bud<=2) {h:Hypothesis} (hh:Jfz ly n bud h):
  ∀(F:Nat) (others fs:List Fault) (m:List (ByteArray×Int)) (l:List Hypothesis),others.length<F->(∀f∈others,FaultW ly f)->(∀f∈fs,FaultW ly f)->fs.length+others.length<=1000->ColI ly n bud m l->l.length<=41->
  okP (Qz rs ly ps b (JQ ly) cs bud h F others fs m l) (fun r=>EachR ly n bud l r∧(r.2.length<=40->Jd7 rs ly ps b cs bud h fs r.2∧(h.Used+fs.length<bud->∀f∈others,fs.any (JgG f)=false->Jd7 rs ly ps b cs bud h (fs++[f]) r.2)))
 |0,others,fs,m,l,h1,h2,h3,h4,hI,hl=>by omega
 |F+1,others,fs,m,l,h1,h2,h3,h4,hI,hl=>by
  have hu:=hh.2
  rw [Qz]
  refine Jh (fun c=>Jf ⟨⟨hI,Nat.le_refl _,hl,fun _ _ h=>h⟩,fun h40=>by have h40:l.length<=40:=h40;have:=Wt c;omega⟩) (fun c=> ?_)
  have c:=Wf c
  obtain⟨s,hs,hsp⟩:=Jng hw hn hh.1 hc h3
  obtain⟨t,ht,htp⟩:=Jof hw hsp.w hps hrl hrd b
  rw [hs,Wo,ht,Wo]
  have hw1:w64 (h.Used+(fs.length:Int))=h.Used+fs.length:=JM (by omega) (by omega)
  rw [hw1]
  have hadd:okP ((cond (cond t.2 (decide (w64 (h.Used+(fs.length:Int)+t.1)<=bud)) false) (Q7 m l s.1 (w64 (h.Used+(fs.length:Int)+t.1))) (some (m,l)))) (fun r=>EachR ly n bud l r∧Jd7 rs ly ps b cs bud h fs r.2):=by
   cases ht2:t.2 with
   |false=>
    refine Jf ⟨⟨hI,Nat.le_refl _,hl,fun _ _ h=>h⟩,fun q mv c' e1 e2 e3 e4=> ?_⟩
    rw [hs] at e1
    cases e1
    rw [ht] at e2
    cases e2
    rw [ht2] at e3
    cases e3
   |true=>
    have htb:=htp ht2
    rw [cond_true,JM (by omega) (by omega)]
    refine Jh (fun cb=> ?_) (fun cb=>Jf ⟨⟨hI,Nat.le_refl _,hl,fun _ _ h=>h⟩,fun q mv c' e1 e2 e3 e4=> ?_⟩)
    .
     have cb:=Wt cb
     refine Qx (Jrz hw hn hbud hI (by omega) hsp (by omega) cb) (fun r hr=>⟨⟨hr.1,hr.2.1,by have:=hr.2.2.1;omega,hr.2.2.2.2⟩,fun q mv c' e1 e2 e3 e4=> ?_⟩)
     rw [hs] at e1
     cases e1
     rw [ht] at e2
     cases e2
     exact hr.2.2.2.1
    .
     have cb:=Wf cb
     rw [hs] at e1
     cases e1
     rw [ht] at e2
     cases e2
     omega
  refine Ji hadd (fun ml hml=> ?_)
  refine Jh (fun cb=>Jf ⟨hml.1,fun _=>⟨hml.2,fun hlt=>by have:=Wt cb;omega⟩⟩) (fun cb=> ?_)
  have hrec:=fun(q g:List Fault) (m:List (ByteArray×Int)) (l:List Hypothesis) (a1:q.length<F) (a2:∀f∈q,FaultW ly f) (a3:∀f∈g,FaultW ly f) (a4:g.length+q.length<=1000) (a5:ColI ly n bud m l) (a6:l.length<=41)=>
   Qx (JnQ hw hn hrl hrd hps b hc hbud hh F q g m l a1 a2 a3 a4 a5 a6) (R:=fun r=>EachR ly n bud l r∧(r.2.length<=40->Jd7 rs ly ps b cs bud h g r.2)) (fun r hr=>⟨hr.1,fun h40=>(hr.2 h40).1⟩)
  refine Qx (Jhb (Qz rs ly ps b (JQ ly) cs bud h F) fs (Jd7 rs ly ps b cs bud h) (fun g l r ha hlr=>ha.mono hlr) h3 F hrec others ml.1 ml.2 (by omega) h2 h4 hml.1.col hml.1.le41) (fun r hr=>⟨hml.1.trans hr.1,fun h40=>⟨hml.2.mono hr.1.mono,fun _=>hr.2 h40⟩⟩)
theorem JiF {zs:Nat->Int} {ly:Layout} (hw:LayW zs ly) {n:Nat} (hn:n<=3) {rs:List Report} (hrl:rs.length=ly.Devices.length) (hrd:∀(i:Nat) (x:Report),rs[i]? =some x->x.Device=(i:Int)) {ps:List Plate} (hps:ps.length=40) (b:Belief) {cs:List Int} (hc:CmdsW ly cs) {bud:Int} (hbud:bud<=2):
  ∀(q:List Hypothesis) (m:List (ByteArray×Int)) (l:List Hypothesis),(∀h∈q,Jfz ly n bud h)->ColI ly n bud m l->l.length<=41->
  okP (JeI rs ly ps b (JQ ly) cs bud q m l) (fun r=>EachR ly n bud l r∧(r.2.length<=40->∀h∈q,Jd7 rs ly ps b cs bud h [] r.2∧(h.Used<bud->∀(k:Nat) (s:List Int) (c:Int),h.Plant.Slots[k]? =some s->cs[k]? =some c->∀(j:Nat) (kind:Int),j<s.length->(kind=1∨kind=2)->Jhm s c j kind->Jd7 rs ly ps b cs bud h [⟨kind,k,j⟩] r.2)))
 |[],m,l,_,hI,hl=>Jf ⟨⟨hI,Nat.le_refl _,hl,fun _ _ h=>h⟩,fun _ h hh=>by simp at hh⟩
 |h::q,m,l,hq,hI,hl=>by
  have hh:=hq h (List.mem_cons_self ..)
  rw [JeI]
  refine Ji (JoP hw hh.1.w hc.len) (fun fs hfs=> ?_)
  refine Ji (JnQ hw hn hrl hrd hps b hc hbud hh (fs.length+1) fs [] m l (by omega) hfs.1 (by simp) (by have:=hfs.2.1;simp;omega) hI hl) (fun ml hml=> ?_)
  refine Qx (JiF hw hn hrl hrd hps b hc hbud q ml.1 ml.2 (fun x hx=>hq x (List.mem_cons_of_mem _ hx)) hml.1.col hml.1.le41) (fun r hr=>⟨hml.1.trans hr.1,fun h40 x hx=> ?_⟩)
  rw [List.mem_cons] at hx
  rcases hx with rfl |hx
  .
   have g:=hml.2 (Nat.le_trans hr.1.le h40)
   refine⟨g.1.mono hr.1.mono,fun hlt k s c hs hcc j kind hj hk hd=> ?_⟩
   have:=g.2 (by simpa using hlt) _ (hfs.2.2 k s c hs hcc j kind hj hk hd) (by rfl)
   exact this.mono hr.1.mono
  . exact hr.2 h40 x hx
theorem JlP:∀(rs q:List Report) (k:Nat),rs.drop k=q->(∀(i:Nat) (x:Report),rs[i]? =some x->x.Device=(i:Int))->Jaz q k=some (.brk ())
 |rs,[],_,_,_=>rfl
 |rs,r::q,k,hd,h=>by
  obtain⟨h1,h2,h3⟩:=Qe hd
  rw [Jaz,h k r h1,JlP rs q (k+1) h2 h]
  simp
theorem JqK (hw:LayW zs ly) (hn:n<=3) (hb:BelOk ly n b) {p q:Plant} (hp:PlOk ly n p) (hh:Jcz b.L p u) {cs:List Int} (hc:CmdsK ly cs) {mv:List Fault} (hmv:∀f∈mv,FaultW ly f) (hmv1:mv.length<=1) {ms:List Passage} (hq:J6 (JQ ly) p cs mv=some (q,ms))
  {ps:List Plate} (hps:ps.length=40) {gl:List Fault} (hg:∀f∈gl,GlitchW ly q ps f) (hg1:gl.length<=1) (hsum:u+mv.length+gl.length<=b.Budget) {rs:List Report} (hrl:rs.length=ly.Devices.length) (hr:∀i x,rs[i]? =some x->JrB ly q ps gl i x):
  okP (Jby ly b cs ps rs) (fun r=>r.2=2∨(r.2=0∧BelOk ly n r.1∧r.1.Budget=b.Budget∧Jcz r.1.L q (u+mv.length+gl.length))):=by
 have hrd:∀(i:Nat) (x:Report),rs[i]? =some x->x.Device=(i:Int):=fun i x hx=>(hr i x hx).1
 have hqp:PlOk ly n q:=by
  obtain⟨s,hs,hsp⟩:=Jng hw hn hp hc.w hmv
  rw [hq] at hs
  cases hs
  exact hsp
 obtain⟨h0,hh1,hh2,hh3⟩:=hh
 have hu0:=(hb.hyp h0 hh1).2.1
 have hfit:Qn b.L (JQ ly)=some false:=by
  rw [JkH b.L (JQ ly) (p:=fun _=>true) (fun e he=>Jky (hb.hyp e he).1.w)]
  simp
 unfold Jby JeD
 rw [Jha hw,Wo]
 simp only [JiX,Bool.not_true,cond_false]
 rw [hfit,Wo,cond_false,Wo]
 simp only [JiX,Bool.not_true,cond_false]
 rw [Jh8 hw hc (fs:=[]) (by simp) (by simp),Wo]
 show okP (cond ((rs.length:Int) != (ly.Devices.length:Int)) _ _) _
 rw [hrl,show (((ly.Devices.length:Nat):Int) != (ly.Devices.length:Int))=false from by simp,cond_false,JlP rs rs 0 rfl hrd,Zv rfl]
 unfold JdT
 obtain⟨ml,hml,g1,g2⟩:=JiF hw hn hrl hrd hps b hc.w hb.b2 b.L [] [] hb.hyp (Jl5 ly n b.Budget) (by simp)
 rw [hml,Wo]
 by_cases h40:ml.2.length<=40
 .
  obtain⟨a1,a2⟩:=g2 h40 h0 hh1
  obtain⟨c,hcc,c1,c2,c3⟩:=Jmo hw hqp.w hps hg hg1 hrl hr b (by omega)
  have hhas:Jcz ml.2 q (u+mv.length+gl.length):=by
   match mv,hmv1,hmv,hq,hsum with
   |[],_,_,hq,hsum=>
    refine(a1 q ms c (by rw [hh2];exact hq) hcc c1 ?_).mono ?_
    . simp only [List.length_nil] at hsum ⊢;omega
    . simp only [List.length_nil] at hsum ⊢;omega
   |[f],_,hmv,hq,hsum=>
    have hf:=hmv f (List.mem_singleton.2 rfl)
    obtain⟨m,hm⟩:∃m:Nat,f.Node=(m:Int):=⟨f.Node.toNat,by have:=hf.n0;omega⟩
    obtain⟨k,hk⟩:∃k:Nat,f.Window=(k:Int):=⟨f.Window.toNat,by have:=hf.w0;omega⟩
    obtain⟨x,hx,hxw⟩:=hf.w
    rw [hm,Int.toNat_natCast] at hx
    obtain⟨s,hs,hsl⟩:=hp.w.slot hx
    obtain⟨cm,hcm⟩:=YO (l:=cs) (k:=m) (by rw [hc.w.len];exact JT hx)
    have hcp:=hp.c
    simp only [List.length_singleton] at hsum ⊢
    by_cases hd:Jhm s cm k f.Kind
    .
     have hfe:f=⟨f.Kind,(m:Int),(k:Int)⟩:=by cases f;simp only at hm hk;rw [hm,hk]
     have:=a2 (by omega) m s cm (by rw [hh2];exact hs) hcm k f.Kind (by omega) hf.kind hd
     rw [<-hfe] at this
     refine(this q ms c (by rw [hh2];exact hq) hcc c1 ?_).mono ?_
     . simp only [List.length_singleton];omega
     . simp only [List.length_singleton];omega
    .
     rw [Jk6 hw hp.w (by omega) hc.w hf hm hk hs hcm hd] at hq
     refine(a1 q ms c (by rw [hh2];exact hq) hcc c1 ?_).mono ?_
     . simp only [List.length_nil];omega
     . simp only [List.length_nil];omega
  have hpos:((ml.2.length:Int)==0)=false:=by
   obtain⟨h,h1,_⟩:=hhas
   have:=List.length_pos_of_mem h1
   simp
   intro e
   rw [e] at h1
   simp at h1
  rw [hpos,cond_false,We (by omega),cond_false]
  obtain⟨r,hr',hr1,hr2⟩:=JjN hw hn g1.col.hyp (by omega) b.Budget
  rw [hr']
  refine Jf (.inr ⟨rfl,⟨by show 0<=r.Budget;rw [hr1];exact hb.b0,by show r.Budget<=2;rw [hr1];exact hb.b2,fun h hh=> ?_,by show r.L.length<=40;rw [hr2.length_eq];omega⟩,hr1,hhas.perm hr2⟩)
  show Jfz ly n r.Budget h
  rw [hr1]
  exact g1.col.hyp h (hr2.mem_iff.1 hh)
 .
  rw [show ((ml.2.length:Int)==0)=false from by simp;intro e;rw [e] at h40;simp at h40,cond_false,Wd (by omega),cond_true]
  exact Jf (.inl rfl)
end Go.Proofs.YtehhohbnhcogkaaGreatDoor.Ex
namespace Go.Proofs.YtehhohbnhcogkaaGreatDoor.Ex
open Go.RowKit Go.Proofs.YtehhohbnhcogkaaGreatDoor.Ax
variable {zs:Nat->Int} {ly:Layout} {n m:Nat} {x:Node} {b:Belief}
def Jfy (n:Nat) (mm:List (List Int)):Prop:=mm.length=n∧∀r∈mm,r.length=n
theorem Ji9:∀(c k:Nat) (r:List Int),(Jmn c k r).length=r.length
 |0,_,_=>rfl
 |c+1,k,r=>by rw [Jmn,Ji9 c (k+1)];simp
theorem Jgj (r0:List Int):∀(c i:Nat) (mm:List (List Int)),(JjU r0 c i mm).length=mm.length
 |0,_,_=>rfl
 |c+1,i,mm=>by rw [JjU,Jgj r0 c (i+1)];simp
theorem Ji8 (r0:List Int):∀(c i:Nat) (mm:List (List Int)),(∀j r,j<i->mm[j]? =some r->r.length=r0.length)->∀j r,j<i+c->(JjU r0 c i mm)[j]? =some r->r.length=r0.length
 |0,i,mm,h,j,r,hj,hr=>h j r (by omega) hr
 |c+1,i,mm,h,j,r,hj,hr=>by
  rw [JjU] at hr
  refine Ji8 r0 c (i+1) _ (fun j' r' hj' hr'=> ?_) j r (by omega) hr
  rcases JcC hr' with⟨rfl,rfl⟩|⟨hne,hr'⟩
  . exact Ji9 _ _ _
  . exact h j' r' (by omega) hr'
theorem JrG (hw:LayW zs ly):okP (Jdu ly) (Jfy ly.Nodes.length):=by
 have hn:=hw.n11
 unfold Jdu
 rw [JgV (by omega) (by omega),Wo,JgV (by omega) (by omega),Wo]
 refine Jf ⟨by rw [Jgj];simp,fun r hr=> ?_⟩
 obtain⟨j,hj,rfl⟩:=List.getElem_of_mem hr
 rw [Jgj] at hj
 have:=Ji8 (List.replicate (Int.toNat (ly.Nodes.length:Int)) 0) (List.replicate (Int.toNat (ly.Nodes.length:Int)) ([]:List Int)).length 0 (List.replicate (Int.toNat (ly.Nodes.length:Int)) ([]:List Int)) (fun j r h=>by omega) j _ (by omega) (Wg (by rw [Jgj];exact hj))
 rw [this]
 simp
theorem Jqp {mm:List (List Int)} (h:Jfy n mm) {i:Nat} {r:List Int} (hr:r.length=n):Jfy n (mm.set i r):=by
 refine⟨by simpa using h.1,fun s hs=> ?_⟩
 rcases JeC hs with hs |rfl
 . exact h.2 s hs
 . exact hr
theorem JnH (hw:LayW zs ly) (fr x tg:Int) (h0:0<=x) (h1:x<ly.Nodes.length):okP (Jcr ly fr x tg) (fun b=>b=true->x≠fr):=by
 unfold Jcr
 refine Jh (fun c=> ?_) (fun _=>Jf (fun e=>by cases e))
 have c:x≠fr:=by simpa using c
 refine Jh (fun _=>Jf (fun _=>c)) (fun _=> ?_)
 obtain⟨y,hy⟩:=YO (l:=ly.Nodes) (k:=x.toNat) (by omega)
 rw [QD h0 hy,Wo,Jbl,Wo]
 exact Jf (fun _=>c)
theorem JfA {zs:Nat->Int} {ly:Layout} (hw:LayW zs ly) (rec':Int->Int->List (List Int)->Option (Int×List (List Int))) (fr:Nat) (tg:Int) {x:Node} (hx:ly.Nodes[fr]? =some x)
  (hrec:∀e mm,(fr:Int)<e->e<ly.Nodes.length->Jfy ly.Nodes.length mm->okP (rec' e tg mm) (fun d=>Jfy ly.Nodes.length d.2)):
  ∀(q:List Int) (k:Nat) (best:Int) (mm:List (List Int)),x.Exits.drop k=q->Jfy ly.Nodes.length mm->okP (Jcp rec' ly (fr:Int) tg q best mm) (fun d=>Jfy ly.Nodes.length d.2)
 |[],k,best,mm,_,hm=>Jf hm
 |e::q,k,best,mm,hd,hm=>by
  obtain⟨h1,h2,h3⟩:=Qe hd
  obtain⟨e0,e1,y,hy,_,_⟩:=hw.exit hx h1
  have hyl:=JT hy
  rw [Jcp]
  refine Ji (JnH hw (fr:Int) e tg e0 (by omega)) (fun b hb=> ?_)
  refine Jh (fun _=>JfA hw rec' fr tg hx hrec q (k+1) best mm h2 hm) (fun c=> ?_)
  have c:b=true:=by simpa using c
  have hne:=hb c
  refine Ji (hrec e mm (by omega) (by omega) hm) (fun d hdm=> ?_)
  have hcond:okP (cond (decide ((0:Int)<=d.1)) (cond (decide (best<(0:Int))) (some true) ((ixL ly.Nodes (fr:Int)).bind fun e=>some (decide (w64 (d.1+e.Length)<best)))) (some false)) (fun _=>True):=by
   refine Jh (fun _=> ?_) (fun _=>Jf trivial)
   refine Jh (fun _=>Jf trivial) (fun _=> ?_)
   rw [JG hx,Wo]
   exact Jf trivial
  refine Ji hcond (fun t _=> ?_)
  refine Jh (fun _=> ?_) (fun _=>JfA hw rec' fr tg hx hrec q (k+1) best d.2 h2 hdm)
  rw [JG hx,Wo]
  exact JfA hw rec' fr tg hx hrec q (k+1) _ d.2 h2 hdm
theorem Jmm {zs:Nat->Int} {ly:Layout} (hw:LayW zs ly):∀(N:Nat) (fr tg:Int) (mm:List (List Int)),0<=fr->fr<ly.Nodes.length->0<=tg->tg<ly.Nodes.length->(ly.Nodes.length:Int) - fr<N->Jfy ly.Nodes.length mm->okP (Ys ly [] N fr tg mm) (fun d=>Jfy ly.Nodes.length d.2)
 |0,fr,tg,mm,h1,h2,h3,h4,h5,hm=>by omega
 |N+1,fr,tg,mm,h1,h2,h3,h4,h5,hm=>by
  obtain⟨m,rfl⟩:∃m:Nat,fr=(m:Int):=⟨fr.toNat,by omega⟩
  obtain⟨x,hx⟩:=YO (l:=ly.Nodes) (k:=m) (by omega)
  obtain⟨row,hr⟩:=YO (l:=mm) (k:=m) (by rw [hm.1];omega)
  obtain⟨d,hd⟩:=YO (l:=row) (k:=tg.toNat) (by rw [hm.2 row (ZL hr)];omega)
  rw [Ys,JG hr,Wo,QD h3 hd,Wo]
  refine Jh (fun _=>Jf hm) (fun _=> ?_)
  rw [We (show ¬(m:Int)<(([]:List Bool).length:Int) by simp),cond_false,Wo,cond_false,JG hx]
  have hb:okP (cond ((m:Int)==tg) ((some x).bind fun e=>some (e.Length,mm)) ((some x).bind fun e=>Jcp (Ys ly [] N) ly (m:Int) tg e.Exits (-1) mm)) (fun d=>Jfy ly.Nodes.length d.2):=by
   rw [Wo,Wo]
   refine Jh (fun _=>Jf hm) (fun _=> ?_)
   exact JfA hw _ m tg hx (fun e mm e0 e1 hm=>Jmm hw N e tg mm (by omega) e1 h3 h4 (by omega) hm) x.Exits 0 (-1) mm rfl hm
  refine Ji hb (fun bm hbm=> ?_)
  obtain⟨row2,hr2⟩:=YO (l:=bm.2) (k:=m) (by rw [hbm.1];omega)
  have hr2l:=hbm.2 row2 (ZL hr2)
  obtain⟨d2,hd2⟩:=YO (l:=row2) (k:=tg.toNat) (by omega)
  rw [JG hr2,Wo,QD h3 hd2,Wo]
  exact Jf (Jqp hbm (by simpa using hr2l))
theorem JfJ {zs:Nat->Int} {ly:Layout} (hw:LayW zs ly) (fr:Nat) (tg best:Int) (h3:0<=tg) (h4:tg<ly.Nodes.length) {x:Node} (hx:ly.Nodes[fr]? =some x):
  ∀(q:List Int) (k:Nat) (mm:List (List Int)),x.Exits.drop k=q->Jfy ly.Nodes.length mm->okP (JeF ly [] (fr:Int) tg best q k mm) (fun _=>True)
 |[],k,mm,_,_=>Jf trivial
 |e::q,k,mm,hd,hm=>by
  obtain⟨h1,h2,h5⟩:=Qe hd
  obtain⟨e0,e1,y,hy,_,_⟩:=hw.exit hx h1
  have hyl:=JT hy
  rw [JeF]
  refine Jh (fun _=>JfJ hw fr tg best h3 h4 hx q (k+1) mm h2 hm) (fun _=> ?_)
  refine Ji (JnH hw (fr:Int) e tg e0 (by omega)) (fun b _=> ?_)
  refine Jh (fun _=>JfJ hw fr tg best h3 h4 hx q (k+1) mm h2 hm) (fun _=> ?_)
  refine Ji (Jmm hw (ly.Nodes.length+1) e tg mm e0 (by omega) h3 h4 (by omega) hm) (fun d hdm=> ?_)
  have hcond:okP (cond (decide ((0:Int)<=d.1)) ((ixL ly.Nodes (fr:Int)).bind fun e=>some (w64 (d.1+e.Length)==best)) (some false)) (fun _=>True):=by
   refine Jh (fun _=> ?_) (fun _=>Jf trivial)
   rw [JG hx,Wo]
   exact Jf trivial
  refine Ji hcond (fun t _=> ?_)
  exact Jh (fun _=>Jf trivial) (fun _=>JfJ hw fr tg best h3 h4 hx q (k+1) d.2 h2 hdm)
theorem Jp1 (hw:LayW zs ly) (hx:ly.Nodes[m]? =some x) (tg:Int):okP (Jbt ly [] (m:Int) tg) (fun _=>True):=by
 have hm:=JT hx
 have hask:okP (JcG ly (m:Int) tg) (fun a=>a=true->0<=tg∧tg<ly.Nodes.length):=by
  unfold JcG JfC
  rw [Wd (show (0:Int)<=(m:Int) by omega),cond_true,Wd (show (m:Int)<(ly.Nodes.length:Int) by omega),cond_true]
  by_cases c1:0<=tg
  .
   rw [Wd c1,cond_true]
   by_cases c2:tg<ly.Nodes.length
   .
    obtain⟨y,hy⟩:=YO (l:=ly.Nodes) (k:=tg.toNat) (by omega)
    rw [Wd c2,cond_true,QD c1 hy,Wo,Jbl,Wo,Wo,JdM hw]
    exact Jh (fun _=>Jf (fun _=>⟨c1,c2⟩)) (fun _=>Jf (fun _=>⟨c1,c2⟩))
   .
    rw [We c2,cond_false,Wo,cond_false]
    exact Jf (fun e=>by cases e)
  .
   rw [We c1,cond_false,Wo,cond_false]
   exact Jf (fun e=>by cases e)
 unfold Jbt
 refine Ji hask (fun a ha=> ?_)
 refine Jh (fun _=>Jf trivial) (fun c=> ?_)
 have c:a=true:=by simpa using c
 obtain⟨t0,t1⟩:=ha c
 refine Jh (fun _=>Jf trivial) (fun _=> ?_)
 refine Ji (JrG hw) (fun m0 hm0=> ?_)
 refine Ji (Jmm hw (ly.Nodes.length+1) (m:Int) tg m0 (by omega) (by omega) t0 t1 (by omega) hm0) (fun b0 hb0=> ?_)
 rw [JG hx,Wo]
 exact JfJ hw m tg b0.1 t0 t1 hx x.Exits 0 b0.2 rfl hb0
theorem Ju5 {zs:Nat->Int} {ly:Layout} (hw:LayW zs ly) {n:Nat} {b:Int} {m:Nat} (hm:m<ly.Nodes.length):∀(q:List Hypothesis) (k:Nat) (a:List Int),(∀h∈q,Jfz ly n b h)->a.length+q.length<=1000->
  okP (Z4 (m:Int) q k a) (YB (fun _=>False) (fun r=>r.length<=1000∧(∀v∈a,v∈r)∧∀h∈q,∀s v,h.Plant.Slots[m]? =some s->s[s.length - 1]? =some v->v∈r))
 |[],k,a,_,hl=>Jf ⟨by simpa using hl,fun v hv=>hv,by simp⟩
 |h::q,k,a,hq,hl=>by
  have hh:=hq h (List.mem_cons_self ..)
  have hq':∀x∈q,Jfz ly n b x:=fun x hx=>hq x (List.mem_cons_of_mem _ hx)
  have hlc:(h::q).length=q.length+1:=rfl
  obtain⟨x,hx⟩:=YO hm
  obtain⟨s,hs,hsl⟩:=hh.1.w.slot hx
  have hs4:=PlOk.slotlen hw hh.1.w hs
  have hsm:=JT hs
  rw [Z4,We (show ¬(m:Int)<0 by omega),cond_false,We (show ¬((h.Plant.Slots.length:Nat):Int)<=(m:Int) by omega),cond_false,JG hs,Wo,Wo]
  refine Jh (fun c=> ?_) (fun c=> ?_)
  .
   have c:(s.length:Int)=0:=eq_of_beq c
   refine Qx (Ju5 hw hm q (k+1) a hq' (by omega)) (fun z hz=> ?_)
   cases z with
   |ret _=>exact hz
   |brk r=>
    refine⟨hz.1,hz.2.1,fun y hy s' v hs' hv=> ?_⟩
    rw [List.mem_cons] at hy
    rcases hy with rfl |hy
    .
     rw [hs] at hs'
     cases hs'
     have:=JT hv
     omega
    . exact hz.2.2 y hy s' v hs' hv
  .
   have c:(s.length:Int)≠0:=by simpa using c
   have hlg:=Jfc (s:=s) (by omega)
   have hi:w64 ((s.length:Int) - 1)=((s.length - 1:Nat):Int):=by rw [JM (by omega) (by omega)];omega
   rw [hi,JG hlg,Wo,QZ (by simp;omega),Wo]
   refine Qx (Ju5 hw hm q (k+1) _ hq' (by simp;omega)) (fun z hz=> ?_)
   cases z with
   |ret _=>exact hz
   |brk r=>
    refine⟨hz.1,fun v hv=>hz.2.1 v (List.mem_append_left _ hv),fun y hy s' v hs' hv=> ?_⟩
    rw [List.mem_cons] at hy
    rcases hy with rfl |hy
    .
     rw [hs] at hs'
     cases hs'
     rw [hlg] at hv
     cases hv
     exact hz.2.1 _ (by simp)
    . exact hz.2.2 y hy s' v hs' hv
theorem JuX (hw:LayW zs ly) (hb:BelOk ly n b) (hm:m<ly.Nodes.length):okP (Jfk b (m:Int)) (fun r=>r.length<=1000∧∀h∈b.L,∀s v,h.Plant.Slots[m]? =some s->s[s.length - 1]? =some v->v∈r):=by
 have hbl:=hb.len
 unfold Jfk slices_Sort_int slices_Compact_int
 refine Q6 (Ju5 hw hm b.L 0 [] hb.hyp (by simp;omega)) (fun z hz=> ?_)
 refine Ji (JpX z (by omega)) (fun r hr=> ?_)
 refine Ji (Jrh r (by omega)) (fun r2 hr2=>Jf ⟨by omega,fun h hh s v hs hv=> ?_⟩)
 rw [hr2.2,hr.2]
 exact hz.2.2 h hh s v hs hv
theorem JkZ (hw:LayW zs ly) (hx:ly.Nodes[m]? =some x) (e:Int) (tg:List Int) (htl:tg.length<=1000) (op:List Bool) (hop:op.length<=1000):okP (YU ly (m:Int) e tg op []) (fun w=>x.Kind=6->w=true->isF op e=true):=by
 have tail:okP (cond (decide (e<(1:Int))) (some false) (cond (decide ((tg.length:Int)<e)) (some false) ((ixL tg (w64 (e - (1:Int)))).bind fun t=>(Jbt ly [] (m:Int) t).bind fun r=>some (r==(1:Int))))) (fun _=>True):=by
  refine Jh (fun _=>Jf trivial) (fun c1=> ?_)
  refine Jh (fun _=>Jf trivial) (fun c2=> ?_)
  have c1:=Wf c1
  have c2:=Wf c2
  rw [JM (by omega) (by omega)]
  refine Ji (Jat (Q:=fun _=>True) (by omega) (by omega) (fun _ _ _=>trivial)) (fun t _=> ?_)
  exact Ji (Jp1 hw hx t) (fun _ _=>Jf trivial)
 unfold YU
 rw [JG hx,Wo]
 refine Jh (fun c=> ?_) (fun c=>Qx tail (fun _ _ h6=>by rw [h6] at c;cases c))
 rw [Juj op e (by omega),Wo]
 refine Jh (fun _=>Jf (fun _ h=>by cases h)) (fun ci=>Qx tail (fun _ _ _ _=>by simpa using ci))
structure CmdR (b:Belief) (op:List Bool) (m:Nat) (x:Node) (c:Int):Prop where
 known:JiK x c
 loop:x.Kind=5->c≠ -1
 gate:x.Kind=6->c=1->∀h∈b.L,∀s v,h.Plant.Slots[m]? =some s->s[s.length - 1]? =some v->v≠0->isF op v=true
theorem JuS {i:Nat} (hn:NodeW n zs i x):JiK x 0:=by
 have h1:=hn.kind1
 have h2:=hn.exs
 by_cases h6:x.Kind<=6
 .
  refine .inl ⟨h6,.inl ⟨by omega,?_⟩⟩
  have:1<=exN x.Kind:=by unfold exN;(repeat' split)<;>omega
  omega
 .
  by_cases h7:x.Kind=7
  . exact .inr (.inl ⟨h7,by omega,by omega⟩)
  . exact .inr (.inr ⟨by omega,rfl⟩)
theorem JmX (hw:LayW zs ly) (hb:BelOk ly n b) (hx:ly.Nodes[m]? =some x) (tg:List Int) (htl:tg.length<=1000) (op:List Bool) (hop:op.length<=1000):okP (JaQ ly b (m:Int) tg op op []) (CmdR b op m x):=by
 have hn:=hw.nodes m x hx
 have hk1:=hn.kind1
 have hexs:=hn.exs
 have c0:CmdR b op m x 0:=⟨JuS hn,fun _=>by omega,fun _ h=>by omega⟩
 unfold JaQ
 refine Ji (JuX hw hb (JT hx)) (fun r hr=> ?_)
 rw [Js5 r (by omega),Wo,JG hx,Wo]
 obtain⟨p,hp⟩:∃p:Int->Bool,∀e,YU ly (m:Int) e tg op []=some (p e):=by
  refine⟨fun e=>(YU ly (m:Int) e tg op []).getD false,fun e=> ?_⟩
  obtain⟨w,hw',_⟩:=JkZ hw hx e tg htl op hop
  show YU ly (m:Int) e tg op []=some ((YU ly (m:Int) e tg op []).getD false)
  rw [hw']
  rfl
 have hpg:x.Kind=6->∀e,p e=true->isF op e=true:=fun h6 e he=>by
  obtain⟨w,hw',hw2⟩:=JkZ hw hx e tg htl op hop
  rw [hp e] at hw'
  cases hw'
  exact hw2 h6 he
 have two:exN x.Kind=2->x.Kind<=6->okP (cond (decide ((0:Int)<((r.filter fun e=> !(e==0)).length:Int))) ((Qs (r.filter fun e=> !(e==0)) ly (m:Int) tg op []).bind fun t=>cond (!t) (some (1:Int)) (some (0:Int))) (some (0:Int))) (CmdR b op m x):=fun h2 h6=>by
  refine Jh (fun _=> ?_) (fun _=>Jf c0)
  rw [JkD _ ly (m:Int) tg op [] (p:=p) (fun e _=>hp e),Wo]
  refine Jh (fun c=>Jf ⟨.inl ⟨h6,.inl ⟨by omega,by omega⟩⟩,fun _=>by omega,fun hg _ h hh s v hs hv hv0=> ?_⟩) (fun _=>Jf c0)
  have c:((r.filter fun e=> !(e==0)).any fun e=> !p e)=false:=by simpa using c
  have hvr:=hr.2 h hh s v hs hv
  rw [List.any_eq_false] at c
  have:=c v (by rw [List.mem_filter];exact⟨hvr,by simp [hv0]⟩)
  exact hpg hg v (by simpa using this)
 refine Jh (fun c=> ?_) (fun c6=> ?_)
 .
  have c:=eq_of_beq c
  exact two (by rw [c];rfl) (by omega)
 refine Jh (fun c=> ?_) (fun c4=> ?_)
 .
  have c:=eq_of_beq c
  exact two (by rw [c];rfl) (by omega)
 refine Jh (fun c=> ?_) (fun c5=> ?_)
 .
  have c:=eq_of_beq c
  exact two (by rw [c];rfl) (by omega)
 refine Jh (fun c=> ?_) (fun _=>Jf c0)
 have c:=eq_of_beq c
 rw [JkG _ op (by omega),Wo]
 refine Jh (fun _=>Jf ⟨.inl ⟨by omega,.inr rfl⟩,fun h=>by omega,fun h=>by omega⟩) (fun _=>Jf c0)
theorem Jl3 {zs:Nat->Int} {ly:Layout} (hw:LayW zs ly) {n:Nat} {b:Belief} (hb:BelOk ly n b) (tg:List Int) (htl:tg.length<=1000) (op:List Bool) (hop:op.length<=1000):∀(q:List Node) (k:Nat) (a:List Int),ly.Nodes.drop k=q->a.length=k->k<=ly.Nodes.length->(∀m x c,ly.Nodes[m]? =some x->a[m]? =some c->CmdR b op m x c)->
  okP (Yo ly b tg op op [] q k a) (YB (fun _=>False) (fun cs=>cs.length=ly.Nodes.length∧∀m x c,ly.Nodes[m]? =some x->cs[m]? =some c->CmdR b op m x c))
 |[],k,a,hd,hl,hk,ha=>Jf ⟨by
   have:=congrArg List.length hd
   simp at this
   omega,ha⟩
 |x::q,k,a,hd,hl,hk,ha=>by
  obtain⟨h1,h2,h3⟩:=Qe hd
  have hn:=hw.n11
  rw [Yo]
  refine Ji (JmX hw hb h1 tg htl op hop) (fun c hc=> ?_)
  rw [QZ (by simp;omega),Wo]
  refine Jl3 hw hb tg htl op hop q (k+1) _ h2 (by simp;omega) (by omega) (fun m y c' hy hc'=> ?_)
  rw [List.getElem?_append] at hc'
  split at hc'
  . exact ha m y c' hy hc'
  .
   rename_i g
   have hml:=JT hc'
   simp only [List.length_singleton] at hml
   have:m=k:=by omega
   subst this
   rw [h1] at hy
   cases hy
   rw [show m - a.length=0 by omega] at hc'
   simp at hc'
   rw [<-hc']
   exact hc
theorem JoX (hw:LayW zs ly) (hb:BelOk ly n b) (tg:List Int) (htl:tg.length<=1000) (op:List Bool) (hop:op.length<=1000):
  okP (Jan ly b tg op op []) (fun cs=>CmdsK ly cs∧∀m x c,ly.Nodes[m]? =some x->cs[m]? =some c->CmdR b op m x c):=by
 unfold Jan
 rw [JdM hw,Wo]
 show okP (Ctl.fin (Yo ly b tg op op [] ly.Nodes 0 []) fun z=>some z) _
 refine Q6 (Jl3 hw hb tg htl op hop ly.Nodes 0 [] rfl rfl (by omega) (fun m x c _ h=>by simp at h)) (fun cs hcs=>Jf ⟨⟨⟨hcs.1,fun i x c hx hc=>(hcs.2 i x c hx hc).known⟩,fun i x c hx hc=>(hcs.2 i x c hx hc).loop⟩,hcs.2⟩)
end Go.Proofs.YtehhohbnhcogkaaGreatDoor.Ex
namespace Go.Proofs.YtehhohbnhcogkaaGreatDoor.Ex
open Go.RowKit Go.Proofs.YtehhohbnhcogkaaGreatDoor.Ax
variable {cl:List Int}
theorem Jov {W:List (Int×Bool)} {x:Int} (h1: -1000000000<=x) (h2:x<=1000000000) (h5:W.length<1000000):JcY wI wT W x true=some ((x,true)::W):=by
 unfold JcY
 rw [Jja (by omega) (by omega),Wd h5]
 rfl
theorem Jf7 {W:List (Int×Bool)} {x:Int} (h1: -1000000000<=x) (h2:x<=1000000000):Jb0 wI W x false=some (Y1 W x false):=by
 unfold Jb0
 rw [Jja (by omega) (by omega)]
 rfl
theorem Juc:∀(q:List Int) (k:Nat) (W:List (Int×Bool)) (E:List Int),(∀v∈q, -1000<=v∧v<=1000)->W.length+q.length<=1000->(∀v,Y1 W v false=decide (v∈E))->
  okP (Jam q k W) (YB (fun _=>False) (fun r=>∀v,Y1 r v false=decide (v∈E++q)))
 |[],k,W,E,_,_,h=>Jf (fun v=>by simpa using h v)
 |x::q,k,W,E,hq,hl,h=>by
  have hx:=hq x (List.mem_cons_self ..)
  have hlc:(x::q).length=q.length+1:=rfl
  rw [Jam,Jov (by omega) (by omega) (by omega),Wo]
  refine Qx (Juc q (k+1) _ (E++[x]) (fun v hv=>hq v (List.mem_cons_of_mem _ hv)) (by simp;omega) (fun v=> ?_)) (fun c hc=> ?_)
  .
   show (bif x==v then true else Y1 W v false)=_
   rw [h v,Jes]
   by_cases c:x=v
   . subst c;simp
   .
    rw [if_neg (by simpa using c)]
    congr 1
    rw [List.mem_append,List.mem_singleton]
    exact propext ⟨.inl,fun d=>d.elim id (fun e=>absurd e.symm c)⟩
  .
   cases c with
   |ret _=>exact hc
   |brk r=>
    intro v
    have:=hc v
    simpa using this
theorem JkC (l:List Int) (hl:∀v∈l, -1000<=v∧v<=1000) (hlen:l.length<=1000):okP (Jbc l) (fun r=>∀v,Y1 r v false=decide (v∈l)):=by
 unfold Jbc
 exact Q6 (Juc l 0 [] [] hl (by simpa using hlen) (fun v=>by simp [Y1])) (fun r hr=>Jf hr)
theorem Jp8 (v:Votes) (h1:∀x∈v.Screen, -1000<=x∧x<=1000) (h2:∀x∈v.Ledger, -1000<=x∧x<=1000) (h3:v.Screen.length<=1000) (h4:v.Ledger.length<=1000):okP (Y7 v) (fun r=>r.2=true->1<=r.1∧r.1<=40∧r.1∈v.Screen∧r.1∈v.Ledger):=by
 unfold Y7
 refine Ji (JkC v.Screen h1 h3) (fun r1 hr1=> ?_)
 refine Ji (JkC v.Ledger h2 h4) (fun r2 hr2=> ?_)
 refine Jh (fun _=>Jf (fun e=>by cases e)) (fun _=> ?_)
 refine Jh (fun _=>Jf (fun e=>by cases e)) (fun c1=> ?_)
 refine Jh (fun _=>Jf (fun e=>by cases e)) (fun c2=> ?_)
 have c1:=Wf c1
 have c2:=Wf c2
 rw [Jf7 (by omega) (by omega),Wo,hr1]
 refine Jh (fun _=>Jf (fun e=>by cases e)) (fun c3=> ?_)
 rw [Jf7 (by omega) (by omega),Wo,hr2]
 refine Jh (fun _=>Jf (fun e=>by cases e)) (fun c4=> ?_)
 exact Jf (fun _=>⟨by omega,by omega,by simpa using c3,by simpa using c4⟩)
def Jhp (cl:List Int) (n:Int) (op:List Bool):Prop:=(op.length:Int)=n∧∀j:Nat,op[j]? =some true->((j:Int)+1)∈cl
theorem Jhp.is {n:Int} {op:List Bool} (h:Jhp cl n op) {v:Int} (hv:isF op v=true):v∈cl:=by
 unfold isF at hv
 simp only [Bool.and_eq_true,decide_eq_true_eq] at hv
 obtain⟨⟨h1,h2⟩,h3⟩:=hv
 obtain⟨x,hx⟩:=YO (l:=op) (k:=(v - 1).toNat) (by omega)
 rw [hx,Option.getD_some] at h3
 subst h3
 have:=h.2 _ hx
 rw [show (((v - 1).toNat:Nat):Int)+1=v by omega] at this
 exact this
theorem JqR {zs:Nat->Int} {ly:Layout} (hw:LayW zs ly) {P:Nat->Int->Prop} (z:(List Int)×Int×(List (List Int))×(List (List Int))×Int×(List Hypothesis)×(List Int)×Int) (hp:PlW ly P ⟨z.2.2.1,z.2.2.2.1⟩) (hcl:∀v∈z.2.2.2.2.2.2.1,1<=v∧v<=3) (hcll:z.2.2.2.2.2.2.1.length<=1000) (hn:0<=z.2.2.2.2.2.2.2∧z.2.2.2.2.2.2.2<=3):
  ∀(q:List Node) (k:Nat) (a:List Int) (i:Int) (op:List Bool),ly.Nodes.drop k=q->SrcOk ⟨a,i⟩->Jhp z.2.2.2.2.2.2.1 z.2.2.2.2.2.2.2 op->
  okP (Jp z q k a i op) (YB (fun _=>False) (fun s=>SrcOk ⟨s.1,s.2.1⟩∧Jhp z.2.2.2.2.2.2.1 z.2.2.2.2.2.2.2 s.2.2))
 |[],k,a,i,op,_,hs,ho=>Jf ⟨hs,ho⟩
 |x::q,k,a,i,op,hd,hs,ho=>by
  obtain⟨h1,h2,h3⟩:=Qe hd
  have hcl':∀v∈z.2.2.2.2.2.2.1, -1000<=v∧v<=1000:=fun v hv=>by have:=hcl v hv;omega
  have rcv:∀(s:Src) (op':List Bool),SrcOk s->Jhp z.2.2.2.2.2.2.1 z.2.2.2.2.2.2.2 op'->okP (Jp z q (k+1) s.L s.At op') (YB (fun _=>False) (fun s=>SrcOk ⟨s.1,s.2.1⟩∧Jhp z.2.2.2.2.2.2.1 z.2.2.2.2.2.2.2 s.2.2)):=
   fun s op' hs ho=>JqR hw z hp hcl hcll hn q (k+1) s.L s.At op' h2 hs ho
  have tail:∀(v:Votes) (s:Src),SrcOk s->(∀x∈v.Screen, -1000<=x∧x<=1000)->(∀x∈v.Ledger, -1000<=x∧x<=1000)->v.Screen.length<=1000->v.Ledger.length<=1000->(∀x,x∈v.Screen->x∈v.Ledger->x∈z.2.2.2.2.2.2.1)->
    okP ((Y7 v).bind fun r=>cond r.2 (cond (decide (r.1<=z.2.2.2.2.2.2.2)) ((ixL op (w64 (r.1 - (1:Int)))).bind fun _=>Jp z q (k+1) s.L s.At (op.set (w64 (r.1 - (1:Int))).toNat true)) (Jp z q (k+1) s.L s.At op)) (Jp z q (k+1) s.L s.At op))
     (YB (fun _=>False) (fun s=>SrcOk ⟨s.1,s.2.1⟩∧Jhp z.2.2.2.2.2.2.1 z.2.2.2.2.2.2.2 s.2.2)):=fun v s hs g1 g2 g3 g4 g5=>by
   refine Ji (Jp8 v g1 g2 g3 g4) (fun r hr=> ?_)
   refine Jh (fun c=> ?_) (fun _=>rcv s op hs ho)
   obtain⟨e1,e2,e3,e4⟩:=hr c
   refine Jh (fun c2=> ?_) (fun _=>rcv s op hs ho)
   have c2:=Wt c2
   have hol:=ho.1
   rw [JM (z:=r.1 - 1) (by omega) (by omega)]
   refine Ji (Jat (Q:=fun _=>True) (by omega) (by omega) (fun _ _ _=>trivial)) (fun _ _=> ?_)
   refine rcv s _ hs ⟨by simpa using hol,fun j hj=> ?_⟩
   rcases JcC hj with⟨rfl,_⟩|⟨_,hj⟩
   .
    rw [show (((r.1 - 1).toNat:Nat):Int)+1=r.1 by omega]
    exact g5 r.1 e3 e4
   . exact ho.2 j hj
  rw [Jp]
  refine Jh (fun _=>rcv ⟨a,i⟩ op hs ho) (fun c6=> ?_)
  have c6:x.Kind=6:=by simpa using c6
  obtain⟨s,hsl,hsl2⟩:=hp.slot h1
  have hsl:z.2.2.1[k]? =some s:=hsl
  have hlen:=(hw.nodes k x h1).len1 (by omega)
  have hlg:=Jfc (s:=s) (by omega)
  have hi:w64 ((s.length:Int) - 1)=((s.length - 1:Nat):Int):=by rw [JM (by omega) (by omega)];omega
  rw [JG hsl,Wo,hi,JG hlg,Wo,Wo]
  refine Ji (Jd8 _ 5 hs (by omega) (by omega)) (fun r hr=> ?_)
  refine Jh (fun _=> ?_) (fun _=> ?_)
  . exact Ji (Jd8 _ 5 hr.2.2 (by omega) (by omega)) (fun r2 hr2=>tail _ _ hr2.2.2 hcl' hcl' hcll hcll (fun _ h _=>h))
  refine Jh (fun _=> ?_) (fun _=> ?_)
  . exact Ji (Jd8 _ 5 hr.2.2 (by omega) (by omega)) (fun r2 hr2=>tail _ _ hr2.2.2 hcl' hcl' hcll hcll (fun _ h _=>h))
  refine Jh (fun _=> ?_) (fun _=> ?_)
  . exact tail _ _ hr.2.2 (fun v hv=>by simp at hv;omega) hcl' (by simp) hcll (fun _ _ h=>h)
  refine Jh (fun _=> ?_) (fun _=> ?_)
  . exact tail _ _ hr.2.2 hcl' (fun v hv=>by simp at hv;omega) hcll (by simp) (fun _ h _=>h)
  . exact tail _ _ hr.2.2 hcl' hcl' hcll hcll (fun _ h _=>h)
theorem Jnm (n m:Int) (hn:n<=1000) (hm1:1<=m) (hm2:m<=1000):∀(d N:Nat) (a:List Int) (i:Int) (l:List Int) (k:Int),(n - k).toNat=d->d<N->0<=k->k<=max n 0->SrcOk ⟨a,i⟩->(l.length:Int)=k->
  okP (Y4 n m N a i l k) (YB (fun _=>False) (fun z=>SrcOk ⟨z.1,z.2.1⟩∧(z.2.2.length:Int)<=max n 0))
 |d,0,a,i,l,k,h1,h2,h3,h4,h5,h6=>by omega
 |d,N+1,a,i,l,k,h1,h2,h3,h4,h5,h6=>by
  rw [Y4]
  refine Jh (fun c=> ?_) (fun c=>Jf ⟨h5,by show (l.length:Int)<=_;omega⟩)
  have c:=Wt c
  refine Ji (Jd8 _ m h5 (by omega) (by omega)) (fun r hr=> ?_)
  rw [QZ (by simp;omega),Wo,JM (z:=k+1) (by omega) (by omega)]
  exact Jnm n m hn hm1 hm2 (d - 1) N _ _ _ (k+1) (by omega) (by omega) (by omega) (by omega) hr.2.2 (by simp;omega)
theorem JrC (s:Src) (hs:SrcOk s) (n m:Int) (hn:n<=1000) (hm1:1<=m) (hm2:m<=1000):okP (Jaj s n m) (fun r=>SrcOk r.2∧(r.1.length:Int)<=max n 0):=by
 unfold Jaj
 exact Q6 (Jnm n m hn hm1 hm2 _ _ s.L s.At [] 0 rfl (by omega) (by omega) (by omega) hs rfl) (fun z hz=>Jf hz)
def Jme (zs:Nat->Int) (cl:List Int) (i:Nat) (v:Int):Prop:=v=0∨zs i≠1∨v∈cl
theorem Joa {zs:Nat->Int} {ly:Layout} (hw:LayW zs ly) {p:Plant} {n:Int} {op:List Bool} (ho:Jhp cl n op) {b:Belief} {u:Int} (hh:Jcz b.L p u) {cs:List Int} (hc:∀m x c,ly.Nodes[m]? =some x->cs[m]? =some c->CmdR b op m x c):Jfw ly p cs (Jme zs cl):=by
 refine⟨fun i=> .inl rfl,fun m e v hm hq=> ?_⟩
 obtain⟨x,c,w,hx,hcc,he,hcase⟩:=hm
 obtain⟨e0,_,y,hy,hyz,_⟩:=hw.exit hx he
 rw [(hw.nodes _ y hy).zone] at hyz
 have hxz:=(hw.nodes m x hx).zone
 rcases hq with h |h |h
 . exact .inl h
 .
  by_cases g:x.Kind=6∧w=1
  .
   by_cases hv:v=0
   . exact .inl hv
   .
    right;right
    rcases hcase with⟨h7,_⟩|⟨_,hwc,s,hs,hlast⟩
    . omega
    .
     obtain⟨h0,hh1,hh2,_⟩:=hh
     have:=(hc m x c hx hcc).gate g.1 (by rcases hwc with e |e<;>omega) h0 hh1 s v (by rw [hh2];exact hs) hlast hv
     exact ho.is this
  .
   rw [if_neg g,hxz] at hyz
   right;left
   rw [hyz]
   exact h
 . exact .inr (.inr h)
theorem Jro (W:List (Int×Bool)) (cl:List Int) (hW:∀v,Y1 W v false=decide (v∈cl)):∀(q:List Int) (k:Nat) (a:List Int),(∀v∈q,(v=0∨v∈cl)∧ -1000<=v∧v<=1000)->QG W q k a=some (.brk a)
 |[],_,_,_=>rfl
 |v::q,k,a,h=>by
  obtain⟨h1,h2,h3⟩:=h v (List.mem_cons_self ..)
  rw [QG,Jro W cl hW q (k+1) a (fun u hu=>h u (List.mem_cons_of_mem _ hu)),Jf7 (by omega) (by omega),hW,Wo]
  rcases h1 with rfl |h1
  . rfl
  .
   rw [Wd h1]
   cases v != 0<;>rfl
theorem Jrp {zs:Nat->Int} {ly:Layout} (hw:LayW zs ly) {p:Plant} {cl:List Int} (hz:PlW ly (Jme zs cl) p) (hv:PlW ly (fun _ v=>0<=v∧v<=3) p) (W:List (Int×Bool)) (hW:∀v,Y1 W v false=decide (v∈cl)):∀(q:List Node) (k:Nat),ly.Nodes.drop k=q->QY p W q k []=some (.brk [])
 |[],_,_=>rfl
 |x::q,k,hd=>by
  obtain⟨h1,h2,h3⟩:=Qe hd
  obtain⟨s,hs,_⟩:=hz.slot h1
  obtain⟨b,hb⟩:=hz.bin h1
  have hsl:=JT hs
  have hbl:=JT hb
  rw [QY,Jrp hw hz hv W hW q (k+1) h2]
  cases c:x.Zone != 1 with
  |true=>rfl
  |false=>
   have c:x.Zone=1:=by simpa using c
   have hzk:zs k=1:=by rw [<-(hw.nodes k x h1).zone];exact c
   have g1:∀v∈s,(v=0∨v∈cl)∧ -1000<=v∧v<=1000:=fun v hvs=>by
    have a1:=hv.vs k s hs v hvs
    refine⟨?_,by omega,by omega⟩
    rcases hz.vs k s hs v hvs with e |e |e
    . exact .inl e
    . exact absurd hzk e
    . exact .inr e
   have g2:∀v∈b,(v=0∨v∈cl)∧ -1000<=v∧v<=1000:=fun v hvs=>by
    have a1:=hv.vb k b hb v hvs
    refine⟨?_,by omega,by omega⟩
    rcases hz.vb k b hb v hvs with e |e |e
    . exact .inl e
    . exact absurd hzk e
    . exact .inr e
   rw [cond_false,QH,We (show ¬((p.Slots.length:Nat):Int)<=(k:Int) by omega),cond_false,JG hs,Wo,Jro W cl hW s 0 [] g1,Je0 rfl,QH,We (show ¬((p.Bins.length:Nat):Int)<=(k:Int) by omega),cond_false,JG hb,Wo,Jro W cl hW b 0 [] g2,Je0 rfl,QH,Je0 rfl]
   exact Jrp hw hz hv W hW q (k+1) h2
theorem Jl6 {zs:Nat->Int} {ly:Layout} (hw:LayW zs ly) {p:Plant} (hz:PlW ly (Jme zs cl) p) (hv:PlW ly (fun _ v=>0<=v∧v<=3) p) (hcl:∀v∈cl,1<=v∧v<=3) (hl:cl.length<=1000):Zn ly p cl=some []:=by
 obtain⟨W,hW1,hW⟩:=JkC cl (fun v h=>by have:=hcl v h;omega) hl
 unfold Zn slices_Sort_int
 rw [hW1,Wo,Jrp hw hz hv W hW ly.Nodes 0 rfl,Zv rfl]
 have:Jh1 []=some []:=by
  unfold Jh1
  rw [if_pos (by simp)]
  simp
 rw [this]
 rfl
theorem Jl7:Ja3=some true:=by decide+kernel
end Go.Proofs.YtehhohbnhcogkaaGreatDoor.Ex
