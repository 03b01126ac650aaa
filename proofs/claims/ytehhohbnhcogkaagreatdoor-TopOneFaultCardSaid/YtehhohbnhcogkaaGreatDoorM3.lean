/- The ground of the proof: the abstract walker and what the program computes. -/
import Derived.RangeFuncRecord
import Derived.RangeFuncLeaves
import Derived.Lib.SliceRun
import Derived.Laws.Cover3
import Derived.Test.YtehhohbnhcogkaaGreatDoorProg
import Derived.Laws.IdiomStrings
import Derived.Shelf.Sort.Plain
import Derived.Shelf.Slices.In.SortNone
import Derived.Shelf.Slices.CompactI
import Derived.Maps.OwnSet
import Derived.Maps.Views
import Derived.DeepKeys4
import Derived.Carry
import Derived.Shelf.SlSortCmp.WholeK
import Derived.Shelf.SlSortCmp.NoneTotal
import Derived.Test.YtehhohbnhcogkaaGreatDoorM2
import Derived.Test.YtehhohbnhcogkaaGreatDoorM1
set_option linter.unusedVariables false
set_option linter.unusedSimpArgs false
namespace Go.Proofs.YtehhohbnhcogkaaGreatDoor.Ax
open Go.RowKit
def Jch (sz:Nat):Nat->List AV->List (List AV)
 |0,_=>[]
 |n+1,c=>c.take sz::Jch sz n (c.drop sz)
theorem JfK (sz:Nat):∀(n:Nat) (c:List AV),(Jch sz n c).length=n
 |0,c=>rfl
 |n+1,c=>by simp [Jch,JfK sz n]
theorem JiB (sz:Nat):∀(n:Nat) (c:List AV) (k:Nat) (e:List AV),(Jch sz n c)[k]? =some e->k<n∧e=(c.drop (k*sz)).take sz
 |0,c,k,e,h=>by simp [Jch] at h
 |n+1,c,0,e,h=>by simp [Jch] at h;simp [h]
 |n+1,c,k+1,e,h=>by
  obtain⟨h1,h2⟩:=JiB sz n (c.drop sz) k e (by simpa [Jch] using h)
  refine⟨by omega,?_⟩
  rw [h2,List.drop_drop,Nat.succ_mul,Nat.add_comm sz]
theorem JmY {w:World} {F:Nat->Prop} {β:Nat->Option Hdr} {c:List AV} {arr:Array Value} {sz n:Nat} (h:RVs w F β c arr) (hl:c.length=n*sz) (h1:c.all AV.one=true):Jdd w F β sz (Jch sz n c) arr.toList:=by
 have hlen:∀(k:Nat),k<n->((c.drop (k*sz)).take sz).length=sz:=fun k hk=>by
  have:(k+1)*sz<=n*sz:=Nat.mul_le_mul_right _ hk
  rw [Nat.succ_mul] at this
  simp only [List.length_take,List.length_drop]
  omega
 refine⟨by rw [JfK,Array.length_toList,<-h.1,hl],fun k e hk=> ?_,fun k e j u hk hj=> ?_⟩
 .
  obtain⟨hkn,rfl⟩:=JiB sz n c k e hk
  refine⟨hlen k hkn,fun u hu=> ?_⟩
  rw [List.all_eq_true] at h1
  exact h1 u (List.mem_of_mem_drop (List.mem_of_mem_take hu))
 .
  obtain⟨_,rfl⟩:=JiB sz n c k e hk
  rw [List.getElem?_take,List.getElem?_drop] at hj
  split at hj
  .
   obtain⟨v,e1,e2⟩:=h.at hj
   exact⟨v,by rw [Wu];exact e1,e2⟩
  . cases hj
theorem JiY {P:Program} {tab:Tab} (hT:J0 P tab) {g:Nat} {o:Oper} {σ:ASt} {t e:TypeId} {ti:TI} {sz eb:Nat} {ez:List AV} {n:Nat} {parts:Array (Nat×Operand)} {c:List AV} (ho:o.op= .buildSlice t n parts) (ht:tab t=some ti) (hd:ti.d= .slc e sz eb ez) (hez:ez.length=sz)
  (hn:n*sz<=16777216) (hm:n<=16777216) (hc:JfU ((List.range n).map fun i=>(i*sz,sz)) (List.replicate (n*sz) .any) (parts.toList.map fun p=>(p.1,ev σ.env p.2))=some c) (h1:c.all AV.one=true) (hl:c.length=n*sz):
  YD P g o σ ⟨.osl σ.n,[(σ.n,some (.row sz (Jch sz n c)))],[],σ.n+1⟩:=by
 refine⟨Nat.le_succ _,fun C I σ2 a w K Q hC hxs hH hI hdd hR hK=> ?_⟩
 obtain⟨β,F,hR⟩:=hR
 have hnI:¬I σ.n:=hI σ.n (Nat.le_refl _) (Wn _)
 obtain⟨i0,d0,z0,_,k1,_,_,_,_,k2⟩:=JP (hT t ti ht)
 rw [hd] at k2
 obtain⟨i,z,rfl,k3,rfl,rfl,k4,rfl⟩:=JaD k2.symm
 have hz:(zeroValue e).run P w= .ok z w:=by simp [zeroValue,run_typeInfo w k3,k4]
 have hbig:¬16777216<n*i.size:=by omega
 obtain⟨zc,hzc⟩:∃zc:Array Value,(n*i.size=0∧zc= #[])∨(n*i.size≠0∧zc=z.cells):=by
  by_cases h0:n*i.size=0
  . exact⟨_,.inl ⟨h0,rfl⟩⟩
  . exact⟨_,.inr ⟨h0,rfl⟩⟩
 obtain⟨init,hinit⟩:∃init:Array Value,init=(Array.range (n*i.size)).map (zc[· % zc.size]!):=⟨_,rfl⟩
 have hisz:init.size=n*i.size:=by rw [hinit];simp
 have hany:RVs w F β (List.replicate (n*i.size) .any) init:=⟨by simp [hisz],fun j u v hu _=>by rw [List.eq_of_mem_replicate (Wm hu)];exact .any v⟩
 have hparts:=Jic (w:=w) (F:=F) (β:=β) (env:=σ.env) (a:=a) (parts:=parts) (fun y hy=>hxs y (by simp [ho,Op.operands] at hy ⊢;exact hy) _ _ _ _ (hR.ev y))
 obtain⟨cs',e1,e2⟩:=JhU (pl:=fun k=>some (k*i.size,i.size)) (place:=(List.range n).map fun k=>(k*i.size,i.size)) (fun k p h=>by
  rw [Wp] at h
  by_cases hk:k<n
  . simp [hk] at h;exact congrArg some h
  . simp [hk] at h) _ (parts.map fun p=>(p.1,a.eval p.2)).toList _ _ init hc hany (by simp) hparts
 have hrun:(execOp a.eval o).run P w= .ok (.value (.slice (some ⟨w.heap.size,0,none⟩) n n)) (w.alloc (.cells cs' e)):=by
  simp only [execOp,ho,Instr.buildSlice,Sem.run_bind,run_underlying k1,Result.andThen_ok,Qt w k3]
  rw [if_neg (by simpa using hbig)]
  rcases hzc with⟨h0,rfl⟩|⟨h0,rfl⟩
  .
   rw [if_pos h0]
   simp only [Sem.run_bind,Sem.run_pure,Result.andThen_ok,<-hinit,e1,JbH]
  .
   rw [if_neg h0]
   simp only [Sem.run_bind,Sem.run_pure,Result.andThen_ok,hz,<-hinit,e1,JbH]
 have hns:=Ja5 w (.cells cs' e)
 have hcs:=e2.news hR hnI (YN (some w.heap.size) n n) (.cells cs' e)
 have hfl:=JmY (n:=n) hcs hl h1
 have hblk:=Jeo hfl (heap_alloc_new w _) (fun p hp=>by simp) (cap:=n) (by rw [<-hcs.1,hl];exact Nat.le_refl _) (by rw [JfK];exact Nat.le_refl _) (by
  simp only [maxLen]
  omega)
 rw [JfK] at hblk
 have h2:=hR.new hnI hns (YN (some w.heap.size) n n) (fun j e=>by cases e;exact⟨Nat.le_refl _,by simp⟩) _ hblk
 exact upon_value hrun (hK _ _ ⟨_,F,(h2.put o.dst (.osl σ.n) _ hdd (.osl σ.n (YN (some w.heap.size) n n) (J7 _ _ _))).fin rfl rfl (fun i hi=>Jcs hi)⟩)
end Go.Proofs.YtehhohbnhcogkaaGreatDoor.Ax
namespace Go.Proofs.YtehhohbnhcogkaaGreatDoor.Ax
open Go.RowKit
variable {o:Oper} {env:Nat->AV} {H:Nat->Option ABlk} {t:TypeId} {c:List AV}
def Y2:List CK->List AV->Bool
 |[],[]=>true
 | .int::ks,.int _ _::c=>Y2 ks c
 | .str::ks,.str _::c=>Y2 ks c
 | .bool::ks,.bool _::c=>Y2 ks c
 | .bool::ks,.tru::c=>Y2 ks c
 | .bool::ks,.fls::c=>Y2 ks c
 |_,_=>false
theorem Jig:∀{k1 k2:List CK} {c:List AV},Y2 (k1++k2) c=true->Y2 k1 (c.take k1.length)=true∧Y2 k2 (c.drop k1.length)=true
 |[],k2,c,h=>by simpa [Y2] using h
 |k::k1,k2,[],h=>by cases k<;>simp [Y2] at h
 |k::k1,k2,x::c,h=>by
  cases k<;>cases x<;>simp only [List.cons_append,Y2,Bool.false_eq_true] at h<;>(obtain⟨h1,h2⟩:=Jig h;exact⟨by simpa [Y2] using h1,by simpa using h2⟩)
theorem Jct:∀{k:List CK} {c:List AV},Y2 k c=true->c.length=k.length
 |[],[],_=>rfl
 |k::k1,[],h=>by cases k<;>simp [Y2] at h
 |[],x::c,h=>by simp [Y2] at h
 |k::k1,x::c,h=>by
  cases k<;>cases x<;>simp only [Y2,Bool.false_eq_true] at h<;>(have:=Jct h;simp [this])
theorem Jnv {P:Program}:∀(d:Nat) (t:TypeId) (ks:List CK) (c:List AV),JeG P d t=some ks->Y2 ks c=true->Jfd P d t c=true
 |0,t,ks,c,h,_=>by simp [JeG] at h
 |d+1,t,ks,c,h,hm=>by
  unfold JeG at h
  unfold Jfd
  split at h
  .
   rename_i e;cases h;rw [e]
   match c,hm with
   |[.int _ _],_=>rfl
   |[],hm=>simp [Y2] at hm
   |x::y::c,hm=>have:=Jct hm;simp at this
   |[.any],hm |[.tru],hm |[.fls],hm |[.bool _],hm |[.str _],hm |[.nilp],hm |[.val _],hm |[.nils],hm |[.ptr _ _],hm |[.eptr _ _ _ _],hm |[.mp _],hm |[.iptr _],hm |[.lst _ _],hm |[.lsc _ _],hm |[.osl _],hm |[.sub _ _ _ _ _],hm |[.agg _],hm |[.tup _],hm |[.fn _ _],hm=>simp [Y2] at hm
  .
   rename_i e;cases h;rw [e]
   match c,hm with
   |[.str _],_=>rfl
   |[],hm=>simp [Y2] at hm
   |x::y::c,hm=>have:=Jct hm;simp at this
   |[.any],hm |[.tru],hm |[.fls],hm |[.bool _],hm |[.int _ _],hm |[.nilp],hm |[.val _],hm |[.nils],hm |[.ptr _ _],hm |[.eptr _ _ _ _],hm |[.mp _],hm |[.iptr _],hm |[.lst _ _],hm |[.lsc _ _],hm |[.osl _],hm |[.sub _ _ _ _ _],hm |[.agg _],hm |[.tup _],hm |[.fn _ _],hm=>simp [Y2] at hm
  .
   rename_i e;cases h;rw [e]
   match c,hm with
   |[.bool _],_=>rfl
   |[.tru],_=>rfl
   |[.fls],_=>rfl
   |[],hm=>simp [Y2] at hm
   |x::y::c,hm=>have:=Jct hm;simp at this
   |[.any],hm |[.str _],hm |[.int _ _],hm |[.nilp],hm |[.val _],hm |[.nils],hm |[.ptr _ _],hm |[.eptr _ _ _ _],hm |[.mp _],hm |[.iptr _],hm |[.lst _ _],hm |[.lsc _ _],hm |[.osl _],hm |[.sub _ _ _ _ _],hm |[.agg _],hm |[.tup _],hm |[.fn _ _],hm=>simp [Y2] at hm
  .
   rename_i fs e
   rw [e]
   simp only
   have key:∀(l:List Field) (ks:List CK) (c:List AV),Jbw P (JeG P d) l=some ks->Y2 ks c=true->Jjv P (Jfd P d) l c=true:=by
    intro l
    induction l with
    |nil=>intro ks c _ _;rfl
    |cons f l ih=>
     intro ks c h1 h2
     simp only [Jbw] at h1
     split at h1
     .
      rename_i i k r q1 q2 q3
      split at h1
      .
       rename_i hl
       cases h1
       obtain⟨m1,m2⟩:=Jig h2
       rw [hl] at m1 m2
       simp only [Jjv,q1,Bool.and_eq_true]
       exact⟨Jnv d f.type k _ q2 m1,ih r _ q3 m2⟩
      . cases h1
     . cases h1
   exact key fs.toList ks c h hm
  . cases h
theorem Jio {P:Program} {rec:TypeId->Option (List CK)} {rec2:TypeId->Bool}:∀(l:List Field) (ks:List CK) (off n:Nat),Jbw P rec l=some ks->JeZ P rec2 l off n=true->off+ks.length=n
 |[],ks,off,n,h,k=>by
  simp only [Jbw] at h
  cases h
  simp only [JeZ,beq_iff_eq] at k
  simpa using k
 |f::l,ks,off,n,h,k=>by
  simp only [Jbw] at h
  split at h
  .
   rename_i i kk r q1 q2 q3
   split at h
   .
    rename_i hl
    cases h
    simp only [JeZ,q1,Bool.and_eq_true] at k
    have:=Jio l r _ n q3 k.2
    rw [List.length_append,hl]
    omega
   . cases h
  . cases h
theorem Jkw {P:Program} {tab:Tab} (hT:J0 P tab) {ti:TI} {n sz:Nat} {g:Bool} {parts:Array (Nat×Operand)} (ho:o.op= .build t parts) (ht:tab t=some ti) (hd:ti.d= .arr n sz g)
  (hc:JfU ((List.range n).map fun i=>(i*sz,sz)) ti.zero (parts.toList.map fun p=>(p.1,ev env p.2))=some c):ZH P o env H (.agg c) []:=by
 intro w F β a hx _
 obtain⟨ii,dd,z,g1,g2,g5,_,_,g6,g3⟩:=JP (hT t ti ht)
 rw [hd] at g3
 obtain⟨e,i',d',rfl,g4,rfl,_,_⟩:=JhX g3.symm
 have hz:(zeroValue t).run P w= .ok z w:=by simp [zeroValue,run_typeInfo w g1,g5]
 obtain⟨cs',e1,e2⟩:=JhU (w:=w) (F:=F) (β:=β) (pl:=fun k=>some (k*i'.size,i'.size)) (place:=(List.range n).map fun k=>(k*i'.size,i'.size)) (fun k p h=>by
  rw [Wp] at h
  by_cases hk:k<n
  . simp [hk] at h;exact congrArg some h
  . simp [hk] at h) _ (parts.map fun p=>(p.1,a.eval p.2)).toList _ _ z.cells hc (by rw [g6];exact JeY _ _ _ _) (by simp)
  (Jic (fun y hy=>hx y (by simp [ho,Op.operands] at hy ⊢;exact hy)))
 refine⟨.agg cs',?_,.agg _ _ e2.1 e2.2⟩
 simp only [execOp,ho,Instr.build,Sem.run_bind,hz,Result.andThen_ok,run_underlying g2,Qt w g4,e1,Sem.run_pure]
theorem JlV {P:Program} {op:BinOp} {x y:Operand} {t':TypeId} {e:List AV} {r:Bool} {n:Nat} {et:TypeId} {i:TypeInfo} {kk:IntKind} (ho:o.op= .binOp op t x y t') (hop:op= .eql∨op= .neq) (hu:P.underlying t=some (.array n et)) (hi:P.info? et=some i)
  (hsz:i.size=1) (hue:P.underlying et=some (.int kk)) (hg:P.eqGuardType P.depth t=false) (hc:ev env x= .agg c) (hd:ev env y= .agg e) (hm:Y2 (List.replicate n .int) c=true) (hr:Yw c e=some r):ZH P o env H (.bool (if op= .eql then r else !r)) []:=by
 intro w F β a hx _
 have h1:=hx x (by simp [ho,Op.operands])
 have h2:=hx y (by simp [ho,Op.operands])
 rw [hc] at h1
 rw [hd] at h2
 generalize hvx:a.eval x=vx at h1
 generalize hvy:a.eval y=vy at h2
 have hcl:c.length=n:=by have:=Jct hm;simpa using this
 cases h1 with
 |agg _ xs k1 k2=>
  cases h2 with
  |agg _ ys k3 k4=>
   have hcs:P.cellsOf et=1:=by simp [Program.cellsOf,hi,hsz]
   have hel:c.length=e.length:=Jfp hr
   have main:∀(m p:Nat) (r:Bool),p+m=n->Yw (c.drop p) (e.drop p)=some r->Y2 (List.replicate m .int) (c.drop p)=true->(Op.eqItems 9999 et 1 xs ys (List.range' p m)).run P w= .ok r w:=by
    intro m
    induction m with
    |zero=>
     intro p r hp hr _
     rw [List.drop_eq_nil_of_le (by omega),List.drop_eq_nil_of_le (by omega)] at hr
     simp only [Yw] at hr
     cases hr
     simp [Op.eqItems]
    |succ m ih=>
     intro p r hp hr hm
     have hlt:p<c.length:=by omega
     have hlt2:p<e.length:=by omega
     rw [List.drop_eq_getElem_cons hlt,List.drop_eq_getElem_cons hlt2] at hr
     rw [List.drop_eq_getElem_cons hlt,List.replicate_succ] at hm
     simp only [Yw] at hr
     split at hr
     .
      rename_i b r' e1 e2
      cases hr
      generalize hcp:c[p]=cp at hm e1
      generalize hep:e[p]=ep at e1
      cases cp<;>simp only [Y2,Bool.false_eq_true] at hm
      rename_i k z
      cases ep<;>simp only [eq1,reduceCtorEq] at e1
      rename_i k' z'
      split at e1
      .
       rename_i hk
       subst hk
       cases e1
       have hx1:=k2 p _ (xs[p]'(by omega)) (by rw [Wg hlt,hcp]) (by simp)
       have hy1:=k4 p _ (ys[p]'(by omega)) (by rw [Wg hlt2,hep]) (by simp)
       have px:(part et xs p).run P w= .ok xs[p] w:=by rw [Jdt w hi hue];simp [Jfv,show p<xs.size by omega]
       have py:(part et ys p).run P w= .ok ys[p] w:=by rw [Jdt w hi hue];simp [Jfv,show p<ys.size by omega]
       have hrest:=ih (p+1) r' (by omega) e2 hm
       have hq:(Op.equalIn 9999 et xs[p] ys[p]).run P w= .ok (z==z') w:=by
        generalize xs[p]=u at hx1
        generalize ys[p]=v at hy1
        cases hx1
        cases hy1
        exact run_equalIn_int w 9998 et _ _ _ _ hue
       rw [List.range'_succ]
       simp only [Op.eqItems,Nat.mul_one,Sem.run_bind,px,py,hq,Result.andThen_ok]
       cases hzz:(z==z')
       . simp
       . simpa using hrest
      . cases e1
     . cases hr
   have hrun:=run_equalIn_array (w:=w) 9999 xs ys hu hi
   rw [hcs,List.range_eq_range',main n 0 r (by omega) (by simpa using hr) (by simpa using hm)] at hrun
   have hgu:=run_eqGuard_agg (P:=P) w op t x y xs ys hg
   rcases hop with rfl |rfl
   .
    refine⟨.bool r,?_,.bool _⟩
    simp only [execOp,ho,hvx,hvy,Sem.run_bind,hgu,Result.andThen_ok,run_eql_struct,hrun,Sem.run_pure]
   .
    refine⟨.bool (!r),?_,.bool _⟩
    simp only [execOp,ho,hvx,hvy,Sem.run_bind,hgu,Result.andThen_ok,run_neq_struct,hrun,Sem.run_pure]
theorem JoK {P:Program} {tab:Tab} (hT:J0 P tab) {op:BinOp} {x y:Operand} {t':TypeId} {ti:TI} {ks:List CK} {e:List AV} {r:Bool} (ho:o.op= .binOp op t x y t') (hop:op= .eql∨op= .neq) (ht:tab t=some ti) (hk:ti.eqk=some ks)
  (hc:ev env x= .agg c) (hd:ev env y= .agg e) (hm:Y2 ks c=true) (hr:Yw c e=some r):ZH P o env H (.bool (if op= .eql then r else !r)) []:=by
 have h0:=hT t ti ht
 unfold JA at h0
 split at h0
 .
  rename_i i d h1 h2
  split at h0
  .
   rename_i z hz
   cases h0
   simp only at hk
   unfold Jup at hk
   split at hk
   .
    rename_i fs hfs
    split at hk
    .
     rename_i hb
     simp only [Bool.and_eq_true,Bool.not_eq_true'] at hb
     refine JoJ ho hop hfs h1 hb.1 hb.2 hc hd ?_ (Jnv 10 t ks c hk hm) hr
     rw [Jct hm]
     have h3:=hk
     unfold JeG at h3
     rw [hfs] at h3
     have h4:=hb.1
     unfold JgB at h4
     rw [hfs,h1] at h4
     simp only [Bool.and_eq_true] at h4
     have:=Jio _ _ 0 _ h3 h4.2
     omega
    . cases hk
   .
    rename_i n et hu
    split at hk
    .
     rename_i kk ii q1 q2
     split at hk
     .
      rename_i hb
      simp only [Bool.and_eq_true,beq_iff_eq,Bool.not_eq_true'] at hb
      cases hk
      exact JlV ho hop hu q2 hb.1 q1 hb.2 hc hd hm hr
     . cases hk
    . cases hk
   . cases hk
  . cases h0
 . cases h0
def NW (g:Nat) (H:Nat->Option ABlk) (gs zs bs:List Nat) (k:Nat) (ab:Option (Nat×Nat)) (j:Nat) (e e':NE):Prop:=
 (∃xs,e= .hid xs∧e'= .hid xs)∨(∃u u',e= .raw u∧e'= .raw u'∧u'.one=true∧ArgR H gs zs bs u u')∨(e= .raw .nils∧e'= .hid []∧g<=k)∨
 ∃nn xs,ab=some (j,nn)∧(e= .ext nn∨e= .raw (.osl nn)∧g<=k)∧e'= .hid xs∧H nn=some (.row 1 (xs.map fun n=>[.int .i64 n]))
structure WkS (g:Nat) (σ σ':ASt) (gs zs bs:List Nat) (ab:Nat->Option (Nat×Nat)):Prop where
 env:∀t,ArgR σ.H gs zs bs (σ.env t) (σ'.env t)
 blk:∀(k:Nat) (b':ABlk),σ'.H k=some b'->(∃id b,gs[k]? =some id∧σ.H id=some b∧
  ((∃c c',b= .box c∧b'= .box c'∧c.length=c'.length∧∀(j:Nat) (u u':AV),c[j]? =some u->c'[j]? =some u'->ArgR σ.H gs zs bs u u')∨
  (∃sz xs xs',b= .row sz xs∧b'= .row sz xs'∧xs.length=xs'.length∧∀(i:Nat) (c c':List AV),xs[i]? =some c->xs'[i]? =some c'->c.length=c'.length∧(∀u∈c',u.one=true)∧∀(j:Nat) (u u':AV),c[j]? =some u->c'[j]? =some u'->ArgR σ.H gs zs bs u u')∨(∃q q',b= .obj q∧b'= .obj q'∧∀o,q o->q' o)∨
  ∃l l',b= .nest l∧b'= .nest l'∧l.length=l'.length∧∀(j:Nat) (e e':NE),l[j]? =some e->l'[j]? =some e'->NW g σ.H gs zs bs k (ab k) j e e'))∨(k∈zs∧((∃sz,b'= .row sz [])∨b'= .nest []))
 fix:∀i,i<g->gs[i]? =some i
 nd:∀(i j id:Nat) (b b':ABlk),gs[i]? =some id->gs[j]? =some id->σ'.H i=some b->σ'.H j=some b'->i=j
 dis:∀(k id:Nat) (b:ABlk),gs[k]? =some id->σ'.H k=some b->id∉bs
 zge:∀k∈zs,k<σ'.n
 zfl:∀k∈zs,∀id,gs[k]? =some id->σ.n<=id
 gle:gs.length<=σ'.n
 abd:∀(k j nn:Nat),ab k=some (j,nn)->nn∉bs∧(∀(k':Nat) (b:ABlk),gs[k']? =some nn->σ'.H k'≠some b)∧∀(k' j':Nat),ab k'=some (j',nn)->k'=k
def Wk (g:Nat) (σ σ':ASt) (gs zs bs:List Nat):Prop:=∃ab,WkS g σ σ' gs zs bs ab
def Jkn (β:Nat->Option Hdr) (x:Option Nat×Nat×Nat):NE->NE->Option Nat×Nat×Nat
 | .raw .nils,.hid _=>(none,0,0)
 | .raw (.osl nn),.hid _=>match β nn with
  |some g=>(g.blk,g.len,g.cap)
  |none=>(none,0,0)
 |_,_=>x
def Jfe (β:Nat->Option Hdr) (h:Hdr) (l l':List NE):List (Option Nat×Nat×Nat):=(List.range l.length).map fun j=>match l[j]?,l'[j]? with
 |some e,some e'=>Jkn β ((h.kids[j]?).getD (none,0,0)) e e'
 |_,_=>(none,0,0)
def Jmd (β:Nat->Option Hdr) (b b':Option ABlk) (h:Hdr):Hdr:=match b,b' with
 |some (.nest l),some (.nest l')=>{ h with kids:=Jfe β h l l' }
 |_,_=>h
theorem Jry (β:Nat->Option Hdr) (b b':Option ABlk) (h:Hdr):(Jmd β b b' h).sim h:=by
 unfold Jmd
 split<;>exact⟨rfl,rfl,rfl⟩
theorem Wk.rel {g:Nat} {σ σ':ASt} {gs zs bs:List Nat} (h0:Wk g σ σ' gs zs bs) {C:Ctx} (hC:C.γ.length=g) {a:Act} {w:World} (hR:Rel C (Qj σ.n) σ a w):Rel C (Qj σ'.n) σ' a w:=by
 obtain⟨ab,h⟩:=h0
 obtain⟨β,F,hR⟩:=hR
 let Bor:Nat->Prop:=fun b=>∃id∈bs,∃h k,σ.H id=some k∧β id=some h∧QS h k b
 let β':Nat->Option Hdr:=fun k=>if k∈zs then some (YN none 0 0) else match gs[k]? with
  |some id=>(β id).map (Jmd β (σ.H id) (σ'.H k))
  |none=>none
 let F':Nat->Prop:=fun b=>F b∨Bor b
 have hβ:∀(k id:Nat) (g:Hdr),gs[k]? =some id->β id=some g->β' k=some (Jmd β (σ.H id) (σ'.H k) g):=fun k id g e1 e2=>by
  have hk:k∉zs:=fun hk=>by
   have h1:=h.zfl k hk id e1
   have h2:id<σ.n:=hR.dom id g e2
   omega
  simp only [β',if_neg hk,e1,e2,Option.map_some]
 have hβs:∀(k id:Nat) (g:Hdr),gs[k]? =some id->β id=some g->∃g',β' k=some g'∧g'.sim g:=fun k id g e1 e2=>⟨_,hβ k id g e1 e2,Jry _ _ _ _⟩
 have hz:∀k∈zs,β' k=some (YN none 0 0):=fun k hk=>by simp only [β',if_pos hk]
 have hb:∀id∈bs,∀k,σ.H id=some k->∃g,β id=some g∧YE w F β g k∧∀b,QS g k b->F' b:=fun id hid k hk=>by
  obtain⟨g',e1,e2,_⟩:=hR.live id k hk
  exact⟨g',e1,e2,fun b hb=> .inr ⟨id,hid,g',k,hk,e1,hb⟩⟩
 have hF:∀b,F b->F' b:=fun b hb=> .inl hb
 have hconv:∀{x y:AV} {v:Value},ArgR σ.H gs zs bs x y->RV w F β x v->RV w F' β' y v:=fun {x y v} hxy hv=>hxy.rv hF hβs hz hb hv
 have hbor:∀b,Bor b->b<w.heap.size∧¬F b∧C.Mine b:=fun b ⟨id,hid,g',k,h1,h2,h3⟩=>by
  obtain⟨g'',q1,_,q3⟩:=hR.live id k h1
  rw [h2] at q1
  cases q1
  obtain⟨r1,r2,r3⟩:=q3 b h3
  exact⟨r1,r2,r3⟩
 let By:Nat->Nat->ABlk->Hdr->Nat->Prop:=fun k id b g' i=>QS g' b i∨∃j nn gn xs,ab k=some (j,nn)∧σ.H nn=some (.row 1 xs)∧β nn=some gn∧gn.blk=some i
 have live:∀(k:Nat) (b':ABlk),σ'.H k=some b'->(∃id b g',gs[k]? =some id∧σ.H id=some b∧β id=some g'∧β' k=some (Jmd β (σ.H id) (σ'.H k) g')∧YE w F' β' (Jmd β (σ.H id) (σ'.H k) g') b'∧∀i,QS (Jmd β (σ.H id) (σ'.H k) g') b' i->By k id b g' i)∨
   (β' k=some (YN none 0 0)∧YE w F' β' (YN none 0 0) b'∧∀i,¬QS (YN none 0 0) b' i):=fun k b' hk=>by
  rcases h.blk k b' hk with⟨id,b,e1,e2,e3⟩|⟨e1,e3⟩
  .
   obtain⟨g',q1,q2,q3⟩:=hR.live id b e2
   refine .inl ⟨id,b,g',e1,e2,q1,hβ k id g' e1 q1,?_⟩
   rw [hk,e2]
   rcases e3 with⟨c,c',rfl,rfl,hl,ha⟩|⟨sz,xs,xs',rfl,rfl,hl,hn⟩|⟨q,q',rfl,rfl,hq⟩|⟨l,l',rfl,rfl,hl,hn⟩
   .
    refine⟨?_,fun i hi=> .inl hi⟩
    obtain⟨i,arr,ty,r1,r2,r3,r4⟩:=q2
    refine⟨i,arr,ty,r1,r2,hl▸r3,fun j u' v hu' hv=> ?_⟩
    have hj:j<c.length:=by rw [hl];exact(List.getElem?_eq_some_iff.1 hu').1
    exact hconv (ha j _ u' (Wg hj) hu') (r4 j _ v (Wg hj) hv)
   .
    refine⟨?_,fun i hi=> .inl hi⟩
    obtain⟨r1,r2,r3,r4,r5,r6⟩:=q2
    have el:∀(k:Nat) (c':List AV),xs'[k]? =some c'->∃c,xs[k]? =some c:=fun k c' hk=>⟨_,Wg (by rw [hl];exact(List.getElem?_eq_some_iff.1 hk).1)⟩
    refine⟨hl▸r1,hl▸r2,r3,r4,fun k c' hk=> ?_,fun i hi=> ?_⟩
    .
     obtain⟨c,hc⟩:=el k c' hk
     obtain⟨q1,q2,_⟩:=hn k c c' hc hk
     exact⟨q1▸(r5 k c hc).1,q2⟩
    .
     obtain⟨arr,ty,s1,s2,s3⟩:=r6 i hi
     refine⟨arr,ty,s1,s2,fun k c' j u' hk hj=> ?_⟩
     obtain⟨c,hc⟩:=el k c' hk
     obtain⟨q1,_,q3⟩:=hn k c c' hc hk
     have hjl:j<c.length:=by rw [q1];exact(List.getElem?_eq_some_iff.1 hj).1
     obtain⟨v,t1,t2⟩:=s3 k c j _ hc (Wg hjl)
     exact⟨v,t1,hconv (q3 j _ u' (Wg hjl) hj) t2⟩
   .
    refine⟨?_,fun i hi=> .inl hi⟩
    obtain⟨b,o,r1,r2,r3⟩:=q2
    exact⟨b,o,r1,r2,hq o r3⟩
   .
    obtain⟨r1,r2,r3,r4,r5,r6,r7,r8,r9⟩:=q2
    show JfY w F' β' { g' with kids:=Jfe β g' l l' } l'∧_
    have el:∀(j:Nat) (e':NE),l'[j]? =some e'->∃e x,l[j]? =some e∧g'.kids[j]? =some x∧NW g σ.H gs zs bs k (ab k) j e e':=fun j e' he=>by
     have hj:j<l.length:=by rw [hl];exact(List.getElem?_eq_some_iff.1 he).1
     have q1:=Wg hj
     exact⟨_,_,q1,Wg (by rw [r5];exact hj),hn j _ e' q1 he⟩
    have kl:(Jfe β g' l l').length=l'.length:=by simp [Jfe,hl]
    have kat:∀(j:Nat) (e e':NE) (x x':Option Nat×Nat×Nat),l[j]? =some e->l'[j]? =some e'->g'.kids[j]? =some x->(Jfe β g' l l')[j]? =some x'->x'=Jkn β x e e':=fun j e e' x x' q1 q2 q3 q4=>by
     unfold Jfe at q4
     have hj:j<l.length:=(List.getElem?_eq_some_iff.1 q1).1
     rw [Wp,List.getElem?_range hj] at q4
     simp only [Option.map_some,q1,q2,q3,Option.getD_some] at q4
     exact(Wi q4).symm
    have kid:∀(j:Nat) (xs:List Int) (x':Option Nat×Nat×Nat),l'[j]? =some (.hid xs)->(Jfe β g' l l')[j]? =some x'->(l[j]? =some (.hid xs)∧g'.kids[j]? =some x')∨(l[j]? =some (.raw .nils)∧x'=(none,0,0)∧xs=[])∨
      ∃nn gn,ab k=some (j,nn)∧σ.H nn=some (.row 1 (xs.map fun n=>[.int .i64 n]))∧β nn=some gn∧x'=(gn.blk,gn.len,gn.cap)∧YE w F β gn (.row 1 (xs.map fun n=>[.int .i64 n])):=fun j xs x' q1 q2=>by
     obtain⟨e,x,p1,p2,p3⟩:=el j _ q1
     have p4:=kat j e _ x x' p1 q1 p2 q2
     rcases p3 with⟨ys,rfl,f⟩|⟨u,u',rfl,f,_⟩|⟨rfl,f,_⟩|⟨nn,ys,f1,f2,f3,f4⟩
     .
      cases f
      simp only [Jkn] at p4
      subst p4
      exact .inl ⟨p1,p2⟩
     . cases f
     .
      cases f
      simp only [Jkn] at p4
      exact .inr (.inl ⟨p1,p4,rfl⟩)
     .
      cases f3
      obtain⟨gn,s1,s2,_⟩:=hR.live nn _ f4
      rcases f2 with rfl |⟨rfl,_⟩
      .
       obtain⟨gm,t1,t2⟩:=r8 j _ x p1 p2
       rw [s1] at t1
       cases t1
       simp only [Jkn] at p4
       exact .inr (.inr ⟨nn,gn,f1,f4,s1,p4.trans t2,s2⟩)
      .
       simp only [Jkn,s1] at p4
       exact .inr (.inr ⟨nn,gn,f1,f4,s1,p4,s2⟩)
    have kown:∀(j i:Nat),Jco { g' with kids:=Jfe β g' l l' } l' j i->Jco g' l j i∨∃nn gn xs,ab k=some (j,nn)∧σ.H nn=some (.row 1 xs)∧β nn=some gn∧gn.blk=some i:=fun j i ⟨xs,x',q1,q2,q3⟩=>by
     rcases kid j xs x' q1 q2 with⟨t1,t2⟩|⟨_,t2,_⟩|⟨nn,gn,t1,t2,t3,t4,_⟩
     . exact .inl ⟨xs,x',t1,t2,q3⟩
     . rw [t2] at q3;cases q3
     .
      rw [t4] at q3
      exact .inr ⟨nn,gn,_,t1,t2,t3,q3⟩
    have notn:∀{nn xs},σ.H nn=some (.row 1 xs)->nn≠id:=fun {nn xs} q e=>by rw [e,e2] at q;cases q
    refine⟨⟨hl▸r1,hl▸r2,r3,r4,kl,fun i j b k1 k2=> ?_,fun i b k1 k2=> ?_,fun j e' x' he hx=> ?_,fun b hb=> ?_⟩,fun i hi=> ?_⟩
    .
     rcases kown i b k1 with k1 |⟨n1,g1,x1,t1,t2,t3,t4⟩<;>rcases kown j b k2 with k2 |⟨n2,g2,x2,s1,s2,s3,s4⟩
     . exact r6 i j b k1 k2
     . exact absurd (hR.inj id n2 _ _ g' g2 b e2 s2 q1 s3 (.inr ⟨i,k1⟩) (.inl s4)).symm (notn s2)
     . exact absurd (hR.inj n1 id _ _ g1 g' b t2 e2 t3 q1 (.inl t4) (.inr ⟨j,k2⟩)) (notn t2)
     . rw [t1] at s1;cases s1;rfl
    .
     rcases kown i b k1 with k1 |⟨n1,g1,x1,t1,t2,t3,t4⟩
     . exact r7 i b k1 k2
     . exact absurd (hR.inj n1 id _ _ g1 g' b t2 e2 t3 q1 (.inl t4) (.inl k2)) (notn t2)
    .
     cases e' with
     |hid xs=>
      rcases kid j xs x' he hx with⟨t1,t2⟩|⟨_,t2,t3⟩|⟨nn,gn,t1,t2,t3,t4,t5⟩
      . exact r8 j _ x' t1 t2
      .
       subst t2 t3
       exact⟨rfl,Nat.le_refl _,by simp [maxLen],fun _=>rfl,fun b e=>by cases e⟩
      .
       subst t4
       obtain⟨u1,u2,u3,u4,u5,u6⟩:=t5
       rw [List.length_map] at u1 u2
       refine⟨u1,u2,u3,u4,fun b e=> ?_⟩
       obtain⟨arr,ty,v1,v2,v3⟩:=u6 b e
       refine⟨arr,ty,v1,by rw [Nat.mul_one] at v2;exact v2,fun i n hi=> ?_⟩
       obtain⟨v,w1,w2⟩:=v3 i [.int .i64 n] 0 (.int .i64 n) (by rw [Wp,hi];rfl) rfl
       cases w2
       rw [Nat.mul_one,Nat.add_zero] at w1
       exact w1
     |ext id2=>
      obtain⟨e,x,p1,p2,p3⟩:=el j _ he
      rcases p3 with⟨ys,rfl,f⟩|⟨u,u',rfl,f,_⟩|⟨rfl,f,_⟩|⟨nn,ys,f1,f2,f3,f4⟩
      . cases f
      . cases f
      . cases f
      . cases f3
     |raw u=>trivial
    .
     obtain⟨arr,ty,s1,s2,s3⟩:=r9 b hb
     refine⟨arr,ty,s1,s2,fun j e' x' he hx=> ?_⟩
     obtain⟨e,x,p1,p2,p3⟩:=el j _ he
     obtain⟨v,v1,v2⟩:=s3 j e x p1 p2
     refine⟨v,v1,?_⟩
     cases e' with
     |hid xs=>
      rcases kid j xs x' he hx with⟨t1,t2⟩|⟨t1,t2,t3⟩|⟨nn,gn,t1,t2,t3,t4,t5⟩
      .
       rw [p1] at t1
       rw [p2] at t2
       cases t1
       cases t2
       exact v2
      .
       rw [p1] at t1
       cases t1
       have v3:=v2.2
       cases v3
       subst t2
       rfl
      .
       rcases p3 with⟨ys,rfl,f⟩|⟨u,u',rfl,f,_⟩|⟨rfl,f,_⟩|⟨n2,ys,f1,f2,f3,f4⟩
       .
        have p4:=kat j _ _ x x' p1 he p2 hx
        simp only [Jkn] at p4
        subst p4
        exact v2
       . cases f
       .
        have p4:=kat j _ _ x x' p1 he p2 hx
        simp only [Jkn] at p4
        subst p4
        have v3:=v2.2
        cases v3
        rfl
       .
        rw [t1] at f1
        cases f1
        rcases f2 with rfl |⟨rfl,_⟩
        .
         have p4:=kat j _ _ x x' p1 he p2 hx
         simp only [Jkn] at p4
         subst p4
         exact v2
        .
         have v3:=v2.2
         cases v3 with
         |osl _ g2 z1=>
          rw [t3] at z1
          cases z1
          subst t4
          rfl
     |ext id2=>
      rcases p3 with⟨ys,rfl,f⟩|⟨u,u',rfl,f,_⟩|⟨rfl,f,_⟩|⟨nn,ys,f1,f2,f3,f4⟩
      . cases f
      . cases f
      . cases f
      . cases f3
     |raw u2=>
      rcases p3 with⟨ys,rfl,f⟩|⟨u,u',rfl,f,f1,f2⟩|⟨rfl,f,_⟩|⟨nn,ys,f1,f2,f3,f4⟩
      . cases f
      .
       cases f
       exact⟨f1,hconv f2 v2.2⟩
      . cases f
      . cases f3
    .
     rcases hi with hi |⟨j,hi⟩
     . exact .inl (.inl hi)
     .
      rcases kown j i hi with hi |⟨nn,gn,xs,t1,t2,t3,t4⟩
      . exact .inl (.inr ⟨j,hi⟩)
      . exact .inr ⟨j,nn,gn,xs,t1,t2,t3,t4⟩
  .
   rcases e3 with⟨sz,rfl⟩|rfl
   . exact .inr ⟨hz k e1,⟨rfl,Nat.le_refl _,by simp [maxLen],fun _=>rfl,fun k c hk=>by simp at hk,fun b e=>by cases e⟩,fun i hi=>by rcases hi with hi |hi;cases hi;exact hi⟩
   . exact .inr ⟨hz k e1,⟨rfl,Nat.le_refl _,by simp [maxLen],fun _=>rfl,rfl,fun i j b ⟨xs,x,q,_⟩=>by simp at q,fun i b ⟨xs,x,q,_⟩=>by simp at q,fun i e x q=>by simp at q,fun b e=>by cases e⟩,fun i hi=>by rcases hi with hi |⟨j,xs,x,q,_⟩;cases hi;simp at q⟩
 have byown:∀{k id b g' i},σ.H id=some b->β id=some g'->By k id b g' i->i<w.heap.size∧¬F i∧C.Mine i:=fun {k id b g' i} q1 q2 q3=>by
  rcases q3 with q3 |⟨j,nn,gn,xs,t1,t2,t3,t4⟩
  .
   obtain⟨g2,s1,_,s3⟩:=hR.live id b q1
   rw [q2] at s1
   cases s1
   exact s3 i q3
  .
   obtain⟨g2,s1,_,s3⟩:=hR.live nn _ t2
   rw [t3] at s1
   cases s1
   exact s3 i (.inl t4)
 refine⟨β',F',fun t=>hconv (h.env t) (hR.env t),hR.size,hR.defers,fun k b' hk=> ?_,fun k1 k2 b1 b2 g1 g2 i e1 e2 e3 e4 e5 e6=> ?_,fun k g' e=> ?_,fun i g' e=> ?_,fun b hb=> .inl (hR.sub b hb),fun b hb=> ?_,hR.os,hR.tape,hR.output,hR.grow,hR.block,fun g=>(hR.glo g).mono (fun b hb=> .inl hb) (fun _ _=>rfl) (fun _ _ e=>e)⟩
 .
  rcases live k b' hk with⟨id,b,g',e1,e2,e3,e4,e5,e6⟩|⟨e1,e2,e3⟩
  .
   refine⟨_,e4,e5,fun i hi=> ?_⟩
   have hby:=e6 i hi
   obtain⟨o1,o2,o3⟩:=byown e2 e3 hby
   refine⟨o1,fun hF=> ?_,o3⟩
   rcases hF with hF |⟨id2,hid2,g2,k2,q1,q2,q3⟩
   . exact o2 hF
   .
    rcases hby with hby |⟨j,nn,gn,xs,t1,t2,t3,t4⟩
    .
     have:=hR.inj id id2 b k2 g' g2 i e2 q1 e3 q2 hby q3
     exact h.dis k id b' e1 hk (this▸hid2)
    .
     have:=hR.inj nn id2 _ k2 gn g2 i t2 q1 t3 q2 (.inl t4) q3
     exact(h.abd k j nn t1).1 (this▸hid2)
  . exact⟨_,e1,e2,fun i hi=>(e3 i hi).elim⟩
 .
  rcases live k1 b1 e1 with⟨id1,c1,h1,q1,q2,q3,q4,_,q6⟩|⟨q,_,q6⟩
  .
   rcases live k2 b2 e2 with⟨id2,c2,h2,r1,r2,r3,r4,_,r6⟩|⟨r,_,r6⟩
   .
    rw [e3] at q4
    rw [e4] at r4
    cases q4
    cases r4
    rcases q6 i e5 with p1 |⟨j1,n1,m1,x1,t1,t2,t3,t4⟩<;>rcases r6 i e6 with p2 |⟨j2,n2,m2,x2,s1,s2,s3,s4⟩
    .
     have:=hR.inj id1 id2 c1 c2 _ _ i q2 r2 q3 r3 p1 p2
     subst this
     exact h.nd k1 k2 id1 b1 b2 q1 r1 e1 e2
    .
     have:=hR.inj id1 n2 c1 _ _ m2 i q2 s2 q3 s3 p1 (.inl s4)
     subst this
     exact absurd e1 ((h.abd k2 j2 _ s1).2.1 k1 b1 q1)
    .
     have:=hR.inj n1 id2 _ c2 m1 _ i t2 r2 t3 r3 (.inl t4) p2
     subst this
     exact absurd e2 ((h.abd k1 j1 _ t1).2.1 k2 b2 r1)
    .
     have:=hR.inj n1 n2 _ _ m1 m2 i t2 s2 t3 s3 (.inl t4) (.inl s4)
     subst this
     exact(h.abd k2 j2 _ s1).2.2 k1 j1 t1
   . rw [e4] at r;cases r;exact(r6 i e6).elim
  . rw [e3] at q;cases q;exact(q6 i e5).elim
 .
  simp only [β'] at e
  split at e
  . exact h.zge k ‹_›
  .
   cases hk:gs[k]? with
   |some id=>
    have:=(List.getElem?_eq_some_iff.1 hk).1
    have:=h.gle
    show k<σ'.n
    omega
   |none=>
    rw [hk] at e
    cases e
 .
  have hlt:i<g:=by rw [<-hC];exact(List.getElem?_eq_some_iff.1 e).1
  have h1:=h.fix i hlt
  have h2:=hR.gr i g' e
  rw [hβ i i g' h1 h2]
  congr 1
  unfold Jmd
  split
  .
   rename_i l l' q1 q2
   rcases h.blk i _ q2 with⟨id,b,e1,e2,e3⟩|⟨e1,_⟩
   .
    rw [h1] at e1
    cases e1
    rw [q1] at e2
    cases e2
    rcases e3 with⟨_,_,f,_⟩|⟨_,_,_,f,_⟩|⟨_,_,f,_⟩|⟨_,_,f,f2,hl,hn⟩
    . cases f
    . cases f
    . cases f
    .
     cases f
     cases f2
     obtain⟨g2,s1,s2,_⟩:=hR.live i _ q1
     rw [h2] at s1
     cases s1
     obtain⟨r1,r2,r3,r4,r5,r6,r7,r8,r9⟩:=s2
     have:Jfe β g' l l'=g'.kids:=by
      refine List.ext_getElem? fun j=> ?_
      by_cases hj:j<l.length
      .
       obtain⟨x,hx⟩:∃x,g'.kids[j]? =some x:=⟨_,Wg (by rw [r5];exact hj)⟩
       have p1:=Wg hj
       have p2:=Wg (show j<l'.length by rw [<-hl];exact hj)
       have p3:=hn j _ _ p1 p2
       unfold Jfe
       rw [Wp,List.getElem?_range hj,hx]
       simp only [Option.map_some,p1,p2,hx,Option.getD_some]
       rcases p3 with⟨ys,f1,f2⟩|⟨u,u',f1,f2,_⟩|⟨f1,f2,f3⟩|⟨nn,ys,_,f1,f2,_⟩
       . rw [f1,f2];rfl
       . rw [f1,f2];cases u<;>rfl
       . omega
       .
        rcases f1 with f1 |⟨_,f3⟩
        . rw [f1,f2];rfl
        . omega
      . rw [List.getElem?_eq_none (by simp [Jfe];omega),List.getElem?_eq_none (by omega)]
     rw [this]
   .
    have h3:i<σ.n:=hR.dom i g' h2
    have h4:=h.zfl i e1 i h1
    omega
  . rfl
 .
  rcases hb with hb |hb
  . exact hR.news b hb
  .
   obtain⟨h1,_,h3⟩:=hbor b hb
   exact⟨h1,.inr h3⟩
end Go.Proofs.YtehhohbnhcogkaaGreatDoor.Ax
namespace Go.Proofs.YtehhohbnhcogkaaGreatDoor.Ax
open Go.RowKit
def JaY:Nat->(Nat->Prop)->Prop
 |0,K=>K 0
 |n+1,K=>K (n+1)
theorem Q8 {n:Nat} {K:Nat->Prop}:JaY n K↔K n:=by cases n<;>exact Iff.rfl
def JqU:AV->(AV->Prop)->Prop
 | .ptr id j,K=>JaY id fun id=>K (.ptr id j)
 | .eptr id sz i j,K=>JaY id fun id=>K (.eptr id sz i j)
 | .mp id,K=>JaY id fun id=>K (.mp id)
 | .osl id,K=>JaY id fun id=>K (.osl id)
 | .sub id a b c d,K=>JaY id fun id=>K (.sub id a b c d)
 | .any,K=>K .any
 | .int k n,K=>K (.int k n)
 | .tru,K=>K .tru
 | .fls,K=>K .fls
 | .bool b,K=>K (.bool b)
 | .str s,K=>K (.str s)
 | .nilp,K=>K .nilp
 | .val v,K=>K (.val v)
 | .nils,K=>K .nils
 | .iptr c,K=>K (.iptr c)
 | .lst sz xs,K=>K (.lst sz xs)
 | .lsc sz xs,K=>K (.lsc sz xs)
 | .agg c,K=>K (.agg c)
 | .tup c,K=>K (.tup c)
 | .fn f c,K=>K (.fn f c)
theorem JmR {v:AV} {K:AV->Prop}:JqU v K↔K v:=by
 cases v<;>first
  |exact Iff.rfl
  |exact Q8 (K:=fun id=>K (.ptr id _))
  |exact Q8 (K:=fun id=>K (.eptr id _ _ _))
  |exact Q8 (K:=fun id=>K (.mp id))
  |exact Q8 (K:=fun id=>K (.osl id))
  |exact Q8 (K:=fun id=>K (.sub id _ _ _ _))
def Jfn:List AV->(List AV->Prop)->Prop
 |[],K=>K []
 |v::l,K=>JqU v fun v=>Jfn l fun l=>K (v::l)
theorem JbB:∀{l:List AV} {K:List AV->Prop},Jfn l K↔K l
 |[],K=>Iff.rfl
 |v::l,K=>JmR.trans JbB
def JmS:List (List AV)->(List (List AV)->Prop)->Prop
 |[],K=>K []
 |c::l,K=>Jfn c fun c=>JmS l fun l=>K (c::l)
theorem Jit:∀{l:List (List AV)} {K:List (List AV)->Prop},JmS l K↔K l
 |[],K=>Iff.rfl
 |c::l,K=>JbB.trans Jit
end Go.Proofs.YtehhohbnhcogkaaGreatDoor.Ax
namespace Go.Proofs.YtehhohbnhcogkaaGreatDoor.Ax
open Go.RowKit
variable {H:Nat->Option ABlk}
def Jd9 (up:Bool) (g:Nat) (bs:List Nat) (res:AV) (G':List ABlk):Prop:=match up with
 |true=>True
 |false=>bs=[]∨(res.flat=true∧∀b∈G',b.flat)
structure CallOK (P:Program) (f:FuncId) (args:List AV) (H:Nat->Option ABlk) (n:Nat) (args':List AV) (gs bs:List Nat) (G G':List ABlk) (res:AV) (Gc:List ABlk) (g:Nat) (up:Bool) (m:Nat):Prop where
 fn:∃fn bd,P.funcs[f]? =some fn∧fn.name≠ "runtime.NumGoroutine" ∧fn.body=some bd
 len:args.length=args'.length
 args:∀(t:Nat) (u u':AV),args[t]? =some u->args'[t]? =some u'->ArgR H gs [] bs u u'
 gl:gs.length=G.length
 gk:∀(k id:Nat) (b:ABlk),gs[k]? =some id->G[k]? =some b->H id=some (b.ren (rho gs n (G'.length - G.length)))
 nd:∀(i j id:Nat),gs[i]? =some id->gs[j]? =some id->i=j
 dis:∀id∈gs,id∉bs
 gc:Gc=G'.map (ABlk.ren (rho gs n (G'.length - G.length)))
 le:G.length<=G'.length
 flat:Jd9 up g bs res G'
 ac:AC P f args' G res G'
 m:G'.length - G.length=m
def Jwe:AV->Option Bool
 | .tru=>some true
 | .fls=>some false
 | .bool b=>some b
 |_=>none
def eqB (op:BinOp) (r:Bool):Bool:=match op with
 | .eql=>r
 |_=> !r
def JsS:BinOp->Bool
 | .eql | .neq=>true
 |_=>false
def JbE (env:Nat->AV) (x:Option Operand) (d:Nat) (K:Nat->Prop):Prop:=match x with
 |none=>K d
 |some x=>match ev env x with
  | .int _ i=>∃n:Nat,i=n∧K n
  |_=>False
theorem Z9 {env:Nat->AV} {x:Option Operand} {d:Nat} {K:Nat->Prop} (h:JbE env x d K):∃n,Zy env x d n∧K n:=by
 unfold JbE at h
 split at h
 . exact⟨d,rfl,h⟩
 .
  rename_i y
  split at h
  .
   rename_i k i e
   obtain⟨n,rfl,hk⟩:=h
   exact⟨n,⟨k,e⟩,hk⟩
  . exact h.elim
def Ja1 (a b:Nat) (K:Prop):Prop:=match Nat.beq a b with
 |true=>K
 |false=>False
theorem Yd {a b:Nat} {K:Prop} (h:Ja1 a b K):a=b∧K:=by
 unfold Ja1 at h
 split at h
 . rename_i e;exact⟨Nat.eq_of_beq_eq_true e,h⟩
 . exact h.elim
def JjK (H:Nat->Option ABlk) (v:AV) (sz:Nat) (K:List (List AV)->List Nat->Prop):Prop:=match v with
 | .nils=>K [] []
 | .lst sz' ys=>Ja1 sz' sz (K ys [])
 | .osl id=>match H id with
  |some (.row sz' ys)=>Ja1 sz' sz (K ys [id])
  |_=>False
 | .sub id sz' lo hi mx=>match H id with
  |some (.row sz2 xs)=>Ja1 sz' sz <| Ja1 sz2 sz <| lo<=hi∧hi<=xs.length∧(∀m,mx=some m->hi<=m)∧K ((xs.drop lo).take (hi - lo)) [id]
  |_=>False
 |_=>False
theorem JgC {v:AV} {sz:Nat} {K:List (List AV)->List Nat->Prop} (h:JjK H v sz K):∃ys ids,Ji7 H v sz ys ids∧K ys ids:=by
 unfold JjK at h
 split at h
 . exact⟨[],[],.inl ⟨rfl,rfl,rfl⟩,h⟩
 . replace h:=Yd h;obtain⟨rfl,h⟩:=h;exact⟨_,[],.inr (.inl ⟨rfl,rfl⟩),h⟩
 .
  split at h
  . rename_i e;replace h:=Yd h;obtain⟨rfl,h⟩:=h;exact⟨_,_,.inr (.inr (.inl ⟨_,rfl,e,rfl⟩)),h⟩
  . exact h.elim
 .
  split at h
  . rename_i e;replace h:=Yd h;obtain⟨rfl,h⟩:=h;replace h:=Yd h;obtain⟨rfl,h1,h2,h3,h⟩:=h;exact⟨_,_,.inr (.inr (.inr ⟨_,_,_,_,_,rfl,e,h1,h2,h3,rfl,rfl⟩)),h⟩
  . exact h.elim
 . exact h.elim
def JuJ (H:Nat->Option ABlk) (g:Nat) (v:AV) (sz:Nat) (K:List (List AV)->List (Nat×Option ABlk)->Prop):Prop:=match v with
 | .nils=>K [] []
 | .osl id=>match H id with
  |some (.row sz' xs)=>Ja1 sz' sz (K xs [(id,none)])
  |_=>False
 | .sub id sz' lo hi (some m)=>match H id with
  |some (.row sz2 xs)=>Ja1 sz' sz <| Ja1 sz2 sz <| lo=0∧m=hi∧hi<=xs.length∧K (xs.take hi) [(id,none)]
  |_=>False
 | .sub id sz' lo hi none=>match H id with
  |some (.row sz2 xs)=>Ja1 sz' sz <| Ja1 sz2 sz <| lo=0∧hi<=xs.length∧K (xs.take hi) [(id,none)]
  |_=>False
 |_=>False
theorem JsB {g:Nat} {v:AV} {sz:Nat} {K:List (List AV)->List (Nat×Option ABlk)->Prop} (h:JuJ H g v sz K):∃xs wr,JoV H g v sz xs wr∧K xs wr:=by
 unfold JuJ at h
 split at h
 . exact⟨[],[],.inl ⟨rfl,rfl,rfl⟩,h⟩
 .
  split at h
  . rename_i e1;replace h:=Yd h;obtain⟨rfl,h⟩:=h;exact⟨_,_,.inr (.inl ⟨_,rfl,e1,rfl⟩),h⟩
  . exact h.elim
 .
  split at h
  . rename_i e1;replace h:=Yd h;obtain⟨rfl,h⟩:=h;replace h:=Yd h;obtain⟨rfl,rfl,rfl,h1,h⟩:=h;exact⟨_,_,.inr (.inr ⟨_,_,_,_,rfl,e1,h1,rfl,.inr rfl,rfl⟩),h⟩
  . exact h.elim
 .
  split at h
  . rename_i e1;replace h:=Yd h;obtain⟨rfl,h⟩:=h;replace h:=Yd h;obtain⟨rfl,rfl,h1,h⟩:=h;exact⟨_,_,.inr (.inr ⟨_,_,_,_,rfl,e1,h1,rfl,.inl rfl,rfl⟩),h⟩
  . exact h.elim
 . exact h.elim
def JkI (tab:Tab) (s:TypeId):Bool:=match tab s with
 |some tj=>match tj.d with
  | .slc e _ _ _=>match tab e with
   |some te=>match te.d with
    | .int .u8=>true
    |_=>false
   |none=>false
  |_=>false
 |none=>false
theorem Jm0 {tab:Tab} {s:TypeId} (h:JkI tab s=true):∃tj e sz eb ez te,tab s=some tj∧tj.d= .slc e sz eb ez∧tab e=some te∧te.d= .int .u8:=by
 unfold JkI at h
 split at h
 .
  rename_i tj h1
  split at h
  .
   rename_i e sz eb ez h2
   split at h
   .
    rename_i te h3
    split at h
    .
     rename_i h4
     exact⟨tj,e,sz,eb,ez,te,h1,h2,h3,h4⟩
    . cases h
   . cases h
  . cases h
 . cases h
def upL:Bool->List Nat->List (Nat×Option ABlk)
 |true,bs=>Jbz bs
 |false,_=>[]
def JqN:List AV->Bool
 |[]=>false
 | .osl _::_ | .nils::_ | .tru::_ | .fls::_=>true
 | .any::l | .int _ _::l | .bool _::l | .str _::l | .nilp::l | .val _::l | .ptr _ _::l | .eptr _ _ _ _::l | .mp _::l | .iptr _::l | .lst _ _::l | .lsc _ _::l | .sub _ _ _ _ _::l | .agg _::l | .tup _::l | .fn _ _::l=>JqN l
def Jgb (H:Nat->Option ABlk):List AV->(List AV->List Nat->Prop)->Prop
 |[],K=>K [] []
 | .osl id::l,K=>match H id with
  |some (.row sz ys)=>(∀c∈ys,AV.niL c=true)∧Jgb H l fun l' ids=>K (.lst sz ys::l') (id::ids)
  |_=>False
 | .nils::l,K=>∃sz:Nat,Jgb H l fun l' ids=>K (.lst sz []::l') ids
 | .tru::l,K=>Jgb H l fun l' ids=>K (.bool true::l') ids
 | .fls::l,K=>Jgb H l fun l' ids=>K (.bool false::l') ids
 | .int k n::l,K=>Jgb H l fun l' ids=>K (.int k n::l') ids
 | .bool b::l,K=>Jgb H l fun l' ids=>K (.bool b::l') ids
 | .str s::l,K=>Jgb H l fun l' ids=>K (.str s::l') ids
 | .lst sz xs::l,K=>Jgb H l fun l' ids=>K (.lst sz xs::l') ids
 | .nilp::l,K=>Jgb H l fun l' ids=>K (.nilp::l') ids
 | .val v::l,K=>Jgb H l fun l' ids=>K (.val v::l') ids
 | .iptr c::l,K=>Jgb H l fun l' ids=>K (.iptr c::l') ids
 | .any::_,_ | .lsc _ _::_,_ | .ptr _ _::_,_ | .eptr _ _ _ _::_,_ | .mp _::_,_ | .sub _ _ _ _ _::_,_ | .agg _::_,_ | .tup _::_,_ | .fn _ _::_,_=>False
theorem ArgR.more {gs zs bs bs':List Nat} {x y:AV} (h:ArgR H gs zs bs x y) (hb:∀i∈bs,i∈bs'):ArgR H gs zs bs' x y:=by
 induction h with
 |any x=>exact .any x
 |ni x hx=>exact .ni x hx
 |tru=>exact .tru
 |fls=>exact .fls
 |nils sz=>exact .nils sz
 |nilz k hk=>exact .nilz k hk
 |ptr id j k hk=>exact .ptr id j k hk
 |eptr id sz i j k hk=>exact .eptr id sz i j k hk
 |mp id k hk=>exact .mp id k hk
 |oslg id k hk=>exact .oslg id k hk
 |osl id sz xs hm hH hn=>exact .osl id sz xs (hb _ hm) hH hn
 |oslr id sz xs xs' hm hH hl hcl hn hone _ ih=>exact .oslr id sz xs xs' (hb _ hm) hH hl hcl hn hone ih
 |nest id ys hm hH=>exact .nest id ys (hb _ hm) hH
 |sub id sz lo hi mx xs hm hH hn l1 l2 l3=>exact .sub id sz lo hi mx xs (hb _ hm) hH hn l1 l2 l3
 |ibox id j c hm hH h1 hn=>exact .ibox id j c (hb _ hm) hH h1 hn
 |ibxr id j c c' hm hH hl h1 hn _ ih=>exact .ibxr id j c c' (hb _ hm) hH hl h1 hn ih
 |irow id sz i j xs c hm hH hc hn=>exact .irow id sz i j xs c (hb _ hm) hH hc hn
 |agg c c' h1 _ ih=>exact .agg c c' h1 ih
 |tup c c' h1 _ ih=>exact .tup c c' h1 ih
 |fn f c c' h1 _ ih=>exact .fn f c c' h1 ih
theorem JnJ {H:Nat->Option ABlk}:∀{c:List AV} {K:List AV->List Nat->Prop},Jgb H c K->∃c' ids,Jvb H c c' ids∧K c' ids
 |[],K,h=>⟨[],[],⟨rfl,fun j u u' e=>by simp at e⟩,h⟩
 |u::l,K,h=>by
  have step:∀{u':AV} {ids0:List Nat},ArgR H [] [] ids0 u u'->(Jgb H l fun l' ids=>K (u'::l') (ids0++ids))->∃c' ids,Jvb H (u::l) c' ids∧K c' ids:=fun {u' ids0} hu hk=>by
   obtain⟨c',ids,⟨h1,h2⟩,h3⟩:=JnJ hk
   refine⟨u'::c',ids0++ids,⟨by simp [h1],fun j x x' hx hx'=> ?_⟩,h3⟩
   cases j with
   |zero=>simp at hx hx';subst hx;subst hx';exact hu.more (fun i hi=>List.mem_append_left _ hi)
   |succ j=>exact(h2 j x x' (by simpa using hx) (by simpa using hx')).more (fun i hi=>List.mem_append_right _ hi)
  cases u
  case nils=>
   obtain⟨sz,h⟩:=h
   exact step (ids0:=[]) (.nils sz) h
  case tru=>exact step (ids0:=[]) .tru h
  case fls=>exact step (ids0:=[]) .fls h
  case osl id=>
   simp only [Jgb] at h
   split at h
   .
    rename_i sz ys e
    exact step (ids0:=[id]) (.osl id sz ys (by simp) e h.1) h.2
   . exact h.elim
  all_goals first |exact step (ids0:=[]) (.ni _ rfl) h |exact False.elim h
def Jn4 (P:Program) (tab:Tab) (g:Nat) (o:Oper) (σ:ASt) (K:Eff->Prop):Prop:=match σ with
 |⟨env,H,nn⟩=>
 match o.op with
 | .move x=>K ⟨ev env x,[],[],nn⟩
 | .assign x=>K ⟨ev env x,[],[],nn⟩
 | .pick c x y=>match ev env c with
  | .tru=>K ⟨ev env x,[],[],nn⟩
  | .fls=>K ⟨ev env y,[],[],nn⟩
  |_=>False
 | .extract x i=>match ev env x with
  | .tup vs=>match vs[i]? with
   |some v=>K ⟨v,[],[],nn⟩
   |none=>False
  |_=>False
 | .field t x i=>match tab t with
  |some ti=>match ti.d,ev env x with
   | .struct fs,.agg c=>match fs[i]? with
    |some (off,n,b)=>Jgo c off n b (fun v=>K ⟨v,[],[],nn⟩)
    |none=>False
   |_,_=>False
  |none=>False
 | .build t parts=>match tab t with
  |some ti=>match ti.d with
   | .struct fs=>match JfU (Jaq fs) ti.zero (parts.toList.map fun p=>(p.1,ev env p.2)) with
    |some c=>K ⟨.agg c,[],[],nn⟩
    |none=>False
   | .arr n sz _=>match JfU ((List.range n).map fun i=>(i*sz,sz)) ti.zero (parts.toList.map fun p=>(p.1,ev env p.2)) with
    |some c=>K ⟨.agg c,[],[],nn⟩
    |none=>False
   |_=>False
  |none=>False
 | .buildSlice t n parts=>match tab t with
  |some ti=>match ti.d with
   | .slc _ sz _ ez=>match JfU ((List.range n).map fun i=>(i*sz,sz)) (List.replicate (n*sz) .any) (parts.toList.map fun p=>(p.1,ev env p.2)) with
    |some c=>match Nat.beq ez.length sz&&Nat.ble (n*sz) 16777216&&Nat.ble n 16777216&&c.all AV.one&&Nat.beq c.length (n*sz) with
     |true=>JmS (Jch sz n c) fun r=>K ⟨.osl nn,[(nn,some (.row sz r))],[],nn+1⟩
     |false=>False
    |none=>False
   |_=>False
  |none=>False
 | .box _ x=>match (ev env x).okc with
  |true=>K ⟨.ptr nn 0,[(nn,some (.box (ev env x).cells))],[],nn+1⟩
  |false=>False
 | .alloc t=>match tab t with
  |some ti=>match ti.d with
   | .arr _ _ _=>(∃s xs,Jm7 ti.zero s xs∧K ⟨.ptr nn 0,[(nn,some (.row s xs))],[],nn+1⟩)∨K ⟨.ptr nn 0,[(nn,some (.box ti.zero))],[],nn+1⟩
   |_=>K ⟨.ptr nn 0,[(nn,some (.box ti.zero))],[],nn+1⟩
  |none=>False
 | .load t x=>match tab t with
  |some ti=>match ev env x with
   | .iptr c=>Jgo c 0 ti.size ti.agg (fun v=>K ⟨v,[],[],nn⟩)
   | .ptr id j=>match H id with
    |some (.box c)=>Jgo c j ti.size ti.agg (fun v=>K ⟨v,[],[id],nn⟩)
    |some (.row s xs)=>Ja1 j 0 <| ∃c,JiH xs s c∧Jgo c 0 ti.size ti.agg (fun v=>K ⟨v,[],[id],nn⟩)
    |_=>False
   | .eptr id sz i j=>match H id with
    |some (.row sz' xs)=>Ja1 sz' sz <| ∃c,xs[i]? =some c∧Jgo c j ti.size ti.agg (fun v=>K ⟨v,[],[id],nn⟩)
    |_=>False
   |_=>False
  |none=>False
 | .store t p x=>match tab t with
  |some ti=>match (ev env x).okc&&(ev env x).cells.all AV.one&&Nat.beq (ev env x).cells.length ti.size with
   |true=>match ev env p with
    | .ptr id j=>match H id with
     |some (.box c)=>match Nat.ble (j+ti.size) c.length with
      |true=>K ⟨.any,[(id,some (.box (Zr c j (ev env x).cells)))],[],nn⟩
      |false=>False
     |_=>False
    | .eptr id sz i j=>match H id with
     |some (.row sz' xs)=>match JqN (ev env x).cells with
      |false=>Ja1 sz' sz <| ∃c,xs[i]? =some c∧j+ti.size<=c.length∧∃zs:List (List AV),xs.set i (Zr c j (ev env x).cells)=zs∧K ⟨.any,[(id,some (.row sz zs))],[],nn⟩
      |true=>Ja1 sz' sz <| Jgb H (ev env x).cells fun cs ids=>match cs.all AV.one&&Nat.beq cs.length ti.size&& !ids.contains id with
       |true=>∃c,xs[i]? =some c∧j+ti.size<=c.length∧∃zs:List (List AV),xs.set i (Zr c j cs)=zs∧K ⟨.any,Jbz ids++[(id,some (.row sz zs))],ids,nn⟩
       |false=>False
     |_=>False
    |_=>False
   |false=>False
  |none=>False
 | .nilCheck x=>match ev env x with
  | .ptr .. | .eptr .. | .iptr .. =>K ⟨ev env x,[],[],nn⟩
  |_=>False
 | .binOp op t x y _=>match ev env x,ev env y with
  | .agg c,.agg e=>match tab t with
   |some ti=>match ti.eqk with
    |some ks=>match Y2 ks c&&JsS op,Yw c e with
     |true,some r=>K ⟨.bool (eqB op r),[],[],nn⟩
     |_,_=>False
    |none=>False
   |none=>False
  |u,v=>match JsS op,JoS u,JoS v with
   |true,some a,some b=>match tab t with
    |some ti=>match ti.d with
     | .bool=>K ⟨.bool (eqB op (a==b)),[],[],nn⟩
     |_=>False
    |none=>False
   |_,_,_=>JoT op u v (fun r=>K ⟨r,[],[],nn⟩)
 | .unOp op _ x=>match op,ev env x with
  | .not,.tru=>K ⟨.fls,[],[],nn⟩
  | .not,.fls=>K ⟨.tru,[],[],nn⟩
  | .not,.bool b=>K ⟨.bool (!b),[],[],nn⟩
  | .neg,.int k n=>∃z,k.wrap (0 - n)=z∧K ⟨.int k z,[],[],nn⟩
  |_,_=>False
 | .convert s t x=>match tab s,tab t with
  |some _,some ti=>match ti.d,ev env x with
   | .int k,.int _ n=>∃z,k.wrap n=z∧K ⟨.int k z,[],[],nn⟩
   | .str,v=>match JkI tab s with
    |true=>JjK H v 1 fun ys ids=>∃ns:List Int,(ys=ns.map fun n=>[.int .u8 n])∧K ⟨.str (YS ns),[],ids,nn⟩
    |false=>False
   |_,_=>False
  |_,_=>False
 | .makeFunc fn first cap=>match fn,first with
  | .func f,⟨[]⟩=>K ⟨.fn f (cap.toList.map (ev env)),[],[],nn⟩
  |_,_=>False
 | .makeSlice t l c=>match tab t with
  |some ti=>match ti.d,ev env l,ev env c with
   | .slc _ sz eb ez,.int _ i,.int _ j=>match Nat.beq ez.length sz&&ez.all AV.one with
    |true=>∃m:Nat,i=m∧j=m∧eb*m<=281474976710656∧m<=maxLen∧∃zs:List (List AV),List.replicate m ez=zs∧K ⟨.osl nn,[(nn,some (.row sz zs))],[],nn+1⟩
    |false=>False
   |_,_,_=>False
  |none=>False
 | .fieldAddr t x i=>match tab t with
  |some ti=>match ti.d with
   | .struct fs=>match fs[i]? with
    |some (off,_+1,_)=>match ev env x with
     | .ptr id j=>K ⟨.ptr id (j+off),[],[],nn⟩
     | .eptr id sz k j=>K ⟨.eptr id sz k (j+off),[],[],nn⟩
     | .iptr c=>K ⟨.iptr (c.drop off),[],[],nn⟩
     |_=>False
    |_=>False
   |_=>False
  |none=>False
 | .indexAddr t x ix=>match tab t with
  |some ti=>match ti.d,ev env ix with
   | .slc _ sz _ _,.int _ i=>match ev env x with
    | .lst sz' xs=>Ja1 sz' sz <| ∃(m:Nat) (c:List AV),i=m∧xs[m]? =some c∧K ⟨.iptr c,[],[],nn⟩
    | .osl id=>match H id with
     |some (.row sz' xs)=>Ja1 sz' sz <| ∃m:Nat,i=m∧m<xs.length∧K ⟨.eptr id sz m 0,[],[id],nn⟩
     |_=>False
    |_=>False
   | .arr n sz _,.int _ i=>match ev env x with
    | .ptr id j=>match H id with
     |some (.row s _)=>Ja1 j 0 <| ∃m r:Nat,i=m∧m<n∧sz=r*s∧K ⟨.eptr id s (m*r) 0,[],[],nn⟩
     |_=>∃m:Nat,i=m∧m<n∧K ⟨.ptr id (j+m*sz),[],[],nn⟩
    | .eptr id s q j=>match Nat.beq sz s with
     |true=>∃m:Nat,i=m∧m<n∧K ⟨.eptr id s (q+m) j,[],[],nn⟩
     |false=>∃m:Nat,i=m∧m<n∧K ⟨.eptr id s q (j+m*sz),[],[],nn⟩
    | .iptr c=>∃m:Nat,i=m∧m<n∧K ⟨.iptr (c.drop (m*sz)),[],[],nn⟩
    |_=>False
   |_,_=>False
  |none=>False
 | .index t x ix=>match tab t with
  |some ti=>match ti.d,ev env x,ev env ix with
   | .str,.str s,.int _ i=>∃(m:Nat) (b:UInt8),i=m∧s[m]? =some b∧K ⟨.int .u8 b.toNat,[],[],nn⟩
   | .arr n sz g,.agg c,.int _ i=>∃m:Nat,i=m∧m<n∧Jgo c (m*sz) sz g fun v=>K ⟨v,[],[],nn⟩
   |_,_,_=>False
  |none=>False
 | .slice t x lo hi mx=>match tab t with
  |some ti=>match ti.d with
   | .str=>match mx,ev env x with
    |none,.str s=>JbE env lo 0 fun l=>JbE env hi s.size fun h=>l<=h∧h<=s.size∧K ⟨.str (s.extract l h),[],[],nn⟩
    |_,_=>False
   | .slc _ sz _ _=>match ev env x with
    | .lst sz' xs=>match mx with
     |none=>Ja1 sz' sz <| JbE env lo 0 fun l=>JbE env hi xs.length fun h=>l<=h∧h<=xs.length∧∃ys:List (List AV),(xs.drop l).take (h - l)=ys∧K ⟨.lst sz ys,[],[],nn⟩
     |some q'=>match lo,hi with
      |none,some q=>Ja1 sz' sz <| JbE env (some q) xs.length fun h=>JbE env (some q') 0 fun m=>h=m∧h<=xs.length∧∃ys:List (List AV),xs.take h=ys∧K ⟨.lsc sz ys,[],[],nn⟩
      |_,_=>False
    | .nils=>match mx with
     |none=>JbE env lo 0 fun l=>JbE env hi 0 fun h=>l<=h∧h<=0∧K ⟨.lst sz [],[],[],nn⟩
     |some _=>False
    | .osl id=>match H id with
     |some (.row sz' xs)=>match mx with
      |none=>Ja1 sz' sz <| JbE env lo 0 fun l=>JbE env hi xs.length fun h=>l<=h∧h<=xs.length∧K ⟨.sub id sz l h none,[],[id],nn⟩
      |some q=>match hi with
       |some _=>Ja1 sz' sz <| JbE env lo 0 fun l=>JbE env hi xs.length fun h=>JbE env (some q) 0 fun m=>l<=h∧h<=m∧m<=xs.length∧K ⟨.sub id sz l h (some m),[],[id],nn⟩
       |none=>False
     |_=>False
    |_=>False
   |_=>False
  |none=>False
 | .call c=>match c.callee,c.args,c.argTypes with
  | .builtin .len,⟨[x]⟩,⟨[t]⟩=>match tab t with
   |some ti=>match ti.d,ev env x with
    | .str,.str s=>K ⟨.int .i64 s.size,[],[],nn⟩
    | .slc ..,.lst _ xs=>∃z:Int,((xs.length:Nat):Int)=z∧K ⟨.int .i64 z,[],[],nn⟩
    | .slc ..,.nils=>K ⟨.int .i64 (0:Nat),[],[],nn⟩
    | .slc ..,.osl id=>match H id with
     |some (.row _ xs)=>∃z:Int,((xs.length:Nat):Int)=z∧K ⟨.int .i64 z,[],[id],nn⟩
     |_=>False
    | .slc ..,.sub _ _ lo hi _=>∃z:Int,((hi - lo:Nat):Int)=z∧K ⟨.int .i64 z,[],[],nn⟩
    | .arr n _ _,_=>K ⟨.int .i64 n,[],[],nn⟩
    |_,_=>∃e,YD P g o ⟨env,H,nn⟩ e∧K e
   |none=>∃e,YD P g o ⟨env,H,nn⟩ e∧K e
  | .builtin .min,⟨[x,y]⟩,_=>match ev env x,ev env y with
   | .int k m,.int _ n=>K ⟨.int k (if n<m then n else m),[],[],nn⟩
   |_,_=>False
  | .builtin .max,⟨[x,y]⟩,_=>match ev env x,ev env y with
   | .int k m,.int _ n=>K ⟨.int k (if m<n then n else m),[],[],nn⟩
   |_,_=>False
  | .builtin .append,⟨[s,x]⟩,⟨[t,t']⟩=>match Nat.beq t' t with
   |true=>match tab t with
    |some ti=>match ti.d with
     | .slc _ sz eb ez=>match Nat.beq ez.length sz with
      |true=>match ev env s with
       | .lsc sz' xs=>Ja1 sz' sz <| JjK H (ev env x) sz fun ys ids=>(ys=[]->K ⟨.lst sz xs,[],ids,nn⟩)∧(ys≠[]->(xs.length+ys.length)*eb<=140737488355328∧xs.length+ys.length<=maxLen∧
        ∃zs:List (List AV),xs++ys=zs∧K ⟨.osl nn,[(nn,some (.row sz zs))],ids,nn+1⟩)
       |v=>JuJ H g v sz fun xs wr=>JjK H (ev env x) sz fun ys ids=>(xs.length+ys.length)*eb<=140737488355328∧xs.length+ys.length<=maxLen∧
        ∃zs:List (List AV),xs++ys=zs∧K ⟨.osl nn,wr++[(nn,some (.row sz zs))],ids,nn+1⟩
      |false=>False
     |_=>False
    |none=>False
   |false=>False
  | .builtin .copy,⟨[d,x]⟩,⟨[t,_]⟩=>match tab t with
   |some ti=>match ti.d with
    | .slc _ sz eb ez=>match Nat.beq ez.length sz with
     |true=>match ev env d with
      | .osl id=>match H id with
       |some (.row sz' xs)=>Ja1 sz' sz <| JjK H (ev env x) sz fun ys ids=>ys.length<=xs.length∧∃(zs:List (List AV)) (z:Int),ys++xs.drop ys.length=zs∧((ys.length:Nat):Int)=z∧
         K ⟨.int .i64 z,[(id,some (.row sz zs))],ids,nn⟩
       |_=>False
      |_=>False
     |false=>False
    |_=>False
   |none=>False
  | .value fx,xs,_=>match ev env fx with
   | .fn f cap=>∃(args':List AV) (gs bs:List Nat) (G G':List ABlk) (res:AV) (Gc:List ABlk) (up:Bool) (m:Nat),CallOK P f (xs.toList.map (ev env)++cap) H nn args' gs bs G G' res Gc g up m∧
     K ⟨res.ren (rho gs nn m),Jkb (rho gs nn m) 0 Gc++upL up bs,gs++bs,nn+m+1⟩
   |_=>False
  |_,_,_=>False
 | .makeMap .. | .mapUpdate .. =>∃e,YD P g o ⟨env,H,nn⟩ e∧K e
 |_=>False
def JmN:Option ABlk->Bool
 |some (.nest _)=>true
 |some (.obj _)=>true
 |_=>false
def JqL:Option ABlk->Bool
 |some (.row _ [[.osl _]])=>true
 |_=>false
def Jjq (H:Nat->Option ABlk):AV->Bool
 | .osl id=>JmN (H id)
 | .eptr id _ _ _=>JmN (H id)
 | .sub id _ _ _ _=>JmN (H id)
 |_=>false
def JsC (H:Nat->Option ABlk):AV->Bool
 | .osl id=>JqL (H id)
 |_=>false
def Jwa:AV->Bool
 | .str _=>true
 |_=>false
def gen (tab:Tab) (o:Oper) (σ:ASt):Bool:=match σ with
 |⟨env,H,_⟩=>match o.op with
  | .makeMap .. | .mapUpdate .. | .lookup .. =>true
  | .load _ x=>Jjq H (ev env x)
  | .store _ p _=>Jjq H (ev env p)
  | .indexAddr _ x _=>Jjq H (ev env x)
  | .makeSlice t _ _=>match tab t with
   |some ti=>match ti.d with
    | .slc _ _ _ [.nils]=>true
    |_=>false
   |none=>false
  | .convert _ t x=>match tab t with
   |some ti=>match ti.d with
    | .slc .. =>true
    |_=>Jjq H (ev env x)
   |none=>false
  | .slice t _ _ _ _=>match tab t with
   |some ti=>match ti.d with
    | .arr .. =>true
    |_=>false
   |none=>false
  | .alloc t=>match tab t with
   |some ti=>match ti.zero with
    |[.nilp,.nils]=>true
    |_=>false
   |none=>false
  | .call c=>match c.callee,c.args with
   | .builtin .len,⟨[x]⟩=>Jjq H (ev env x)
   | .builtin .append,⟨[s,x]⟩=>match Jjq H (ev env s) with
    |true=>true
    |false=>match JsC H (ev env x) with
     |true=>true
     |false=>Jwa (ev env x)
   | .builtin .clear,_=>true
   | .builtin .unsafeSliceData,_=>true
   | .builtin .unsafeString,_=>true
   |_,_=>false
  |_=>false
def JkM (P:Program) (tab:Tab) (g:Nat) (o:Oper) (σ:ASt) (K:Eff->Prop):Prop:=match gen tab o σ with
 |true=>∃e,YD P g o σ e∧K e
 |false=>Jn4 P tab g o σ K
end Go.Proofs.YtehhohbnhcogkaaGreatDoor.Ax
namespace Go.Proofs.YtehhohbnhcogkaaGreatDoor.Ax
open Go.RowKit
variable {P:Program} {tab:Tab} {g:Nat} {o:Oper} {σ:ASt}
theorem Jrv (hT:J0 P tab) {K:Eff->Prop} (h:Jn4 P tab g o σ K):∃e,K e∧YD P g o σ e:=by
 obtain⟨env,H,nn⟩:=σ
 simp only [Jn4] at h
 cases ho:o.op<;>rw [ho] at h<;>simp only at h
 case move x=>exact⟨_,h,JB (JdA (.inl ho))⟩
 case assign x=>exact⟨_,h,JB (JdA (.inr ho))⟩
 case pick c x y=>
  split at h
  . rename_i e;exact⟨_,h,JB (Jiq ho (.inl ⟨e,rfl⟩))⟩
  . rename_i e;exact⟨_,h,JB (Jiq ho (.inr ⟨e,rfl⟩))⟩
  . exact h.elim
 case extract x i=>
  split at h
  .
   rename_i e
   split at h
   . rename_i e2;exact⟨_,h,JB (Ji0 ho e e2)⟩
   . exact h.elim
  . exact h.elim
 case field t x i=>
  split at h
  .
   rename_i ti ht
   split at h
   .
    rename_i e1 e2
    split at h
    .
     rename_i e3
     obtain⟨v,hv,hp⟩:=Jdw h
     exact⟨_,hv,JB (JlU hT ho ht e1 e3 e2 hp)⟩
    . exact h.elim
   . exact h.elim
  . exact h.elim
 case build t parts=>
  split at h
  .
   rename_i ti ht
   split at h
   .
    rename_i e1
    split at h
    . rename_i e2;exact⟨_,h,JB (JlW hT ho ht e1 e2)⟩
    . exact h.elim
   .
    rename_i e1
    split at h
    . rename_i e2;exact⟨_,h,JB (Jkw hT ho ht e1 e2)⟩
    . exact h.elim
   . exact h.elim
  . exact h.elim
 case buildSlice t n parts=>
  split at h
  .
   rename_i ti ht
   split at h
   .
    rename_i e1
    split at h
    .
     rename_i e2
     split at h
     .
      rename_i e3
      simp only [Bool.and_eq_true] at e3
      obtain⟨⟨⟨⟨q1,q2⟩,q3⟩,q4⟩,q5⟩:=e3
      exact⟨_,Jit.1 h,JiY hT ho ht e1 (Nat.eq_of_beq_eq_true q1) (Wl q2) (Wl q3) e2 q4 (Nat.eq_of_beq_eq_true q5)⟩
     . exact h.elim
    . exact h.elim
   . exact h.elim
  . exact h.elim
 case box t x=>
  split at h
  . rename_i e;exact⟨_,h,JuK ho e⟩
  . exact h.elim
 case alloc t=>
  split at h
  .
   rename_i ti ht
   split at h
   .
    rcases h with⟨s,xs,hz,h⟩|h
    . exact⟨_,h,Joq hT ho ht hz⟩
    . exact⟨_,h,Jls hT ho ht⟩
   . exact⟨_,h,Jls hT ho ht⟩
  . exact h.elim
 case load t x=>
  split at h
  .
   rename_i ti ht
   split at h
   .
    rename_i e
    obtain⟨v,hv,hp⟩:=Jdw h
    exact⟨_,hv,JB (JdB hT ho ht (.inl ⟨e,rfl,rfl⟩) hp)⟩
   .
    rename_i e
    split at h
    .
     rename_i e2
     obtain⟨v,hv,hp⟩:=Jdw h
     exact⟨_,hv,JB (JdB hT ho ht (.inr (.inl ⟨_,e,e2,rfl⟩)) hp)⟩
    .
     rename_i e2
     replace h:=Yd h
     obtain⟨rfl,c,hc,h⟩:=h
     obtain⟨v,hv,hp⟩:=Jdw h
     exact⟨_,hv,JB (JdB hT ho ht (.inr (.inr (.inr ⟨_,_,_,e,rfl,e2,hc,rfl⟩))) hp)⟩
    . exact h.elim
   .
    rename_i e
    split at h
    .
     rename_i e2
     replace h:=Yd h
     obtain⟨rfl,c,hc,h⟩:=h
     obtain⟨v,hv,hp⟩:=Jdw h
     exact⟨_,hv,JB (JdB hT ho ht (.inr (.inr (.inl ⟨_,_,_,_,e,e2,hc,rfl⟩))) hp)⟩
    . exact h.elim
   . exact h.elim
  . exact h.elim
 case store t p x=>
  split at h
  .
   rename_i ti ht
   split at h
   .
    rename_i e1
    simp only [Bool.and_eq_true] at e1
    obtain⟨⟨q1,q2⟩,q3⟩:=e1
    have q3:=Nat.eq_of_beq_eq_true q3
    split at h
    .
     rename_i e2
     split at h
     .
      rename_i e3
      split at h
      . rename_i e4;exact⟨_,h,Joo hT ho ht e2 e3 q1 q2 q3 (Wl e4)⟩
      . exact h.elim
     . exact h.elim
    .
     rename_i e2
     split at h
     .
      rename_i e3
      split at h
      .
       replace h:=Yd h
       obtain⟨rfl,c,hc,hl,_,rfl,h⟩:=h
       exact⟨_,h,Jom hT ho ht e2 e3 hc q1 q2 q3 hl⟩
      .
       replace h:=Yd h
       obtain⟨rfl,h⟩:=h
       obtain⟨cs,ids,hz,h⟩:=JnJ h
       split at h
       .
        rename_i e4
        simp only [Bool.and_eq_true,Bool.not_eq_true'] at e4
        obtain⟨⟨p1,p2⟩,p3⟩:=e4
        obtain⟨c,hc,hl,_,rfl,h⟩:=h
        exact⟨_,h,Jon hT ho ht e2 e3 hc q1 q2 p1 (Nat.eq_of_beq_eq_true p2) hl hz (fun hm=>by rw [<-List.contains_iff_mem,p3] at hm;cases hm)⟩
       . exact h.elim
     . exact h.elim
    . exact h.elim
   . exact h.elim
  . exact h.elim
 case nilCheck x=>
  split at h
  . rename_i e;exact⟨_,h,JB (Jdz ho (.inl ⟨_,_,e⟩))⟩
  . rename_i e;exact⟨_,h,JB (Jdz ho (.inr (.inl ⟨_,_,_,_,e⟩)))⟩
  . rename_i e;exact⟨_,h,JB (Jdz ho (.inr (.inr ⟨_,e⟩)))⟩
  . exact h.elim
 case binOp op t x y t'=>
  split at h
  .
   rename_i e1 e2
   split at h
   .
    rename_i ti ht
    split at h
    .
     rename_i ks hk
     split at h
     .
      rename_i q1 q2
      simp only [Bool.and_eq_true] at q1
      have hop:op= .eql∨op= .neq:=by
       have:=q1.2
       cases op<;>simp [JsS] at this<;>simp
      refine⟨_,h,JB ?_⟩
      have:=JoK hT ho hop ht hk e1 e2 q1.1 q2 (H:=H)
      have he:∀r,(if op= .eql then r else !r)=eqB op r:=fun r=>by rcases hop with rfl |rfl<;>rfl
      rw [he] at this
      exact this
     . exact h.elim
    . exact h.elim
   . exact h.elim
  .
   split at h
   .
    rename_i q1 q2 q3
    split at h
    .
     rename_i ti ht
     split at h
     .
      rename_i hd
      have hop:op= .eql∨op= .neq:=by cases op<;>simp [JsS] at q1<;>simp
      refine⟨_,h,JB ?_⟩
      have:=Jkv hT ho hop ht hd q2 q3 (H:=H)
      have he:∀r,(if op= .eql then r else !r)=eqB op r:=fun r=>by rcases hop with rfl |rfl<;>rfl
      rw [he] at this
      exact this
     . exact h.elim
    . exact h.elim
   .
    obtain⟨v,hv,hg⟩:=JoL (H:=H) ho h
    exact⟨_,hv,JB hg⟩
 case unOp op t x=>
  split at h
  . rename_i e;exact⟨_,h,JB (Jg4 ho (.inl ⟨e,rfl⟩))⟩
  . rename_i e;exact⟨_,h,JB (Jg4 ho (.inr (.inl ⟨e,rfl⟩)))⟩
  . rename_i e;exact⟨_,h,JB (Jg4 ho (.inr (.inr ⟨_,e,rfl⟩)))⟩
  .
   rename_i e
   obtain⟨z,rfl,h⟩:=h
   exact⟨_,h,JB (JoG ho e)⟩
  . exact h.elim
 case convert s t x=>
  split at h
  .
   rename_i e1 e2
   split at h
   .
    rename_i e3 e4
    obtain⟨z,rfl,h⟩:=h
    exact⟨_,h,JB (Ji1 hT ho e1 e2 e3 e4)⟩
   .
    rename_i e3
    split at h
    .
     rename_i e4
     obtain⟨tj,e,sz,eb,ez,te,q1,q2,q3,q4⟩:=Jm0 e4
     obtain⟨ys,ids,hc,ns,hys,h⟩:=JgC h
     exact⟨_,h,JB (Jis hT ho q1 e2 e3 q2 q3 q4 hc hys)⟩
    . exact h.elim
   . exact h.elim
  . exact h.elim
 case makeFunc fn first cap=>
  split at h
  . exact⟨_,h,JB (Jir ho)⟩
  . exact h.elim
 case makeSlice t l c=>
  split at h
  .
   rename_i ti ht
   split at h
   .
    rename_i e1 e2 e3
    split at h
    .
     rename_i e4
     simp only [Bool.and_eq_true] at e4
     obtain⟨m,rfl,rfl,h1,h2,_,rfl,h⟩:=h
     exact⟨_,h,Jj6 hT ho ht e1 (Nat.eq_of_beq_eq_true e4.1) e4.2 e2 e3 h1 h2⟩
    . exact h.elim
   . exact h.elim
  . exact h.elim
 case fieldAddr t x i=>
  split at h
  .
   rename_i ti ht
   split at h
   .
    rename_i e1
    split at h
    .
     rename_i e2
     split at h
     . rename_i e3;exact⟨_,h,JB (JcS hT ho ht e1 e2 (.inl ⟨_,_,e3,rfl⟩))⟩
     . rename_i e3;exact⟨_,h,JB (JcS hT ho ht e1 e2 (.inr (.inl ⟨_,_,_,_,e3,rfl⟩)))⟩
     . rename_i e3;exact⟨_,h,JB (JcS hT ho ht e1 e2 (.inr (.inr ⟨_,e3,rfl⟩)))⟩
     . exact h.elim
    . exact h.elim
   . exact h.elim
  . exact h.elim
 case indexAddr t x ix=>
  split at h
  .
   rename_i ti ht
   split at h
   .
    rename_i e1 e2
    split at h
    .
     rename_i e3
     replace h:=Yd h
     obtain⟨rfl,m,c,rfl,hc,h⟩:=h
     exact⟨_,h,JB (Jgz hT ho ht e1 e3 e2 hc (rfl:(0:Nat)=0))⟩
    .
     rename_i e3
     split at h
     .
      rename_i e4
      replace h:=Yd h
      obtain⟨rfl,m,rfl,hm,h⟩:=h
      exact⟨_,h,JB (Jku hT ho ht e1 e3 e2 e4 hm)⟩
     . exact h.elim
    . exact h.elim
   .
    rename_i e1 e2
    split at h
    .
     rename_i e3
     split at h
     .
      rename_i s _ e4
      replace h:=Yd h
      obtain⟨rfl,m,r,rfl,hm,hr,h⟩:=h
      exact⟨_,h,JB (Jca hT ho ht e1 e2 hm (.inr (.inr (.inr (.inl ⟨_,_,_,e3,hr,rfl⟩)))))⟩
     .
      obtain⟨m,rfl,hm,h⟩:=h
      exact⟨_,h,JB (Jca hT ho ht e1 e2 hm (.inl ⟨_,_,e3,rfl⟩))⟩
    .
     rename_i e3
     split at h
     .
      rename_i e4
      have e5:=Nat.eq_of_beq_eq_true e4
      subst e5
      obtain⟨m,rfl,hm,h⟩:=h
      exact⟨_,h,JB (Jca hT ho ht e1 e2 hm (.inr (.inr (.inr (.inr ⟨_,_,_,e3,rfl⟩)))))⟩
     .
      obtain⟨m,rfl,hm,h⟩:=h
      exact⟨_,h,JB (Jca hT ho ht e1 e2 hm (.inr (.inl ⟨_,_,_,_,e3,rfl⟩)))⟩
    .
     rename_i e3
     obtain⟨m,rfl,hm,h⟩:=h
     exact⟨_,h,JB (Jca hT ho ht e1 e2 hm (.inr (.inr (.inl ⟨_,e3,rfl⟩))))⟩
    . exact h.elim
   . exact h.elim
  . exact h.elim
 case index t x ix=>
  split at h
  .
   rename_i ti ht
   split at h
   .
    rename_i e1 e2 e3
    obtain⟨m,b,rfl,hb,h⟩:=h
    exact⟨_,h,JB (JmO hT ho ht e1 e2 e3 hb)⟩
   .
    rename_i e1 e2 e3
    obtain⟨m,rfl,hm,h⟩:=h
    obtain⟨v,hv,hp⟩:=Jdw h
    exact⟨_,hv,JB (Jkt hT ho ht e1 e2 e3 hm hp)⟩
   . exact h.elim
  . exact h.elim
 case slice t x lo hi mx=>
  split at h
  .
   rename_i ti ht
   split at h
   .
    rename_i e1
    split at h
    .
     rename_i e2
     obtain⟨l,hl,h⟩:=Z9 h
     obtain⟨q,hq,h1,h2,h⟩:=Z9 h
     exact⟨_,h,JB (Jkr hT ho ht e1 e2 hl hq h1 h2)⟩
    . exact h.elim
   .
    rename_i e1
    split at h
    .
     rename_i e2
     split at h
     .
      replace h:=Yd h
      obtain⟨rfl,h⟩:=h
      obtain⟨l,hl,h⟩:=Z9 h
      obtain⟨q,hq,h1,h2,_,rfl,h⟩:=Z9 h
      exact⟨_,h,JB (Jgy hT ho ht e1 (.inl e2) hl hq h1 h2)⟩
     .
      split at h
      .
       replace h:=Yd h
       obtain⟨rfl,h⟩:=h
       obtain⟨q,hq,h⟩:=Z9 h
       obtain⟨m,hm,rfl,h2,_,rfl,h⟩:=Z9 h
       exact⟨_,h,JB (Jks hT ho ht e1 e2 hq hm h2)⟩
      . exact h.elim
    .
     rename_i e2
     split at h
     .
      obtain⟨l,hl,h⟩:=Z9 h
      obtain⟨q,hq,h1,h2,h⟩:=Z9 h
      refine⟨_,h,JB ?_⟩
      have:=Jgy hT ho ht e1 (.inr ⟨e2,rfl⟩) hl hq h1 h2 (H:=H)
      simpa using this
     . exact h.elim
    .
     rename_i e2
     split at h
     .
      rename_i e3
      split at h
      .
       replace h:=Yd h
       obtain⟨rfl,h⟩:=h
       obtain⟨l,hl,h⟩:=Z9 h
       obtain⟨q,hq,h1,h2,h⟩:=Z9 h
       exact⟨_,h,JB (Jgx (m:=0) hT ho ht e1 e2 e3 hl hq (fun _ e=>by cases e) h1 h2 (fun e=>by cases e) (fun e=>by cases e))⟩
      .
       split at h
       .
        replace h:=Yd h
        obtain⟨rfl,h⟩:=h
        obtain⟨l,hl,h⟩:=Z9 h
        obtain⟨q,hq,h⟩:=Z9 h
        obtain⟨m,hm,h1,h2,h3,h⟩:=Z9 h
        exact⟨_,h,JB (Jgx (m:=m) hT ho ht e1 e2 e3 hl hq (fun q' e=>by cases e;exact hm) h1 (by omega) (fun _=>⟨h2,h3⟩) (fun _=>rfl))⟩
       . exact h.elim
     . exact h.elim
    . exact h.elim
   . exact h.elim
  . exact h.elim
 case call c=>
  obtain⟨callee,args,argTypes⟩:=c
  simp only at h
  split at h
  .
   split at h
   .
    rename_i ti ht
    split at h
    . rename_i e1 e2;exact⟨_,h,JB (Jdj hT ho ht (.inl ⟨_,e1,e2,rfl,rfl⟩))⟩
    . rename_i e1 e2;obtain⟨_,rfl,h⟩:=h;exact⟨_,h,JB (Jdj hT ho ht (.inr (.inl ⟨_,_,_,_,e1,.inl ⟨_,_,e2,rfl,rfl⟩⟩)))⟩
    . rename_i e1 e2;exact⟨_,h,JB (Jdj hT ho ht (.inr (.inl ⟨_,_,_,_,e1,.inr (.inl ⟨e2,rfl,rfl⟩)⟩)))⟩
    .
     rename_i e1 e2
     split at h
     . rename_i e3;obtain⟨_,rfl,h⟩:=h;exact⟨_,h,JB (Jdj hT ho ht (.inr (.inl ⟨_,_,_,_,e1,.inr (.inr (.inl ⟨_,_,_,e2,e3,rfl,rfl⟩))⟩)))⟩
     . exact h.elim
    . rename_i e1 e2;obtain⟨_,rfl,h⟩:=h;exact⟨_,h,JB (Jdj hT ho ht (.inr (.inl ⟨_,_,_,_,e1,.inr (.inr (.inr ⟨_,_,_,_,_,e2,rfl,rfl⟩))⟩)))⟩
    . rename_i e1;exact⟨_,h,JB (Jdj hT ho ht (.inr (.inr ⟨_,_,e1,rfl⟩)))⟩
    . obtain⟨e,h1,h2⟩:=h;exact⟨e,h2,h1⟩
   . obtain⟨e,h1,h2⟩:=h;exact⟨e,h2,h1⟩
  .
   split at h
   . rename_i e1 e2;exact⟨_,h,JB (JoH ho e1 e2)⟩
   . exact h.elim
  .
   split at h
   . rename_i e1 e2;exact⟨_,h,JB (JoI ho e1 e2)⟩
   . exact h.elim
  .
   split at h
   .
    rename_i eb
    have eb:=Nat.eq_of_beq_eq_true eb
    subst eb
    split at h
    .
     rename_i ti ht
     split at h
     .
      rename_i e1
      split at h
      .
       rename_i e2
       split at h
       .
        rename_i e3
        replace h:=Yd h
        obtain⟨rfl,h⟩:=h
        obtain⟨ys,ids,hx,h1,h2⟩:=JgC h
        by_cases hy:ys=[]
        .
         subst hy
         exact⟨_,h1 rfl,JmC hT ho ht e1 e3 hx⟩
        .
         obtain⟨h3,h4,_,rfl,h⟩:=h2 hy
         exact⟨_,h,JmD hT ho ht e1 (Nat.eq_of_beq_eq_true e2) e3 hx hy h3 h4⟩
       .
        obtain⟨xs,wr,hs,h⟩:=JsB h
        obtain⟨ys,ids,hx,h1,h2,_,rfl,h⟩:=JgC h
        exact⟨_,h,Jop hT ho ht e1 (Nat.eq_of_beq_eq_true e2) hs hx h1 h2⟩
      . exact h.elim
     . exact h.elim
    . exact h.elim
   . exact h.elim
  .
   split at h
   .
    rename_i ti ht
    split at h
    .
     rename_i e1
     split at h
     .
      rename_i e2
      split at h
      .
       rename_i e3
       split at h
       .
        rename_i e4
        replace h:=Yd h
        obtain⟨rfl,h⟩:=h
        obtain⟨ys,ids,hx,h1,_,_,rfl,rfl,h⟩:=JgC h
        exact⟨_,h,JsD hT ho ht e1 (Nat.eq_of_beq_eq_true e2) e3 e4 hx h1⟩
       . exact h.elim
      . exact h.elim
     . exact h.elim
    . exact h.elim
   . exact h.elim
  .
   split at h
   .
    rename_i e1
    obtain⟨args',gs,bs,G,G',res,Gc,up,m,hc,h⟩:=h
    obtain rfl:=hc.m
    rw [hc.gc,Jie] at h
    obtain⟨fn,bd,f1,f2,f3⟩:=hc.fn
    have hfl:=hc.flat
    cases up with
    |false=>
     simp only [upL,List.append_nil] at h
     exact⟨_,h,JsE ho e1 f1 f2 f3 (by have:=hc.len;simpa using this) hc.args hc.gl hc.gk hc.nd hc.dis hc.le hfl hc.ac⟩
    |true=>exact⟨_,h,Jqa ho e1 f1 f2 f3 (by have:=hc.len;simpa using this) hc.args hc.gl hc.gk hc.nd hc.dis hc.le hc.ac⟩
   . exact h.elim
  . exact h.elim
 all_goals first |exact h.elim |(obtain⟨e,h1,h2⟩:=h;exact⟨e,h2,h1⟩)
theorem Jte {K:Eff->Prop} (h:JkM P tab g o σ K):∀c,o.op≠ .defer c:=by
 intro c hc
 obtain⟨env,H,nn⟩:=σ
 simp only [JkM,gen,Jn4,hc] at h
theorem JgF (hT:J0 P tab) {K:Eff->Prop} (h:JkM P tab g o σ K):∃e,K e∧OpD P g o σ e:=by
 have hd:=Jte h
 unfold JkM at h
 split at h
 .
  obtain⟨e,h1,h2⟩:=h
  exact⟨e,h2,h1,hd⟩
 .
  obtain⟨e,h1,h2⟩:=Jrv hT h
  exact⟨e,h1,h2,hd⟩
end Go.Proofs.YtehhohbnhcogkaaGreatDoor.Ax
namespace Go.Proofs.YtehhohbnhcogkaaGreatDoor.Ax
open Go.RowKit
variable {σ:ASt} {P:Program} {g nt:Nat} {ops:Array Oper}
def JqT:AV->(AV->Prop)->Prop
 | .agg c,K=>Jfn c fun c=>K (.agg c)
 | .tup c,K=>Jfn c fun c=>K (.tup c)
 | .fn f c,K=>Jfn c fun c=>K (.fn f c)
 | .iptr c,K=>Jfn c fun c=>K (.iptr c)
 | .ptr id j,K=>JaY id fun id=>K (.ptr id j)
 | .eptr id sz i j,K=>JaY id fun id=>K (.eptr id sz i j)
 | .mp id,K=>JaY id fun id=>K (.mp id)
 | .osl id,K=>JaY id fun id=>K (.osl id)
 | .sub id a b c d,K=>JaY id fun id=>K (.sub id a b c d)
 | .any,K=>K .any
 | .int k n,K=>K (.int k n)
 | .tru,K=>K .tru
 | .fls,K=>K .fls
 | .bool b,K=>K (.bool b)
 | .str s,K=>K (.str s)
 | .nilp,K=>K .nilp
 | .val v,K=>K (.val v)
 | .nils,K=>K .nils
 | .lst sz xs,K=>K (.lst sz xs)
 | .lsc sz xs,K=>K (.lsc sz xs)
theorem JmQ {v:AV} {K:AV->Prop}:JqT v K↔K v:=by
 cases v<;>first
  |exact Iff.rfl
  |exact Q8 (K:=fun id=>K (.ptr id _))
  |exact Q8 (K:=fun id=>K (.eptr id _ _ _))
  |exact Q8 (K:=fun id=>K (.mp id))
  |exact Q8 (K:=fun id=>K (.osl id))
  |exact Q8 (K:=fun id=>K (.sub id _ _ _ _))
  |exact JbB (K:=fun c=>K (.agg c))
  |exact JbB (K:=fun c=>K (.tup c))
  |exact JbB (K:=fun c=>K (.fn _ c))
  |exact JbB (K:=fun c=>K (.iptr c))
def Jfm:List (Nat×Option ABlk)->(List (Nat×Option ABlk)->Prop)->Prop
 |[],K=>K []
 |(id,none)::l,K=>JaY id fun id=>Jfm l fun l=>K ((id,none)::l)
 |(id,some (.box c))::l,K=>JaY id fun id=>Jfn c fun c=>Jfm l fun l=>K ((id,some (.box c))::l)
 |(id,some (.row sz xs))::l,K=>JaY id fun id=>Jfm l fun l=>K ((id,some (.row sz xs))::l)
 |(id,some .dead)::l,K=>JaY id fun id=>Jfm l fun l=>K ((id,some .dead)::l)
 |(id,some (.obj q))::l,K=>JaY id fun id=>Jfm l fun l=>K ((id,some (.obj q))::l)
 |(id,some (.nest q))::l,K=>JaY id fun id=>Jfm l fun l=>K ((id,some (.nest q))::l)
theorem JbA:∀{l:List (Nat×Option ABlk)} {K:List (Nat×Option ABlk)->Prop},Jfm l K↔K l
 |[],K=>Iff.rfl
 |(id,none)::l,K=>Q8.trans JbA
 |(id,some (.box c))::l,K=>Q8.trans (JbB.trans JbA)
 |(id,some (.row sz xs))::l,K=>Q8.trans JbA
 |(id,some .dead)::l,K=>Q8.trans JbA
 |(id,some (.obj q))::l,K=>Q8.trans JbA
 |(id,some (.nest q))::l,K=>Q8.trans JbA
def Jeb (σ:ASt) (o:Oper) (e:Eff) (K:Eff->ASt->Prop):Prop:=match σ,e with
 |⟨env,H,_⟩,⟨v,wr,rd,n'⟩=>JqT v fun v=>Jfm wr fun wr=>JaY n' fun n'=>K ⟨v,wr,rd,n'⟩ ⟨Jlh env o.dst v,wrH H wr,n'⟩
theorem JaS {o:Oper} {e:Eff} {K:Eff->ASt->Prop}:Jeb σ o e K↔K e (σ.app o e):=
 JmQ.trans (JbA.trans Q8)
def Jss (σ:ASt) (t:Nat) (v:AV) (K:ASt->Prop):Prop:=match σ with
 |⟨env,H,n⟩=>K ⟨Je4 env t v,H,n⟩
def Jtd (P:Program) (tab:Tab) (g nt:Nat) (ops:List Oper) (o:Oper) (σ:ASt) (K:Eff->ASt->Prop):Prop:=
 match (match o.dst with |none=>true |some d=>Nat.blt d nt) with
 |false=>False
 |true=>match o.guard with
  |none=>JkM P tab g o σ (fun e=>Jeb σ o e K)
  |some (j,want)=>match (ops[j]?).bind (·.dst) with
   |none=>False
   |some t=>match σ.env t,want with
    | .tru,true=>JkM P tab g o σ (fun e=>Jeb σ o e K)
    | .fls,false=>JkM P tab g o σ (fun e=>Jeb σ o e K)
    | .tru,false=>Jeb σ o (JfO σ) K
    | .fls,true=>Jeb σ o (JfO σ) K
    | .bool b,true=>(b=true->Jss σ t .tru fun σ=>JkM P tab g o σ (fun e=>Jeb σ o e K))∧(b=false->Jss σ t .fls fun σ=>Jeb σ o (JfO σ) K)
    | .bool b,false=>(b=false->Jss σ t .fls fun σ=>JkM P tab g o σ (fun e=>Jeb σ o e K))∧(b=true->Jss σ t .tru fun σ=>Jeb σ o (JfO σ) K)
    | .tup [],_=>Jeb σ o (JfO σ) K
    |_,_=>False
theorem Jgm {t:Nat} {b:Bool} (h:σ.env t= .bool b) (v:AV) (hv:∀w F β,RV w F β v (.bool b)):Ref σ ⟨Je4 σ.env t v,σ.H,σ.n⟩:=by
 refine⟨fun u=> ?_,rfl,rfl⟩
 by_cases hu:u=t
 .
  subst hu
  simp only [Jdf]
  intro w F β x hx
  rw [h] at hx
  cases hx
  exact hv w F β
 .
  simp only [Jc6 _ _ hu]
  exact .refl _
theorem Jn3 {tab:Tab} (hT:J0 P tab) {o:Oper} {σ:ASt} {K:Eff->ASt->Prop} (h:Jtd P tab g nt ops.toList o σ K):
  ∃σr e,Ref σ σr∧Jfx P g ops o σr e∧(∀d,o.dst=some d->d<nt)∧K e (σr.app o e):=by
 unfold Jtd at h
 split at h
 . exact h.elim
 .
  rename_i hd
  have hdst:∀d,o.dst=some d->d<nt:=fun d e=>by rw [e] at hd;exact Nat.blt_eq.mp hd
  split at h
  .
   rename_i hg
   obtain⟨e,he,hok⟩:=JgF hT h
   exact⟨σ,e,.refl _,.inl ⟨hg,hok⟩,hdst,JaS.1 he⟩
  .
   rename_i j want hg
   split at h
   . exact h.elim
   .
    rename_i t ht
    rw [Wu] at ht
    have hb1:∀(v:AV) (b:Bool),IsB v b->IsB ((⟨Je4 σ.env t v,σ.H,σ.n⟩:ASt).env t) b:=fun v b hb=>by simp only [Jdf];exact hb
    split at h
    .
     rename_i e1
     obtain⟨e,he,hok⟩:=JgF hT h
     exact⟨σ,e,.refl _,.inr (.inr ⟨j,true,t,true,hg,ht,.inl ⟨e1,rfl⟩,.inl ⟨rfl,hok⟩⟩),hdst,JaS.1 he⟩
    .
     rename_i e1
     obtain⟨e,he,hok⟩:=JgF hT h
     exact⟨σ,e,.refl _,.inr (.inr ⟨j,false,t,false,hg,ht,.inr (.inl ⟨e1,rfl⟩),.inl ⟨rfl,hok⟩⟩),hdst,JaS.1 he⟩
    .
     rename_i e1
     exact⟨σ,_,.refl _,.inr (.inr ⟨j,false,t,true,hg,ht,.inl ⟨e1,rfl⟩,.inr ⟨by simp,rfl⟩⟩),hdst,JaS.1 h⟩
    .
     rename_i e1
     exact⟨σ,_,.refl _,.inr (.inr ⟨j,true,t,false,hg,ht,.inr (.inl ⟨e1,rfl⟩),.inr ⟨by simp,rfl⟩⟩),hdst,JaS.1 h⟩
    .
     rename_i b e1
     cases b with
     |true=>
      obtain⟨e,he,hok⟩:=JgF hT (σ:=⟨Je4 σ.env t .tru,σ.H,σ.n⟩) (K:=fun e=>Jeb ⟨Je4 σ.env t .tru,σ.H,σ.n⟩ o e K) (h.1 rfl)
      exact⟨_,e,Jgm e1 .tru (fun _ _ _=> .tru),.inr (.inr ⟨j,true,t,true,hg,ht,hb1 _ _ (.inl ⟨rfl,rfl⟩),.inl ⟨rfl,hok⟩⟩),hdst,JaS.1 he⟩
     |false=>
      exact⟨_,JfO σ,Jgm e1 .fls (fun _ _ _=> .fls),.inr (.inr ⟨j,true,t,false,hg,ht,hb1 _ _ (.inr (.inl ⟨rfl,rfl⟩)),.inr ⟨by simp,rfl⟩⟩),hdst,JaS.1 (h.2 rfl)⟩
    .
     rename_i b e1
     cases b with
     |false=>
      obtain⟨e,he,hok⟩:=JgF hT (σ:=⟨Je4 σ.env t .fls,σ.H,σ.n⟩) (K:=fun e=>Jeb ⟨Je4 σ.env t .fls,σ.H,σ.n⟩ o e K) (h.1 rfl)
      exact⟨_,e,Jgm e1 .fls (fun _ _ _=> .fls),.inr (.inr ⟨j,false,t,false,hg,ht,hb1 _ _ (.inr (.inl ⟨rfl,rfl⟩)),.inl ⟨rfl,hok⟩⟩),hdst,JaS.1 he⟩
     |true=>
      exact⟨_,JfO σ,Jgm e1 .tru (fun _ _ _=> .tru),.inr (.inr ⟨j,false,t,true,hg,ht,hb1 _ _ (.inl ⟨rfl,rfl⟩),.inr ⟨by simp,rfl⟩⟩),hdst,JaS.1 (h.2 rfl)⟩
    .
     rename_i e1
     exact⟨σ,_,.refl _,.inr (.inl ⟨j,_,t,hg,ht,e1,rfl⟩),hdst,JaS.1 h⟩
    . exact h.elim
def JkK (P:Program) (tab:Tab) (g nt:Nat) (ops:List Oper):List Oper->ASt->(List Eff->ASt->Prop)->Prop
 |[],σ,K=>K [] σ
 |o::rest,σ,K=>Jtd P tab g nt ops o σ (fun e σ'=>JkK P tab g nt ops rest σ' (fun es σ''=>K (e::es) σ''))
theorem Jhe {P:Program} {tab:Tab} (hT:J0 P tab) {g nt:Nat} {ops:Array Oper}:∀{l:List Oper} {σ:ASt} {K:List Eff->ASt->Prop},JkK P tab g nt ops.toList l σ K->∃es σ',Run P g nt ops l σ es σ'∧K es σ'
 |[],σ,K,h=>⟨[],σ,.nil σ,h⟩
 |o::rest,σ,K,h=>by
  obtain⟨σr,e,h1,h2,h3,h4⟩:=Jn3 hT h
  obtain⟨es,σ',h5,h6⟩:=Jhe hT h4
  exact⟨e::es,σ',.cons o rest σ σr σ' e es h1 h2 h3 h5,h6⟩
def Eff.fp (e:Eff):List Nat×List Nat:=(e.rd,e.wids)
def JmV (ops:Array Oper) (oi oj:Oper) (fi fj:List Nat×List Nat):Bool:=
 (match oi.dst with
  |some d=>(oj.looksAt ops).contains d||(match oj.dst with |some d'=>Nat.beq d' d |none=>false)
  |none=>false)||
 (match oj.dst with
  |some d=>(oi.looksAt ops).contains d
  |none=>false)||
 fi.2.any (fun id=>fj.1.contains id||fj.2.contains id)||fj.2.any (fun id=>fi.1.contains id)
def Jnn (ops:Array Oper) (fps:List (List Nat×List Nat)):Bool:=
 let bm:=Ju4 ops.toList []
 (List.range ops.size).all fun j=>match ops[j]?,fps[j]? with
  |some oj,some fj=>oj.after.toList.all (fun e=> !Region.binds .any e||Nat.blt e.on j)&&
   (List.range j).all fun i=>(bm[j]?.getD 0).testBit i||(match ops[i]?,fps[i]? with
    |some oi,some fi=> !JmV ops oi oj fi fj
    |_,_=>false)
  |_,_=>false
theorem JoR {oi oj:Oper} {ei ej:Eff} (h:Jn8 ops oi oj ei ej):JmV ops oi oj ei.fp ej.fp=true:=by
 unfold JmV
 simp only [Bool.or_eq_true]
 rcases h with⟨t,⟨h1,h2⟩|⟨h1,h2⟩⟩|⟨id,⟨h1,h2⟩|⟨h1,h2⟩⟩
 .
  refine .inl (.inl (.inl ?_))
  rw [h1]
  simp only [Bool.or_eq_true]
  rcases h2 with h2 |h2
  . exact .inl (by simpa using h2)
  . right;rw [h2];simp
 .
  refine .inl (.inl (.inr ?_))
  rw [h1]
  simpa using h2
 .
  refine .inl (.inr ?_)
  rw [List.any_eq_true]
  refine⟨id,h1,?_⟩
  simp only [Bool.or_eq_true,Eff.fp,List.contains_iff_mem]
  exact h2
 .
  refine .inr ?_
  rw [List.any_eq_true]
  exact⟨id,h1,by simpa [Eff.fp] using h2⟩
theorem Jsu :∀{l:List Oper} {σ σ':ASt} {es:List Eff},Run P g nt ops l σ es σ'->∃(S R:Nat->ASt) (E:Nat->Eff),S 0=σ∧S l.length=σ'∧es.length=l.length∧(∀i e,es[i]? =some e->E i=e)∧
  ∀(i:Nat) (o:Oper),l[i]? =some o->Ref (S i) (R i)∧Jfx P g ops o (R i) (E i)∧(∀d,o.dst=some d->d<nt)∧S (i+1)=(R i).app o (E i):=by
 intro l σ σ' es h
 induction h with
 |nil σ=>exact⟨fun _=>σ,fun _=>σ,fun _=>JfO σ,rfl,rfl,rfl,fun i e h=>by simp at h,fun i o h=>by simp at h⟩
 |cons o rest σ σr σ' e es h1 h2 h3 _ ih=>
  obtain⟨S,R,E,s0,s1,s2,s3,s4⟩:=ih
  refine⟨fun |0=>σ |i+1=>S i,fun |0=>σr |i+1=>R i,fun |0=>e |i+1=>E i,rfl,s1,by simp [s2],fun i e' he=> ?_,fun i o' ho=> ?_⟩
  .
   cases i with
   |zero=>simp at he;exact he
   |succ i=>exact s3 i e' (by simpa using he)
  .
   cases i with
   |zero=>
    simp at ho
    subst ho
    exact⟨h1,h2,h3,s0⟩
   |succ i=>exact s4 i o' (by simpa using ho)
theorem Jle (hP:P.follows .mixedOrders=true) {id:Nat} {σ':ASt} {es:List Eff} (h:Run P g nt ops ops.toList σ es σ') (ho:Jnn ops (es.map Eff.fp)=true) {C:Ctx} (ro:Option Nat) (m:Nat) (hC:C.γ.length=g) (hnt:C.nt=nt) {a:Act} {w:World} (hR:Rel C (Qj σ.n) σ a w)
  {Q:Exit->Act->World->Prop} (hK:∀a' w',Rel C (Qj σ'.n) σ' a' w'->Q .normal a' w'):(Code.region id ops true).wpIn (wR ro) m P Q a w:=by
 obtain⟨S,R,E,s0,s1,s2,s3,s4⟩:=Jsu h
 simp only [Array.length_toList] at s1 s2
 have hE:∀(i:Nat) (f:List Nat×List Nat),(es.map Eff.fp)[i]? =some f->(E i).fp=f:=fun i f hf=>by
  rw [Wp] at hf
  cases he:es[i]? with
  |none=>rw [he] at hf;cases hf
  |some e=>rw [he] at hf;cases hf;rw [s3 i e he]
 unfold Jnn at ho
 simp only [List.all_eq_true,List.mem_range] at ho
 have T:Tr P g nt ops S R E:=by
  refine⟨fun i o hi=>s4 i o (by rw [Wu];exact hi),fun i j oi oj hij hoi hoj hc=> ?_,fun j i ⟨o,hoj,e,he,hb,hi⟩=> ?_⟩
  .
   have hj:=(Array.getElem?_eq_some_iff.1 hoj).1
   have h1:=ho j hj
   rw [hoj] at h1
   have hfj:(es.map Eff.fp)[j]? =some (E j).fp:=by
    have hlt:j<(es.map Eff.fp).length:=by simp;omega
    rw [Wg hlt]
    exact congrArg some (hE j _ (Wg hlt)).symm
   have hfi:(es.map Eff.fp)[i]? =some (E i).fp:=by
    have hlt:i<(es.map Eff.fp).length:=by simp;omega
    rw [Wg hlt]
    exact congrArg some (hE i _ (Wg hlt)).symm
   rw [hfj] at h1
   simp only [Bool.and_eq_true,List.all_eq_true,List.mem_range] at h1
   have h2:=h1.2 i hij
   rw [hoi,hfi] at h2
   simp only [Bool.or_eq_true,JoR hc,Bool.not_true,Bool.false_eq_true,or_false] at h2
   exact Jn0 ops ops.toList [] (fun j=> .inl (by simp)) (fun j i hb=>by simp at hb) j i h2
  .
   have hj:=(Array.getElem?_eq_some_iff.1 hoj).1
   have h1:=ho j hj
   rw [hoj] at h1
   split at h1
   .
    rename_i oj fj e1 e2
    cases e1
    simp only [Bool.and_eq_true,List.all_eq_true] at h1
    have h2:=h1.1 e (by simpa using he)
    simp only [hb,Bool.not_true,Bool.false_or] at h2
    rw [<-hi]
    exact Nat.blt_eq.mp h2
   . cases h1
 refine wpIn_region_any hP ?_
 have hR':Rel C (Qj σ.n) σ a { w with drawn:=w.drawn+1 }:=by
  obtain⟨β,F,hB⟩:=hR
  exact⟨β,F,hB.drew _⟩
 refine T.all ro m hC hnt (fun a' w' hr=>hK a' w' (s1▸hr)) ops.size _ σ a _ (by simp) (by simp [List.countP_replicate]) ⟨?_,fun t k hk h1 _=> ?_,fun id k hk h1 _=> ?_,fun j i hL=> ?_⟩
 .
  obtain⟨β,F,hB⟩:=hR'
  exact⟨β,F,hB.fin rfl rfl (fun i hi=> .inl (by rw [s0];exact hi))⟩
 .
  have hn:∀j,¬Ls (Array.replicate ops.size false) j:=fun j hL=>by
   unfold Ls at hL
   simp only [Wa,Array.getElem?_replicate] at hL
   split at hL<;>simp at hL
  rw [<-s0]
  exact T.chainT (Nat.zero_le _) hk (fun j o _ hj hoj hd=>hn j (h1 j o hj hoj hd))
 .
  have hn:∀j,¬Ls (Array.replicate ops.size false) j:=fun j hL=>by
   unfold Ls at hL
   simp only [Wa,Array.getElem?_replicate] at hL
   split at hL<;>simp at hL
  rw [<-s0]
  exact T.chainH (Nat.zero_le _) hk (fun j _ hj hd=>hn j (h1 j hj (by omega) hd))
 .
  unfold Ls at hL
  simp only [Wa,Array.getElem?_replicate] at hL
  split at hL<;>simp at hL
end Go.Proofs.YtehhohbnhcogkaaGreatDoor.Ax
namespace Go.Proofs.YtehhohbnhcogkaaGreatDoor.Ax
open Go.RowKit
variable {P:Program} {tab:Tab} {σ:ASt} {C:Ctx} {a:Act} {w:World} {β:Nat->Option Hdr} {g nt:Nat} {c:Code} {fn:Func}
def Jka (tab:Tab) (o:Oper) (σ:ASt):Option (Bool×List (List AV)):=match o.guard with
 |some _=>none
 |none=>match o.op with
  | .binOp op t x (.const (.slice none 0 0)) _=>match tab t with
   |some ti=>match ti.d,op,ev σ.env x with
    | .slc ..,.eql,.lst _ xs=>some (true,xs)
    | .slc ..,.neq,.lst _ xs=>some (false,xs)
    |_,_,_=>none
   |none=>none
  |_=>none
def Jou:Bool->Bool->Bool
 |true,b=>b
 |false,b=> !b
def JvR (σ:ASt) (o:Oper) (v:AV) (K:ASt->Prop):Prop:=match σ with
 |⟨env,H,n⟩=>K ⟨Jlh env o.dst v,H,n⟩
def JkL (P:Program) (tab:Tab) (g nt:Nat) (ops:List Oper):List Oper->ASt->(ASt->Prop)->Prop
 |[],σ,K=>K σ
 |o::rest,σ,K=>match Jka tab o σ with
  |some (q,xs)=>match (match o.dst with |none=>true |some d=>Nat.blt d nt) with
   |true=>∀b:Bool,(b=true->xs=[])->JvR σ o (.bool (Jou q b)) fun σ'=>JkL P tab g nt ops rest σ' K
   |false=>False
  |none=>Jtd P tab g nt ops o σ (fun _ σ'=>JkL P tab g nt ops rest σ' K)
theorem Jot (hT:J0 P tab) {o:Oper} {q:Bool} {xs:List (List AV)} (h:Jka tab o σ=some (q,xs)) {I:Nat->Prop} {F:Nat->Prop} (hR:RelB C I σ a w β F):
  ∃b:Bool,(b=true->xs=[])∧o.guard=none∧(execOp a.eval o).run P w= .ok (.value (.bool (Jou q b))) w:=by
 unfold Jka at h
 split at h
 . cases h
 .
  rename_i hg
  split at h
  .
   rename_i op t x _ ho
   split at h
   .
    rename_i ti ht
    obtain⟨ii,dd,z,g1,g2,_,_,_,_,g3⟩:=JP (hT t ti ht)
    have fin:∀(e:TypeId) (sz eb:Nat) (ez:List AV) (q':Bool) (sz':Nat) (ys:List (List AV)),ti.d= .slc e sz eb ez->(op= .eql∧q'=true∨op= .neq∧q'=false)->ev σ.env x= .lst sz' ys->∃b:Bool,(b=true->ys=[])∧o.guard=none∧(execOp a.eval o).run P w= .ok (.value (.bool (Jou q' b))) w:=by
     intro e sz eb ez q' sz' ys hd hop hx
     rw [hd] at g3
     obtain⟨i,zv,rfl,_⟩:=JaD g3.symm
     have hv:=hR.ev x
     rw [hx] at hv
     generalize hvx:a.eval x=vx at hv
     cases hv with
     |lst _ _ ad cap vs k1 k2 k3 k4 k5 k6 k7=>
      refine⟨ad.isNone,fun e=>Wz (by
       have:ad=none:=by cases ad with |none=>rfl |some _=>cases e
       have:=k3 this
       omega),hg,?_⟩
      have hc:a.eval (.const (.slice none 0 0))= .slice none 0 0:=rfl
      rcases hop with⟨rfl,rfl⟩|⟨rfl,rfl⟩
      .
       have hgu:(eqGuard .eql t x (.const (.slice none 0 0)) (.slice ad ys.length cap) (.slice none 0 0)).run P w= .ok () w:=rfl
       simp only [execOp,ho,hvx,hc,Sem.run_bind,hgu,Result.andThen_ok,Lib.run_eql_slice_nil w t e ad ys.length cap 0 0 g2,Sem.run_pure,Jou]
      .
       have hgu:(eqGuard .neq t x (.const (.slice none 0 0)) (.slice ad ys.length cap) (.slice none 0 0)).run P w= .ok () w:=rfl
       simp only [execOp,ho,hvx,hc,Sem.run_bind,hgu,Result.andThen_ok,run_neq_slice_nil w t e ad ys.length cap g2,Sem.run_pure,Jou]
    split at h
    . rename_i hd hx;cases h;exact fin _ _ _ _ _ _ _ hd (.inl ⟨rfl,rfl⟩) hx
    . rename_i hd hx;cases h;exact fin _ _ _ _ _ _ _ hd (.inr ⟨rfl,rfl⟩) hx
    . cases h
   . cases h
  . cases h
theorem JgE {P:Program} {tab:Tab} (hT:J0 P tab) {g nt:Nat} {ops:Array Oper} {Q:Exit->Act->World->Prop} {C:Ctx} (ro:Option Nat) (m:Nat) (hC:C.γ.length=g) (hnt:C.nt=nt) {r:List Oper}:∀{l:List Oper} {σ:ASt} {K:ASt->Prop},JkL P tab g nt ops.toList l σ K->∀{a:Act} {w:World},Rel C (Qj σ.n) σ a w->
  (∀σ' a' w',K σ'->Rel C (Qj σ'.n) σ' a' w'->wpListIn (wR ro) m P ops Q r a' w')->wpListIn (wR ro) m P ops Q (l++r) a w
 |[],σ,K,h,a,w,hR,hK=>hK _ _ _ h hR
 |o::rest,σ,K,h,a,w,hR,hK=>by
  simp only [JkL] at h
  split at h
  .
   rename_i q xs hq
   split at h
   .
    rename_i hd
    obtain⟨β,F,hB⟩:=hR
    obtain⟨b,h1,h2,h3⟩:=Jot hT hq hB
    have nd:∀c,o.op≠ .defer c:=fun c hc=>by unfold Jka at hq;rw [hc] at hq;split at hq<;>cases hq
    refine wpListIn_plain h2 fun K' hK'=>Jol nd ro m <| upon_value h3 (hK' _ _ (JgE hT ro m hC hnt (h b h1) ⟨β,F,?_⟩ hK))
    exact(hB.put o.dst (.bool (Jou q b)) _ (fun d e=>by rw [e] at hd;rw [hnt];exact Nat.blt_eq.mp hd) (.bool _)).fin rfl rfl (fun i hi=>hi)
   . exact h.elim
  .
   obtain⟨σr,e,h1,h2,h3,h4⟩:=Jn3 hT h
   have hmono:=h2.mono
   refine wpListIn_step fun K' hKK=> ?_
   refine h2.run ro m hC (fun t _=> .refl _) (fun id _=>rfl) (fun id q1 q2 q3=> ?_) (fun d e=>hnt▸h3 d e) (hR.ref h1) (fun a' w' hR2=>hKK _ _ (JgE hT ro m hC hnt h4 ?_ hK))
   .
    have:id<σ.n:=q3
    rw [<-h1.2.2] at this
    omega
   .
    obtain⟨β,F,hB⟩:=hR2
    refine⟨β,F,hB.fin rfl rfl (fun i hi=> ?_)⟩
    show i<e.n
    rcases hi with hi |hi
    .
     have:i<σ.n:=hi
     rw [<-h1.2.2] at this
     omega
    . exact hi.2
theorem Jn2 (hT:J0 P tab) {ops:Array Oper} {Q:Exit->Act->World->Prop} (ro:Option Nat) (m:Nat) (hC:C.γ.length=g) (hnt:C.nt=nt) {l:List Oper} {K:ASt->Prop} (h:JkL P tab g nt ops.toList l σ K) (hR:Rel C (Qj σ.n) σ a w)
  (hK:∀σ' a' w',K σ'->Rel C (Qj σ'.n) σ' a' w'->Q .normal a' w'):wpListIn (wR ro) m P ops Q l a w:=by
 have:=JgE (r:=[]) hT ro m hC hnt h hR (Q:=Q) hK
 rwa [List.append_nil] at this
def mkD (D:Nat):Deferred:={ target:= .collected D,args:= #[] }
structure CExt (C C':Ctx):Prop where
 γ:C'.γ=C.γ
 nt:C'.nt=C.nt
 le:C.w0.heap.size<=C'.w0.heap.size
 ext:∃ds:List Nat,C'.df=ds.map mkD++C.df∧ds.Nodup∧(∀D∈ds,C.w0.heap.size<=D∧D<C'.w0.heap.size)∧∀{d:List Deferred} {I:Nat->Prop} {σ:ASt} {a:Act} {w:World} {β:Nat->Option Hdr} {F:Nat->Prop},RelB { C' with df:=d } I σ a w β F->RelB { C with df:=d } I σ a w β F∧
  ∀D∈ds,w.heap[D]? =some (.deferred (some []))∧¬F D∧∀id k h,σ.H id=some k->β id=some h->¬QS h k D
theorem CExt.refl (C:Ctx):CExt C C:=⟨rfl,rfl,Nat.le_refl _,[],rfl,List.nodup_nil,fun D hD=>by simp at hD,fun h=>⟨h,fun D hD=>by simp at hD⟩⟩
theorem RelB.dfr {I:Nat->Prop} {T:Array Value} {d d' e:List Deferred} {F:Nat->Prop} (h:RelB { C with df:=d } I σ ⟨T,e⟩ w β F):RelB { C with df:=d' } I σ ⟨T,d'⟩ w β F:=
 ⟨h.env,h.size,rfl,h.live,h.inj,h.dom,h.gr,h.sub,h.news,h.os,h.tape,h.output,h.grow,h.block,h.glo⟩
theorem CExt.trans {C' C'':Ctx} (h:CExt C C') (k:CExt C' C''):CExt C C'':=by
 obtain⟨g1,n1,l1,ds,d1,u1,b1,e1⟩:=h
 obtain⟨g2,n2,l2,es,d2,u2,b2,e2⟩:=k
 refine⟨g2.trans g1,n2.trans n1,Nat.le_trans l1 l2,es++ds,by rw [d2,d1,List.map_append,List.append_assoc],?_,fun D hD=> ?_,fun {d I σ a w β F} h=> ?_⟩
 .
  refine List.nodup_append.2 ⟨u2,u1,fun D hD E hE hDE=> ?_⟩
  subst hDE
  have:=(b2 D hD).1
  have:=(b1 D hE).2
  omega
 .
  rcases List.mem_append.1 hD with hD |hD
  . have:=b2 D hD;omega
  . have:=b1 D hD;omega
 .
  obtain⟨q1,q2⟩:=e2 h
  obtain⟨q3,q4⟩:=e1 q1
  exact⟨q3,fun D hD=>(List.mem_append.1 hD).elim (q2 D) (q4 D)⟩
def noR:Code->Bool
 | .seq a b=>noR a&&noR b
 | .cond _ a b=>noR a&&noR b
 | .block _ c=>noR c
 | .loop c=>noR c
 | .rangeFunc .. =>false
 |_=>true
theorem JdP {ro:Option Nat} {a b:Code} (h:ro.isSome=true->noR (.seq a b)=true):(ro.isSome=true->noR a=true)∧(ro.isSome=true->noR b=true):=
 ⟨fun e=>((Bool.and_eq_true_iff).mp (h e)).1,fun e=>((Bool.and_eq_true_iff).mp (h e)).2⟩
theorem JcH {ro:Option Nat} {c:Operand} {a b:Code} (h:ro.isSome=true->noR (.cond c a b)=true):(ro.isSome=true->noR a=true)∧(ro.isSome=true->noR b=true):=
 ⟨fun e=>((Bool.and_eq_true_iff).mp (h e)).1,fun e=>((Bool.and_eq_true_iff).mp (h e)).2⟩
def SW (P:Program) (g nt:Nat) (c:Code) (K:Exit->ASt->Prop) (σ:ASt):Prop:=
 ∀(ro:Option Nat) (m:Nat) (C:Ctx) (a:Act) (w:World),(ro.isSome=true->noR c=true)->C.γ.length=g->C.nt=nt->Rel C (Qj σ.n) σ a w->c.wpIn (wR ro) m P (fun e a' w'=>∃σ' C',K e σ'∧CExt C C'∧Rel C' (Qj σ'.n) σ' a' w') a w
def Jjb (k:ASt->Prop) (K:Exit->ASt->Prop) (e:Exit) (σ:ASt):Prop:=match e with
 | .normal=>k σ
 |e=>K e σ
def Jfu (id:Nat) (K:Exit->ASt->Prop) (e:Exit) (σ:ASt):Prop:=match e with
 | .exit id'=>match Nat.beq id' id with
  |true=>K .normal σ
  |false=>K (.exit id') σ
 |e=>K e σ
def awp (P:Program) (tab:Tab) (g nt:Nat):Code->(Exit->ASt->Prop)->ASt->Prop
 | .skip,K,σ=>K .normal σ
 | .region _ ops false,K,σ=>JkL P tab g nt ops.toList ops.toList σ (fun σ'=>K .normal σ')
 | .region _ ops true,K,σ=>JkK P tab g nt ops.toList ops.toList σ (fun es σ'=>Jnn ops (es.map Eff.fp)=true∧K .normal σ')
 | .seq a b,K,σ=>awp P tab g nt a (Jjb (awp P tab g nt b K) K) σ
 | .cond c a b,K,σ=>match ev σ.env c with
  | .tru=>awp P tab g nt a K σ
  | .fls=>awp P tab g nt b K σ
  | .bool t=>(t=true->awp P tab g nt a K σ)∧(t=false->awp P tab g nt b K σ)
  |_=>False
 | .block id c,K,σ=>awp P tab g nt c (Jfu id K) σ
 | .exit id,K,σ=>K (.exit id) σ
 | .ret,K,σ=>K .ret σ
 | .loop c,K,σ=>SW P g nt (.loop c) K σ
 |c,K,σ=>SW P g nt c K σ
theorem SW.weak {K:Exit->ASt->Prop} {σ':ASt} {gs zs bs:List Nat} (hw:Wk g σ σ' gs zs bs) (h:SW P g nt c K σ'):SW P g nt c K σ:=
 fun ro m C a w h0 h1 h2 h3=>h ro m C a w h0 h1 h2 (hw.rel h1 h3)
theorem Jcj {P:Program} {tab:Tab} (hT:J0 P tab) (hP:P.follows .mixedOrders=true) {g nt:Nat}:∀(c:Code) {K:Exit->ASt->Prop} {σ:ASt},awp P tab g nt c K σ->SW P g nt c K σ
 | .skip,K,σ,h=>fun ro m C a w _ _ _ hR=>wpIn_skip ⟨σ,C,h,.refl C,hR⟩
 | .region id ops false,K,σ,h=>fun ro m C a w hnr hC hnt hR=>by
  exact wpIn_region_list (Jn2 (Q:=fun e a' w'=>∃σ' C',K e σ'∧CExt C C'∧Rel C' (Qj σ'.n) σ' a' w') hT ro m hC hnt h hR (fun σ' a' w' hk hr=>⟨σ',C,hk,.refl C,hr⟩))
 | .region id ops true,K,σ,h=>fun ro m C a w hnr hC hnt hR=>by
  obtain⟨es,σ',h1,h2,h3⟩:=Jhe hT h
  exact Jle hP h1 h2 ro m hC hnt hR (Q:=fun e a' w'=>∃σ' C',K e σ'∧CExt C C'∧Rel C' (Qj σ'.n) σ' a' w') (fun a' w' hr=>⟨σ',C,h3,.refl C,hr⟩)
 | .seq x y,K,σ,h=>fun ro m C a w hnr hC hnt hR=>by
  refine wpIn_seq (wpIn_mono (Jcj hT hP x h ro m C a w (JdP hnr).1 hC hnt hR) (fun e a' w' ⟨σ',C',q,hE,r⟩=> ?_))
  cases e with
  |normal=>exact wpIn_mono (Jcj hT hP y q ro m C' a' w' (JdP hnr).2 (by rw [hE.γ];exact hC) (by rw [hE.nt];exact hnt) r) (fun e a' w' ⟨σ',C2,q,hE2,r⟩=>⟨σ',C2,q,hE.trans hE2,r⟩)
  |_=>exact⟨σ',C',q,hE,r⟩
 | .cond c x y,K,σ,h=>fun ro m C a w hnr hC hnt hR=>by
  have hR':=hR
  obtain⟨β,F,hB⟩:=hR'
  have hv:=hB.ev c
  simp only [awp] at h
  split at h
  .
   rename_i e
   rw [e] at hv
   generalize hvc:a.eval c=v at hv
   cases hv
   exact wpIn_cond_true hvc (Jcj hT hP x h ro m C a w (JcH hnr).1 hC hnt hR)
  .
   rename_i e
   rw [e] at hv
   generalize hvc:a.eval c=v at hv
   cases hv
   exact wpIn_cond_false hvc (Jcj hT hP y h ro m C a w (JcH hnr).2 hC hnt hR)
  .
   rename_i t e
   rw [e] at hv
   generalize hvc:a.eval c=v at hv
   cases hv
   cases t with
   |true=>exact wpIn_cond_true hvc (Jcj hT hP x (h.1 rfl) ro m C a w (JcH hnr).1 hC hnt hR)
   |false=>exact wpIn_cond_false hvc (Jcj hT hP y (h.2 rfl) ro m C a w (JcH hnr).2 hC hnt hR)
  . exact h.elim
 | .block id c,K,σ,h=>fun ro m C a w hnr hC hnt hR=>by
  refine wpIn_block (wpIn_mono (Jcj hT hP c h ro m C a w hnr hC hnt hR) (fun e a' w' ⟨σ',C',q,hE,r⟩=> ?_))
  cases e with
  |exit id'=>
   simp only [Exit.inBlock]
   simp only [Jfu] at q
   split
   .
    rename_i he
    subst he
    rw [show Nat.beq id' id'=true from by simp] at q
    exact⟨σ',C',q,hE,r⟩
   .
    rename_i he
    split at q
    . rename_i e2;exact absurd (Nat.eq_of_beq_eq_true e2) he
    . exact⟨σ',C',q,hE,r⟩
  |_=>exact⟨σ',C',q,hE,r⟩
 | .exit id,K,σ,h=>fun ro m C a w _ _ _ hR=>wpIn_exit ⟨σ,C,h,.refl C,hR⟩
 | .ret,K,σ,h=>fun ro m C a w _ _ _ hR=>wpIn_ret ⟨σ,C,h,.refl C,hR⟩
 | .loop c,K,σ,h=>h
 | .rangeFunc ..,K,σ,h=>h
 | .scope c,K,σ,h=>h
 | .label l,K,σ,h=>h
 | .goto l,K,σ,h=>h
 | .refuse s,K,σ,h=>h
theorem Jo (hT:J0 P tab) (hP:P.follows .mixedOrders=true) {α:Type} {K:Exit->ASt->Prop} (I:α->Prop) (S:α->ASt) (μ:α->Nat) (x0:α) (h0:I x0) {gs zs bs:List Nat} (hw:Wk g σ (S x0) gs zs bs)
  (round:∀x,I x->awp P tab g nt c (Jjb (fun σ'=>∃y gs zs bs,I y∧μ y<μ x∧Wk g σ' (S y) gs zs bs) K) (S x)):SW P g nt (.loop c) K σ:=by
 intro ro m C a w hnr hC hnt hR b k cs hro hb hr0
 have key:∀(n:Nat) (x:α) (C:Ctx) (a:Act) (w:World),C.γ.length=g->C.nt=nt->μ x=n->I x->Rel C (Qj (S x).n) (S x) a w->
   ∃e a' w',(∃σ' C',K e σ'∧CExt C C'∧Rel C' (Qj σ'.n) σ' a' w')∧ArrivesIn (Machine.fenced P (wR ro)) P (lone (b.atR a (.code c:: .inLoop c::k)) cs w) b k cs e a' w':=by
  intro n
  induction n using Nat.strongRecOn with
  |_ n ih=>
   intro x C a w hC hnt hn hI hr
   obtain⟨e,a₁,w₁,⟨σ',C1,hq,hE,hr'⟩,harr⟩:=Jcj hT hP c (round x hI) ro m C a w hnr hC hnt hr b (.inLoop c::k) cs hro hb hr0
   cases e with
   |normal=>
    obtain⟨y,gs,zs,bs,hIy,hlt,hw'⟩:=hq
    have hC1:C1.γ.length=g:=by rw [hE.γ];exact hC
    obtain⟨e₂,a₂,w₂,⟨σ2,C2,hq₂,hE2,hr2⟩,harr₂⟩:=ih (μ y) (hn▸hlt) y C1 a₁ w₁ hC1 (by rw [hE.nt];exact hnt) rfl hIy (hw'.rel hC1 hr')
    exact⟨e₂,a₂,w₂,⟨σ2,C2,hq₂,hE.trans hE2,hr2⟩,.of_steps (StepsIn.trans harr (.one (fenced_calm hb hr0 rfl) stepR_inLoop)) harr₂⟩
   |exit id=>exact⟨_,a₁,w₁,⟨σ',C1,hq,hE,hr'⟩,.pass (x:= .inLoop c) rfl (fun _ _=> .inl (by simp)) harr⟩
   |goto l=>exact⟨_,a₁,w₁,⟨σ',C1,hq,hE,hr'⟩,.pass (x:= .inLoop c) rfl (fun _ _=> .inl (by simp)) harr⟩
   |ret=>exact⟨_,a₁,w₁,⟨σ',C1,hq,hE,hr'⟩,.pass (x:= .inLoop c) rfl (fun _ _=> .inl (by simp)) harr⟩
   |panic ch=>exact⟨_,a₁,w₁,⟨σ',C1,hq,hE,hr'⟩,.pass (x:= .inLoop c) rfl (fun _ _=> .inl (by simp)) harr⟩
   |outgrown=>exact⟨_,a₁,w₁,⟨σ',C1,hq,hE,hr'⟩,.pass (x:= .inLoop c) rfl (fun _ _=> .inl (by simp)) harr⟩
 obtain⟨e,a',w',hq,harr⟩:=key _ x0 C a w hC hnt rfl h0 (hw.rel hC hR)
 exact⟨e,a',w',hq,.of_steps (.one (fenced_calm hb hr0 rfl) stepR_loop) harr⟩
def JuE (tab:Tab) (σ:ASt) (r:ResultVar) (K:AV->Prop):Prop:=match r with
 | .tmp t=>K (σ.env t)
 | .cell a ty=>match tab ty with
  |some ti=>match σ.env a with
   | .ptr id j=>match σ.H id with
    |some (.box c)=>Jgo c j ti.size ti.agg K
    |_=>False
   |_=>False
  |none=>False
def Jp2 (tab:Tab) (σ:ASt):List ResultVar->(List AV->Prop)->Prop
 |[],K=>K []
 |r::l,K=>JuE tab σ r (fun v=>Jp2 tab σ l (fun vs=>K (v::vs)))
def JuF (tab:Tab) (σ:ASt) (rs:List ResultVar) (K:AV->Prop):Prop:=Jp2 tab σ rs (fun vs=>match vs with
 |[v]=>K v
 |vs=>K (.tup vs))
def Jnj (tmps:Array Value) (r:ResultVar):Sem Value:=match r with
 | .tmp t=>pure (tmps.getD t undef)
 | .cell p t=>do loadVar t (<-asAddr (tmps.getD p undef))
theorem Jsw (hT:J0 P tab) {I:Nat->Prop} {F:Nat->Prop} (hR:RelB C I σ a w β F) {r:ResultVar} {K:AV->Prop} (h:JuE tab σ r K):
  ∃v u,K v∧(Jnj a.tmps r).run P w= .ok u w∧RV w F β v u:=by
 unfold JuE at h
 split at h
 . exact⟨_,_,h,rfl,hR.env _⟩
 .
  rename_i p ty
  split at h
  .
   rename_i ti ht
   split at h
   .
    rename_i id j e
    split at h
    .
     rename_i c hH
     obtain⟨v,hv,hp⟩:=Jdw h
     obtain⟨g,e1,hb,_⟩:=hR.live id _ hH
     have hpv:=hR.env p
     rw [e] at hpv
     obtain⟨b,_,hpe,hpt⟩:=JiC hpv e1 hb
     obtain⟨u,h1,h2⟩:=Jei hT ht hpt hp b 0 rfl
     rw [Nat.zero_add] at h1
     refine⟨v,u,hv,?_,h2⟩
     simp only [Jnj,hpe,asAddr,Sem.run_bind,Sem.run_pure,Result.andThen_ok,h1]
    . exact h.elim
   . exact h.elim
  . exact h.elim
theorem Jlf {P:Program} {tab:Tab} (hT:J0 P tab) {C:Ctx} {I:Nat->Prop} {σ:ASt} {a:Act} {w:World} {β:Nat->Option Hdr} {F:Nat->Prop} (hR:RelB C I σ a w β F):∀{l:List ResultVar} {K:List AV->Prop},Jp2 tab σ l K->
  ∃vs us,K vs∧(l.mapM (Jnj a.tmps)).run P w= .ok us w∧RVs w F β vs us.toArray
 |[],K,h=>⟨[],[],h,by simp,rfl,fun j u v hu=>by simp at hu⟩
 |r::l,K,h=>by
  obtain⟨v,u,h1,h2,h3⟩:=Jsw hT hR h
  obtain⟨vs,us,h4,h5,h6⟩:=Jlf hT hR h1
  refine⟨v::vs,u::us,h4,?_,by simpa using h6.1,fun j x y hx hy=> ?_⟩
  .
   rw [List.mapM_cons]
   simp only [Sem.run_bind,h2,Result.andThen_ok,h5,Sem.run_pure]
  .
   cases j with
   |zero=>simp at hx hy;subst hx;subst hy;exact h3
   |succ j=>exact h6.2 j x y (by simpa using hx) (by simpa using hy)
theorem Jsx (hT:J0 P tab) {I:Nat->Prop} {F:Nat->Prop} (hR:RelB C I σ a w β F) {K:AV->Prop} (h:JuF tab σ fn.results.toList K):∃v u,K v∧(results fn a.tmps).run P w= .ok u w∧RV w F β v u:=by
 obtain⟨vs,us,h1,h2,h3⟩:=Jlf hT hR h
 have hrun:(results fn a.tmps).run P w= .ok (if h:us.toArray.size=1 then us.toArray[0] else .tuple us.toArray) w:=by
  have hun:results fn a.tmps=(do let vs <-fn.results.mapM (Jnj a.tmps);pure (if h:vs.size=1 then vs[0] else .tuple vs)):=rfl
  rw [hun,Array.mapM_eq_mapM_toList]
  simp only [Sem.run_bind,Sem.run_map]
  rw [h2]
  simp
 match vs,us,h1,h3,hrun with
 |[v],[u],h1,h3,hrun=>exact⟨v,u,h1,by simpa using hrun,h3.2 0 v u rfl rfl⟩
 |[],[],h1,h3,hrun=>exact⟨.tup [],.tuple #[],h1,by simpa using hrun,.tup _ _ h3.1 h3.2⟩
 |v::v2::vs,u::u2::us,h1,h3,hrun=>exact⟨.tup (v::v2::vs),.tuple (u::u2::us).toArray,h1,by simpa using hrun,.tup _ _ h3.1 h3.2⟩
 |[],u::us,h1,h3,hrun=>exact absurd h3.1 (by simp)
 |[v],[],h1,h3,hrun=>exact absurd h3.1 (by simp)
 |[v],u::u2::us,h1,h3,hrun=>exact absurd h3.1 (by simp)
 |v::v2::vs,[],h1,h3,hrun=>exact absurd h3.1 (by simp)
 |v::v2::vs,[u],h1,h3,hrun=>exact absurd h3.1 (by simp)
def Jp9 (v:AV):Nat->AV
 |0=>v
 |_=> .any
def JgI (g:Nat) (v:AV) (H:Nat->Option ABlk) (n:Nat) (res:AV) (G':List ABlk):Prop:=
 (∃gs zs bs,Wk g ⟨Jp9 v,H,n⟩ (entry [res] G') gs zs bs)∨
 ∃id sz xs hi ys,H id=some (.row sz xs)∧hi<=xs.length∧xs.take hi=ys∧(v= .sub id sz 0 hi none∨v= .osl id∧hi=xs.length)∧∃gs zs bs,Wk g ⟨Jp9 (.osl n),ZI (ZI H id none) n (some (.row sz ys)),n+1⟩ (entry [res] G') gs zs bs
def JuD (tab:Tab) (g:Nat) (rs:List ResultVar) (res:AV) (G':List ABlk) (e:Exit) (σ:ASt):Prop:=match e with
 | .normal | .ret=>JuF tab σ rs (fun v=>JgI g v σ.H σ.n res G')
 |_=>False
theorem RelB.other {I:Nat->Prop} {F:Nat->Prop} (h:RelB C I σ a w β F) {w':World} {D:Nat} (hs:Same w w' (some D)) (hF:¬F D) (hD:C.w0.heap.size<=D) (hn:∀id k g,σ.H id=some k->β id=some g->¬QS g k D):RelB C I σ a w' β F:=
 h.step (b:=some D) hs (fun i e=>by cases e;exact⟨hF,fun hl=>by omega⟩) I (fun _ h=>h) σ.H β (fun _ _ e=>e) h.dom (fun id k hk=> .inl ⟨hk,fun g i e1 e2 e3=>by cases e3;exact hn id k g hk e1 e2⟩) h.inj
theorem JdO (w:World) (D:Nat) (o:Obj):Same w (w.putObj D o) (some D):=⟨rfl,.it,rfl,by simp [World.putObj],fun i _ hi=>World.putObj_heap_other (fun e=>hi (congrArg some e))⟩
theorem Jgr {P:Program} {fn:Func} {T:Array Value} {R:Ending->World->Prop} {C:Ctx} {I:Nat->Prop} {σ:ASt} {β:Nat->Option Hdr} {F:Nat->Prop}
  (hK:∀w,RelB { C with df:=[] } I σ ⟨T,[]⟩ w β F->∃v,(results fn T).run P w= .ok v w∧R (.returned v) w):∀(ds:List Nat) (w:World),ds.Nodup->RelB { C with df:=[] } I σ ⟨T,[]⟩ w β F->
  (∀D∈ds,w.heap[D]? =some (.deferred (some []))∧C.w0.heap.size<=D∧¬F D∧∀id k h,σ.H id=some k->β id=some h->¬QS h k D)->LeavesInM Fence.wide 1 P fn T R (ds.map mkD) .returning w
 |[],w,_,h,_=>hK w h
 |D::ds,w,hn,h,hd=>by
  obtain⟨h1,h2,h3,h4⟩:=hd D (List.mem_cons_self ..)
  obtain⟨n1,n2⟩:=List.nodup_cons.1 hn
  refine⟨by simp,.inl ⟨D,_,rfl,run_takeDeferred h1,Jgr hK ds _ n2 (h.other (JdO w D _) h3 h2 h4) (fun E hE=> ?_)⟩⟩
  obtain⟨q1,q2,q3,q4⟩:=hd E (List.mem_cons_of_mem _ hE)
  exact⟨(World.putObj_heap_other (by intro e;subst e;exact n1 hE)).trans q1,q2,q3,q4⟩
theorem JiG (hT:J0 P tab) (hP:P.follows .mixedOrders=true) {f:FuncId} {args:List AV} {G G':List ABlk} {res:AV} (hf:P.funcs[f]? =some fn) (hb:fn.body=some c) (hn:fn.ntmps=nt) (hle:Nat.ble args.length nt=true)
  (h:SW P G.length nt c (JuD tab G.length fn.results.toList res G') (entry args G)):AC P f args G res G':=by
 intro C w vals hC hw0 hnt hlen hR
 have hle':=Wl hle
 have hdf:C.df=[]:=by
  obtain⟨β,F,hB⟩:=hR
  exact hB.defers.symm
 refine(callsIn_wide (n:=1)).1 (callsIn_of_wp_marks hf hb trivial (wpIn_mono (h none 1 { C with nt:=nt } { tmps:=vals++Array.replicate (fn.ntmps - vals.size) undef,defers:=[] } w (fun e=>by cases e) hC rfl ?_) (fun e a' w' hq=> ?_)) rfl)
 rotate_left
 .
  obtain⟨σ',C',hK,hE,hR'⟩:=hq
  have fin:JuF tab σ' fn.results.toList (fun v=>JgI G.length v σ'.H σ'.n res G')->LeavesInM Fence.wide 1 P fn a'.tmps (fun e w'=>∃v,e= .returned v∧Rel { C with nt:=1 } (Qj G'.length) (entry [res] G') ⟨#[v],[]⟩ w') a'.defers .returning w':=fun hK=>by
   obtain⟨β,F,hB0⟩:=hR'
   obtain⟨g1,n1,l1,ds,d1,u1,b1,e1⟩:=hE
   obtain⟨T,D⟩:=a'
   have hD:D=ds.map mkD:=by
    have:=hB0.defers
    rw [d1,show (({ C with nt:=nt }:Ctx).df)=[] from hdf,List.append_nil] at this
    exact this
   subst hD
   obtain⟨q1,q2⟩:=e1 (d:=C'.df) hB0
   refine Jgr (fun w' hB=> ?_) ds w' u1 q1.dfr (fun D hD=>⟨(q2 D hD).1,(b1 D hD).1,(q2 D hD).2⟩)
   obtain⟨v,u,hw,h2,h3⟩:=Jsx hT hB hK
   refine⟨u,h2,u,rfl,?_⟩
   have hone:RelB { C with nt:=1 } (Qj σ'.n) ⟨Jp9 v,σ'.H,σ'.n⟩ ⟨#[u],[]⟩ w' β F:=by
    refine⟨fun t=> ?_,rfl,hdf.symm,hB.live,hB.inj,hB.dom,hB.gr,hB.sub,hB.news,hB.os,hB.tape,hB.output,hB.grow,hB.block,hB.glo⟩
    match t with
    |0=>exact h3
    |t+1=>exact .any _
   rcases hw with⟨gs,zs,bs,hw⟩|⟨id,sz,xs,hi,ys,r1,r2,rfl,r4,gs,zs,bs,hw⟩
   . exact hw.rel (C:={ C with nt:=1 }) hC ⟨β,F,hone⟩
   .
    obtain⟨g',q1,q2,_⟩:=hB.live id _ r1
    have hn:¬Qj σ'.n σ'.n:=Nat.lt_irrefl _
    have ht:=hone.take (n:=σ'.n) r1 q1 hn (YN g'.blk hi g'.cap) rfl (.row sz (xs.take hi)) ((q2.short r2 (by obtain⟨a1,a2,_⟩:=q2;omega) (Nat.le_refl _)).mono (fun _ x=>x) (fun _ _=>rfl) (fun _ _=>rfl) (JaZ _ (hone.fresh hn)))
    have hu:RV w' F (Yg β σ'.n (YN g'.blk hi g'.cap)) (.osl σ'.n) u:=by
     have e1:u= .slice (J5 g'.blk 0) hi g'.cap:=by
      rcases r4 with rfl |⟨rfl,r4⟩
      .
       cases h3 with
       |sub _ _ _ _ _ h' e3=>
        rw [q1] at e3
        cases e3
        simp
      .
       cases h3 with
       |osl _ h' e3=>
        rw [q1] at e3
        cases e3
        obtain⟨a1,_⟩:=q2
        rw [a1,r4]
     rw [e1]
     exact .osl σ'.n (YN g'.blk hi g'.cap) (J7 _ _ _)
    refine hw.rel (C:={ C with nt:=1 }) hC ⟨_,F,{ ht with env:=fun t=> ?_,dom:=fun id h e=> ?_ }⟩
    .
     match t with
     |0=>exact hu
     |t+1=>exact .any _
    .
     rcases ht.dom id h e with h |h
     . exact Nat.lt_succ_of_lt h
     .
      show id<σ'.n+1
      omega
  cases e with
  |normal=>exact fin hK
  |ret=>exact fin hK
  |exit id=>exact hK.elim
  |goto l=>exact hK.elim
  |panic ch=>exact hK.elim
  |outgrown=>exact hK.elim
 .
  obtain⟨β,F,hB⟩:=hR
  refine⟨β,F,⟨fun t=> ?_,by simp;omega,hB.defers,hB.live,hB.inj,hB.dom,hB.gr,hB.sub,hB.news,hB.os,hB.tape,hB.output,hB.grow,hB.block,hB.glo⟩⟩
  have h1:=hB.env t
  by_cases ht:t<args.length
  .
   have:(vals++Array.replicate (fn.ntmps - vals.size) undef).getD t undef=vals.getD t undef:=by
    simp only [Wa]
    rw [Array.getElem?_append_left (by omega)]
   rw [this]
   exact h1
  .
   simp only [entry]
   rw [List.getElem?_eq_none (by omega)]
   exact .any _
theorem Ju (hT:J0 P tab) (hP:P.follows .mixedOrders=true) {f:FuncId} {args:List AV} {G G':List ABlk} {res:AV} (hf:P.funcs[f]? =some fn) (hb:fn.body=some c) (hn:fn.ntmps=nt) (hle:Nat.ble args.length nt=true)
  (h:awp P tab G.length nt c (JuD tab G.length fn.results.toList res G') (entry args G)):AC P f args G res G':=
 JiG hT hP hf hb hn hle (Jcj hT hP c h)
end Go.Proofs.YtehhohbnhcogkaaGreatDoor.Ax
namespace Go.Proofs.YtehhohbnhcogkaaGreatDoor.Ax
open Go.RowKit
variable {n sz g k id:Nat} {x v res:AV} {xs xs':List (List AV)} {c c':List AV} {H:Nat->Option ABlk} {gs zs bs:List Nat} {σ:ASt} {G':List ABlk}
theorem Jml {n:Int} (h1: -9223372036854775808<=n) (h2:n<=9223372036854775807):IntKind.i64.wrap n=n:=by rw [IntKind.wrap_i64];omega
theorem JkU {n m:Int} (h:n=m) (h1: -9223372036854775808<=m) (h2:m<=9223372036854775807):IntKind.i64.wrap n=m:=by subst h;exact Jml h1 h2
inductive Bnd:AV->Prop where
 |any:Bnd .any
 |sc (v:AV):(∀sz xs,v≠ .lst sz xs)->(∀c,v≠ .iptr c)->(∀c,v≠ .agg c)->(∀c,v≠ .tup c)->Bnd v
 |iptr (c:List AV):(∀u∈c,Bnd u)->Bnd (.iptr c)
 |lst (sz:Nat) (xs:List (List AV)):xs.length<=9223372036854775807->(∀c∈xs,∀u∈c,Bnd u)->Bnd (.lst sz xs)
 |agg (c:List AV):(∀u∈c,Bnd u)->Bnd (.agg c)
 |tup (c:List AV):(∀u∈c,Bnd u)->Bnd (.tup c)
theorem RV.bnd {w:World} {F:Nat->Prop} {β:Nat->Option Hdr} {v:Value} (h:RV w F β x v):Bnd x:=by
 induction h with
 |any=>exact .any
 |iptr c b o vs h1 h2 h3 _ ih=>exact .iptr c (fun u hu=>by obtain⟨j,hj⟩:=List.getElem?_of_mem hu;exact ih j u hj)
 |lst sz xs a cap vs h1 h2 h3 h4 h5 h6 _ ih=>
  exact .lst sz xs (by simp only [maxLen] at h2;omega) (fun c hc u hu=>by
   obtain⟨k,hk⟩:=List.getElem?_of_mem hc
   obtain⟨j,hj⟩:=List.getElem?_of_mem hu
   exact ih k c j u hk hj)
 |agg c cs h1 _ ih=>
  exact .agg c (fun u hu=>by
   obtain⟨j,hj⟩:=List.getElem?_of_mem hu
   have:j<cs.size:=by rw [<-h1];exact(List.getElem?_eq_some_iff.1 hj).1
   exact ih j u _ hj (Wb this))
 |tup c cs h1 _ ih=>
  exact .tup c (fun u hu=>by
   obtain⟨j,hj⟩:=List.getElem?_of_mem hu
   have:j<cs.size:=by rw [<-h1];exact(List.getElem?_eq_some_iff.1 hj).1
   exact ih j u _ hj (Wb this))
 |_=>exact .sc _ (by simp) (by simp) (by simp) (by simp)
theorem Bnd.len (h:Bnd (.lst sz xs)):xs.length<=9223372036854775807:=by
 cases h with
 |sc _ h1=>exact absurd rfl (h1 sz xs)
 |lst _ _ h1 _=>exact h1
theorem Bnd.cell (h:Bnd (.agg c)):∀u∈c,Bnd u:=by
 cases h with
 |sc _ _ _ h1=>exact absurd rfl (h1 c)
 |agg _ h2=>exact h2
theorem AC.calls {P:Program} {f:FuncId} {args:List AV} (h:AC P f args [] res []) {w:World} {vals:Array Value} (hl:vals.size=args.length) (hv:∀(t:Nat) (u:AV) (v:Value),args[t]? =some u->vals[t]? =some v->RV w (fun b=>b<w.heap.size) noB u v) (hgl:Ji6 w (fun b=>b<w.heap.size)):
  Calls P f vals w fun e w'=>∃v F,e= .returned v∧RV w' F noB res v∧Below w.heap.size w w':=by
 refine Calls.mono (h ⟨w,[],fun b=>b<w.heap.size,vals.size,fun _=>False,[]⟩ w vals rfl rfl rfl hl ⟨noB,fun b=>b<w.heap.size,⟨fun t=> ?_,rfl,rfl,fun id k e=>by simp [entry] at e,fun id id' k k' g g' b e=>by simp [entry] at e,fun id g e=>(by cases e),fun i g e=>by simp at e,fun b hb=>hb,fun b hb=>⟨hb,.inl hb⟩,rfl,.it,rfl,Nat.le_refl _,fun b _ _=>rfl,hgl⟩⟩) (fun e w' he=> ?_)
 .
  simp only [entry]
  cases hu:args[t]? with
  |none=>exact .any _
  |some u=>
   have ht:t<vals.size:=by rw [hl];exact(List.getElem?_eq_some_iff.1 hu).1
   have:=hv t u _ hu (Wb ht)
   simpa [Wa,ht] using this
 .
  obtain⟨v,rfl,β,F,hB⟩:=he
  have h0:=hB.env 0
  have hβ:∀id g,β id=some g->noB id=some g:=fun id g e=>by have:id<0:=hB.dom id g e;omega
  exact⟨v,F,rfl,RV.mono h0 (fun _ x=>x) (fun _ _=>rfl) hβ,hB.os,hB.tape.eq,hB.output,hB.grow,fun b hb=>hB.block b hb (fun h=>h)⟩
def eL:List (Nat×AV)->Nat->AV
 |[],_=> .any
 |(t,v)::r,u=>match Nat.beq u t with
  |true=>v
  |false=>eL r u
def hL:List (Nat×ABlk)->Nat->Option ABlk
 |[],_=>none
 |(t,v)::r,u=>match Nat.beq u t with
  |true=>some v
  |false=>hL r u
def ZW {α:Type} (p:α->Prop):List α->Prop
 |[]=>True
 |x::l=>p x∧ZW p l
theorem ZR {α:Type} {p:α->Prop}:∀{l:List α},ZW p l->∀x∈l,p x
 |y::l,h,x,hx=>by
  rcases List.mem_cons.1 hx with rfl |hx
  . exact h.1
  . exact ZR h.2 x hx
theorem Jbq:∀(l:List (Nat×AV)) (t:Nat),eL l t= .any∨∃p∈l,p.1=t∧eL l t=p.2
 |[],t=> .inl rfl
 |(u,v)::l,t=>by
  simp only [eL]
  split
  . rename_i e;exact .inr ⟨(u,v),List.mem_cons_self ..,(Nat.eq_of_beq_eq_true e).symm,rfl⟩
  .
   rcases Jbq l t with h |⟨p,h1,h2,h3⟩
   . exact .inl h
   . exact .inr ⟨p,List.mem_cons_of_mem _ h1,h2,h3⟩
theorem Jfl:∀(l:List (Nat×ABlk)) (t:Nat) (b:ABlk),hL l t=some b->(t,b)∈l
 |[],t,b,h=>by simp [hL] at h
 |(u,v)::l,t,b,h=>by
  simp only [hL] at h
  split at h
  .
   rename_i e
   have:=Nat.eq_of_beq_eq_true e
   subst this
   cases h
   exact List.mem_cons_self ..
  . exact List.mem_cons_of_mem _ (Jfl l t b h)
def JeJ (H:Nat->Option ABlk) (gs zs bs:List Nat) (k:Nat) (b':ABlk):Prop:=match b' with
 | .dead=>False
 | .nest _=>False
 | .obj q'=>∃id q,gs[k]? =some id∧H id=some (.obj q)∧∀o,q o->q' o
 | .box c'=>∃id c,gs[k]? =some id∧H id=some (.box c)∧c.length=c'.length∧∀(j:Nat) (u u':AV),c[j]? =some u->c'[j]? =some u'->ArgR H gs zs bs u u'
 | .row sz xs'=>(∃id xs,gs[k]? =some id∧H id=some (.row sz xs)∧xs.length=xs'.length∧∀(i:Nat) (c c':List AV),xs[i]? =some c->xs'[i]? =some c'->c.length=c'.length∧(∀u∈c',u.one=true)∧∀(j:Nat) (u u':AV),c[j]? =some u->c'[j]? =some u'->ArgR H gs zs bs u u')∨(k∈zs∧xs'=[])
def Jbv:List Nat->Bool
 |[]=>true
 |x::l=> !l.contains x&&Jbv l
theorem JfF:∀{l:List Nat},Jbv l=true->∀(i j id:Nat),l[i]? =some id->l[j]? =some id->i=j
 |x::l,h,i,j,id,hi,hj=>by
  simp only [Jbv,Bool.and_eq_true,Bool.not_eq_true'] at h
  have hx:∀k,l[k]? =some x->False:=fun k hk=>by
   have:=Wm hk
   rw [<-List.contains_iff_mem,h.1] at this
   cases this
  match i,j with
  |0,0=>rfl
  |0,j+1=>
   simp at hi hj
   subst hi
   exact(hx j hj).elim
  |i+1,0=>
   simp at hi hj
   subst hj
   exact(hx i hi).elim
  |i+1,j+1=>rw [JfF h.2 i j id (by simpa using hi) (by simpa using hj)]
def JeL (al:Nat->Bool):Nat->List Nat->List Nat
 |_,[]=>[]
 |k,id::l=>match al k with
  |true=>id::JeL al (k+1) l
  |false=>JeL al (k+1) l
theorem JfH {al:Nat->Bool}:∀{l:List Nat} {k j id:Nat},l[j]? =some id->al (k+j)=true->id∈JeL al k l
 |x::l,k,0,id,h,ha=>by
  simp at h
  subst h
  have ha:al k=true:=ha
  simp only [JeL,ha]
  exact List.mem_cons_self ..
 |x::l,k,j+1,id,h,ha=>by
  have:=JfH (k:=k+1) (show l[j]? =some id by simpa using h) (by rw [show k+1+j=k+(j+1) by omega];exact ha)
  simp only [JeL]
  split
  . exact List.mem_cons_of_mem _ this
  . exact this
theorem JlJ {al:Nat->Bool}:∀{l:List Nat} {k:Nat},Jbv (JeL al k l)=true->∀(i j id:Nat),l[i]? =some id->l[j]? =some id->al (k+i)=true->al (k+j)=true->i=j
 |x::l,k,h,i,j,id,hi,hj,ai,aj=>by
  have hr:Jbv (JeL al (k+1) l)=true:=by
   simp only [JeL] at h
   split at h
   . simp only [Jbv,Bool.and_eq_true] at h;exact h.2
   . exact h
  have hx:∀q,al k=true->l[q]? =some x->al (k+1+q)=true->False:=fun q a0 hq aq=>by
   simp only [JeL,a0,Jbv,Bool.and_eq_true,Bool.not_eq_true'] at h
   have:=JfH (k:=k+1) hq aq
   rw [<-List.contains_iff_mem,h.1] at this
   cases this
  match i,j with
  |0,0=>rfl
  |0,j+1=>
   simp at hi hj
   subst hi
   exact(hx j ai hj (by rw [show k+1+j=k+(j+1) by omega];exact aj)).elim
  |i+1,0=>
   simp at hi hj
   subst hj
   exact(hx i aj hi (by rw [show k+1+i=k+(i+1) by omega];exact ai)).elim
  |i+1,j+1=>rw [JlJ hr i j id (by simpa using hi) (by simpa using hj) (by rw [show k+1+i=k+(i+1) by omega];exact ai) (by rw [show k+1+j=k+(j+1) by omega];exact aj)]
def JdH (G:List ABlk) (k:Nat):Bool:=match G[k]? with
 |some .dead=>false
 |some (.box _)=>true
 |some (.row _ _)=>true
 |some (.obj _)=>true
 |some (.nest _)=>true
 |none=>false
def JcT:List (Nat×ABlk)->Nat->Bool
 |[],_=>false
 |(i,_)::l,k=>match Nat.beq i k with
  |true=>true
  |false=>JcT l k
theorem Jgh:∀{l:List (Nat×ABlk)} {k:Nat} {b:ABlk},(k,b)∈l->JcT l k=true
 |(i,b')::l,k,b,h=>by
  simp only [JcT]
  split
  . rfl
  .
   rename_i e
   rcases List.mem_cons.1 h with h |h
   . cases h;rw [Nat.beq_refl] at e;cases e
   . exact Jgh h
def Jdx (g sn n:Nat) (al:Nat->Bool) (gs zs bs:List Nat):Bool:=
 (List.range g).all (fun i=>match gs[i]? with |some j=>Nat.beq i j |none=>false)&&Jbv (JeL al 0 gs)&&(JeL al 0 gs).all (fun id=> !bs.contains id)&&zs.all (fun k=>(match gs[k]? with |some id=>Nat.ble sn id |none=>true)&&Nat.blt k n)&&Nat.ble gs.length n
def Jtl (H:Nat->Option ABlk) (gs zs bs:List Nat) (k:Nat) (b':ABlk):Prop:=match b' with
 | .dead=>True
 | .nest _=>False
 | .obj q=>JeJ H gs zs bs k (.obj q)
 | .box c=>JeJ H gs zs bs k (.box c)
 | .row sz xs=>JeJ H gs zs bs k (.row sz xs)
def abL:List (Nat×Nat×Nat)->Nat->Option (Nat×Nat)
 |[],_=>none
 |p::l,k=>match Nat.beq p.1 k with
  |true=>some p.2
  |false=>abL l k
theorem JkO:∀{l:List (Nat×Nat×Nat)} {k j nn:Nat},abL l k=some (j,nn)->(k,j,nn)∈l
 |p::l,k,j,nn,h=>by
  unfold abL at h
  split at h
  .
   rename_i e
   have:=Nat.eq_of_beq_eq_true e
   obtain⟨p1,p2⟩:=p
   cases this
   cases h
   exact List.mem_cons_self ..
  . exact List.mem_cons_of_mem _ (JkO h)
def Jtj (al:Nat->Bool) (gs bs:List Nat) (ab:List (Nat×Nat×Nat)):Bool:=ab.all (fun p=> !bs.contains p.2.2&& !(JeL al 0 gs).contains p.2.2)&&Jbv (ab.map fun p=>p.2.2)
def JhI (g:Nat) (ab:List (Nat×Nat×Nat)) (H:Nat->Option ABlk) (gs zs bs:List Nat) (k:Nat) (b':ABlk):Prop:=match b' with
 | .nest l'=>(∃id l,gs[k]? =some id∧H id=some (.nest l)∧l.length=l'.length∧∀(j:Nat) (e e':NE),l[j]? =some e->l'[j]? =some e'->NW g H gs zs bs k (abL ab k) j e e')∨(k∈zs∧l'=[])
 | .dead=>False
 | .obj q=>JeJ H gs zs bs k (.obj q)
 | .box c=>JeJ H gs zs bs k (.box c)
 | .row sz xs=>JeJ H gs zs bs k (.row sz xs)
theorem Jrs {ab:List (Nat×Nat×Nat)} {b':ABlk} (h:JeJ H gs zs bs k b'):JhI g ab H gs zs bs k b':=by
 cases b'<;>first |exact h |exact h.elim
theorem Jtb {ab:List (Nat×Nat×Nat)} {b':ABlk} (h1:JhI g ab H gs zs bs k b'):(∃id b,gs[k]? =some id∧H id=some b∧
   ((∃c c',b= .box c∧b'= .box c'∧c.length=c'.length∧∀(j:Nat) (u u':AV),c[j]? =some u->c'[j]? =some u'->ArgR H gs zs bs u u')∨
   (∃sz xs xs',b= .row sz xs∧b'= .row sz xs'∧xs.length=xs'.length∧∀(i:Nat) (c c':List AV),xs[i]? =some c->xs'[i]? =some c'->c.length=c'.length∧(∀u∈c',u.one=true)∧∀(j:Nat) (u u':AV),c[j]? =some u->c'[j]? =some u'->ArgR H gs zs bs u u')∨(∃q q',b= .obj q∧b'= .obj q'∧∀o,q o->q' o)∨
   ∃l l',b= .nest l∧b'= .nest l'∧l.length=l'.length∧∀(j:Nat) (e e':NE),l[j]? =some e->l'[j]? =some e'->NW g H gs zs bs k (abL ab k) j e e'))∨(k∈zs∧((∃sz,b'= .row sz [])∨b'= .nest [])):=by
 cases b' with
 |dead=>exact h1.elim
 |obj q'=>
  obtain⟨id,q,q1,q2,q3⟩:=h1
  exact .inl ⟨id,_,q1,q2,.inr (.inr (.inl ⟨q,q',rfl,rfl,q3⟩))⟩
 |box c'=>
  obtain⟨id,c,q1,q2,q3,q4⟩:=h1
  exact .inl ⟨id,_,q1,q2,.inl ⟨c,c',rfl,rfl,q3,q4⟩⟩
 |row sz xs=>
  rcases h1 with⟨id,ys,q1,q2,q3,q4⟩|⟨q1,q2⟩
  . exact .inl ⟨id,_,q1,q2,.inr (.inl ⟨sz,ys,xs,rfl,rfl,q3,q4⟩)⟩
  . exact .inr ⟨q1,.inl ⟨sz,by rw [q2]⟩⟩
 |nest l'=>
  rcases h1 with⟨id,l,q1,q2,q3,q4⟩|⟨q1,q2⟩
  . exact .inl ⟨id,_,q1,q2,.inr (.inr (.inr ⟨l,l',rfl,rfl,q3,q4⟩))⟩
  . exact .inr ⟨q1,.inr (by rw [q2])⟩
theorem JhJ {σ':ASt} (gs zs bs:List Nat) (ab:List (Nat×Nat×Nat)) (av:Nat->Bool) (hn:Jdx g σ.n σ'.n av gs zs bs=true) (ha:Jtj av gs bs ab=true) (al:∀(k:Nat) (b:ABlk),σ'.H k=some b->av (0+k)=true) (he:∀t,ArgR σ.H gs zs bs (σ.env t) (σ'.env t))
  (hb:∀(k:Nat) (b:ABlk),σ'.H k=some b->JhI g ab σ.H gs zs bs k b):Wk g σ σ' gs zs bs:=by
 unfold Jdx at hn
 simp only [Bool.and_eq_true,List.all_eq_true,List.mem_range] at hn
 obtain⟨⟨⟨⟨n1,n2⟩,n3⟩,n4⟩,n5⟩:=hn
 unfold Jtj at ha
 simp only [Bool.and_eq_true,List.all_eq_true,Bool.not_eq_true'] at ha
 obtain⟨a1,a2⟩:=ha
 have nc:∀{l:List Nat} {x:Nat},l.contains x=false->x∉l:=fun {l x} h hm=>by
  rw [<-List.contains_iff_mem,h] at hm
  cases hm
 refine⟨abL ab,he,fun k b' hk=>Jtb (hb k b' hk),fun i hi=> ?_,fun i j id b b' hi hj e1 e2=>JlJ n2 i j id hi hj (al i b e1) (al j b' e2),fun k id b hid e1=> ?_,fun k hk=> ?_,fun k hk id hid=> ?_,Wl n5,fun k j nn e=> ?_⟩
 .
  have:=n1 i hi
  split at this
  .
   rename_i j e
   rw [e,Nat.eq_of_beq_eq_true this]
  . cases this
 .
  have:=n3 id (JfH hid (al k b e1))
  intro hc
  rw [<-List.contains_iff_mem] at hc
  rw [hc] at this
  cases this
 . exact Nat.blt_eq.mp (n4 k hk).2
 .
  have:=(n4 k hk).1
  rw [hid] at this
  exact Wl this
 .
  have hm:=JkO e
  obtain⟨b1,b2⟩:=a1 _ hm
  refine⟨nc b1,fun k' b q1 q2=>nc b2 (JfH q1 (al k' b q2)),fun k' j' e'=> ?_⟩
  obtain⟨i1,h1⟩:=List.getElem?_of_mem hm
  obtain⟨i2,h2⟩:=List.getElem?_of_mem (JkO e')
  have:=JfF a2 i2 i1 nn (by rw [Wp,h2];rfl) (by rw [Wp,h1];rfl)
  subst this
  rw [h1] at h2
  cases h2
  rfl
theorem Ye {l:List (Nat×AV)} {hl:List (Nat×ABlk)} (gs zs bs:List Nat) (ab:List (Nat×Nat×Nat)) (hn:Jdx g σ.n n (JcT hl) gs zs bs=true) (ha:Jtj (JcT hl) gs bs ab=true) (he:ZW (fun p=>ArgR σ.H gs zs bs (σ.env p.1) p.2) l) (hb:ZW (fun p=>JhI g ab σ.H gs zs bs p.1 p.2) hl):Wk g σ ⟨eL l,hL hl,n⟩ gs zs bs:=by
 refine JhJ gs zs bs ab (JcT hl) hn ha (fun k b e=>by rw [Nat.zero_add];exact Jgh (Jfl hl k b e)) (fun t=> ?_) (fun k b' hk=>ZR hb _ (Jfl hl k b' hk))
 show ArgR σ.H gs zs bs (σ.env t) (eL l t)
 rcases Jbq l t with h |⟨p,h1,h2,h3⟩
 . rw [h];exact .any _
 . rw [h3,<-h2];exact ZR he p h1
theorem JoZ {l:List (Nat×AV)} {hl:List (Nat×ABlk)} (gs zs bs:List Nat) (hn:Jdx g σ.n n (JcT hl) gs zs bs=true) (he:ZW (fun p=>ArgR σ.H gs zs bs (σ.env p.1) p.2) l) (hb:ZW (fun p=>JeJ σ.H gs zs bs p.1 p.2) hl):Wk g σ ⟨eL l,hL hl,n⟩ gs zs bs:=by
 refine JhJ gs zs bs [] (JcT hl) hn rfl (fun k b e=>by rw [Nat.zero_add];exact Jgh (Jfl hl k b e)) (fun t=> ?_) (fun k b' hk=>Jrs (ZR hb _ (Jfl hl k b' hk)))
 show ArgR σ.H gs zs bs (σ.env t) (eL l t)
 rcases Jbq l t with h |⟨p,h1,h2,h3⟩
 . rw [h];exact .any _
 . rw [h3,<-h2];exact ZR he p h1
theorem Jwh {y:AV} (h:x=y) (hy:y.ni=true):ArgR H gs zs bs x y:=by
 subst h
 exact .ni _ hy
theorem JN {j:Nat} (h:x= .ptr id j) (hk:gs[k]? =some id):ArgR H gs zs bs x (.ptr k j):=by
 subst h
 exact .ptr id j k hk
theorem Js9 (h1:gs[k]? =some id) (h2:H id=some (.row sz xs)) (h3:∀c∈xs,AV.niL c=true∧c.all AV.one=true):JeJ H gs zs bs k (.row sz xs):=by
 refine .inl ⟨id,xs,h1,h2,rfl,fun i c c' hc hc'=> ?_⟩
 rw [hc] at hc'
 cases hc'
 obtain⟨q1,q2⟩:=h3 c (Wm hc)
 refine⟨rfl,fun u hu=>by rw [List.all_eq_true] at q2;exact q2 u hu,fun j u u' hu hu'=> ?_⟩
 rw [hu] at hu'
 cases hu'
 exact .ni _ (Jbe q1 (Wm hu))
def idx:Nat->List ABlk->List (Nat×ABlk)
 |_,[]=>[]
 |k,b::l=>(k,b)::idx (k+1) l
theorem Jkq:∀{l:List ABlk} {k j:Nat} {b:ABlk},l[j]? =some b->(k+j,b)∈idx k l
 |b'::l,k,0,b,h=>by simp at h;subst h;simp [idx]
 |b'::l,k,j+1,b,h=>by
  have:=Jkq (k:=k+1) (show l[j]? =some b by simpa using h)
  rw [show k+(j+1)=k+1+j by omega]
  exact List.mem_cons_of_mem _ this
theorem ZU (gs zs bs:List Nat) (ab:List (Nat×Nat×Nat)) (hn:Jdx g n G'.length (JdH G') gs zs bs=true) (ha:Jtj (JdH G') gs bs ab=true) (hv:ArgR H gs zs bs v res) (hb:ZW (fun p=>p.2= .dead∨JhI g ab H gs zs bs p.1 p.2) (idx 0 G')):JgI g v H n (res) G':=by
 refine .inl ⟨gs,zs,bs,JhJ gs zs bs ab (JdH G') hn ha (fun k b e=> ?_) (fun t=> ?_) (fun k b' hk=> ?_)⟩
 .
  obtain⟨e1,e2⟩:=Ja2 e
  rw [Nat.zero_add]
  unfold JdH
  rw [e1]
  cases b with
  |dead=>cases e2
  |_=>rfl
 .
  match t with
  |0=>exact hv
  |t+1=>exact .any _
 .
  obtain⟨hk',hlv⟩:=Ja2 hk
  rcases ZR hb (k,b') (by have:=Jkq (k:=0) hk';rwa [Nat.zero_add] at this) with h1 |h1
  .
   simp only at h1
   subst h1
   cases hlv
  . exact h1
theorem Jo0 (gs zs bs:List Nat) (hn:Jdx g n G'.length (JdH G') gs zs bs=true) (hv:ArgR H gs zs bs v res) (hb:ZW (fun p=>Jtl H gs zs bs p.1 p.2) (idx 0 G')):∃gs zs bs,Wk g ⟨Jp9 v,H,n⟩ (entry [res] G') gs zs bs:=by
 refine⟨gs,zs,bs,JhJ gs zs bs [] (JdH G') hn rfl (fun k b e=> ?_) (fun t=> ?_) (fun k b' hk=> ?_)⟩
 .
  obtain⟨e1,e2⟩:=Ja2 e
  rw [Nat.zero_add]
  unfold JdH
  rw [e1]
  cases b with
  |dead=>cases e2
  |_=>rfl
 .
  match t with
  |0=>exact hv
  |t+1=>exact .any _
 .
  obtain⟨hk',hlv⟩:=Ja2 hk
  have h1:=ZR hb (k,b') (by have:=Jkq (k:=0) hk';rwa [Nat.zero_add] at this)
  refine Jrs ?_
  cases b' with
  |dead=>cases hlv
  |box c=>exact h1
  |row sz xs=>exact h1
  |obj q=>exact h1
  |nest l=>exact h1.elim
theorem Jk (gs zs bs:List Nat) (hn:Jdx g n G'.length (JdH G') gs zs bs=true) (hv:ArgR H gs zs bs v res) (hb:ZW (fun p=>Jtl H gs zs bs p.1 p.2) (idx 0 G')):JgI g v H n (res) G':= .inl (Jo0 gs zs bs hn hv hb)
def JkQ (H:Nat->Option ABlk) (gs zs bs:List Nat) (c c':List AV):Prop:=c.length=c'.length∧(∀u∈c',u.one=true)∧∀(j:Nat) (u u':AV),c[j]? =some u->c'[j]? =some u'->ArgR H gs zs bs u u'
def JbN (H:Nat->Option ABlk) (gs zs bs:List Nat) (xs xs':List (List AV)):Prop:=xs.length=xs'.length∧∀(i:Nat) (c c':List AV),xs[i]? =some c->xs'[i]? =some c'->JkQ H gs zs bs c c'
theorem JbN.ni (h3:∀c∈xs,AV.niL c=true∧c.all AV.one=true):JbN H gs zs bs xs xs:=by
 refine⟨rfl,fun i c c' hc hc'=> ?_⟩
 rw [hc] at hc'
 cases hc'
 obtain⟨q1,q2⟩:=h3 c (Wm hc)
 refine⟨rfl,fun u hu=>by rw [List.all_eq_true] at q2;exact q2 u hu,fun j u u' hu hu'=> ?_⟩
 rw [hu] at hu'
 cases hu'
 exact .ni _ (Jbe q1 (Wm hu))
theorem JbN.app (h:JbN H gs zs bs xs xs') (hc:JkQ H gs zs bs c c'):JbN H gs zs bs (xs++[c]) (xs'++[c']):=by
 obtain⟨h1,h2⟩:=h
 refine⟨by simp [h1],fun i d d' hd hd'=> ?_⟩
 by_cases hi:i<xs.length
 .
  rw [Wc hi] at hd
  rw [Wc (by omega)] at hd'
  exact h2 i d d' hd hd'
 .
  rw [List.getElem?_append_right (by omega)] at hd
  rw [List.getElem?_append_right (by omega)] at hd'
  have e:i - xs.length=0:=by have:=(List.getElem?_eq_some_iff.1 hd).1;simp at this;omega
  rw [e] at hd
  rw [<-h1,e] at hd'
  simp at hd hd'
  subst hd
  subst hd'
  exact hc
theorem Jrr (h1:gs[k]? =some id) (h2:H id=some (.row sz xs)) (h:JbN H gs zs bs xs xs'):JeJ H gs zs bs k (.row sz xs'):= .inl ⟨id,xs,h1,h2,h.1,h.2⟩
theorem JbN.rep (n:Nat) (hc:JkQ H gs zs bs c c'):JbN H gs zs bs (List.replicate n c) (List.replicate n c'):=by
 refine⟨by simp,fun i d d' hd hd'=> ?_⟩
 rw [List.getElem?_replicate] at hd hd'
 split at hd
 .
  cases hd
  rw [if_pos (by assumption)] at hd'
  cases hd'
  exact hc
 . cases hd
theorem Jcx {ys:List (List AV)} (h1:gs[k]? =some id) (h2:H id=some (.row sz xs)) (h:JbN H gs zs bs xs xs') (e:xs'=ys):JeJ H gs zs bs k (.row sz ys):=by
 subst e
 exact Jrr h1 h2 h
theorem Job (h:ZW (fun p=>ArgR H gs zs bs p.1 p.2) (c.zip c')):∀(j:Nat) (u u':AV),c[j]? =some u->c'[j]? =some u'->ArgR H gs zs bs u u':=fun j u u' hu hu'=>
 ZR h (u,u') (Wm (i:=j) (by rw [List.getElem?_zip_eq_some];exact⟨hu,hu'⟩))
theorem Jm4 (hl:c.length=c'.length) (h:ZW (fun p=>ArgR H gs zs bs p.1 p.2) (c.zip c')):ArgR H gs zs bs (.agg c) (.agg c'):= .agg c c' hl (Job h)
theorem Qh (hl:c.length=c'.length) (h:ZW (fun p=>ArgR H gs zs bs p.1 p.2) (c.zip c')):ArgR H gs zs bs (.tup c) (.tup c'):= .tup c c' hl (Job h)
theorem Jy (h1:gs[k]? =some id) (h2:H id=some (.box c)) (hl:c.length=c'.length) (h:ZW (fun p=>ArgR H gs zs bs p.1 p.2) (c.zip c')):JeJ H gs zs bs k (.box c'):=⟨id,c,h1,h2,hl,Job h⟩
theorem Jgf (hl:c.length=c'.length) (h1:c'.all AV.one=true) (h:ZW (fun p=>ArgR H gs zs bs p.1 p.2) (c.zip c')):JkQ H gs zs bs c c':=⟨hl,fun u hu=>by rw [List.all_eq_true] at h1;exact h1 u hu,Job h⟩
theorem Jta (h:k∈zs) (hx:xs=[]):JeJ H gs zs bs k (.row sz xs):= .inr ⟨h,hx⟩
end Go.Proofs.YtehhohbnhcogkaaGreatDoor.Ax
namespace Go.Proofs.YtehhohbnhcogkaaGreatDoor.Ax
open Go.RowKit
def ti1:TI:=⟨false,1,[.any],.other,none⟩
def ti2:TI:=⟨false,1,[.int .i64 0],.int .i64,none⟩
def ti3:TI:=⟨false,1,[.int .i64 0],.int .i64,none⟩
def ti4:TI:=⟨false,1,[.fls],.bool,none⟩
def ti5:TI:=⟨false,1,[.int .u8 0],.int .u8,none⟩
def ti9:TI:=⟨false,1,[.str ⟨#[]⟩],.str,none⟩
def JvP:TI:=⟨false,1,[.nils],.slc 3 1 8 [.int .i64 0],none⟩
def JvO:TI:=⟨false,1,[.nilp],.other,none⟩
def JvN:TI:=⟨false,1,[.nils],.slc 50 5 64 [.str ⟨#[]⟩,.int .i64 0,.int .i64 0,.int .i64 0,.nils],none⟩
def JvM:TI:=⟨false,1,[.nils],.slc 107 3 24 [.int .i64 0,.int .i64 0,.int .i64 0],none⟩
def JvL:TI:=⟨true,2,[.nils,.nils],.struct [(0,1,false),(1,1,false)],none⟩
def JvK:TI:=⟨true,2,[.nils,.nils],.struct [(0,1,false),(1,1,false)],none⟩
def JvJ:TI:=⟨false,1,[.nils],.slc 22 1 24 [.nils],none⟩
def JvI:TI:=⟨true,2,[.nils,.nils],.struct [(0,1,false),(1,1,false)],none⟩
def JvH:TI:=⟨true,2,[.nils,.nils],.struct [(0,1,false),(1,1,false)],none⟩
def JvG:TI:=⟨false,1,[.int .i64 0],.int .i64,none⟩
def JvF:TI:=⟨false,1,[.nils],.slc 79 3 56 [.int .i64 0,.nils,.nils],none⟩
def JvE:TI:=⟨true,2,[.int .i64 0,.nils],.struct [(0,1,false),(1,1,false)],none⟩
def JvD:TI:=⟨true,2,[.int .i64 0,.nils],.struct [(0,1,false),(1,1,false)],none⟩
def JvC:TI:=⟨false,1,[.nils],.slc 81 3 24 [.int .i64 0,.int .i64 0,.int .i64 0],none⟩
def JvB:TI:=⟨false,1,[.nils],.slc 4 1 1 [.fls],none⟩
def JvA:TI:=⟨true,5,[.str ⟨#[]⟩,.int .i64 0,.int .i64 0,.int .i64 0,.nils],.struct [(0,1,false),(1,1,false),(2,1,false),(3,1,false),(4,1,false)],none⟩
def Jvz:TI:=⟨true,5,[.str ⟨#[]⟩,.int .i64 0,.int .i64 0,.int .i64 0,.nils],.struct [(0,1,false),(1,1,false),(2,1,false),(3,1,false),(4,1,false)],none⟩
def Jvy:TI:=⟨true,4,[.int .i64 0,.int .i64 0,.nils,.nils],.struct [(0,1,false),(1,1,false),(2,1,false),(3,1,false)],none⟩
def Jvx:TI:=⟨true,4,[.int .i64 0,.int .i64 0,.nils,.nils],.struct [(0,1,false),(1,1,false),(2,1,false),(3,1,false)],none⟩
def Jvw:TI:=⟨false,1,[.nils],.slc 95 3 24 [.int .i64 0,.int .i64 0,.int .i64 0],none⟩
def Jvv:TI:=⟨false,1,[.nils],.slc 105 3 24 [.int .i64 0,.int .i64 0,.int .i64 0],none⟩
def Jvu:TI:=⟨false,1,[.nils],.slc 116 3 32 [.int .i64 0,.fls,.str ⟨#[]⟩],none⟩
def Jvt:TI:=⟨true,2,[.nils,.int .i64 0],.struct [(0,1,false),(1,1,false)],none⟩
def Jvs:TI:=⟨true,2,[.nils,.int .i64 0],.struct [(0,1,false),(1,1,false)],none⟩
def Jvr:TI:=⟨false,1,[.any],.other,none⟩
def Jvq:TI:=⟨false,1,[.nils],.slc 5 1 1 [.int .u8 0],none⟩
def Jvp:TI:=⟨true,3,[.int .i64 0,.nils,.nils],.struct [(0,1,false),(1,2,true)],none⟩
def Jvo:TI:=⟨true,3,[.int .i64 0,.nils,.nils],.struct [(0,1,false),(1,2,true)],none⟩
def Jvn:TI:=⟨true,3,[.int .i64 0,.int .i64 0,.int .i64 0],.struct [(0,1,false),(1,1,false),(2,1,false)],some [.int,.int,.int]⟩
def Jvm:TI:=⟨true,3,[.int .i64 0,.int .i64 0,.int .i64 0],.struct [(0,1,false),(1,1,false),(2,1,false)],some [.int,.int,.int]⟩
def Jvl:TI:=⟨true,2,[.int .i64 0,.int .i64 0],.struct [(0,1,false),(1,1,false)],some [.int,.int]⟩
def Jvk:TI:=⟨true,2,[.int .i64 0,.int .i64 0],.struct [(0,1,false),(1,1,false)],some [.int,.int]⟩
def Jvj:TI:=⟨false,1,[.any],.other,none⟩
def Jvi:TI:=⟨false,1,[.any],.other,none⟩
def Jvh:TI:=⟨true,3,[.int .i64 0,.int .i64 0,.int .i64 0],.struct [(0,1,false),(1,1,false),(2,1,false)],some [.int,.int,.int]⟩
def Jvg:TI:=⟨true,3,[.int .i64 0,.int .i64 0,.int .i64 0],.struct [(0,1,false),(1,1,false),(2,1,false)],some [.int,.int,.int]⟩
def Jvf:TI:=⟨false,1,[.nilp],.other,none⟩
def Jub:TI:=⟨true,3,[.int .i64 0,.int .i64 0,.int .i64 0],.struct [(0,1,false),(1,1,false),(2,1,false)],some [.int,.int,.int]⟩
def Jua:TI:=⟨true,3,[.int .i64 0,.int .i64 0,.int .i64 0],.struct [(0,1,false),(1,1,false),(2,1,false)],some [.int,.int,.int]⟩
def Jt9:TI:=⟨false,1,[.any],.other,none⟩
def Jt8:TI:=⟨true,3,[.int .i64 0,.int .i64 0,.int .i64 0],.struct [(0,1,false),(1,1,false),(2,1,false)],some [.int,.int,.int]⟩
def Jt7:TI:=⟨true,4,[.int .i64 0,.int .i64 0,.int .i64 0,.str ⟨#[]⟩],.struct [(0,1,false),(1,1,false),(2,1,false),(3,1,false)],some [.int,.int,.int,.str]⟩
def Jt6:TI:=⟨true,4,[.int .i64 0,.int .i64 0,.int .i64 0,.str ⟨#[]⟩],.struct [(0,1,false),(1,1,false),(2,1,false),(3,1,false)],some [.int,.int,.int,.str]⟩
def Jt5:TI:=⟨false,1,[.any],.other,none⟩
def Jt4:TI:=⟨false,1,[.any],.other,none⟩
def Jt3:TI:=⟨true,3,[.int .i64 0,.fls,.str ⟨#[]⟩],.struct [(0,1,false),(1,1,false),(2,1,false)],some [.int,.bool,.str]⟩
def Jt2:TI:=⟨true,3,[.int .i64 0,.fls,.str ⟨#[]⟩],.struct [(0,1,false),(1,1,false),(2,1,false)],some [.int,.bool,.str]⟩
def Jt1:TI:=⟨false,1,[.any],.other,none⟩
def Jt0:TI:=⟨true,4,[.int .i64 0,.int .i64 0,.int .i64 0,.int .i64 0],.arr 4 1 false,some [.int,.int,.int,.int]⟩
def JtZ:TI:=⟨false,1,[.nils],.slc 292 5 40 [.int .i64 0,.int .i64 0,.int .i64 0,.int .i64 0,.int .i64 0],none⟩
def JtY:TI:=⟨true,6,[.int .i64 0,.int .i64 0,.int .i64 0,.int .i64 0,.int .i64 0,.nils],.struct [(0,4,true),(4,1,false),(5,1,false)],none⟩
def JtX:TI:=⟨true,6,[.int .i64 0,.int .i64 0,.int .i64 0,.int .i64 0,.int .i64 0,.nils],.struct [(0,4,true),(4,1,false),(5,1,false)],none⟩
def JtW:TI:=⟨false,1,[.nils],.slc 31 1 24 [.nils],none⟩
def JtV:TI:=⟨false,1,[.any],.other,none⟩
def JtU:TI:=⟨false,1,[.any],.other,none⟩
def JtT:TI:=⟨true,2,[.any,.nils],.struct [(0,1,false),(1,1,false)],none⟩
def JtS:TI:=⟨true,2,[.any,.nils],.struct [(0,1,false),(1,1,false)],none⟩
def JtR:TI:=⟨true,3,[.nils,.nils,.nils],.struct [(0,2,true),(2,1,false)],none⟩
def JtQ:TI:=⟨true,3,[.nils,.nils,.nils],.struct [(0,2,true),(2,1,false)],none⟩
def JtP:TI:=⟨true,2,[.nils,.nils],.struct [(0,1,false),(1,1,false)],none⟩
def JtO:TI:=⟨true,2,[.nils,.nils],.struct [(0,1,false),(1,1,false)],none⟩
def JtN:TI:=⟨false,1,[.any],.other,none⟩
def JtM:TI:=⟨false,1,[.int .u64 0],.int .u64,none⟩
def JtL:TI:=⟨false,1,[.any],.other,none⟩
def JtK:TI:=⟨false,1,[.nilp],.other,none⟩
def JtJ:TI:=⟨false,1,[.nilp],.other,none⟩
def JtI:TI:=⟨true,5,[.nilp,.nilp,.nils,.int .i64 0,.any],.struct [(0,1,false),(1,1,false),(2,1,false),(3,1,false),(4,1,false)],none⟩
def JtH:TI:=⟨true,5,[.nilp,.nilp,.nils,.int .i64 0,.any],.struct [(0,1,false),(1,1,false),(2,1,false),(3,1,false),(4,1,false)],none⟩
def JtG:TI:=⟨false,1,[.any],.other,none⟩
def JtF:TI:=⟨false,1,[.any],.other,none⟩
def JtE:TI:=⟨false,1,[.any],.other,none⟩
def JtD:TI:=⟨false,1,[.nilp],.other,none⟩
def JtC:TI:=⟨true,2,[.nilp,.nils],.struct [(0,1,false),(1,1,false)],none⟩
def JtB:TI:=⟨true,2,[.nilp,.nils],.struct [(0,1,false),(1,1,false)],none⟩
def JtA:TI:=⟨false,1,[.any],.other,none⟩
def Jtz:TI:=⟨false,1,[.any],.other,none⟩
def Jty:TI:=⟨false,1,[.any],.other,none⟩
def Jtx:TI:=⟨false,1,[.int .u32 0],.int .u32,none⟩
def Jtw:TI:=⟨false,1,[.int .u64 0],.int .u64,none⟩
def Jtv:TI:=⟨true,10,[.int .u8 0,.int .u8 0,.int .u8 0,.int .u8 0,.int .u8 0,.int .u8 0,.int .u8 0,.int .u8 0,.int .u8 0,.int .u8 0],.arr 10 1 false,some [.int,.int,.int,.int,.int,.int,.int,.int,.int,.int]⟩
def Jtu:TI:=⟨false,1,[.any],.other,none⟩
def Jtt:TI:=⟨false,1,[.any],.other,none⟩
def Jts:TI:=⟨false,1,[.any],.other,none⟩
def Jtr:TI:=⟨false,1,[.nilp],.other,none⟩
def Jtq:TI:=⟨true,32,[.int .u8 0,.int .u8 0,.int .u8 0,.int .u8 0,.int .u8 0,.int .u8 0,.int .u8 0,.int .u8 0,.int .u8 0,.int .u8 0,.int .u8 0,.int .u8 0,.int .u8 0,.int .u8 0,.int .u8 0,.int .u8 0,.int .u8 0,.int .u8 0,.int .u8 0,.int .u8 0,.int .u8 0,.int .u8 0,.int .u8 0,.int .u8 0,.int .u8 0,.int .u8 0,.int .u8 0,.int .u8 0,.int .u8 0,.int .u8 0,.int .u8 0,.int .u8 0],.arr 32 1 false,some [.int,.int,.int,.int,.int,.int,.int,.int,.int,.int,.int,.int,.int,.int,.int,.int,.int,.int,.int,.int,.int,.int,.int,.int,.int,.int,.int,.int,.int,.int,.int,.int]⟩
def Jtp:TI:=⟨true,64,[.int .u8 0,.int .u8 0,.int .u8 0,.int .u8 0,.int .u8 0,.int .u8 0,.int .u8 0,.int .u8 0,.int .u8 0,.int .u8 0,.int .u8 0,.int .u8 0,.int .u8 0,.int .u8 0,.int .u8 0,.int .u8 0,.int .u8 0,.int .u8 0,.int .u8 0,.int .u8 0,.int .u8 0,.int .u8 0,.int .u8 0,.int .u8 0,.int .u8 0,.int .u8 0,.int .u8 0,.int .u8 0,.int .u8 0,.int .u8 0,.int .u8 0,.int .u8 0,.int .u8 0,.int .u8 0,.int .u8 0,.int .u8 0,.int .u8 0,.int .u8 0,.int .u8 0,.int .u8 0,.int .u8 0,.int .u8 0,.int .u8 0,.int .u8 0,.int .u8 0,.int .u8 0,.int .u8 0,.int .u8 0,.int .u8 0,.int .u8 0,.int .u8 0,.int .u8 0,.int .u8 0,.int .u8 0,.int .u8 0,.int .u8 0,.int .u8 0,.int .u8 0,.int .u8 0,.int .u8 0,.int .u8 0,.int .u8 0,.int .u8 0,.int .u8 0],.arr 64 1 false,some [.int,.int,.int,.int,.int,.int,.int,.int,.int,.int,.int,.int,.int,.int,.int,.int,.int,.int,.int,.int,.int,.int,.int,.int,.int,.int,.int,.int,.int,.int,.int,.int,.int,.int,.int,.int,.int,.int,.int,.int,.int,.int,.int,.int,.int,.int,.int,.int,.int,.int,.int,.int,.int,.int,.int,.int,.int,.int,.int,.int,.int,.int,.int,.int]⟩
def Jto:TI:=⟨true,5,[.int .i64 0,.int .i64 0,.int .i64 0,.int .i64 0,.int .i64 0],.struct [(0,1,false),(1,1,false),(2,1,false),(3,1,false),(4,1,false)],some [.int,.int,.int,.int,.int]⟩
def Jtn:TI:=⟨true,5,[.int .i64 0,.int .i64 0,.int .i64 0,.int .i64 0,.int .i64 0],.struct [(0,1,false),(1,1,false),(2,1,false),(3,1,false),(4,1,false)],some [.int,.int,.int,.int,.int]⟩
def tab:Tab:=fun t=>match t with
 |1=>some ti1
 |2=>some ti2
 |3=>some ti3
 |4=>some ti4
 |5=>some ti5
 |9=>some ti9
 |22=>some JvP
 |23=>some JvO
 |25=>some JvN
 |26=>some JvM
 |27=>some JvL
 |28=>some JvK
 |31=>some JvJ
 |32=>some JvI
 |33=>some JvH
 |34=>some JvG
 |37=>some JvF
 |38=>some JvE
 |39=>some JvD
 |42=>some JvC
 |48=>some JvB
 |49=>some JvA
 |50=>some Jvz
 |51=>some Jvy
 |52=>some Jvx
 |57=>some Jvw
 |59=>some Jvv
 |63=>some Jvu
 |69=>some Jvt
 |70=>some Jvs
 |71=>some Jvr
 |73=>some Jvq
 |78=>some Jvp
 |79=>some Jvo
 |80=>some Jvn
 |81=>some Jvm
 |82=>some Jvl
 |83=>some Jvk
 |90=>some Jvj
 |91=>some Jvi
 |94=>some Jvh
 |95=>some Jvg
 |96=>some Jvf
 |104=>some Jub
 |105=>some Jua
 |106=>some Jt9
 |107=>some Jt8
 |109=>some Jt7
 |110=>some Jt6
 |112=>some Jt5
 |114=>some Jt4
 |115=>some Jt3
 |116=>some Jt2
 |122=>some Jt1
 |123=>some Jt0
 |124=>some JtZ
 |125=>some JtY
 |126=>some JtX
 |129=>some JtW
 |138=>some JtV
 |141=>some JtU
 |142=>some JtT
 |143=>some JtS
 |152=>some JtR
 |153=>some JtQ
 |155=>some JtP
 |156=>some JtO
 |162=>some JtN
 |165=>some JtM
 |169=>some JtL
 |170=>some JtK
 |171=>some JtJ
 |172=>some JtI
 |173=>some JtH
 |176=>some JtG
 |177=>some JtF
 |182=>some JtE
 |185=>some JtD
 |186=>some JtC
 |187=>some JtB
 |198=>some JtA
 |202=>some Jtz
 |203=>some Jty
 |219=>some Jtx
 |221=>some Jtw
 |223=>some Jtv
 |227=>some Jtu
 |231=>some Jtt
 |234=>some Jts
 |237=>some Jtr
 |263=>some Jtq
 |264=>some Jtp
 |291=>some Jto
 |292=>some Jtn
 |_=>none
theorem JuB:JA Tryz.prog 1=some ti1:=by kernel_rfl
theorem JuA:JA Tryz.prog 2=some ti2:=by kernel_rfl
theorem Juz:JA Tryz.prog 3=some ti3:=by kernel_rfl
theorem Juy:JA Tryz.prog 4=some ti4:=by kernel_rfl
theorem Jux:JA Tryz.prog 5=some ti5:=by kernel_rfl
theorem Juw:JA Tryz.prog 9=some ti9:=by kernel_rfl
theorem Jsi:JA Tryz.prog 22=some JvP:=by kernel_rfl
theorem Jsh:JA Tryz.prog 23=some JvO:=by kernel_rfl
theorem Jsg:JA Tryz.prog 25=some JvN:=by kernel_rfl
theorem Jsf:JA Tryz.prog 26=some JvM:=by kernel_rfl
theorem Jse:JA Tryz.prog 27=some JvL:=by kernel_rfl
theorem Jsd:JA Tryz.prog 28=some JvK:=by kernel_rfl
theorem Jsc:JA Tryz.prog 31=some JvJ:=by kernel_rfl
theorem Jsb:JA Tryz.prog 32=some JvI:=by kernel_rfl
theorem Jsa:JA Tryz.prog 33=some JvH:=by kernel_rfl
theorem Jr9:JA Tryz.prog 34=some JvG:=by kernel_rfl
theorem Jr8:JA Tryz.prog 37=some JvF:=by kernel_rfl
theorem Jr7:JA Tryz.prog 38=some JvE:=by kernel_rfl
theorem Jr6:JA Tryz.prog 39=some JvD:=by kernel_rfl
theorem Jr5:JA Tryz.prog 42=some JvC:=by kernel_rfl
theorem Jr4:JA Tryz.prog 48=some JvB:=by kernel_rfl
theorem Jr3:JA Tryz.prog 49=some JvA:=by kernel_rfl
theorem Jr2:JA Tryz.prog 50=some Jvz:=by kernel_rfl
theorem Jr1:JA Tryz.prog 51=some Jvy:=by kernel_rfl
theorem Jr0:JA Tryz.prog 52=some Jvx:=by kernel_rfl
theorem JrZ:JA Tryz.prog 57=some Jvw:=by kernel_rfl
theorem JrY:JA Tryz.prog 59=some Jvv:=by kernel_rfl
theorem JrX:JA Tryz.prog 63=some Jvu:=by kernel_rfl
theorem JrW:JA Tryz.prog 69=some Jvt:=by kernel_rfl
theorem JrV:JA Tryz.prog 70=some Jvs:=by kernel_rfl
theorem JrU:JA Tryz.prog 71=some Jvr:=by kernel_rfl
theorem JrT:JA Tryz.prog 73=some Jvq:=by kernel_rfl
theorem JrS:JA Tryz.prog 78=some Jvp:=by kernel_rfl
theorem JrR:JA Tryz.prog 79=some Jvo:=by kernel_rfl
theorem JrQ:JA Tryz.prog 80=some Jvn:=by kernel_rfl
theorem JrP:JA Tryz.prog 81=some Jvm:=by kernel_rfl
theorem JrO:JA Tryz.prog 82=some Jvl:=by kernel_rfl
theorem JrN:JA Tryz.prog 83=some Jvk:=by kernel_rfl
theorem JrM:JA Tryz.prog 90=some Jvj:=by kernel_rfl
theorem JrL:JA Tryz.prog 91=some Jvi:=by kernel_rfl
theorem JrK:JA Tryz.prog 94=some Jvh:=by kernel_rfl
theorem JrJ:JA Tryz.prog 95=some Jvg:=by kernel_rfl
theorem JrI:JA Tryz.prog 96=some Jvf:=by kernel_rfl
theorem JpT:JA Tryz.prog 104=some Jub:=by kernel_rfl
theorem JpS:JA Tryz.prog 105=some Jua:=by kernel_rfl
theorem JpR:JA Tryz.prog 106=some Jt9:=by kernel_rfl
theorem JpQ:JA Tryz.prog 107=some Jt8:=by kernel_rfl
theorem JpP:JA Tryz.prog 109=some Jt7:=by kernel_rfl
theorem JpO:JA Tryz.prog 110=some Jt6:=by kernel_rfl
theorem JpN:JA Tryz.prog 112=some Jt5:=by kernel_rfl
theorem JpM:JA Tryz.prog 114=some Jt4:=by kernel_rfl
theorem JpL:JA Tryz.prog 115=some Jt3:=by kernel_rfl
theorem JpK:JA Tryz.prog 116=some Jt2:=by kernel_rfl
theorem JpJ:JA Tryz.prog 122=some Jt1:=by kernel_rfl
theorem JpI:JA Tryz.prog 123=some Jt0:=by kernel_rfl
theorem JpH:JA Tryz.prog 124=some JtZ:=by kernel_rfl
theorem JpG:JA Tryz.prog 125=some JtY:=by kernel_rfl
theorem JpF:JA Tryz.prog 126=some JtX:=by kernel_rfl
theorem JpE:JA Tryz.prog 129=some JtW:=by kernel_rfl
theorem JpD:JA Tryz.prog 138=some JtV:=by kernel_rfl
theorem JpC:JA Tryz.prog 141=some JtU:=by kernel_rfl
theorem JpB:JA Tryz.prog 142=some JtT:=by kernel_rfl
theorem JpA:JA Tryz.prog 143=some JtS:=by kernel_rfl
theorem Jpz:JA Tryz.prog 152=some JtR:=by kernel_rfl
theorem Jpy:JA Tryz.prog 153=some JtQ:=by kernel_rfl
theorem Jpx:JA Tryz.prog 155=some JtP:=by kernel_rfl
theorem Jpw:JA Tryz.prog 156=some JtO:=by kernel_rfl
theorem Jpv:JA Tryz.prog 162=some JtN:=by kernel_rfl
theorem Jpu:JA Tryz.prog 165=some JtM:=by kernel_rfl
theorem Jpt:JA Tryz.prog 169=some JtL:=by kernel_rfl
theorem Jps:JA Tryz.prog 170=some JtK:=by kernel_rfl
theorem Jpr:JA Tryz.prog 171=some JtJ:=by kernel_rfl
theorem Jpq:JA Tryz.prog 172=some JtI:=by kernel_rfl
theorem Jpp:JA Tryz.prog 173=some JtH:=by kernel_rfl
theorem Jpo:JA Tryz.prog 176=some JtG:=by kernel_rfl
theorem Jpn:JA Tryz.prog 177=some JtF:=by kernel_rfl
theorem Jpm:JA Tryz.prog 182=some JtE:=by kernel_rfl
theorem Jpl:JA Tryz.prog 185=some JtD:=by kernel_rfl
theorem Jpk:JA Tryz.prog 186=some JtC:=by kernel_rfl
theorem Jpj:JA Tryz.prog 187=some JtB:=by kernel_rfl
theorem Jpi:JA Tryz.prog 198=some JtA:=by kernel_rfl
theorem Jph:JA Tryz.prog 202=some Jtz:=by kernel_rfl
theorem Jpg:JA Tryz.prog 203=some Jty:=by kernel_rfl
theorem Jpf:JA Tryz.prog 219=some Jtx:=by kernel_rfl
theorem Jpe:JA Tryz.prog 221=some Jtw:=by kernel_rfl
theorem Jpd:JA Tryz.prog 223=some Jtv:=by kernel_rfl
theorem Jpc:JA Tryz.prog 227=some Jtu:=by kernel_rfl
theorem Jpb:JA Tryz.prog 231=some Jtt:=by kernel_rfl
theorem Jpa:JA Tryz.prog 234=some Jts:=by kernel_rfl
theorem Jo9:JA Tryz.prog 237=some Jtr:=by kernel_rfl
theorem Jo8:JA Tryz.prog 263=some Jtq:=by kernel_rfl
theorem Jo7:JA Tryz.prog 264=some Jtp:=by kernel_rfl
theorem Jo6:JA Tryz.prog 291=some Jto:=by kernel_rfl
theorem Jo5:JA Tryz.prog 292=some Jtn:=by kernel_rfl
set_option maxRecDepth 100000 in
theorem Jc:J0 Tryz.prog tab:=by
 intro t ti h
 unfold tab at h
 split at h
 . exact Wi h▸JuB
 . exact Wi h▸JuA
 . exact Wi h▸Juz
 . exact Wi h▸Juy
 . exact Wi h▸Jux
 . exact Wi h▸Juw
 . exact Wi h▸Jsi
 . exact Wi h▸Jsh
 . exact Wi h▸Jsg
 . exact Wi h▸Jsf
 . exact Wi h▸Jse
 . exact Wi h▸Jsd
 . exact Wi h▸Jsc
 . exact Wi h▸Jsb
 . exact Wi h▸Jsa
 . exact Wi h▸Jr9
 . exact Wi h▸Jr8
 . exact Wi h▸Jr7
 . exact Wi h▸Jr6
 . exact Wi h▸Jr5
 . exact Wi h▸Jr4
 . exact Wi h▸Jr3
 . exact Wi h▸Jr2
 . exact Wi h▸Jr1
 . exact Wi h▸Jr0
 . exact Wi h▸JrZ
 . exact Wi h▸JrY
 . exact Wi h▸JrX
 . exact Wi h▸JrW
 . exact Wi h▸JrV
 . exact Wi h▸JrU
 . exact Wi h▸JrT
 . exact Wi h▸JrS
 . exact Wi h▸JrR
 . exact Wi h▸JrQ
 . exact Wi h▸JrP
 . exact Wi h▸JrO
 . exact Wi h▸JrN
 . exact Wi h▸JrM
 . exact Wi h▸JrL
 . exact Wi h▸JrK
 . exact Wi h▸JrJ
 . exact Wi h▸JrI
 . exact Wi h▸JpT
 . exact Wi h▸JpS
 . exact Wi h▸JpR
 . exact Wi h▸JpQ
 . exact Wi h▸JpP
 . exact Wi h▸JpO
 . exact Wi h▸JpN
 . exact Wi h▸JpM
 . exact Wi h▸JpL
 . exact Wi h▸JpK
 . exact Wi h▸JpJ
 . exact Wi h▸JpI
 . exact Wi h▸JpH
 . exact Wi h▸JpG
 . exact Wi h▸JpF
 . exact Wi h▸JpE
 . exact Wi h▸JpD
 . exact Wi h▸JpC
 . exact Wi h▸JpB
 . exact Wi h▸JpA
 . exact Wi h▸Jpz
 . exact Wi h▸Jpy
 . exact Wi h▸Jpx
 . exact Wi h▸Jpw
 . exact Wi h▸Jpv
 . exact Wi h▸Jpu
 . exact Wi h▸Jpt
 . exact Wi h▸Jps
 . exact Wi h▸Jpr
 . exact Wi h▸Jpq
 . exact Wi h▸Jpp
 . exact Wi h▸Jpo
 . exact Wi h▸Jpn
 . exact Wi h▸Jpm
 . exact Wi h▸Jpl
 . exact Wi h▸Jpk
 . exact Wi h▸Jpj
 . exact Wi h▸Jpi
 . exact Wi h▸Jph
 . exact Wi h▸Jpg
 . exact Wi h▸Jpf
 . exact Wi h▸Jpe
 . exact Wi h▸Jpd
 . exact Wi h▸Jpc
 . exact Wi h▸Jpb
 . exact Wi h▸Jpa
 . exact Wi h▸Jo9
 . exact Wi h▸Jo8
 . exact Wi h▸Jo7
 . exact Wi h▸Jo6
 . exact Wi h▸Jo5
 . cases h
end Go.Proofs.YtehhohbnhcogkaaGreatDoor.Ax
namespace Go.Proofs.YtehhohbnhcogkaaGreatDoor.Ax
theorem Ja:Tryz.prog.follows .mixedOrders=true:=by kernel_rfl
end Go.Proofs.YtehhohbnhcogkaaGreatDoor.Ax
namespace Go.Proofs.YtehhohbnhcogkaaGreatDoor.Ax
open Go.RowKit
variable {k m n sz g:Nat} {b a i:Int} {x res:AV} {c args:List AV} {xs:List (List AV)} {u:Unit} {f:FuncId} {P:Program} {G G':List ABlk}
inductive Ctl (ρ σ:Type) where
 |ret (r:ρ)
 |brk (s:σ)
abbrev w64 (z:Int):Int:=IntKind.i64.wrap z
def Ctl.fin {ρ σ:Type} (o:Option (Ctl ρ σ)) (k:σ->Option ρ):Option ρ:=match o with
 |none=>none
 |some (.ret r)=>some r
 |some (.brk s)=>k s
def Ctl.sub {ρ σ τ:Type} (o:Option (Ctl ρ σ)) (k:σ->Option (Ctl ρ τ)):Option (Ctl ρ τ):=match o with
 |none=>none
 |some (.ret r)=>some (.ret r)
 |some (.brk s)=>k s
theorem Jr {ρ σ:Type} {o:Option (Ctl ρ σ)} {k:σ->Option ρ} {r:ρ} (h:Ctl.fin o k=some r):∃c,o=some c∧Ctl.fin (some c) k=some r:=by
 cases o with
 |none=>cases h
 |some c=>exact⟨c,rfl,h⟩
theorem Jn {ρ σ:Type} {k:σ->Option ρ} {r r':ρ} (h:Ctl.fin (some (.ret r)) k=some r'):some r=some r':=h
theorem Jw {ρ σ:Type} {k:σ->Option ρ} {s:σ} {r':ρ} (h:Ctl.fin (some (.brk s)) k=some r'):k s=some r':=h
theorem YF {ρ σ τ:Type} {o:Option (Ctl ρ σ)} {k:σ->Option (Ctl ρ τ)} {r:Ctl ρ τ} (h:Ctl.sub o k=some r):∃c,o=some c∧Ctl.sub (some c) k=some r:=by
 cases o with
 |none=>cases h
 |some c=>exact⟨c,rfl,h⟩
theorem Zz {ρ σ τ:Type} {k:σ->Option (Ctl ρ τ)} {s:σ} {r':Ctl ρ τ} (h:Ctl.sub (some (.brk s)) k=some r'):k s=some r':=h
theorem Jk5 {ρ σ τ:Type} {o:Option (Ctl ρ σ)} {k:σ->Option (Ctl ρ τ)} {r:Ctl ρ τ} (h:Ctl.sub o k=some r):∃(D:σ->Prop) (c:Ctl ρ σ),o=some c∧(∀x,c= .brk x->D x)∧(∀x,D x->k x=some r)∧∀y,c= .ret y->some (Ctl.ret y)=some r:=by
 obtain⟨c,rfl,h2⟩:=YF h
 exact⟨fun x=>k x=some r,c,rfl,fun x e=>by subst e;exact h2,fun x e=>e,fun y e=>by subst e;exact h2⟩
theorem Jrf {α:Type} {b:Bool} {x y r:α} (h:b=true) (k:cond b x y=r):x=r:=by subst h;exact k
theorem Jrg {α:Type} {b:Bool} {x y r:α} (h:b=false) (k:cond b x y=r):y=r:=by subst h;exact k
theorem Jrt {c:Int} (h:(a==b)=true) (k:(b==c)=false):(a==c)=false:=by rw [eq_of_beq h];exact k
theorem Jj8 {b c:Bool} (h:b=c):(!b)=(!c):=by rw [h]
def ixL {α:Type} (l:List α) (i:Int):Option α:=if 0<=i then l[i.toNat]? else none
theorem Jau {α:Type} {l:List α} {x:α} (h:ixL l i=some x):∃m:Nat,i=m∧l[m]? =some x:=by
 unfold ixL at h
 split at h
 . exact⟨i.toNat,by omega,h⟩
 . cases h
theorem Jv {α:Type} {enc:α->List AV} {l:List α} {x:α} (h:l[m]? =some x):(l.map enc)[m]? =some (enc x):=by rw [Wp,h];rfl
theorem Jl {α:Type} {l:List α} {x:α} (h:l[k]? =some x):l.drop k=x::l.drop (k+1):=by
 obtain⟨h1,rfl⟩:=List.getElem?_eq_some_iff.1 h
 exact List.drop_eq_getElem_cons h1
theorem Jq {α:Type} {l:List α} (h:l.length<=k):l.drop k=[]:=List.drop_of_length_le h
theorem JZ {α:Type} {enc:α->List AV} {l:List α} {x:α} {K:Nat->List AV->Prop} (h:ixL l i=some x) (e:xs=l.map enc) (hK:∀m:Nat,i=m->l[m]? =some x->K m (enc x)):∃(m:Nat) (c:List AV),i=m∧xs[m]? =some c∧K m c:=by
 obtain⟨m,h1,h2⟩:=Jau h
 subst e
 exact⟨m,enc x,h1,Jv h2,hK m h1 h2⟩
theorem Qc {α:Type} {enc:α->List AV} {l:List α} {x:α} {K:Nat->Prop} (h:ixL l i=some x) (e:xs=l.map enc) (hK:∀m:Nat,i=m->l[m]? =some x->K m):∃m:Nat,i=m∧m<xs.length∧K m:=by
 obtain⟨m,h1,h2⟩:=Jau h
 subst e
 exact⟨m,h1,by rw [List.length_map];exact(List.getElem?_eq_some_iff.1 h2).1,hK m h1 h2⟩
theorem Jm {α:Type} {enc:α->List AV} {l:List α} {K:Int->Prop} (e:xs=l.map enc) (hK:K (l.length:Int)):∃z:Int,((xs.length:Nat):Int)=z∧K z:=by
 subst e
 exact⟨_,by rw [List.length_map],hK⟩
def apL {α:Type} (l y:List α):Option (List α):=if l.length+y.length<=16777216 then some (l++y) else none
theorem Jbr {α:Type} {l y z:List α} (h:apL l y=some z):l.length+y.length<=16777216∧z=l++y:=by
 unfold apL at h
 split at h
 . exact⟨by assumption,(Wi h).symm⟩
 . cases h
theorem ZV {α:Type} {enc:α->List AV} {l y z:List α} {ys:List (List AV)} {eb:Nat} {K:List (List AV)->Prop} (h:apL l y=some z) (e1:xs=l.map enc) (e2:ys=y.map enc) (hb:eb<=8388608) (hK:K (z.map enc)):(xs.length+ys.length)*eb<=140737488355328∧xs.length+ys.length<=maxLen∧∃zs:List (List AV),xs++ys=zs∧K zs:=by
 obtain⟨h1,rfl⟩:=Jbr h
 subst e1
 subst e2
 simp only [List.length_map]
 refine⟨?_,by unfold maxLen;omega,_,by rw [List.map_append],hK⟩
 have:=Nat.mul_le_mul h1 hb
 omega
def slL {α:Type} (l:List α) (a b:Int):Option (List α):=if 0<=a∧a<=b∧b<=l.length then some ((l.drop a.toNat).take (b.toNat - a.toNat)) else none
theorem Jla {α:Type} {l z:List α} (h:slL l a b=some z):0<=a∧a<=b∧b<=l.length∧z=(l.drop a.toNat).take (b.toNat - a.toNat):=by
 unfold slL at h
 split at h
 . rename_i k;exact⟨k.1,k.2.1,k.2.2,(Wi h).symm⟩
 . cases h
theorem JvT {α:Type} {enc:α->List AV} {l z:List α} {K:List (List AV)->Prop} (h:slL l a b=some z) (e:xs=l.map enc) (hK:K (z.map enc)):∃n:Nat,a=n∧∃m:Nat,b=m∧n<=m∧m<=xs.length∧∃ys:List (List AV),(xs.drop n).take (m - n)=ys∧K ys:=by
 obtain⟨h1,h2,h3,rfl⟩:=Jla h
 subst e
 exact⟨a.toNat,by omega,b.toNat,by omega,by omega,by rw [List.length_map];omega,_,by rw [<-List.map_drop,<-List.map_take],hK⟩
theorem Jjj {α:Type} {enc:α->List AV} {l z:List α} {K:List (List AV)->Prop} (h:slL l 0 b=some z) (e:xs=l.map enc) (hK:K (z.map enc)):∃m:Nat,b=m∧0<=m∧m<=xs.length∧∃ys:List (List AV),(xs.drop 0).take (m - 0)=ys∧K ys:=by
 obtain⟨n,h1,m,h2,h3⟩:=JvT h e hK
 obtain rfl:n=0:=by omega
 exact⟨m,h2,h3⟩
theorem JvS {α:Type} {enc:α->List AV} {l z:List α} {K:List (List AV)->Prop} (h:slL l a l.length=some z) (e:xs=l.map enc) (hK:K (z.map enc)):∃n:Nat,a=n∧n<=xs.length∧xs.length<=xs.length∧∃ys:List (List AV),(xs.drop n).take (xs.length - n)=ys∧K ys:=by
 obtain⟨n,h1,m,h2,h3⟩:=JvT h e hK
 obtain rfl:m=xs.length:=by subst e;rw [List.length_map];omega
 exact⟨n,h1,h3⟩
def mkL {α:Type} (n:Int) (z:α):Option (List α):=if 0<=n∧n<=16777216 then some (List.replicate n.toNat z) else none
theorem JuP {α:Type} {enc:α->List AV} {n:Int} {z:α} {l:List α} {ez:List AV} {eb:Nat} {K:List (List AV)->Prop} (h:mkL n z=some l) (e:ez=enc z) (hb:eb<=8388608) (hK:K (l.map enc)):∃m:Nat,n=m∧n=m∧eb*m<=281474976710656∧m<=maxLen∧∃zs:List (List AV),List.replicate m ez=zs∧K zs:=by
 unfold mkL at h
 split at h
 .
  rename_i k
  cases h
  subst e
  refine⟨n.toNat,by omega,by omega,?_,by unfold maxLen;omega,_,by rw [<-List.map_replicate],hK⟩
  have:n.toNat<=16777216:=by omega
  have:=Nat.mul_le_mul hb this
  omega
 . cases h
def alL {α:Type} (n:Nat) (z:α):Option (List α):=some (List.replicate n z)
theorem Jwj {α:Type} {enc:α->List AV} {z:α} {l:List α} {zs:List AV} {s:Nat} {K:Nat->List (List AV)->Prop} (h:alL n z=some l) (hs:(enc z).length=s) (h1:(enc z).all AV.one=true) (hn:n<=1000) (hl:n*s<=zs.length) (hz:Joc s (enc z) n zs=true) (hK:K s (l.map enc)):∃s xs,Jm7 zs s xs∧K s xs:=by
 cases h
 exact⟨s,_,⟨n,enc z,List.map_replicate,hs,h1,by unfold maxLen;omega,hl,hz⟩,hK⟩
def gdA (n:Nat) (i:Int):Option Unit:=if 0<=i∧i<n then some () else none
theorem JqQ (h:gdA n i=some u):0<=i∧i<n:=by
 unfold gdA at h
 split at h
 . assumption
 . cases h
theorem Jv3 {s:Nat} {K:Nat->Nat->Prop} (r:Nat) (h:gdA n i=some u) (hr:sz=r*s) (hK:∀m:Nat,i=m->K m r):∃m r:Nat,i=m∧m<n∧sz=r*s∧K m r:=by
 have:=JqQ h
 exact⟨i.toNat,r,by omega,by omega,hr,hK _ (by omega)⟩
theorem Jv2 (h:i=m):i=((m*1:Nat):Int):=by omega
def ldL {α:Type} (n:Nat) (l:List α):Option Unit:=if l.length=n then some () else none
theorem Z6 {α:Type} {enc:α->List AV} {l:List α} {x x':α} {cs:List AV} {j:Nat} {K:List (List AV)->Prop} (h:l[m]? =some x) (e:xs=l.map enc) (hn:j+n<=(enc x).length) (hs:Zr (enc x) j cs=enc x') (hK:K ((l.set m x').map enc)):∃c,xs[m]? =some c∧j+n<=c.length∧∃zs:List (List AV),xs.set m (Zr c j cs)=zs∧K zs:=by
 subst e
 exact⟨enc x,Jv h,hn,_,by rw [hs,List.map_set],hK⟩
def ixS (s:ByteArray) (i:Int):Option Int:=if 0<=i then (s[i.toNat]?).map (fun b=>(b.toNat:Int)) else none
theorem Juh {s:ByteArray} {z:Int} {K:Nat->UInt8->Prop} (h:ixS s i=some z) (hK:∀(m:Nat) (b:UInt8),i=m->s[m]? =some b->((b.toNat:Nat):Int)=z->K m b):∃(m:Nat) (b:UInt8),i=m∧s[m]? =some b∧K m b:=by
 unfold ixS at h
 split at h
 .
  cases hb:s[i.toNat]? with
  |none=>rw [hb] at h;cases h
  |some b=>rw [hb] at h;exact⟨i.toNat,b,by omega,hb,hK _ _ (by omega) hb (Wi h)⟩
 . cases h
def nz (b:Int):Option Unit:=if b=0 then none else some ()
theorem JsF (h:nz b=some u):b≠0:=by
 unfold nz at h
 split at h
 . cases h
 . assumption
theorem JgW {α:Type} {enc:α->List AV} (h:∀x,AV.niL (enc x)=true∧(enc x).all AV.one=true) (l:List α):∀c∈l.map enc,AV.niL c=true∧c.all AV.one=true:=fun c hc=>by
 obtain⟨x,_,rfl⟩:=List.mem_map.1 hc
 exact h x
theorem QI {α:Type} {enc:α->List AV} (h:∀x,AV.niL (enc x)=true∧(enc x).all AV.one=true) (l:List α):∀c∈l.map enc,AV.niL c=true:=fun c hc=>(JgW h l c hc).1
section
variable {H:Nat->Option ABlk} {gs zs bs:List Nat}
theorem Jwf (h:x= .tru):ArgR H gs zs bs x (.bool true):=h▸ .tru
theorem Jv9 (h:x= .fls):ArgR H gs zs bs x (.bool false):=h▸ .fls
theorem Jwg (h:x= .nils):ArgR H gs zs bs x (.lst sz []):=h▸ .nils sz
theorem Ju7 (h:x= .nils) (hk:zs.contains k=true):ArgR H gs zs bs x (.osl k):=h▸ .nilz k (List.contains_iff_mem.1 hk)
theorem Zx {id:Nat} (h:x= .osl id) (hk:gs[k]? =some id):ArgR H gs zs bs x (.osl k):=h▸ .oslg id k hk
theorem Jrx (id:Nat) (h:x= .osl id) (hm:bs.contains id=true) (hH:H id=some (.row sz xs)) (hn:∀c∈xs,AV.niL c=true):ArgR H gs zs bs x (.lst sz xs):=h▸ .osl id sz xs (List.contains_iff_mem.1 hm) hH hn
theorem Jwi {c':List AV} (h:x= .agg c) (hl:c.length=c'.length) (hz:ZW (fun p=>ArgR H gs zs bs p.1 p.2) (c.zip c')):ArgR H gs zs bs x (.agg c'):=h▸Jm4 hl hz
theorem Q4 {c':List AV} (h:x= .fn f c) (hl:c.length=c'.length) (hz:ZW (fun p=>ArgR H gs zs bs p.1 p.2) (c.zip c')):ArgR H gs zs bs x (.fn f c'):=h▸ .fn f c c' hl (Job hz)
theorem YT (id:Nat) (c:List AV) (h:x= .ptr id 0) (hm:bs.contains id=true) (hH:H id=some (.box c)) (h1:c.all AV.one=true) (h2:AV.niL c=true):ArgR H gs zs bs x (.iptr c):=h▸ .ibox id 0 c (List.contains_iff_mem.1 hm) hH h1 h2
theorem Jv8 (id:Nat) (c c':List AV) (h:x= .ptr id 0) (hm:bs.contains id=true) (hH:H id=some (.box c)) (hl:c.length=c'.length) (h1:c'.all AV.one=true) (h2:AV.niL c'=true) (hz:ZW (fun p=>ArgR H gs zs bs p.1 p.2) (c.zip c')):ArgR H gs zs bs x (.iptr c'):=h▸ .ibxr id 0 c c' (List.contains_iff_mem.1 hm) hH hl h1 h2 (Job hz)
theorem Jv7 {α:Type} {enc:α->List AV} {id:Nat} {l:List α} (ok:∀x,AV.niL (enc x)=true∧(enc x).all AV.one=true) (h1:gs[k]? =some id) (h2:H id=some (.row sz (l.map enc))):JeJ H gs zs bs k (.row sz (l.map enc)):=Js9 h1 h2 (JgW ok l)
theorem Jci (h:zs.contains k=true):JeJ H gs zs bs k (.row sz []):=Jta (List.contains_iff_mem.1 h) rfl
end
theorem JnY {fn:Func} {bd:Code} {args':List AV} {H:Nat→Option ABlk} (up:Bool) (gs bs:List Nat) (m:Nat) (h1:P.funcs[f]? =some fn) (h2:fn.name≠ "runtime.NumGoroutine") (h3:fn.body=some bd) (hac:AC P f args' G res G') (hl:args.length=args'.length)
  (ha:ZW (fun p=>ArgR H gs [] bs p.1 p.2) (args.zip args')) (hg:gs.length=G.length) (hgk:ZW (fun p=>H p.1=some (p.2.ren (rho gs n (G'.length - G.length)))) (gs.zip G)) (hnd:Jbv gs=true) (hdis:gs.all (fun id=> !bs.contains id)=true) (hle:Nat.ble G.length G'.length=true) (hf:Jd9 up g bs res G') (hgc:ZW (fun b=>ABlk.ren (rho gs n (G'.length - G.length)) b=b) G') (hm:G'.length - G.length=m):CallOK P f args H n args' gs bs G G' res G' g up m:=by
 refine⟨⟨fn,bd,h1,h2,h3⟩,hl,fun t u u' hu hu'=>ZR ha (u,u') (Wm (i:=t) (by rw [List.getElem?_zip_eq_some];exact⟨hu,hu'⟩)),hg,fun k id b hk hb=>ZR hgk (id,b) (Wm (i:=k) (by rw [List.getElem?_zip_eq_some];exact⟨hk,hb⟩)),JfF hnd,fun id hid=> ?_,?_,Wl hle,hf,hac,hm⟩
 .
  have:=List.all_eq_true.1 hdis id hid
  intro hc
  rw [<-List.contains_iff_mem] at hc
  rw [hc] at this
  cases this
 .
  conv=>lhs;rw [<-List.map_id G']
  exact List.map_congr_left (fun b hb=>(ZR hgc b hb).symm)
theorem Juq {fn:Func} {bd:Code} {args':List AV} {H:Nat→Option ABlk} (up:Bool) (Gc:List ABlk) (gs bs:List Nat) (m:Nat) (h1:P.funcs[f]? =some fn) (h2:fn.name≠ "runtime.NumGoroutine") (h3:fn.body=some bd) (hac:AC P f args' G res G') (hl:args.length=args'.length)
  (ha:ZW (fun p=>ArgR H gs [] bs p.1 p.2) (args.zip args')) (hg:gs.length=G.length) (hgk:ZW (fun p=>H p.1=some (p.2.ren (rho gs n (G'.length - G.length)))) (gs.zip G)) (hnd:Jbv gs=true) (hdis:gs.all (fun id=> !bs.contains id)=true) (hle:Nat.ble G.length G'.length=true) (hf:Jd9 up g bs res G') (hgl:G'.length=Gc.length) (hgc:ZW (fun p=>ABlk.ren (rho gs n (G'.length - G.length)) p.1=p.2) (G'.zip Gc)) (hm:G'.length - G.length=m):CallOK P f args H n args' gs bs G G' res Gc g up m:=by
 refine⟨⟨fn,bd,h1,h2,h3⟩,hl,fun t u u' hu hu'=>ZR ha (u,u') (Wm (i:=t) (by rw [List.getElem?_zip_eq_some];exact⟨hu,hu'⟩)),hg,fun k id b hk hb=>ZR hgk (id,b) (Wm (i:=k) (by rw [List.getElem?_zip_eq_some];exact⟨hk,hb⟩)),JfF hnd,fun id hid=> ?_,?_,Wl hle,hf,hac,hm⟩
 .
  have:=List.all_eq_true.1 hdis id hid
  intro hc
  rw [<-List.contains_iff_mem] at hc
  rw [hc] at this
  cases this
 .
  refine List.ext_getElem? fun k=> ?_
  rw [Wp]
  cases h:G'[k]? with
  |none=>
   rw [List.getElem?_eq_none_iff] at h
   simp
   omega
  |some b=>
   have hk:k<Gc.length:=by rw [<-hgl];exact(List.getElem?_eq_some_iff.1 h).1
   have e:=Wg hk
   rw [e]
   exact congrArg some (ZR hgc (b,Gc[k]) (Wm (i:=k) (by rw [List.getElem?_zip_eq_some];exact⟨h,e⟩))).symm
theorem Qd :Jd9 false g [] res G':= .inl rfl
theorem YJ {bs:List Nat} (h:res.flat=true) (k:ZW ABlk.flat G'):Jd9 false g bs res G':= .inr ⟨h,ZR k⟩
theorem JdU {bs:List Nat} :Jd9 true g bs res G':=trivial
theorem JvX {α:Type} {enc:α->List AV} {ρ:Nat->Nat} {l:List α} (ok:∀x,AV.niL (enc x)=true∧(enc x).all AV.one=true):ABlk.ren ρ (.row sz (l.map enc))= .row sz (l.map enc):=Jsv (QI ok l)
theorem grR {α:Type} {enc:α->List AV} {ρ:Nat->Nat} {l:List α} {o:Option ABlk} (ok:∀x,AV.niL (enc x)=true∧(enc x).all AV.one=true) (h:o=some (.row sz (l.map enc))):o=some (ABlk.ren ρ (.row sz (l.map enc))):=by rw [JvX ok];exact h
theorem Jn7 {G2:List ABlk} {res2:AV} (h:AC P f args G res G') (gs zs bs:List Nat) (hn:Jdx G.length G'.length G2.length (JdH G2) gs zs bs=true) (hv:ArgR (fun id=>(G'[id]?).bind Jbm) gs zs bs res res2) (hb:ZW (fun p=>Jtl (fun id=>(G'[id]?).bind Jbm) gs zs bs p.1 p.2) (idx 0 G2)):AC P f args G res2 G2:=by
 intro C w vals h1 h2 h3 h4 hR
 obtain⟨gs',zs',bs',hw⟩:=Jo0 (n:=G'.length) gs zs bs hn hv hb
 refine Calls.mono (h C w vals h1 h2 h3 h4 hR) fun e w' ⟨v,he,β,F,hB⟩=>⟨v,he,hw.rel (C:={ C with nt:=1 }) h1 ⟨β,F,{ hB with env:=fun t=> ?_ }⟩⟩
 have:=hB.env t
 match t,this with
 |0,this=>exact this
 |t+1,this=>exact .any _
theorem J1 {nt:Nat} {c:Code} {K:Exit->ASt->Prop} {σ:ASt} (t:Nat) {v:AV} (ht:σ.env t=v) (h:Bnd v->SW P g nt c K σ):SW P g nt c K σ:=by
 intro ro m C a w h0 h1 h2 hR
 have hR':=hR
 obtain⟨β,F,hB⟩:=hR'
 have h3:=(hB.env t).bnd
 rw [ht] at h3
 exact h h3 ro m C a w h0 h1 h2 hR
theorem Jk4 {nt:Nat} {c:Code} {K:Exit->ASt->Prop} {σ:ASt} (id:Nat) (hH:σ.H id=some (.row sz xs)) (h:Bnd (.lst sz xs)->SW P g nt c K σ):SW P g nt c K σ:=by
 intro ro m C a w h0 h1 h2 hR
 have hR':=hR
 obtain⟨β,F,hB⟩:=hR'
 obtain⟨hd,_,hb,_⟩:=hB.live id _ hH
 obtain⟨q1,q2,q3,q4,q5,q6⟩:=hb
 refine h (.lst sz xs (by simp only [maxLen] at q3;omega) (fun d hd' u hu=> ?_)) ro m C a w h0 h1 h2 hR
 obtain⟨k,hk⟩:=List.getElem?_of_mem hd'
 obtain⟨j,hj⟩:=List.getElem?_of_mem hu
 cases hbk:hd.blk with
 |none=>
  have:=q4 hbk
  have:=(List.getElem?_eq_some_iff.1 hk).1
  omega
 |some b=>
  obtain⟨arr,ty,r1,r2,r3⟩:=q6 b hbk
  obtain⟨v,_,hv⟩:=r3 k d j u hk hj
  exact hv.bnd
theorem Bnd.icell (h:Bnd (.iptr c)):∀u∈c,Bnd u:=by
 cases h with
 |sc _ _ h1=>exact absurd rfl (h1 c)
 |iptr _ h2=>exact h2
theorem YC {u:AV} (h:∀u∈c,Bnd u) (j:Nat) (hj:c[j]? =some u):Bnd u:=h u (Wm hj)
theorem Jz {α:Type} {enc:α->List AV} {l:List α} (h:Bnd (.lst sz (l.map enc))):l.length<=9223372036854775807:=by
 have:=h.len
 rwa [List.length_map] at this
end Go.Proofs.YtehhohbnhcogkaaGreatDoor.Ax
namespace Go.Proofs.YtehhohbnhcogkaaGreatDoor.Ex
open Go.RowKit Go.Proofs.YtehhohbnhcogkaaGreatDoor.Ax
variable {i x y b:Int} {m n:Nat} {xs:List (List AV)} {k:IntKind}
def iA (n:Int):List AV:=[.int .i64 n]
def kA (k:IntKind) (n:Int):List AV:=[.int k n]
def bA (b:Bool):List AV:=[.bool b]
def lA {α:Type} (sz:Nat) (enc:α->List AV) (l:List α):List AV:=[.lst sz (l.map enc)]
theorem JuV {α:Type} {l:List α} {x:α} (h:ixL l i=some x) (hm:i=m):l[m]? =some x:=by
 obtain⟨m',h1,h2⟩:=Jau h
 obtain rfl:m=m':=by omega
 exact h2
theorem Z6 {α:Type} {enc:α->List AV} {l:List α} {x x':α} {cs:List AV} {j:Nat} {K:List (List AV)->Prop} (hm:i=m) (h:l[m]? =some x) (e:xs=l.map enc) (hn:j+n<=(enc x).length) (hs:Zr (enc x) j cs=enc x') (hK:K ((l.set i.toNat x').map enc)):∃c,xs[m]? =some c∧j+n<=c.length∧∃zs:List (List AV),xs.set m (Zr c j cs)=zs∧K zs:=by
 obtain rfl:i.toNat=m:=by omega
 exact Ax.Z6 h e hn hs hK
theorem JkN {α:Type} {l y z:List α} {ys:List (List AV)} {eb:Nat} {K:List (List AV)->Prop} (h:apL l y=some z) (e1:xs.length=l.length) (e2:ys.length=y.length) (hb:eb<=8388608) (hK:K (xs++ys)):(xs.length+ys.length)*eb<=140737488355328∧xs.length+ys.length<=maxLen∧∃zs:List (List AV),xs++ys=zs∧K zs:=by
 obtain⟨h1,rfl⟩:=Jbr h
 rw [<-e1,<-e2] at h1
 refine⟨?_,by unfold maxLen;omega,_,rfl,hK⟩
 have:=Nat.mul_le_mul h1 hb
 omega
theorem JuO {α:Type} {n:Int} {z:α} {l:List α} {ez:List AV} {eb:Nat} {K:List (List AV)->Prop} (h:mkL n z=some l) (hb:eb<=8388608) (hK:K (List.replicate n.toNat ez)):∃m:Nat,n=m∧n=m∧eb*m<=281474976710656∧m<=maxLen∧∃zs:List (List AV),List.replicate m ez=zs∧K zs:=by
 unfold mkL at h
 split at h
 .
  rename_i k
  refine⟨n.toNat,by omega,by omega,?_,by unfold maxLen;omega,_,rfl,hK⟩
  have:n.toNat<=16777216:=by omega
  have:=Nat.mul_le_mul hb this
  omega
 . cases h
theorem Jkh {α:Type} {n:Int} {z:α} {l:List α} (h:mkL n z=some l):l=List.replicate n.toNat z:=by
 unfold mkL at h
 split at h
 . exact(Wi h).symm
 . cases h
def JjY (k:IntKind) (x y:Int):Int:=x.fdiv (2^(min y.toNat k.bits))
def Jmv (k:IntKind) (x y:Int):Int:=k.wrap (x*2^(min y.toNat k.bits))
theorem JvU {yk:IntKind} (h:¬y<0):(Op.shift .shr k x yk y:Sem Value)=Sem.pure (.int k (JjY k x y)):=by
 unfold Op.shift
 rw [if_neg h]
 rfl
theorem JvV {yk:IntKind} (h:¬y<0):(Op.shift .shl k x yk y:Sem Value)=Sem.pure (.int k (Jmv k x y)):=by
 unfold Op.shift
 rw [if_neg h]
 rfl
def Ji5 (k:IntKind) (x y:Int):Int:=k.wrap (BitVec.ofInt k.bits x &&& BitVec.ofInt k.bits y).toNat
def orF (k:IntKind) (x y:Int):Int:=k.wrap (BitVec.ofInt k.bits x ||| BitVec.ofInt k.bits y).toNat
theorem Jma :(Op.intBits .and k x y:Sem Value)=Sem.pure (.int k (Ji5 k x y)):=rfl
theorem Jwb :(Op.intBits .or k x y:Sem Value)=Sem.pure (.int k (orF k x y)):=rfl
def ng (b:Int):Option Unit:=if b<0 then none else some ()
theorem JsJ {u:Unit} (h:ng b=some u):¬b<0:=by
 unfold ng at h
 split at h
 . cases h
 . assumption
structure SubF {α:Type} (enc:α->List AV) (l z:List α) (n m:Nat):Prop where
 lo:n<=m
 le:m<=(l.map enc).length
 eq:z=(l.drop n).take (m - n)
theorem Jmq {α:Type} {enc:α->List AV} {l z:List α} (f:SubF enc l z n m):n<=m:=f.lo
theorem Jmr {α:Type} {enc:α->List AV} {l z:List α} (f:SubF enc l z n m):m<=(l.map enc).length:=f.le
theorem JhZ {α:Type} {enc:α->List AV} {l z:List α} (f:SubF enc l z 0 m):(l.map enc).take m=z.map enc:=by rw [f.eq,List.drop_zero,Nat.sub_zero,List.map_take]
theorem Jnf {α:Type} {enc:α->List AV} {l z:List α} {a:Int} (h:slL l a b=some z):∃n:Nat,a=n∧∃m:Nat,b=m∧SubF enc l z n m:=by
 obtain⟨h1,h2,h3,h4⟩:=Jla h
 exact⟨a.toNat,by omega,b.toNat,by omega,by omega,by rw [List.length_map];omega,h4⟩
theorem JjX {α:Type} {enc:α->List AV} {l z:List α} {K:Nat->Prop} (h:slL l 0 b=some z) (e:xs=l.map enc) (hK:∀m,SubF enc l z 0 m->K m):∃m:Nat,b=m∧0<=m∧m<=xs.length∧K m:=by
 obtain⟨n,h1,m,h2,f⟩:=Jnf (enc:=enc) h
 obtain rfl:n=0:=by omega
 subst e
 exact⟨m,h2,f.lo,f.le,hK m f⟩
theorem JjW {α:Type} {enc:α->List AV} {l z:List α} {a:Int} {K:Nat->Prop} (h:slL l a (l.length:Int)=some z) (e:xs=l.map enc) (hK:∀n,SubF enc l z n (l.map enc).length->K n):∃n:Nat,a=n∧n<=xs.length∧xs.length<=xs.length∧K n:=by
 obtain⟨n,h1,m,h2,f⟩:=Jnf (enc:=enc) h
 obtain rfl:m=(l.map enc).length:=by rw [List.length_map];omega
 subst e
 exact⟨n,h1,f.lo,f.le,hK n f⟩
def JoE {α:Type} (l:List α) (i:Int) (y:List α):Option (List α):=if 0<=i∧i<=l.length∧0<y.length∧l.length+y.length<=16777216 then some (l.take i.toNat++y++l.drop i.toNat) else none
theorem JoD {α:Type} {l y z:List α} (h:JoE l i y=some z):∃k:Nat,i=k∧k<=l.length∧0<y.length∧l.length+y.length<=16777216∧z=l.take k++y++l.drop k:=by
 unfold JoE at h
 split at h
 .
  rename_i c
  exact⟨i.toNat,by omega,by omega,c.2.2.1,c.2.2.2,(Wi h).symm⟩
 . cases h
end Go.Proofs.YtehhohbnhcogkaaGreatDoor.Ex
namespace Go.Proofs.YtehhohbnhcogkaaGreatDoor.Ex
open Go.RowKit Go.Proofs.YtehhohbnhcogkaaGreatDoor.Ax
theorem Jst {w:World} {v:Value} {l:List Int} (h:Jut w v l):RV w (fun b=>b<w.heap.size) noB (.lst 1 (l.map iA)) v:=by
 obtain⟨a,cap,rfl,h1,h2,h3,h4,h5⟩:=h
 have key:=RV.lst (w:=w) (F:=fun b=>b<w.heap.size) (β:=noB) 1 (l.map iA) a cap (fun k _=> .int .i64 (l[k]?.getD 0)) (by rw [List.length_map];exact h1) h2 h4 (fun ad e h0=> ?_) (fun k c hk=> ?_) (fun ad k c j u e hk hj=> ?_) (fun k c j u hk hj=> ?_)
 . rw [List.length_map] at key;exact key
 .
  rw [List.length_map] at h0
  obtain⟨b,off,e2,hb,_⟩:=h5 h0
  rw [e] at e2
  cases e2
  exact⟨rfl,hb⟩
 .
  rw [Wp] at hk
  cases hx:l[k]? with
  |none=>rw [hx] at hk;cases hk
  |some x=>rw [hx] at hk;cases hk;exact⟨rfl,fun u hu=>by simp [iA] at hu;subst hu;rfl⟩
 .
  rw [Wp] at hk
  cases hx:l[k]? with
  |none=>rw [hx] at hk;cases hk
  |some x=>
   rw [hx] at hk
   cases hk
   have hkl:=(List.getElem?_eq_some_iff.1 hx).1
   obtain⟨b,off,e2,hb,hc⟩:=h5 (by omega)
   rw [e] at e2
   cases e2
   match j,hj with
   |0,hj=>
    have:=hc k hkl
    rw [hx] at this
    simpa using this
 .
  rw [Wp] at hk
  cases hx:l[k]? with
  |none=>rw [hx] at hk;cases hk
  |some x=>
   rw [hx] at hk
   cases hk
   match j,hj with
   |0,hj=>cases hj;simp only [Option.getD_some];exact .int _ _
theorem JqA {P:Program} {f:FuncId} {args:List AV} (h:AC P f args [] (.bool true) []) {w:World} {vals:List Value} (hl:vals.length=args.length) (hv:ZW (fun p=>RV w (fun b=>b<w.heap.size) noB p.1 p.2) (args.zip vals)) (hgl:Ji6 w (fun b=>b<w.heap.size)):
  Calls P f vals.toArray w fun e w'=>e= .returned (.bool true)∧Below w.heap.size w w':=by
 refine Calls.mono (h.calls (w:=w) (vals:=vals.toArray) (by simpa using hl) (fun t u v hu hv'=>ZR hv (u,v) (Wm (i:=t) ?_)) hgl) fun e w' ⟨v,F,h1,h2,h3⟩=> ?_
 .
  rw [List.getElem?_zip_eq_some]
  exact⟨hu,by simpa using hv'⟩
 .
  cases h2
  exact⟨h1,h3⟩
theorem JM {z:Int} (h1: -9223372036854775808<=z) (h2:z<=9223372036854775807):w64 z=z:=Jml h1 h2
end Go.Proofs.YtehhohbnhcogkaaGreatDoor.Ex
namespace Go.Proofs.YtehhohbnhcogkaaGreatDoor.Ex
open Go.RowKit Go.Proofs.YtehhohbnhcogkaaGreatDoor.Ax
variable {α:Type} {enc:α->List AV}
end Go.Proofs.YtehhohbnhcogkaaGreatDoor.Ex
namespace Go.Proofs.YtehhohbnhcogkaaGreatDoor.Ax
open Go.RowKit
variable {P:Program} {g id n m:Nat} {o:Oper} {σ:ASt} {x:Operand} {t e e2:TypeId} {tab:Tab} {ti:TI} {l:List Int}
def JhH (e:TypeId) (l:List Int):Obj->Prop:=fun o=>∃cur fz,o= .cells cur e fz∧l.length<=cur.size∧(∀j,j<cur.size->¬(fz.1<=j∧j<fz.2))∧∀(j:Nat) (n:Int),l[j]? =some n->cur[j]? =some (.int .u8 n)
def Jhd (s:ByteArray):List Int:=s.data.toList.map fun b=>(b.toNat:Int)
theorem JdG (s:ByteArray):(Jhd s).length=s.size:=by simp [Jhd]
theorem Jmz {s:TypeId} {str:ByteArray} (ho:o.op= .convert s t x) (h1:P.underlying s=some .string) (h2:P.underlying t=some (.slice e)) (h3:P.underlying e=some (.int .u8)) (hx0:ev σ.env x= .str str):
  YD P g o σ ⟨.sub σ.n 1 0 str.size none,[(σ.n,some (.obj (JhH e (Jhd str))))],[],σ.n+1⟩:=by
 refine⟨Nat.le_succ _,fun C I σ2 a w K Q hC hxs hH hI hd hR hK=> ?_⟩
 obtain⟨β,F,hR⟩:=hR
 have hn:¬I σ.n:=hI σ.n (Nat.le_refl _) (Wn _)
 have hv:=hxs x (by simp [ho,Op.operands]) _ _ _ _ (hR.ev x)
 rw [hx0] at hv
 generalize hvx:a.eval x=vx at hv
 cases hv
 have hrun:=run_bytes_of_string w s t e str h1 h2 h3
 generalize hcap:grownCap w str.size 0 e=cap at hrun
 have hsz:(bytesRow str cap).size=str.size+(cap - str.size):=by simp [bytesRow]
 refine upon_value (u:= .slice (some ⟨w.heap.size,0,none⟩) str.size cap) (w':=w.drew.alloc (.cells (bytesRow str cap) e ((bytesRow str cap).size,(bytesRow str cap).size+1))) (by simp [execOp,ho,hvx,hrun]) (hK _ _ ?_)
 have hs:Same w (w.drew.alloc (.cells (bytesRow str cap) e ((bytesRow str cap).size,(bytesRow str cap).size+1))) none:=⟨rfl,.it,rfl,by simp,fun i hi _=>Below.heap_alloc _ _ _ hi⟩
 have h4:=hR.new hn hs (YN (some w.heap.size) str.size cap) (fun i e=>by cases e;exact⟨Nat.le_refl _,by show _<(w.heap.push _).size;simp⟩) (.obj (JhH e (Jhd str))) ⟨w.heap.size,_,rfl,World.alloc_heap_new w.drew _,_,_,rfl,by rw [JdG,hsz];omega,fun j hj h=>by simp at h;omega,fun j n hjn=>by
  have hj:j<str.size:=by rw [<-JdG];exact(List.getElem?_eq_some_iff.1 hjn).1
  have hj':j<str.data.size:=hj
  unfold Jhd at hjn
  rw [Wp,Wu,Wb hj'] at hjn
  cases hjn
  unfold bytesRow
  rw [Array.getElem?_append_left (by simpa using hj)]
  simp only [Array.getElem?_map,Wb hj',Option.map_some]⟩
 refine⟨_,F,(h4.put o.dst (.sub σ.n 1 0 str.size none) _ hd ?_).fin rfl rfl (fun i hi=>Jcs hi)⟩
 have:=RV.sub (w:=w.drew.alloc (.cells (bytesRow str cap) e ((bytesRow str cap).size,(bytesRow str cap).size+1))) (F:=F) (β:=Yg β σ.n (YN (some w.heap.size) str.size cap)) σ.n 1 0 str.size none _ (J7 _ _ _)
 simpa [J5,YN] using this
theorem Jrn {w:World} {F:Nat->Prop} {β:Nat->Option Hdr} {v:Value} {g:Hdr} {b:Nat} (h:RV w F β (.sub id 1 0 n none) v) (hg:β id=some g) (hb:g.blk=some b):v= .slice (some ⟨b,0,none⟩) n g.cap:=by
 cases h with
 |sub _ _ _ _ _ h' e=>
  rw [hg] at e
  cases e
  simp [hb,J5]
theorem Jqd (hT:J0 P tab) {ix:Operand} {eb:Nat} {ez:List AV} {k:IntKind} 
  (ho:o.op= .indexAddr t x ix) (ht:tab t=some ti) (hd:ti.d= .slc e 1 eb ez) (hx0:ev σ.env x= .sub id 1 0 n none) (hi:ev σ.env ix= .int k m) (hH:σ.H id=some (.obj (JhH e2 l))) (hm:m<n):YD P g o σ ⟨.eptr id 1 m 0,[],[id],σ.n⟩:=by
 refine JB (v:= .eptr id 1 m 0) (ids:=[id]) ?_
 intro w F β a hx hK
 have h1:=hx x (by simp [ho,Op.operands])
 have h2:=hx ix (by simp [ho,Op.operands])
 rw [hx0] at h1
 rw [hi] at h2
 obtain⟨h,e1,b,ob,hb,hbo,hq⟩:=hK id (by simp) _ hH
 have hvx:=Jrn h1 e1 hb
 generalize hvi:a.eval ix=vi at h2
 obtain⟨ii,dd,z,g1,g2,_,_,_,_,g3⟩:=JP (hT t ti ht)
 rw [hd] at g3
 obtain⟨i',v,rfl,g4,g5,_,_,_⟩:=JaD g3.symm
 cases h2
 have hadd:(⟨b,0,none⟩:Addr).add (m*i'.size)=⟨b,m*1,none⟩:=by rw [Addr.add_lit,Nat.zero_add,g5]
 refine⟨.pointer (some ⟨b,m*1+0,none⟩),?_,.eptr id 1 m 0 b h e1 hb⟩
 simp [execOp,ho,hvx,hvi,Instr.indexAt,asIntOf,run_underlying g2,Qt w g4,hadd]
 omega
theorem Jqc (hT:J0 P tab) {r:Int}
  (ho:o.op= .load t x) (ht:tab t=some ti) (hg:ti.agg=false) (hx0:ev σ.env x= .eptr id 1 m 0) (hH0:σ.H id=some (.obj (JhH e2 l))) (hm:l[m]? =some r):YD P g o σ ⟨.int .u8 r,[],[id],σ.n⟩:=by
 refine JB (v:= .int .u8 r) (ids:=[id]) ?_
 intro w F β a hx hK
 have h1:=hx x (by simp [ho,Op.operands])
 rw [hx0] at h1
 obtain⟨h,e1,b,ob,hb,hbo,cur,fz,rfl,q1,q2,q3⟩:=hK id (by simp) _ hH0
 generalize hvx:a.eval x=vx at h1
 cases h1 with
 |eptr _ _ _ _ b' h' e2 e3=>
  rw [e1] at e2
  cases e2
  rw [hb] at e3
  cases e3
  obtain⟨u,r1,r2⟩:=Jei (w:=w) (F:=F) (β:=β) hT ht (c:=[.int .u8 r]) (p:= .pointer (some ⟨b,m*1+0,none⟩)) ⟨b,m*1+0,rfl,fun j u hj=>by
   match j,hj with
   |0,hj=>cases hj;exact⟨.int .u8 r,by simp [World.cell?,hbo,q3 m r hm],.int _ _⟩⟩ (j:=0) (v:= .int .u8 r) (.inr ⟨hg,rfl⟩) b (m*1+0) rfl
  simp only [Nat.add_zero,Nat.mul_one] at r1
  exact⟨u,by simp [execOp,ho,hvx,Instr.loadAt,Instr.sureAddr,asAddr,r1],r2⟩
theorem Jqb (hT:J0 P tab) {p:Operand} {r:Int}
  (ho:o.op= .store t p x) (ht:tab t=some ti) (hs:ti.size=1) (hx0:ev σ.env p= .eptr id 1 m 0) (hu:ev σ.env x= .int .u8 r) (hH0:σ.H id=some (.obj (JhH e2 l))) (hm:m<l.length):
  YD P g o σ ⟨.any,[(id,some (.obj (JhH e2 (l.set m r))))],[],σ.n⟩:=by
 refine⟨Nat.le_refl _,fun C I σ2 a w K Q hC hxs hH2 hI hd hR hK=> ?_⟩
 obtain⟨β,F,hR⟩:=hR
 have hv:=hxs p (by simp [ho,Op.operands]) _ _ _ _ (hR.ev p)
 have hu':=hxs x (by simp [ho,Op.operands]) _ _ _ _ (hR.ev x)
 rw [hx0] at hv
 rw [hu] at hu'
 have hH':σ2.H id=some (.obj (JhH e2 l)):=by rw [hH2 id (by simp)];exact hH0
 obtain⟨h,e1,⟨b,ob,hb,hbo,cur,fz,rfl,q1,q2,q3⟩,_⟩:=hR.live id _ hH'
 obtain⟨i,d,z,g1,_,_,_,g2,_,_⟩:=JP (hT t ti ht)
 generalize hvx:a.eval p=vx at hv
 generalize hvu:a.eval x=vu at hu'
 cases hu'
 cases hv with
 |eptr _ _ _ _ b' h' e2' e3=>
  rw [e1] at e2'
  cases e2'
  rw [hb] at e3
  cases e3
  have hmc:m<cur.size:=by omega
  have hcell:w.cell? ⟨b,m,none⟩=some cur[m]:=by simp [World.cell?,hbo,hmc]
  have hfro:w.frozen? ⟨b,m,none⟩=false:=by
   have:=q2 m hmc
   simp only [World.frozen?,hbo]
   rw [Bool.and_eq_false_iff]
   by_cases hh:fz.1<=m
   . exact .inr (by simpa using fun h2=>this ⟨hh,h2⟩)
   . exact .inl (by simpa using hh)
  have hrun:(storeVar t ⟨b,m,none⟩ (.int .u8 r)).run P w= .ok () (w.setCell ⟨b,m,none⟩ (.int .u8 r)):=by
   have hne:¬(Value.int IntKind.u8 r).cells.size≠i.size:=by rw [<-g2,hs];simp [Value.cells]
   simp only [storeVar,Sem.run_bind,Qt w g1,Result.andThen_ok]
   rw [if_neg hne]
   simp only [Value.cells,List.toList_toArray,storeCells,Sem.run_bind]
   rw [show (⟨b,m,none⟩:Addr).add 0=⟨b,m,none⟩ by rw [Addr.add_lit,Nat.add_zero],run_store P w _ _ _ rfl,hcell]
   simp [hfro]
  have hset:(w.setCell ⟨b,m,none⟩ (.int .u8 r)).heap[b]? =some (.cells (cur.setIfInBounds m (.int .u8 r)) e2 fz):=by
   simp [World.setCell,Array.getElem?_modify,hbo]
  have hsame:Same w (w.setCell ⟨b,m,none⟩ (.int .u8 r)) (some b):=⟨rfl,.it,rfl,by simp [World.setCell],fun j _ hj=>by
   have hne:b≠j:=fun e=>hj (by rw [e])
   simp [World.setCell,Array.getElem?_modify,hne]⟩
  have hrel:=hR.write hH' e1 hb hsame (.obj (JhH e2 (l.set m r))) ⟨b,_,hb,hset,_,_,rfl,by simpa using q1,fun j hj=>q2 j (by simpa using hj),fun j n hj=>by
   rw [List.getElem?_set] at hj
   split at hj
   .
    rename_i e
    subst e
    cases hj
    simp [hmc]
   .
    rename_i e
    rw [Array.getElem?_setIfInBounds_ne e]
    exact q3 j n hj⟩
  exact Jde (w':=w.setCell ⟨b,m,none⟩ (.int .u8 r)) (by simp [execOp,ho,hvx,hvu,Instr.storeAt,Instr.sureAddr,asAddr,hrun]) (hK _ _ ⟨β,F,(hrel.put o.dst .any undef hd (.any _)).fin rfl rfl (fun i hi=> .inl hi)⟩)
theorem Jjp {P:Program} {s:TypeId} (ho:o.op= .convert s t x) (h1:P.underlying s=some (.slice e)) (h2:P.underlying t=some .string) (h3:P.underlying e=some (.int .u8)) (hx0:ev σ.env x= .sub id 1 0 n none) (hH:σ.H id=some (.obj (JhH e l))) (hn:n=l.length):
  YD P g o σ ⟨.str (YS l),[],[id],σ.n⟩:=by
 refine JB (v:= .str (YS l)) (ids:=[id]) ?_
 intro w F β a hx hK
 have hv:=hx x (by simp [ho,Op.operands])
 rw [hx0] at hv
 obtain⟨h,e1,b,ob,hb,hbo,cur,fz,rfl,q1,q2,q3⟩:=hK id (by simp) _ hH
 have hvx:=Jrn hv e1 hb
 have hl:=run_loadCells_list (P:=P) w ⟨b,0,none⟩ (l.map (Value.int .u8)) (fun j v hj=>by
  rw [Wp] at hj
  cases hlj:l[j]? with
  |none=>rw [hlj] at hj;cases hj
  |some r=>
   rw [hlj] at hj
   cases hj
   rw [Addr.add_lit,Nat.zero_add]
   simp [World.cell?,hbo,q3 j r hlj])
 simp only [List.length_map] at hl
 refine⟨.string (YS l),?_,.str _⟩
 have hr:=run_convert_bytes_string (P:=P) w s t e (some ⟨b,0,none⟩) n h.cap h1 h3 h2
 rw [run_bytesToString w ⟨b,0,none⟩ n h.cap l (by rw [hn];exact hl)] at hr
 simp [execOp,ho,hvx,hr,YS]
theorem Jlp (hT:J0 P tab) {sz:Nat} {b:Bool} (s:Nat) (ho:o.op= .slice t x none none none) (ht:tab t=some ti) (hd:ti.d= .arr n sz b) (hx0:ev σ.env x= .ptr id 0):
  YD P g o σ ⟨.sub id s 0 n (some n),[],[],σ.n⟩:=by
 refine JB (v:= .sub id s 0 n (some n)) (ids:=[]) ?_
 intro w F β a hx hK
 have h1:=hx x (by simp [ho,Op.operands])
 rw [hx0] at h1
 generalize hvx:a.eval x=vx at h1
 obtain⟨ii,dd,z,g1,g2,_,_,_,_,g3⟩:=JP (hT t ti ht)
 rw [hd] at g3
 obtain⟨e,i',d',rfl,g4,g5,_,_⟩:=JhX g3.symm
 cases h1 with
 |ptr _ _ bb h e1 e2=>
  have hs:=RV.sub (w:=w) (F:=F) (β:=β) id s 0 n (some n) h e1
  simp only [Option.getD_some,Nat.sub_zero,e2] at hs
  refine⟨_,?_,hs⟩
  have hadd:(⟨bb,0,none⟩:Addr).add 0=⟨bb,0,none⟩:=by rw [Addr.add_lit]
  simp [execOp,ho,hvx,Instr.sliceAt,Instr.sureAddr,Instr.sliceBounds,run_underlying g2,Qt w g4,J5,hadd]
  done
end Go.Proofs.YtehhohbnhcogkaaGreatDoor.Ax
namespace Go.Proofs.YtehhohbnhcogkaaGreatDoor.Ex
open Go.RowKit Go.Proofs.YtehhohbnhcogkaaGreatDoor.Ax
variable {n:Nat}
theorem Jm1 {P:Program} {tab:Tab} (hT:J0 P tab) {g:Nat} {o:Oper} {σ:ASt} {x ix:Operand} {t e e2:TypeId} {ti:TI} {eb:Nat} {ez:List AV} {id:Nat} {l:List Int} {k:IntKind} {i:Int} {m:Nat} {r:Int}
  (ho:o.op= .indexAddr t x ix) (ht:tab t=some ti) (hd:ti.d= .slc e 1 eb ez) (hx0:ev σ.env x= .sub id 1 0 n none) (hi:ev σ.env ix= .int k i) (hH:σ.H id=some (.obj (JhH e2 l))) (hm:i=(m:Int)) (hl:l[m]? =some r) (hn:n=l.length):YD P g o σ ⟨.eptr id 1 m 0,[],[id],σ.n⟩:=by
 subst hm
 exact Jqd hT ho ht hd hx0 hi hH (by rw [hn];exact(List.getElem?_eq_some_iff.1 hl).1)
theorem Jrm {P:Program} {tab:Tab} (hT:J0 P tab) {g:Nat} {o:Oper} {σ:ASt} {p x:Operand} {t e2:TypeId} {ti:TI} {id m:Nat} {l:List Int} {r r0 i:Int}
  (ho:o.op= .store t p x) (ht:tab t=some ti) (hs:ti.size=1) (hx0:ev σ.env p= .eptr id 1 m 0) (hu:ev σ.env x= .int .u8 r) (hH0:σ.H id=some (.obj (JhH e2 l))) (hi:i=(m:Int)) (hm:l[m]? =some r0):
  YD P g o σ ⟨.any,[(id,some (.obj (JhH e2 (l.set i.toNat r))))],[],σ.n⟩:=by
 subst hi
 exact Jqb hT ho ht hs hx0 hu hH0 (List.getElem?_eq_some_iff.1 hm).1
theorem Jtf {α:Type} {enc:α->List AV} {l:List α} {u:Unit} (h:ldL n l=some u):n<=(l.map enc).length:=by
 unfold ldL at h
 split at h
 . rename_i e;rw [List.length_map,e];exact Nat.le_refl _
 . cases h
theorem Jtg {α:Type} {enc:α->List AV} {l:List α} {u:Unit} (h:ldL n l=some u):((l.map enc).drop 0).take (n - 0)=l.map enc:=by
 unfold ldL at h
 split at h
 . rename_i e;subst e;simp only [List.drop_zero,Nat.sub_zero];exact List.take_of_length_le (by simp)
 . cases h
theorem flR {α:Type} {enc:α->List AV} {sz:Nat} {l:List α} (ok:∀x,AV.flatL (enc x)=true):ABlk.flat (.row sz (l.map enc)):=fun c hc=>by
 obtain⟨x,_,rfl⟩:=List.mem_map.1 hc
 exact ok x
theorem flN {L:List (List Int)}:ABlk.flat (.nest (L.map NE.hid)):=fun e he=>by
 obtain⟨x,_,rfl⟩:=List.mem_map.1 he
 trivial
def JiX {α β γ:Type} (n:Option α×β) (f:β->γ) (k:α->β->γ):γ:=match n with
 |(none,b)=>f b
 |(some a,b)=>k a b
theorem Jj3 {α β γ:Type} {b:β} {f:β->Option γ} {k:α->β->Option γ} {r:γ} (h:JiX ((none,b):Option α×β) f k=some r):f b=some r:=h
theorem Jj2 {α β γ:Type} {a:α} {b:β} {f:β->Option γ} {k:α->β->Option γ} {r:γ} (h:JiX ((some a,b):Option α×β) f k=some r):k a b=some r:=h
def Jv0 {α:Type} (o:Option α) (n:Nat):AV:=match o with
 |none=> .nilp
 |some _=> .ptr n 0
def JvZ {α:Type} (enc:α->List AV) (o:Option α):List ABlk:=match o with
 |none=>[]
 |some a=>[.box (enc a)]
end Go.Proofs.YtehhohbnhcogkaaGreatDoor.Ex
namespace Go.Proofs.YtehhohbnhcogkaaGreatDoor.Ex
open Go.RowKit Go.Proofs.YtehhohbnhcogkaaGreatDoor.Ax
structure Src where
 L:(List Int)
 At:Int
 deriving DecidableEq
def ZP (x:Src):List AV:=[.lst 1 (x.L.map iA),.int .i64 x.At]
structure Node where
 Name:ByteArray
 Kind:Int
 Length:Int
 Zone:Int
 Exits:(List Int)
 deriving DecidableEq
def Jb (x:Node):List AV:=[.str x.Name,.int .i64 x.Kind,.int .i64 x.Length,.int .i64 x.Zone,.lst 1 (x.Exits.map iA)]
structure Device where
 Kind:Int
 Node:Int
 Window:Int
 deriving DecidableEq
def Jd (x:Device):List AV:=[.int .i64 x.Kind,.int .i64 x.Node,.int .i64 x.Window]
structure Layout where
 Nodes:(List Node)
 Devices:(List Device)
 deriving DecidableEq
def JC (x:Layout):List AV:=[.lst 5 (x.Nodes.map Jb),.lst 3 (x.Devices.map Jd)]
structure Plant where
 Slots:(List (List Int))
 Bins:(List (List Int))
 deriving DecidableEq
def Qi (x:Plant):List AV:=[.lst 1 (x.Slots.map (lA 1 iA)),.lst 1 (x.Bins.map (lA 1 iA))]
structure Hypothesis where
 Used:Int
 Plant:Plant
 deriving DecidableEq
def Jg (x:Hypothesis):List AV:=[.int .i64 x.Used,.lst 1 (x.Plant.Slots.map (lA 1 iA)),.lst 1 (x.Plant.Bins.map (lA 1 iA))]
structure Belief where
 Budget:Int
 L:(List Hypothesis)
 deriving DecidableEq
def Yp (x:Belief):List AV:=[.int .i64 x.Budget,.lst 3 (x.L.map Jg)]
structure Plate where
 Lead:Int
 Airline:Int
 Serial:Int
 deriving DecidableEq
def JJ (x:Plate):List AV:=[.int .i64 x.Lead,.int .i64 x.Airline,.int .i64 x.Serial]
structure Place where
 Node:Int
 Window:Int
 deriving DecidableEq
def Jq7 (x:Place):List AV:=[.int .i64 x.Node,.int .i64 x.Window]
structure Votes where
 Tracker:Int
 Scanner:Int
 Screen:(List Int)
 Ledger:(List Int)
 deriving DecidableEq
def Jq6 (x:Votes):List AV:=[.int .i64 x.Tracker,.int .i64 x.Scanner,.lst 1 (x.Screen.map iA),.lst 1 (x.Ledger.map iA)]
structure Fault where
 Kind:Int
 Node:Int
 Window:Int
 deriving DecidableEq
def Je (x:Fault):List AV:=[.int .i64 x.Kind,.int .i64 x.Node,.int .i64 x.Window]
structure Plan where
 L:Layout
 order:(List Int)
 deriving DecidableEq
def JnP (x:Plan):List AV:=[.lst 5 (x.L.Nodes.map Jb),.lst 3 (x.L.Devices.map Jd),.lst 1 (x.order.map iA)]
structure Passage where
 Bag:Int
 From:Int
 To:Int
 deriving DecidableEq
def JH (x:Passage):List AV:=[.int .i64 x.Bag,.int .i64 x.From,.int .i64 x.To]
structure Flow where
 Leave:(List Int)
 Enter:(List Int)
 deriving DecidableEq
def Js3 (x:Flow):List AV:=[.lst 1 (x.Leave.map iA),.lst 1 (x.Enter.map iA)]
structure Report where
 Device:Int
 Seen:Bool
 Read:ByteArray
 deriving DecidableEq
def JS (x:Report):List AV:=[.int .i64 x.Device,.bool x.Seen,.str x.Read]
structure View where
 device:Int
 kind:Int
 bag:Int
 text:ByteArray
 deriving DecidableEq
def JaC (x:View):List AV:=[.int .i64 x.device,.int .i64 x.kind,.int .i64 x.bag,.str x.text]
structure A4_Int where
 e0:Int
 e1:Int
 e2:Int
 e3:Int
 deriving DecidableEq
def JoQ (x:A4_Int):List AV:=[.int .i64 x.e0,.int .i64 x.e1,.int .i64 x.e2,.int .i64 x.e3]
structure Check where
 Bag:Int
 Level:Int
 Since:Int
 Image:Int
 State:Int
 deriving DecidableEq
def Jq8 (x:Check):List AV:=[.int .i64 x.Bag,.int .i64 x.Level,.int .i64 x.Since,.int .i64 x.Image,.int .i64 x.State]
structure Screening where
 Limits:A4_Int
 Next:Int
 L:(List Check)
 deriving DecidableEq
def Jkz (x:Screening):List AV:=[.int .i64 x.Limits.e0,.int .i64 x.Limits.e1,.int .i64 x.Limits.e2,.int .i64 x.Limits.e3,.int .i64 x.Next,.lst 5 (x.L.map Jq8)]
end Go.Proofs.YtehhohbnhcogkaaGreatDoor.Ex
namespace Go.Proofs.YtehhohbnhcogkaaGreatDoor.Ax
open Go.RowKit
variable {g:Nat} {res:AV} {G':List ABlk}
theorem JhM {v:AV} {H:Nat->Option ABlk} {n:Nat} {id sz hi:Nat} {xs ys:List (List AV)} (hH:H id=some (.row sz xs)) (h1:hi<=xs.length) (h2:xs.take hi=ys) (h3:v= .sub id sz 0 hi none∨v= .osl id∧hi=xs.length) (gs zs bs:List Nat)
  (hn:Jdx g (n+1) G'.length (JdH G') gs zs bs=true) (hv:ArgR (ZI (ZI H id none) n (some (.row sz ys))) gs zs bs (.osl n) res) (hb:ZW (fun p=>Jtl (ZI (ZI H id none) n (some (.row sz ys))) gs zs bs p.1 p.2) (idx 0 G')):JgI g v H n res G':=
 .inr ⟨id,sz,xs,hi,ys,hH,h1,h2,h3,Jo0 gs zs bs hn hv hb⟩
theorem JgI.rel {v:AV} {H:Nat->Option ABlk} {n:Nat} (h:JgI g v H n res G') {C:Ctx} (hC:C.γ.length=g) {u:Value} {w:World} {β:Nat->Option Hdr} {F:Nat->Prop} (hone:RelB C (Qj n) ⟨Jp9 v,H,n⟩ ⟨#[u],[]⟩ w β F):
  Rel C (Qj G'.length) (entry [res] G') ⟨#[u],[]⟩ w:=by
 rcases h with⟨gs,zs,bs,hw⟩|⟨id,sz,xs,hi,ys,r1,r2,rfl,r4,gs,zs,bs,hw⟩
 . exact hw.rel hC ⟨β,F,hone⟩
 .
  obtain⟨g',q1,q2,_⟩:=hone.live id _ r1
  have hn:¬Qj n n:=Nat.lt_irrefl _
  have ht:=hone.take (n:=n) r1 q1 hn (YN g'.blk hi g'.cap) rfl (.row sz (xs.take hi)) ((q2.short r2 (by obtain⟨a1,a2,_⟩:=q2;omega) (Nat.le_refl _)).mono (fun _ x=>x) (fun _ _=>rfl) (fun _ _=>rfl) (JaZ _ (hone.fresh hn)))
  have h3:RV w F β v u:=hone.env 0
  have hu:RV w F (Yg β n (YN g'.blk hi g'.cap)) (.osl n) u:=by
   have e1:u= .slice (J5 g'.blk 0) hi g'.cap:=by
    rcases r4 with rfl |⟨rfl,r4⟩
    .
     cases h3 with
     |sub _ _ _ _ _ h' e3=>
      rw [q1] at e3
      cases e3
      simp
    .
     cases h3 with
     |osl _ h' e3=>
      rw [q1] at e3
      cases e3
      obtain⟨a1,_⟩:=q2
      rw [a1,r4]
   rw [e1]
   exact .osl n (YN g'.blk hi g'.cap) (J7 _ _ _)
  refine hw.rel hC ⟨_,F,{ ht with env:=fun t=> ?_,dom:=fun id h e=> ?_ }⟩
  .
   match t with
   |0=>exact hu
   |t+1=>exact .any _
  .
   rcases ht.dom id h e with h |h
   . exact Nat.lt_succ_of_lt h
   .
    show id<n+1
    omega
theorem AC.ends {P:Program} {f:FuncId} {args:List AV} {G G2:List ABlk} {res2:AV} (h:AC P f args G res G') (hr:JgI G.length res (fun id=>(G'[id]?).bind Jbm) G'.length res2 G2):AC P f args G res2 G2:=by
 intro C w vals h1 h2 h3 h4 hR
 refine Calls.mono (h C w vals h1 h2 h3 h4 hR) fun e w' ⟨v,he,β,F,hB⟩=>⟨v,he,hr.rel (C:={ C with nt:=1 }) h1 (β:=β) (F:=F) { hB with env:=fun t=> ?_ }⟩
 have:=hB.env t
 match t,this with
 |0,this=>exact this
 |t+1,_=>exact .any _
theorem JiS {P:Program} (w:World) (t e ty:TypeId) (i:TypeInfo) (z:Value) (ht:P.underlying t=some (.slice e)) (hi:P.info? e=some i) (hz:i.zero=some z) (hzs:z.cells.size=i.size) (h1:∀u∈z.cells.toList,u.oneCell'=true) (b o n c:Nat) (hn:0<n) (cur:Array Value) (te:TypeId)
  (hg:w.heap[b]? =some (.cells cur te (0,0))) (hl:o+n*i.size<=cur.size):
  (Builtin.clear_ #[t] ty #[.slice (some ⟨b,o,none⟩) n c]).run P w= .ok (.tuple #[]) (w.setRow b (cur.toList.take o++(Builtin.zeroCells z.cells n).toList++cur.toList.drop (o+n*i.size)).toArray):=by
 have hzl:(Builtin.zeroCells z.cells n).toList.length=n*i.size:=by rw [Array.length_toList,size_zeroCells,hzs]
 have hst:=run_storeCells_at P b o te (Builtin.zeroCells z.cells n).toList 0 cur w hg (by rw [hzl];omega) (fun v hv=>by
  obtain⟨k,hk⟩:=List.getElem?_of_mem hv
  rw [Wu] at hk
  have hk2:=(Array.getElem?_eq_some_iff.1 hk).1
  rw [size_zeroCells] at hk2
  have h0:0<z.cells.size:=by
   rcases Nat.eq_zero_or_pos z.cells.size with h |h
   . rw [h] at hk2;omega
   . exact h
  have hm:=Nat.mod_lt k h0
  have:v=z.cells[k % z.cells.size]:=by
   simp [Builtin.zeroCells,hk2] at hk
   rw [<-hk]
   simp [hm]
  rw [this]
  exact h1 _ (by simp))
 simp only [Nat.add_zero,hzl] at hst
 obtain⟨m,rfl⟩:∃m,n=m+1:=⟨n - 1,by omega⟩
 simp [Builtin.clear_,run_underlying ht,zeroValue,run_typeInfo w hi,hz,hst,List.append_assoc]
theorem Jid {P:Program} {tab:Tab} (hT:J0 P tab) {o:Oper} {σ:ASt} {x:Operand} {t e:TypeId} {ti:TI} {sz eb id lo hi:Nat} {ez:List AV} {xs ys:List (List AV)} (ho:o.op= .call { callee:= .builtin .clear,args:= #[x],argTypes:= #[t] }) (ht:tab t=some ti) (hd:ti.d= .slc e sz eb ez)
  (hez:ez.length=sz) (hone:ez.all AV.one=true) (hx:ev σ.env x= .sub id sz lo hi none) (hH0:σ.H id=some (.row sz xs)) (hlo:lo<=hi) (hhi:hi=xs.length) (hy:xs.take lo++List.replicate (hi - lo) ez=ys):YD P g o σ ⟨.any,[(id,some (.row sz ys))],[],σ.n⟩:=by
 refine⟨Nat.le_refl _,fun C I σ2 a w K Q hC hxs hH hI hdd hR hK=> ?_⟩
 obtain⟨β,F,hR⟩:=hR
 have v1:=hxs x (by simp [ho,Op.operands,Call.operands]) _ _ _ _ (hR.ev x)
 rw [hx] at v1
 have hH':σ2.H id=some (.row sz xs):=by rw [hH id (by simp)];exact hH0
 obtain⟨h,q1,q2,q3⟩:=hR.live id _ hH'
 obtain⟨r1,r2,r3,r4,r5,r6⟩:=q2
 obtain⟨i0,d0,z0,_,k1,_,_,_,_,k2⟩:=JP (hT t ti ht)
 rw [hd] at k2
 obtain⟨i,z,rfl,k3,rfl,rfl,k4,rfl⟩:=JaD k2.symm
 have hzs:z.cells.size=i.size:=by simpa using hez
 have hone':∀u∈z.cells.toList,u.oneCell'=true:=fun u hu=>by
  have h1:(avc u).one=true:=by rw [List.all_eq_true] at hone;exact hone _ (List.mem_map.2 ⟨u,hu,rfl⟩)
  exact((RV.const w F β u).oneCell h1).1
 generalize hvx:a.eval x=vx at v1
 cases v1 with
 |sub _ _ _ _ _ h' e2=>
 rw [q1] at e2
 cases e2
 subst hhi
 simp only [Option.getD_none] at hvx
 rcases Nat.lt_or_ge lo xs.length with hlt |hge
 .
  cases hb:h.blk with
  |none=>have:=r4 hb;omega
  |some b=>
   obtain⟨arr,ty,s1,s2,s3⟩:=r6 b hb
   obtain⟨d4,d5,d6⟩:=q3 b (.inl hb)
   have hne:¬h.cap=lo:=by omega
   rw [if_neg hne,hb] at hvx
   simp only [J5,Option.map_some] at hvx
   have hfit:lo*i.size+(xs.length - lo)*i.size<=arr.size:=by
    rw [<-Nat.add_mul]
    exact Nat.le_trans (Nat.mul_le_mul_right _ (by omega)) s2
   have hrun:=JiS (P:=P) w t e o.type i z k1 k3 k4 hzs hone' b (lo*i.size) (xs.length - lo) (h.cap - lo) (by omega) arr ty s1 hfit
   generalize hA:(arr.toList.take (lo*i.size)++(Builtin.zeroCells z.cells (xs.length - lo)).toList++arr.toList.drop (lo*i.size+(xs.length - lo)*i.size)).toArray=A at hrun
   have hzl:(Builtin.zeroCells z.cells (xs.length - lo)).toList.length=(xs.length - lo)*i.size:=by rw [Array.length_toList,size_zeroCells,hzs]
   have hAs:A.size=arr.size:=by
    rw [<-hA]
    simp only [List.size_toArray,List.length_append,List.length_take,List.length_drop,Array.length_toList,hzl]
    rw [<-Array.length_toList] at hfit ⊢
    have:(Builtin.zeroCells z.cells (xs.length - lo)).size=(xs.length - lo)*i.size:=by rw [size_zeroCells,hzs]
    simp only [Array.length_toList] at*
    omega
   have hheap:=setRow_heap w b arr A ty _ s1
   have hFw:∀k,F k->(w.setRow b A).heap[k]? =w.heap[k]? :=fun k hk=>(QV w b _).block k (hR.news k hk).1 (fun e=>d5 (by cases e;exact hk))
   refine upon_value (u:= .tuple #[]) (w':=w.setRow b A) ?_ (hK _ _ ⟨β,F,?_⟩)
   . simp [execOp,ho,resolve,invoke,builtin,hvx,hrun]
   have hyl:ys.length=xs.length:=by rw [<-hy];simp;omega
   have hrow:YE (w.setRow b A) F β h (.row i.size ys):=by
    refine⟨by rw [hyl];exact r1,by rw [hyl];exact r2,r3,r4,fun k c hk=> ?_,fun b2 e2=> ?_⟩
    .
     rw [<-hy] at hk
     by_cases hkl:k<lo
     .
      rw [Wc (by simp;omega),List.getElem?_take,if_pos hkl] at hk
      exact r5 k c hk
     .
      rw [List.getElem?_append_right (by simp;omega),List.getElem?_replicate] at hk
      split at hk
      .
       cases hk
       exact⟨by simp [hzs],fun u hu=>by rw [List.all_eq_true] at hone;exact hone u hu⟩
      . cases hk
    .
     rw [hb] at e2
     cases e2
     refine⟨A,ty,hheap,by rw [hAs];exact s2,fun k c j u hk hj=> ?_⟩
     rw [<-hy] at hk
     by_cases hkl:k<lo
     .
      rw [Wc (by simp;omega),List.getElem?_take,if_pos hkl] at hk
      obtain⟨v,t1,t2⟩:=s3 k c j u hk hj
      have hjs:j<i.size:=by rw [<-(r5 k c hk).1];exact(List.getElem?_eq_some_iff.1 hj).1
      have hp:k*i.size+j<lo*i.size:=Jdc hkl hjs
      refine⟨v,?_,t2.mono (fun _ x=>x) hFw (fun _ _ e=>e)⟩
      rw [<-hA]
      simp only [List.getElem?_toArray]
      rw [List.append_assoc,Wc (by simp;omega),List.getElem?_take,if_pos hp,Wu]
      exact t1
     .
      rw [List.getElem?_append_right (by simp;omega),List.getElem?_replicate] at hk
      split at hk
      .
       rename_i hkr
       cases hk
       have hlm:(xs.take lo).length=lo:=by simp;omega
       rw [hlm] at hkr
       obtain⟨v,t1,t2⟩:=(JeY (w.setRow b A) F β z).at hj
       have hjs:j<i.size:=by rw [<-hzs];exact(Array.getElem?_eq_some_iff.1 t1).1
       refine⟨v,?_,t2⟩
       have e1:k*i.size+j=lo*i.size+((k - lo)*i.size+j):=by
        have:k*i.size=lo*i.size+(k - lo)*i.size:=by rw [<-Nat.add_mul];congr 1;omega
        omega
       have hp:(k - lo)*i.size+j<(xs.length - lo)*i.size:=Jdc hkr hjs
       have hzz:(Builtin.zeroCells z.cells (xs.length - lo))[(k - lo)*i.size+j]? =some v:=by
        have h0:0<z.cells.size:=by omega
        have em:((k - lo)*i.size+j) % z.cells.size=j:=by rw [hzs,Nat.add_comm,Nat.add_mul_mod_self_right,Nat.mod_eq_of_lt hjs]
        obtain⟨hjz,hjv⟩:=Array.getElem?_eq_some_iff.1 t1
        rw [Wb (by rw [size_zeroCells,hzs];exact hp)]
        simp [Builtin.zeroCells,em,hjz,hjv]
       rw [<-hA]
       simp only [List.getElem?_toArray]
       have hal:lo*i.size<=arr.size:=by omega
       rw [e1,List.append_assoc,List.getElem?_append_right (by simp;omega)]
       rw [Wc (by rw [hzl];simp;omega)]
       simp only [List.length_take,Array.length_toList,Nat.min_eq_left hal,Nat.add_sub_cancel_left,Wu]
       exact hzz
      . cases hk
   exact((hR.write hH' q1 hb (QV w b A) (.row i.size ys) hrow).put o.dst .any _ hdd (.any _)).fin rfl rfl (fun i hi=> .inl hi)
 .
  have hl:lo=xs.length:=by omega
  subst hl
  have hyx:ys=xs:=by rw [<-hy];simp
  subst hyx
  rw [Nat.sub_self] at hvx
  have hrun:∀a0 c,(Builtin.clear_ #[t] o.type #[.slice a0 0 c]).run P w= .ok (.tuple #[]) w:=fun a0 c=>by
   cases a0<;>simp [Builtin.clear_,run_underlying k1]
  refine upon_value (u:= .tuple #[]) (w':=w) ?_ (hK _ _ ⟨β,F,?_⟩)
  . simp [execOp,ho,resolve,invoke,builtin,hvx,hrun]
  .
   have hset:ZI σ2.H id (some (.row i.size ys))=σ2.H:=Jjl hH'
   refine(hR.put o.dst .any _ hdd (.any _)).fin rfl ?_ (fun i hi=> .inl hi)
   show ZI σ2.H id (some (.row i.size ys))=σ2.H
   exact hset
end Go.Proofs.YtehhohbnhcogkaaGreatDoor.Ax
namespace Go.Proofs.YtehhohbnhcogkaaGreatDoor.Ex
open Go.RowKit Go.Proofs.YtehhohbnhcogkaaGreatDoor.Ax
def clT {α:Type} (l z:List α) (x:α):List α:=l.take (l.length - z.length)++List.replicate z.length x
theorem Jrj {α:Type} {enc:α->List AV} {l z:List α} {n:Nat} {x:α} {ez:List AV} (f:SubF enc l z n (l.map enc).length) (he:ez=enc x):(l.map enc).take n++List.replicate ((l.map enc).length - n) ez=(clT l z x).map enc:=by
 have h1:=f.lo
 have h2:=f.eq
 rw [List.length_map] at h1 h2 ⊢
 have hz:z.length=l.length - n:=by rw [h2,List.length_take,List.length_drop,Nat.min_eq_left (Nat.le_refl _)]
 unfold clT
 rw [he,hz,List.map_append,List.map_replicate,List.map_take,show l.length - (l.length - n)=n by omega]
end Go.Proofs.YtehhohbnhcogkaaGreatDoor.Ex
namespace Go.Proofs.YtehhohbnhcogkaaGreatDoor.Ex
open Go.RowKit Go.Proofs.YtehhohbnhcogkaaGreatDoor.Ax Go.Sort Go.Shelf
variable {P:Program}
theorem JqM {f:FuncId} {l r:List Int} (hlen:r.length=l.length) (res:Option Addr->Nat->Value) (rv:AV)
  (hC:∀(blk cap:Nat) (w:World),Holds (Value.int .i64) w blk 0 l.toArray->blk<w.heap.size->l.length<=cap->Calls P f #[.slice (some ⟨blk,0,none⟩) l.length cap] w fun e w'=>e= .returned (res (some ⟨blk,0,none⟩) cap)∧∃n os,w'=grow (putRow (Value.int .i64) (Sort.ahead w n) blk 0 r.toArray) os)
  (hN:∀(a:Option Addr) (cap:Nat) (w:World),l=[]->Calls P f #[.slice a 0 cap] w fun e w'=>e= .returned (res a cap)∧w'=w)
  (hR:∀(w:World) (F:Nat->Prop) (β:Nat->Option Hdr) (h:Hdr),β 0=some h->h.len=l.length->l.length<=h.cap->RV w F β rv (res (J5 h.blk 0) h.cap)):AC P f [.osl 0] [.row 1 (l.map iA)] rv [.row 1 (r.map iA)]:=by
 intro C w vals hCl hw0 hnt hl hR0
 obtain⟨β,F,hB⟩:=hR0
 obtain⟨hd,e1,hb,e3⟩:=hB.live 0 _ rfl
 have v0:=hB.env 0
 have hs1:vals.size=1:=hl
 obtain⟨x,rfl⟩:∃x,vals= #[x]:=by
  refine⟨vals.getD 0 undef,?_⟩
  apply Array.ext
  . simpa using hs1
  .
   intro i h1 h2
   have hi:i=0:=by omega
   subst hi
   simp [Array.getD,hs1]
 have v0:RV w F β (.osl 0) x:=v0
 cases v0 with
 |osl _ hd' e2=>
 rw [e1] at e2
 cases e2
 obtain⟨b1,b2,b3,b4,b5,b6⟩:=hb
 rw [List.length_map] at b1 b2
 have key:Calls P f #[.slice (J5 hd.blk 0) hd.len hd.cap] w fun e w'=>e= .returned (res (J5 hd.blk 0) hd.cap)∧Same w w' hd.blk∧YE w' F β hd (.row 1 (r.map iA)):=by
  cases hblk:hd.blk with
  |none=>
   have h0:l=[]:=Wz (by have:=b4 hblk;omega)
   subst h0
   have hr0:r=[]:=Wz hlen
   subst hr0
   rw [b1]
   refine(hN (J5 none 0) hd.cap w rfl).mono fun e w' ⟨he,hw⟩=> ?_
   subst hw
   exact⟨he,⟨rfl,.it,rfl,Nat.le_refl _,fun _ _ _=>rfl⟩,by simpa using b1,Nat.zero_le _,b3,b4,fun i c hi=>by simp at hi,fun b e=>by rw [hblk] at e;cases e⟩
  |some b=>
   obtain⟨arr,ty,a1,a2,a3⟩:=b6 b hblk
   obtain⟨lt0,_,_⟩:=e3 b (.inl hblk)
   have hH:Holds (Value.int .i64) w b 0 l.toArray:=fun j hj=>by
    simp only [List.size_toArray] at hj
    obtain⟨v,hv,hr⟩:=a3 j (iA l[j]) 0 (.int .i64 l[j]) (by rw [Wp,Wg hj];rfl) rfl
    cases hr
    rw [Nat.mul_one,Nat.add_zero] at hv
    have e:(l.toArray)[j]! =l[j]:=by rw [getElem!_pos _ _ (by simpa using hj)];simp
    exact⟨by rw [Nat.zero_add,e];simp [World.cell?,a1,hv],by simp [World.frozen?,a1]⟩
   rw [b1]
   refine(hC b hd.cap w hH lt0 b2).mono fun e w' ⟨he,n,os,hw⟩=> ?_
   subst hw
   have hheap:(grow (putRow (Value.int .i64) (Sort.ahead w n) b 0 r.toArray) os).heap[b]? =some (.cells (putCells (Value.int .i64) 0 r.toArray arr) ty (0,0)):=by
    unfold putRow
    rw [heap_grow_old _ _ (by simpa [mapBlock,ahead] using lt0)]
    simp [mapBlock,ahead,Array.getElem?_modify,a1,onCells]
   refine⟨he,⟨rfl,.it rfl (Nat.le_add_right _ _),rfl,?_,fun i hi hne=> ?_⟩,by rw [List.length_map,hlen];exact b1,by rw [List.length_map,hlen];exact b2,b3,fun e=>(by rw [hblk] at e;cases e),fun i c hi=> ?_,fun b' hb'=> ?_⟩
   . simp [putRow,mapBlock,grow,ahead]
   .
    have hib:b≠i:=fun e=>hne (by rw [e])
    unfold putRow
    rw [heap_grow_old _ _ (by simpa [mapBlock,ahead] using hi)]
    simp [mapBlock,ahead,Array.getElem?_modify,hib]
   .
    rw [Wp] at hi
    cases hx:r[i]? with
    |none=>rw [hx] at hi;cases hi
    |some x=>rw [hx] at hi;cases hi;exact⟨rfl,fun u hu=>by simp [iA] at hu;subst hu;rfl⟩
   .
    rw [hblk] at hb'
    cases hb'
    refine⟨_,ty,hheap,by simpa [putCells] using a2,fun i c j u hi hj=> ?_⟩
    rw [Wp] at hi
    cases hx:r[i]? with
    |none=>rw [hx] at hi;cases hi
    |some x=>
     rw [hx] at hi
     cases hi
     have hj0:j=0:=by have:=(List.getElem?_eq_some_iff.1 hj).1;simpa [iA] using this
     subst hj0
     cases hj
     have hil:i<r.length:=(List.getElem?_eq_some_iff.1 hx).1
     have hasz:i<arr.size:=by omega
     refine⟨.int .i64 x,?_,.int _ _⟩
     have ex:(r.toArray)[i]! =x:=by
      rw [getElem!_pos _ _ (by simpa using hil)]
      simp only [List.getElem_toArray]
      have:=Wg hil
      rw [hx] at this
      exact(Wi this).symm
     simp only [Nat.mul_one,Nat.add_zero,putCells,Array.getElem?_mapIdx,Wb hasz,Option.map_some,Nat.zero_le,true_and,Nat.zero_add,List.size_toArray,hil,if_true,Nat.sub_zero,ex]
 refine key.mono fun e w' ⟨he,hs,hblk⟩=>⟨_,he,β,F,?_⟩
 have hH0:∀id kk,(entry [rv] [.row 1 (r.map iA)]).H id=some kk->id=0∧kk= .row 1 (r.map iA):=fun id kk e=>by
  obtain⟨q1,q2⟩:=Ja2 e
  match id,q1 with
  |0,q1=>cases q1;exact⟨rfl,rfl⟩
 have hFw:∀b,F b->w'.heap[b]? =w.heap[b]? :=fun b hb=>hs.block b (hB.news b hb).1 (fun e=>(e3 b (.inl e.symm)).2.1 hb)
 refine⟨fun t=> ?_,rfl,hB.defers,fun id kk e=> ?_,fun i1 i2 k1 k2 g1 g2 b h1 h2 h3 h4 h5 h6=> ?_,hB.dom,hB.gr,hB.sub,fun b hb=> ?_,hs.os.trans hB.os,hs.tape.trans hB.tape,hs.output.trans hB.output,Nat.le_trans hB.grow hs.size,fun b hb hne=> ?_,fun gl=> ?_⟩
 .
  match t with
  |0=>exact hR w' F β hd e1 b1 b2
  |t+1=>exact .any _
 .
  obtain⟨rfl,rfl⟩:=hH0 id kk e
  exact⟨hd,e1,hblk,fun b hb=>by
   have hb':hd.blk=some b:=hb.elim (fun x=>x) False.elim
   obtain⟨q1,q2⟩:=e3 b (.inl hb')
   exact⟨Nat.lt_of_lt_of_le q1 hs.size,q2⟩⟩
 . rw [(hH0 i1 k1 h1).1,(hH0 i2 k2 h2).1]
 . exact⟨Nat.lt_of_lt_of_le (hB.news b hb).1 hs.size,(hB.news b hb).2⟩
 .
  rw [hs.block b (Nat.lt_of_lt_of_le hb hB.grow) (fun e=> ?_)]
  . exact hB.block b hb hne
  .
   rcases(e3 b (.inl e.symm)).2.2 with h |h
   . exact hne h
   .
    have hb':b<C.w0.heap.size:=hb
    omega
 . exact(hB.glo gl).mono (fun _ x=>x) hFw (fun _ _ e=>e)
def Jh1 (l:List Int):Option (List Int):=if l.length<=1000000 then some (l.mergeSort fun x y=>decide (x<=y)) else none
theorem JpY {ρ:Ren} (L:Lays.n189 P ρ) (l r:List Int) (hF:Jh1 l=some r):AC P (ρ.f 189) [.osl 0] [.row 1 (l.map iA)] (.tup []) [.row 1 (r.map iA)]:=by
 unfold Jh1 at hF
 split at hF
 .
  rename_i hc
  cases hF
  refine JqM (by simp) (fun _ _=> .tuple #[]) (.tup []) (fun blk cap w hH hlt _=> ?_) (fun a cap w _=> ?_) (fun w F β h _ _ _=> .tup [] #[] rfl (fun j u v hu=>by simp at hu))
  . exact Any.slices_Sort_int L blk 0 cap l w hH hlt (by omega)
  . exact Any.slices_Sort_int_none L a cap w
 . cases hF
def Jl4 (l:List Int):Option (List Int):=if l.length<=1000000 then some (Lib.compact l) else none
theorem Jri {ρ:Ren} (L:Lays2.n20 P ρ) (l r:List Int) (hF:Jl4 l=some r):AC P (ρ.f 20) [.osl 0] [.row 1 (l.map iA)] (.osl 1) [.dead,.row 1 (r.map iA)]:=by
 unfold Jl4 at hF
 split at hF
 .
  rename_i hc
  cases hF
  have hle:(Lib.compact l).length<=l.length:=by
   unfold Lib.compact Lib.compactUpTo
   rw [List.length_map]
   exact Nat.le_trans (List.length_filter_le _ _) (by simp)
  have h1:AC P (ρ.f 20) [.osl 0] [.row 1 (l.map iA)] (.sub 0 1 0 (Lib.compact l).length none) [.row 1 ((Lib.compact l++List.replicate (l.length - (Lib.compact l).length) 0).map iA)]:=by
   refine JqM (by simp;omega) (fun a cap=> .slice a (Lib.compact l).length cap) _ (fun blk cap w hH hlt hcap=> ?_) (fun a cap w h0=> ?_) (fun w F β h h1 h2 h3=> ?_)
   .
    refine(Any.slices_Compact_int L blk 0 cap l w hH (by omega) hcap).mono fun e w' ⟨he,q,hw⟩=>⟨he,q,#[],?_⟩
    rw [grow_empty]
    exact hw
   .
    subst h0
    exact Any.slices_Compact_int_empty L a cap w
   .
    have:=RV.sub (w:=w) (F:=F) 0 1 0 (Lib.compact l).length none h h1
    simpa using this
  refine h1.ends ?_
  generalize hz:List.replicate (l.length - (Lib.compact l).length) (0:Int)=zs
  refine JhM (id:=0) (sz:=1) (xs:=(Lib.compact l++zs).map iA) (hi:=(Lib.compact l).length) rfl (by simp) (ys:=(Lib.compact l).map iA) (by rw [<-List.map_take,List.take_left]) (.inl rfl) [0,1] [] [] rfl (.oslg 1 1 rfl) ⟨trivial,Jv7 (fun _=>⟨rfl,rfl⟩) rfl rfl,trivial⟩
 . cases hF
end Go.Proofs.YtehhohbnhcogkaaGreatDoor.Ex
namespace Go.Proofs.YtehhohbnhcogkaaGreatDoor.Ax
open Go.RowKit Go.Maps
open Go.ChangeMaps (setBlock)
open Go.WideElems (Fit rg)
theorem Jf5 {P:Program} {g:Nat} {o:Oper} {σ:ASt} {t:TypeId} (ho:o.op= .makeMap t none) (q:Obj->Prop) (hq:q (.map #[] 0)):YD P g o σ ⟨.mp σ.n,[(σ.n,some (.obj q))],[],σ.n+1⟩:=by
 refine⟨Nat.le_succ _,fun C I σ2 a w K Q hC hxs hH hI hd hR hK=> ?_⟩
 obtain⟨β,F,hR⟩:=hR
 have hn:¬I σ.n:=hI σ.n (Nat.le_refl _) (Wn _)
 refine upon_value (u:= .map (some w.heap.size)) (w':=w.alloc (.map #[] 0)) ?_ (hK _ _ ?_)
 . simp [execOp,ho,run_makeMap]
 have h2:=hR.new hn (Ja5 w (.map #[] 0)) (YN (some w.heap.size) 0 0) (fun i e=>by cases e;simp) (.obj q) ⟨_,_,rfl,heap_alloc_new _ _,hq⟩
 exact⟨_,F,(h2.put o.dst (.mp σ.n) _ hd (.mp σ.n w.heap.size _ (J7 _ _ _) rfl)).fin rfl rfl (fun i hi=>Jcs hi)⟩
theorem Jni {w:World} {b:Nat} {ob:Obj} (hb:w.heap[b]? =some ob) (o:Obj):(setBlock w b o).heap[b]? =some o:=by
 have:=(Array.getElem?_eq_some_iff.1 hb).1
 simp [setBlock,this]
theorem JpZ {w:World} {b i:Nat} (h:i≠b) (o:Obj):(setBlock w b o).heap[i]? =w.heap[i]? :=by
 simp [setBlock,Array.getElem?_setIfInBounds,h.symm]
theorem JiP (w:World) (b:Nat) (o:Obj):Same w (setBlock w b o) (some b):=
 ⟨rfl,.it,rfl,by simp [setBlock],fun i _ hi=>JpZ (fun e=>hi (by rw [e])) _⟩
theorem Jj5 {P:Program} {g:Nat} {o:Oper} {σ:ASt} {t:TypeId} {m kx vx:Operand} {id:Nat} {q:Obj->Prop} (q':Obj->Prop) (ho:o.op= .mapUpdate t m kx vx) (hm:ev σ.env m= .mp id) (hH:σ.H id=some (.obj q))
  (h:∀(w:World) (F:Nat->Prop) (β:Nat->Option Hdr) (kv vv:Value) (b:Nat) (ob:Obj),RV w F β (ev σ.env kx) kv->RV w F β (ev σ.env vx) vv->w.heap[b]? =some ob->q ob->∃ob',(Instr.mapUpdate t (.map (some b)) kv vv).run P w= .ok () (setBlock w b ob')∧q' ob'):
  YD P g o σ ⟨.any,[(id,some (.obj q'))],[],σ.n⟩:=by
 refine⟨Nat.le_refl _,fun C I σ2 a w K Q hC hxs hH2 hI hd hR hK=> ?_⟩
 obtain⟨β,F,hR⟩:=hR
 have hv:=hxs m (by simp [ho,Op.operands]) _ _ _ _ (hR.ev m)
 have hk:=hxs kx (by simp [ho,Op.operands]) _ _ _ _ (hR.ev kx)
 have hx:=hxs vx (by simp [ho,Op.operands]) _ _ _ _ (hR.ev vx)
 rw [hm] at hv
 have hH':σ2.H id=some (.obj q):=by rw [hH2 id (by simp)];exact hH
 obtain⟨hd',e1,e2,e3⟩:=hR.live id _ hH'
 obtain⟨b,ob,q1,q2,q3⟩:=e2
 generalize hpv:a.eval m=pv at hv
 cases hv with
 |mp _ b' h' f1 f2=>
  rw [e1] at f1
  cases f1
  rw [q1] at f2
  cases f2
  obtain⟨ob',hrun,hq'⟩:=h w F β _ _ b ob hk hx q2 q3
  refine Jde (w':=setBlock w b ob') ?_ (hK _ _ ⟨β,F,?_⟩)
  . simp [execOp,ho,hpv,hrun]
  . exact((hR.write hH' e1 q1 (JiP w b ob') (.obj q') ⟨b,ob',q1,Jni q2 _,hq'⟩).put o.dst .any undef hd (.any _)).fin rfl rfl (fun i hi=> .inl hi)
theorem Jav {H:Nat->Option ABlk} {gs zs bs:List Nat} {k id:Nat} {q:Obj->Prop} (h1:gs[k]? =some id) (h2:H id=some (.obj q)):JeJ H gs zs bs k (.obj q):=⟨id,q,h1,h2,fun _ h=>h⟩
theorem Jcy {H:Nat->Option ABlk} {gs zs bs:List Nat} {x:AV} {id k:Nat} (h:x= .mp id) (hk:gs[k]? =some id):ArgR H gs zs bs x (.mp k):=h▸ .mp id k hk
end Go.Proofs.YtehhohbnhcogkaaGreatDoor.Ax
namespace Go.Proofs.YtehhohbnhcogkaaGreatDoor.Ax
open Go.RowKit Go.Maps
open Go.ChangeMaps (setBlock)
open Go.WideElems (Fit rg)
def Y1 {κ ν:Type} [BEq κ] (E:List (κ×ν)) (x:κ) (z:ν):ν:=match E with
 |[]=>z
 |p::l=>bif p.1==x then p.2 else Y1 l x z
def Jfb {κ ν:Type} [BEq κ] (E:List (κ×ν)) (x:κ):Bool:=E.any (fun p=>p.1==x)
def JcY {κ ν:Type} (wk:κ->Bool) (wv:ν->Bool) (E:List (κ×ν)) (x:κ) (y:ν):Option (List (κ×ν)):=bif wk x&&wv y&&decide (E.length<1000000) then some ((x,y)::E) else none
theorem JmH {κ ν:Type} {wk:κ->Bool} {wv:ν->Bool} {E E':List (κ×ν)} {x:κ} {y:ν} (h:JcY wk wv E x y=some E'):wk x=true∧wv y=true∧E.length<1000000∧E'=(x,y)::E:=by
 unfold JcY at h
 cases hc:(wk x&&wv y&&decide (E.length<1000000)) with
 |false=>rw [hc] at h;cases h
 |true=>
  rw [hc] at h
  simp only [Bool.and_eq_true,decide_eq_true_eq] at hc
  exact⟨hc.1.1,hc.1.2,hc.2,(Wi h).symm⟩
def Jb0 {κ ν:Type} [BEq κ] (wk:κ->Bool) (E:List (κ×ν)) (x:κ) (z:ν):Option ν:=bif wk x then some (Y1 E x z) else none
def Jgq {κ ν:Type} [BEq κ] (wk:κ->Bool) (E:List (κ×ν)) (x:κ) (z:ν):Option (ν×Bool):=bif wk x then some (Y1 E x z,Jfb E x) else none
theorem Jhi {κ ν:Type} [BEq κ] {wk:κ->Bool} {E:List (κ×ν)} {x:κ} {z n:ν} (h:Jb0 wk E x z=some n):wk x=true∧n=Y1 E x z:=by
 unfold Jb0 at h
 cases hc:wk x with
 |false=>rw [hc] at h;cases h
 |true=>rw [hc] at h;exact⟨rfl,(Wi h).symm⟩
theorem Jkd {κ ν:Type} [BEq κ] {wk:κ->Bool} {E:List (κ×ν)} {x:κ} {z:ν} {n:ν×Bool} (h:Jgq wk E x z=some n):wk x=true∧n=(Y1 E x z,Jfb E x):=by
 unfold Jgq at h
 cases hc:wk x with
 |false=>rw [hc] at h;cases h
 |true=>rw [hc] at h;exact⟨rfl,(Wi h).symm⟩
def mvD {κ ν:Type} (kl:κ->Lit) (vl:ν->Lit):List (κ×ν)->DataW Unit
 |[]=> .map []
 |p::l=>(mvD kl vl l).put (kl p.1) (.lit (vl p.2))
def MvR (P:Program) (k e:TypeId) {κ ν:Type} (kl:κ->Lit) (vl:ν->Lit) (E:List (κ×ν)):Obj->Prop:=fun o=>
 ∃es clock,o= .map es clock∧Fit (H:=Unit) P k (plainElem P e) es clock∧es.size<=E.length∧mvD kl vl E=DataW.map ((es.toList.map (rg (H:=Unit) P k (plainElem P e))).foldr DataW.insert [])
theorem Jkc (P:Program) (k e:TypeId) {κ ν:Type} (kl:κ->Lit) (vl:ν->Lit):MvR P k e kl vl [] (.map #[] 0):=
 ⟨#[],0,rfl,⟨by simp,MapKept.stamped_empty 0,by simp⟩,Nat.le_refl _,rfl⟩
theorem JgT {κ ν:Type} (kl:κ->Lit) (vl:ν->Lit):∀E,IsMap (mvD kl vl E)
 |[]=>isMap_empty
 |p::l=>(JgT kl vl l).put _ _
theorem Jke {κ ν:Type} [BEq κ] [LawfulBEq κ] {kl:κ->Lit} {vl:ν->Lit} (hk:∀x,WideAt.IsKeyLit (kl x)) (hi:∀x y,kl x=kl y->x=y) (x:κ) (z:ν):∀E,(mvD kl vl E).atKey (kl x) (.lit (vl z))= .lit (vl (Y1 E x z))
 |[]=>rfl
 |p::l=>by
  unfold mvD Y1
  by_cases h:p.1=x
  . rw [<-h,atKey_put_same (JgT kl vl l) (hk p.1),beq_self_eq_true];rfl
  . rw [atKey_put_other (fun e=>h (hi _ _ e.symm)),Jke hk hi x z l,beq_eq_false_iff_ne.2 h];rfl
theorem Jnt {κ ν:Type} [BEq κ] [LawfulBEq κ] {kl:κ->Lit} {vl:ν->Lit} (hk:∀x,WideAt.IsKeyLit (kl x)) (hi:∀x y,kl x=kl y->x=y) (x:κ):∀E,Maps.has (mvD kl vl E) (kl x)=Jfb E x
 |[]=>rfl
 |p::l=>by
  show _=(p.1==x||Jfb l x)
  unfold mvD
  by_cases h:p.1=x
  . rw [<-h,has_put_same (JgT kl vl l) (hk p.1),beq_self_eq_true];rfl
  . rw [has_put_other (fun e=>h (hi _ _ e.symm)),Jnt hk hi x l,beq_eq_false_iff_ne.2 h];rfl
theorem JsL {P:Program} {k t e:TypeId} (K:Keyed P k) (ht:P.underlying t=some (.map k e)) {κ ν:Type} {kl:κ->Lit} {vl:ν->Lit} {E:List (κ×ν)} {x:κ} {y:ν} (hn:E.length<1000000) {key val:Value} (hkey:keyOf P k key=some (kl x))
  (hval:plainElem (H:=Unit) P e val=some (.lit (vl y),[])) {w:World} {b:Nat} {o:Obj} (hb:w.heap[b]? =some o) (h:MvR P k e kl vl E o):
  ∃ob',(Instr.mapUpdate t (.map (some b)) key val).run P w= .ok () (setBlock w b ob')∧MvR P k e kl vl ((x,y)::E) ob':=by
 obtain⟨es,clock,rfl,F,hs,hD⟩:=h
 have ho:w.ownsMap P k (plainElem P e) b E.length (mvD kl vl E):=⟨es,clock,hb,F,hs,hD⟩
 obtain⟨w',hrun,ho',es0,clock0,es',clock',q1,rfl⟩:=ho.store K ht (by unfold maxLen;omega) hkey hval
 refine⟨.map es' clock',hrun,?_⟩
 obtain⟨es2,clock2,r1,r2,r3,r4⟩:=ho'
 rw [Jni q1] at r1
 cases r1
 exact⟨_,_,rfl,r2,r3,r4⟩
theorem Jqm {P:Program} {g:Nat} {o:Oper} {σ:ASt} {t:TypeId} {m kx vx:Operand} {id:Nat} {k e:TypeId} {κ ν:Type} {kl:κ->Lit} {vl:ν->Lit} {wk:κ->Bool} {wv:ν->Bool} {E E':List (κ×ν)} {x:κ} {y:ν} {ax ay:AV} (K:Keyed P k) (ht:P.underlying t=some (.map k e))
  (hax:∀(w:World) (F:Nat->Prop) (β:Nat->Option Hdr) (v:Value),wk x=true->RV w F β ax v->keyOf P k v=some (kl x)) (hay:∀(w:World) (F:Nat->Prop) (β:Nat->Option Hdr) (v:Value),wv y=true->RV w F β ay v->plainElem (H:=Unit) P e v=some (.lit (vl y),[]))
  (ho:o.op= .mapUpdate t m kx vx) (hm:ev σ.env m= .mp id) (hH:σ.H id=some (.obj (MvR P k e kl vl E))) (hk:ev σ.env kx=ax) (hv:ev σ.env vx=ay) (h:JcY wk wv E x y=some E'):YD P g o σ ⟨.any,[(id,some (.obj (MvR P k e kl vl E')))],[],σ.n⟩:=by
 obtain⟨h1,h2,h3,rfl⟩:=JmH h
 refine Jj5 _ ho hm hH fun w F β kv vv b ob r1 r2 r3 r4=> ?_
 rw [hk] at r1
 rw [hv] at r2
 exact JsL K ht h3 (hax w F β kv h1 r1) (hay w F β vv h2 r2) r3 r4
theorem Jga {P:Program} {o:Oper} {env:Nat->AV} {H:Nat->Option ABlk} {t:TypeId} {m kx:Operand} {c:Bool} {id:Nat} {q:Obj->Prop} {v:AV} (ho:o.op= .lookup t m kx c) (hm:ev env m= .mp id) (hH:H id=some (.obj q))
  (h:∀(w:World) (F:Nat->Prop) (β:Nat->Option Hdr) (kv:Value) (b:Nat) (ob:Obj),RV w F β (ev env kx) kv->w.heap[b]? =some ob->q ob->∃r,(Instr.lookup t (.map (some b)) kv c).run P w= .ok r w∧RV w F β v r):ZH P o env H v [id]:=by
 intro w F β a hx hK
 have hv:=hx m (by simp [ho,Op.operands])
 have hk:=hx kx (by simp [ho,Op.operands])
 rw [hm] at hv
 obtain⟨g,e1,b,ob,q1,q2,q3⟩:=hK id (by simp) _ hH
 generalize hvx:a.eval m=vx at hv
 cases hv with
 |mp _ b' h' f1 f2=>
  rw [e1] at f1
  cases f1
  rw [q1] at f2
  cases f2
  obtain⟨r,r1,r2⟩:=h w F β _ b ob hk q2 q3
  exact⟨r,by simp [execOp,ho,hvx,r1],r2⟩
section
variable {P:Program} {g:Nat} {o:Oper} {σ:ASt} {t k e:TypeId} {m kx:Operand} {id:Nat} {κ:Type} [BEq κ] [LawfulBEq κ] {kl:κ->Lit} {wk:κ->Bool} {x:κ} {ax:AV} (K:Keyed P k) (ht:P.underlying t=some (.map k e))
 (hkl:∀x,WideAt.IsKeyLit (kl x)) (hki:∀x y,kl x=kl y->x=y) (hax:∀(w:World) (F:Nat->Prop) (β:Nat->Option Hdr) (v:Value),wk x=true->RV w F β ax v->keyOf P k v=some (kl x))
include K ht hkl hki hax
theorem Jqu (he:P.underlying e=some (.int .i64)) (hz:∀w,(zeroValue e).run P w= .ok (.int .i64 0) w) {E:List (κ×Int)} (ho:o.op= .lookup t m kx false) (hm:ev σ.env m= .mp id) (hH:σ.H id=some (.obj (MvR P k e kl (fun y=> .int .i64 y) E))) (hk:ev σ.env kx=ax) (hw:wk x=true):
  YD P g o σ ⟨.int .i64 (Y1 E x 0),[],[id],σ.n⟩:=by
 refine JB (Jga ho hm hH fun w F β kv b ob r1 r2 r3=> ?_)
 rw [hk] at r1
 obtain⟨es,clock,rfl,Fi,hs,hD⟩:=r3
 have ho:w.ownsMap P k (plainElem P e) b E.length (mvD kl (fun y=> .int .i64 y) E):=⟨es,clock,r2,Fi,hs,hD⟩
 obtain⟨c,q1,q2,q3⟩:=ho.lookup_int K ht he (hz w) (hax w F β kv hw r1)
 rw [Jke hkl hki x 0 E] at q2
 have:Y1 E x 0=c:=by injection q2 with q2;injection q2
 exact⟨_,q1,by rw [this];exact .int _ _⟩
theorem Jow (he:P.underlying e=some .bool) (hz:∀w,(zeroValue e).run P w= .ok (.bool false) w) {E:List (κ×Bool)} (ho:o.op= .lookup t m kx false) (hm:ev σ.env m= .mp id) (hH:σ.H id=some (.obj (MvR P k e kl (fun y=> .bool y) E))) (hk:ev σ.env kx=ax) (hw:wk x=true):
  YD P g o σ ⟨.bool (Y1 E x false),[],[id],σ.n⟩:=by
 refine JB (Jga ho hm hH fun w F β kv b ob r1 r2 r3=> ?_)
 rw [hk] at r1
 obtain⟨es,clock,rfl,Fi,hs,hD⟩:=r3
 have ho:w.ownsMap P k (plainElem P e) b E.length (mvD kl (fun y=> .bool y) E):=⟨es,clock,r2,Fi,hs,hD⟩
 obtain⟨v,ps,q1,q2⟩:=ho.lookup K ht (hz w) (plainElem_bool he false) (hax w F β kv hw r1)
 rw [Jke hkl hki x false E] at q2
 have:v= .bool (Y1 E x false):=by
  unfold plainElem at q2
  rw [he] at q2
  cases v<;>simp_all
 exact⟨_,q1,by rw [this];exact .bool _⟩
theorem JmJ (he:P.underlying e=some (.int .i64)) (hz:∀w,(zeroValue e).run P w= .ok (.int .i64 0) w) {E:List (κ×Int)} (ho:o.op= .lookup t m kx true) (hm:ev σ.env m= .mp id) (hH:σ.H id=some (.obj (MvR P k e kl (fun y=> .int .i64 y) E))) (hk:ev σ.env kx=ax) (hw:wk x=true):
  YD P g o σ ⟨.tup [.int .i64 (Y1 E x 0),.bool (Jfb E x)],[],[id],σ.n⟩:=by
 refine JB (Jga ho hm hH fun w F β kv b ob r1 r2 r3=> ?_)
 rw [hk] at r1
 obtain⟨es,clock,rfl,Fi,hs,hD⟩:=r3
 have ho:w.ownsMap P k (plainElem P e) b E.length (mvD kl (fun y=> .int .i64 y) E):=⟨es,clock,r2,Fi,hs,hD⟩
 obtain⟨v,ps,q1,q2⟩:=ho.look_ok K ht (hz w) (plainElem_int he (by decide)) (hax w F β kv hw r1)
 rw [Jke hkl hki x 0 E] at q2
 rw [Jnt hkl hki x E] at q1
 obtain⟨c,rfl,q3,_⟩:=plainElem_int_inv he q2
 have:Y1 E x 0=c:=by injection q3 with q3 _;injection q3 with q3;injection q3
 refine⟨_,q1,?_⟩
 refine .tup _ _ rfl fun j u v h1 h2=> ?_
 match j,h1,h2 with
 |0,h1,h2=>cases h1;cases h2;rw [this];exact .int _ _
 |1,h1,h2=>cases h1;cases h2;exact .bool _
end
def JoB (a:Int):Lit:= .int .i64 a
def JqF (s:ByteArray):Lit:= .string s.data.toList
def wI (a:Int):Bool:=(Lit.int .i64 a).wf
def wS (s:ByteArray):Bool:=decide (s.size<=maxLen)
def wT {α:Type} (_:α):Bool:=true
theorem Jnx (x:Int):WideAt.IsKeyLit (JoB x):=trivial
theorem JsR (x:ByteArray):WideAt.IsKeyLit (JqF x):=trivial
theorem JlE (x y:Int) (h:JoB x=JoB y):x=y:=by injection h
theorem JqE (x y:ByteArray) (h:JqF x=JqF y):x=y:=by
 injection h with h
 cases x;cases y;simp_all [Array.toList_inj]
theorem akI {P:Program} {k:TypeId} (hk:P.underlying k=some (.int .i64)) (x:Int) (w:World) (F:Nat->Prop) (β:Nat->Option Hdr) (v:Value) (h:wI x=true) (hv:RV w F β (.int .i64 x) v):keyOf P k v=some (JoB x):=by
 cases hv;exact keyOf_int_mk hk h
theorem akS {P:Program} {k:TypeId} (hk:P.underlying k=some .string) (x:ByteArray) (w:World) (F:Nat->Prop) (β:Nat->Option Hdr) (v:Value) (h:wS x=true) (hv:RV w F β (.str x) v):keyOf P k v=some (JqF x):=by
 cases hv;exact WideMaps.keyOf_string_mk hk (Wt h)
theorem avI {P:Program} {e:TypeId} (he:P.underlying e=some (.int .i64)) (y:Int) (w:World) (F:Nat->Prop) (β:Nat->Option Hdr) (v:Value) (h:wI y=true) (hv:RV w F β (.int .i64 y) v):plainElem (H:=Unit) P e v=some (.lit (.int .i64 y),[]):=by
 cases hv;exact plainElem_int he h
theorem avB {P:Program} {e:TypeId} (he:P.underlying e=some .bool) (w:World) (F:Nat->Prop) (β:Nat->Option Hdr) (v:Value) (h:wT true=true) (hv:RV w F β .tru v):plainElem (H:=Unit) P e v=some (.lit (.bool true),[]):=by
 cases hv;exact plainElem_bool he true
end Go.Proofs.YtehhohbnhcogkaaGreatDoor.Ax
namespace Go.Proofs.YtehhohbnhcogkaaGreatDoor.Ex
open Go.RowKit Go.Proofs.YtehhohbnhcogkaaGreatDoor.Ax Go.Sort Go.Shelf
def Jji {α:Type} [Inhabited α] (ok:α->Bool) (cf:α->α->Int) (l:List α):Option (List α):=
 if l.all ok=true∧l.length<=1000000 then some (pdq (ltOf cf) l.toArray 0 l.length (Lib.bitLen l.length) true true).toList else none
theorem Jmt {α:Type} [Inhabited α] {ok:α->Bool} {cf:α->α->Int} (hO:SWO (ltOf cf)) {l r:List α} (h:Jji ok cf l=some r):
  l.all ok=true∧l.length<=1000000∧r.length=l.length∧r.Perm l∧r.Pairwise (fun a b=>cf b a<0->False)∧r=(pdq (ltOf cf) l.toArray 0 l.length (Lib.bitLen l.length) true true).toList:=by
 unfold Jji at h
 split at h
 .
  rename_i c
  cases h
  have hs:=pdq_sorts (ltOf cf) hO l.toArray 0 l.length (Lib.bitLen l.length) true true (Nat.zero_le _) (by simp) (.inl rfl)
  obtain⟨⟨p1,p2,p3⟩,p4⟩:=hs
  generalize hd:pdq (ltOf cf) l.toArray 0 l.length (Lib.bitLen l.length) true true=d at p1 p2 p3 p4 ⊢
  have p1':d.size=l.length:=by simpa using p1
  refine⟨c.1,c.2,by simpa using p1',?_,?_,rfl⟩
  .
   have e1:(d.extract 0 l.length).toList=d.toList:=by rw [<-p1'];simp
   have e2:(l.toArray.extract 0 l.length).toList=l:=by simp
   rw [e1,e2] at p3
   exact p3
  .
   rw [List.pairwise_iff_getElem]
   intro i j hi hj hij hlt
   have hj':j<d.size:=by simpa using hj
   have hi':i<d.size:=by simpa using hi
   have:=p4 i j (Nat.zero_le _) hij (by omega)
   rw [getElem!_pos d j hj',getElem!_pos d i hi'] at this
   unfold ltOf at this
   simp only [Array.getElem_toList] at hlt
   simp [hlt] at this
 . cases h
theorem Jso {P:Program} {ρ:Ren} (L:SlLaysF0.n6 P ρ) {α:Type} [Inhabited α] (k:Nat) (hk0:0<k) (aE:∀w,(isAgg (ρ.t 24)).run P w= .ok true w) (zE:∀w,(Go.sizeOf (ρ.t 24)).run P w= .ok k w) (enc:α->List AV) (encV:α->List Value) (cl:α->α) (ok:α->Bool) (hok:∀x,ok x=true->cl x=x)
  (hk:∀x,(encV x).length=k) (hl:∀x,(enc x).length=k) (h1:∀x,∀v∈encV x,v.oneCell'=true) (hone:∀x,∀u∈enc x,u.one=true)
  (hr1:∀(x:α) (w:World) (F:Nat->Prop) (β:Nat->Option Hdr) (j:Nat) (u:AV) (v:Value),(enc x)[j]? =some u->RV w F β u v->(encV x)[j]? =some v)
  (hr2:∀(x:α) (w:World) (F:Nat->Prop) (β:Nat->Option Hdr) (j:Nat) (u:AV) (v:Value),(enc x)[j]? =some u->(encV x)[j]? =some v->RV w F β u v)
  (cf:α->α->Int) (hO:SWO (ltOf cf)) (g:Nat) (eg:∀args w,(callFunc g args).run P w= .ok (.enter g args) w)
  (hcmp:∀blk off size w,CmpLays P g #[] (fun x=>encV (cl x)) k cf blk off size w) (l r:List α) (hF:Jji ok cf l=some r):AC P (ρ.f 6) [.osl 0,.fn g []] [.row k (l.map enc)] (.tup []) [.row k (r.map enc)]:=by
 obtain⟨s1,s2,s3,s4,s5,s6⟩:=Jmt hO hF
 intro C w vals hC hw0 hnt hlen hR
 obtain⟨β,F,hB⟩:=hR
 obtain⟨hd,e1,hb,e3⟩:=hB.live 0 _ rfl
 have v0:=hB.env 0
 have v1:=hB.env 1
 have hs2:vals.size=2:=hlen
 have hv:∃x y,vals= #[x,y]∧RV w F β (.osl 0) x∧RV w F β (.fn g []) y:=by
  refine⟨vals.getD 0 undef,vals.getD 1 undef,?_,v0,v1⟩
  apply Array.ext
  . simpa using hs2
  .
   intro i h1 h2
   have hi:i<2:=by omega
   match i,hi with
   |0,_=>simp [Array.getD,hs2]
   |1,_=>simp [Array.getD,hs2]
 obtain⟨x,y,rfl,q0,q1⟩:=hv
 cases q0 with
 |osl _ hd' e2=>
 rw [e1] at e2
 cases e2
 cases q1 with
 |fn _ _ cs z1 z2=>
 have hcs:cs= #[]:=by
  have:cs.size=0:=by simpa using z1.symm
  exact Array.eq_empty_of_size_eq_zero this
 subst hcs
 obtain⟨b1,b2,b3,b4,b5,b6⟩:=hb
 rw [List.length_map] at b1 b2
 have key:Calls P (ρ.f 6) #[.slice (J5 hd.blk 0) hd.len hd.cap,.func (.func g) #[] #[]] w fun e w'=>e= .returned (.tuple #[])∧Same w w' hd.blk∧(∀b,hd.blk=some b->b<w.heap.size->¬F b->YE w' F β hd (.row k (r.map enc)))∧(hd.blk=none->r=[]):=by
  cases hblk:hd.blk with
  |none=>
   have h0:l=[]:=Wz (by have:=b4 hblk;omega)
   subst h0
   have hr0:r=[]:=Wz s3
   have hn:=AnyF.slices_SortFunc_none { L with } (J5 none 0) hd.cap (.func (.func g) #[] #[]) w
   rw [b1]
   refine hn.mono fun e w' ⟨he,hw⟩=> ?_
   subst hw
   exact⟨he,⟨rfl,.it,rfl,Nat.le_refl _,fun _ _ _=>rfl⟩,fun b e=>(by cases e),fun _=>hr0⟩
  |some b=>
   obtain⟨arr,ty,a1,a2,a3⟩:=b6 b hblk
   obtain⟨lt0,_,_⟩:=e3 b (.inl hblk)
   have hcl:∀i (hi:i<l.length),cl l[i]=l[i]:=fun i hi=>hok _ (List.all_eq_true.1 s1 _ (List.getElem_mem hi))
   have hH:HoldsK (fun x=>encV (cl x)) k w b 0 l.toArray:=by
    intro j hj
    rw [size_flatK] at hj
    rw [get_flatK _ _ _ _ hj]
    simp only [List.size_toArray] at hj
    obtain⟨g1,g2,g3⟩:=JkB hj
    have hi:(l.map enc)[j / k]? =some (enc l[j / k]):=by rw [Wp,Wg g1];rfl
    obtain⟨v,hv,hr⟩:=a3 (j / k) _ (j % k) _ hi (Wg (by rw [hl];exact g2))
    have hv2:=hr1 _ w F β (j % k) _ v (Wg (by rw [hl];exact g2)) hr
    rw [g3] at hv
    have e:(l.toArray)[j / k]! =l[j / k]:=by rw [getElem!_pos _ _ (by simpa using g1)];simp
    simp only [e,hcl _ g1,id]
    refine⟨?_,by simp [World.frozen?,a1]⟩
    rw [Nat.zero_add]
    simp only [World.cell?,a1]
    rw [List.getElem!_eq_getElem?_getD,hv2]
    simp [hv]
   have hc:=AnyQ.slices_SortFunc_eq L k aE zE (fun x=>encV (cl x)) (fun x=>hk (cl x)) (fun x=>h1 (cl x)) cf hO g #[] b 0 hd.cap l.toArray w eg (hcmp b 0 _ w) hH lt0 (by simp only [List.size_toArray];omega)
   simp only [List.size_toArray] at hc
   rw [b1]
   refine hc.mono fun e w' ⟨he,n,os,hw⟩=> ?_
   subst hw
   have hr:pdq (ltOf cf) l.toArray 0 l.length (Lib.bitLen l.length) true true=r.toArray:=by rw [s6]
   rw [hr]
   have hsame:Same w (sortWorldK (fun x=>encV (cl x)) k w b 0 n r.toArray os) (some b):=by
    refine⟨rfl,.it rfl (Nat.le_add_right _ _),rfl,?_,fun i hi hne=> ?_⟩
    . simp [sortWorldK,putRowK,putRow,mapBlock,grow,ahead]
    .
     have hib:b≠i:=fun e=>hne (by rw [e])
     unfold sortWorldK putRowK putRow
     rw [heap_grow_old _ _ (by simpa [mapBlock,ahead] using hi)]
     simp [mapBlock,ahead,Array.getElem?_modify,hib]
   refine⟨he,hsame,fun b' hb' hlt hnF=> ?_,fun e=>(by cases e)⟩
   cases hb'
   refine⟨by rw [List.length_map,s3];exact b1,by rw [List.length_map,s3];exact b2,b3,fun e=>(by rw [hblk] at e;cases e),fun i c hi=> ?_,fun b' hb'=> ?_⟩
   .
    rw [Wp] at hi
    cases hx:r[i]? with
    |none=>rw [hx] at hi;cases hi
    |some x=>rw [hx] at hi;cases hi;exact⟨hl x,hone x⟩
   .
    rw [hblk] at hb'
    cases hb'
    refine⟨putCells id 0 (flatK (fun x=>encV (cl x)) k r.toArray) arr,ty,?_,by simpa [putCells] using a2,fun i c j u hi hj=> ?_⟩
    .
     unfold sortWorldK putRowK putRow
     rw [heap_grow_old _ _ (by simpa [mapBlock,ahead] using lt0)]
     simp [mapBlock,ahead,Array.getElem?_modify,a1,onCells]
    .
     rw [Wp] at hi
     cases hx:r[i]? with
     |none=>rw [hx] at hi;cases hi
     |some x=>
      rw [hx] at hi
      cases hi
      have hil:i<r.length:=(List.getElem?_eq_some_iff.1 hx).1
      have hjl:j<k:=by rw [<-hl x];exact(List.getElem?_eq_some_iff.1 hj).1
      have hlt2:i*k+j<r.length*k:=Jdc hil hjl
      have hcx:cl x=x:=hok _ (List.all_eq_true.1 s1 _ (s4.mem_iff.1 (Wm hx)))
      have d1:(i*k+j) / k=i:=by rw [Nat.add_comm,Nat.add_mul_div_right _ _ hk0,Nat.div_eq_of_lt hjl,Nat.zero_add]
      have d2:(i*k+j) % k=j:=by rw [Nat.add_comm,Nat.add_mul_mod_self_right,Nat.mod_eq_of_lt hjl]
      have hjv:j<(encV x).length:=by rw [hk];exact hjl
      have hasz:i*k+j<arr.size:=by
       have:=Nat.mul_le_mul_right k b2
       rw [s3] at hlt2
       omega
      refine⟨(encV x)[j],?_,hr2 x _ F β j u _ hj (Wg hjv)⟩
      have ex:(r.toArray)[i]! =x:=by
       rw [getElem!_pos _ _ (by simpa using hil)]
       simp only [List.getElem_toArray]
       have:=Wg hil
       rw [hx] at this
       exact(Wi this).symm
      have hf:(flatK (fun x=>encV (cl x)) k r.toArray)[i*k+j]! =(encV x)[j]:=by
       rw [get_flatK _ _ _ _ (by simpa using hlt2),d1,d2,ex,hcx,List.getElem!_eq_getElem?_getD,Wg hjv]
       rfl
      simp only [putCells,Array.getElem?_mapIdx,Wb hasz,Option.map_some,Nat.zero_le,true_and,Nat.zero_add,size_flatK,List.size_toArray,hlt2,if_true,Nat.sub_zero,id,hf]
 refine key.mono fun e w' ⟨he,hs,hblk,hnil⟩=>⟨_,he,β,F,?_⟩
 have hH0:∀id kk,(entry [.tup []] [.row k (r.map enc)]).H id=some kk->id=0∧kk= .row k (r.map enc):=fun id kk e=>by
  obtain⟨q1,q2⟩:=Ja2 e
  match id,q1 with
  |0,q1=>cases q1;exact⟨rfl,rfl⟩
 have hFw:∀b,F b->w'.heap[b]? =w.heap[b]? :=fun b hb=>hs.block b (hB.news b hb).1 (fun e=>(e3 b (.inl e.symm)).2.1 hb)
 have hbr:YE w' F β hd (.row k (r.map enc)):=by
  cases hbk:hd.blk with
  |some b=>exact hblk b hbk (e3 b (.inl hbk)).1 (e3 b (.inl hbk)).2.1
  |none=>
   have hr0:=hnil hbk
   subst hr0
   have:l.length=0:=by simpa using s3.symm
   exact⟨by simpa using b1.trans this,Nat.zero_le _,b3,b4,fun i c hi=>by simp at hi,fun b e=>by rw [hbk] at e;cases e⟩
 refine⟨fun t=> ?_,rfl,hB.defers,fun id kk e=> ?_,fun i1 i2 k1 k2 g1 g2 b h1 h2 h3 h4 h5 h6=> ?_,hB.dom,hB.gr,hB.sub,fun b hb=> ?_,hs.os.trans hB.os,hs.tape.trans hB.tape,hs.output.trans hB.output,Nat.le_trans hB.grow hs.size,fun b hb hne=> ?_,fun gl=> ?_⟩
 .
  match t with
  |0=>exact .tup [] #[] rfl (fun j u v hu=>by simp at hu)
  |t+1=>exact .any _
 .
  obtain⟨rfl,rfl⟩:=hH0 id kk e
  exact⟨hd,e1,hbr,fun b hb0=>by
   have hb:=e3 b (.inl (hb0.elim (fun x=>x) False.elim))
   exact⟨Nat.lt_of_lt_of_le hb.1 hs.size,hb.2⟩⟩
 . rw [(hH0 i1 k1 h1).1,(hH0 i2 k2 h2).1]
 . exact⟨Nat.lt_of_lt_of_le (hB.news b hb).1 hs.size,(hB.news b hb).2⟩
 .
  rw [hs.block b (Nat.lt_of_lt_of_le hb hB.grow) (fun e=> ?_)]
  . exact hB.block b hb hne
  .
   rcases(e3 b (.inl e.symm)).2.2 with h |h
   . exact hne h
   .
    have hb':b<C.w0.heap.size:=hb
    omega
 . exact(hB.glo gl).mono (fun _ x=>x) hFw (fun _ _ e=>e)
end Go.Proofs.YtehhohbnhcogkaaGreatDoor.Ex
