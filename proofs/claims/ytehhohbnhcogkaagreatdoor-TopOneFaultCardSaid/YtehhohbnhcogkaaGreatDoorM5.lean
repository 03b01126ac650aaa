/- The ground of the proof: the abstract walker and what the program computes. -/
import Derived.Test.YtehhohbnhcogkaaGreatDoorChecked
import Derived.Shelf.SlSortCmp.NoneTotal
import Derived.Laws.IdiomCopy
import Derived.Shelf.Lays2
import Derived.Test.YtehhohbnhcogkaaGreatDoorProg
import Derived.Shelf.RegionOpenPlain
import Derived.WalkKit
import Derived.Lib.Walk
import Derived.Lib.SliceRun
import Derived.Lib.JoinLaws
import Derived.Lib.AppendZeros
import Derived.Lib.Overlaps
import Derived.Laws.Externs
import Derived.Shelf.Spec.SlicesInsert
import Derived.Lib.AppendZerosOnto
import Derived.Laws.NewBlocks
import Derived.Shelf.Spec.SlicesInsertGrow
import Derived.Test.YtehhohbnhcogkaaGreatDoorM4
import Derived.Test.YtehhohbnhcogkaaGreatDoorM3
import Derived.Test.YtehhohbnhcogkaaGreatDoorM2
set_option linter.unusedVariables false
set_option linter.unusedSimpArgs false
namespace Go.Proofs.YtehhohbnhcogkaaGreatDoor.Ex
def Jk9:Go.Shelf.Ren:=⟨fun |6=>112 |15=>92 |14=>161 |28=>135 |29=>136 |20=>187 |21=>188 |22=>189 |23=>190 |24=>191 |25=>192 |26=>193 |27=>194 |46=>205 |47=>177 |48=>178 |49=>206 |50=>207 |57=>212 |n=>n,fun |22=>37 |24=>79 |25=>198 |3=>3 |39=>165 |0=>0 |53=>219 |55=>221 |4=>4 |46=>213 |45=>212 |50=>53 |5=>5 |9=>9 |66=>246 |70=>250 |76=>265 |77=>266 |n=>n,fun |n=>n⟩
theorem Jsq:Go.Proofs.SlLaysF0.n6 Tryz.prog Jk9:={
 mixed:=by kernel_rfl
 f6:=⟨Tryz.f112.name,by decide,Tryz.func112.trans (congrArg some (by kernel_rfl))⟩
 f14:=⟨Tryz.f161.name,by decide,Tryz.func161.trans (congrArg some (by kernel_rfl))⟩
 f15:=Tryz.func92.trans (congrArg some (by kernel_rfl))
 f20:=⟨Tryz.f187.name,by decide,Tryz.func187.trans (congrArg some (by kernel_rfl))⟩
 f21:=⟨Tryz.f188.name,by decide,Tryz.func188.trans (congrArg some (by kernel_rfl))⟩
 f22:=⟨Tryz.f189.name,by decide,Tryz.func189.trans (congrArg some (by kernel_rfl))⟩
 f23:=⟨Tryz.f190.name,by decide,Tryz.func190.trans (congrArg some (by kernel_rfl))⟩
 f24:=⟨Tryz.f191.name,by decide,Tryz.func191.trans (congrArg some (by kernel_rfl))⟩
 f25:=⟨Tryz.f192.name,by decide,Tryz.func192.trans (congrArg some (by kernel_rfl))⟩
 f26:=⟨Tryz.f193.name,by decide,Tryz.func193.trans (congrArg some (by kernel_rfl))⟩
 f27:=⟨Tryz.f194.name,by decide,Tryz.func194.trans (congrArg some (by kernel_rfl))⟩
 f28:=Tryz.func135.trans (congrArg some (by kernel_rfl))
 f29:=Tryz.func136.trans (congrArg some (by kernel_rfl))
 f46:=⟨Tryz.f205.name,by decide,Tryz.func205.trans (congrArg some (by kernel_rfl))⟩
 f47:=Tryz.func177.trans (congrArg some (by kernel_rfl))
 f48:=Tryz.func178.trans (congrArg some (by kernel_rfl))
 f49:=⟨Tryz.f206.name,by decide,Tryz.func206.trans (congrArg some (by kernel_rfl))⟩
 f50:=⟨Tryz.f207.name,by decide,Tryz.func207.trans (congrArg some (by kernel_rfl))⟩
 f57:=⟨Tryz.f212.name,by decide,Tryz.func212.trans (congrArg some (by kernel_rfl))⟩
 t0:=Tryz.underlying0
 a0:=Tryz.isAgg0
 z0:=Tryz.sizeOf0
 v0:=Tryz.zeroValue0
 t3:=Tryz.underlying3
 a3:=Tryz.isAgg3
 z3:=Tryz.sizeOf3
 v3:=Tryz.zeroValue3
 t4:=Tryz.underlying4
 a4:=Tryz.isAgg4
 z4:=Tryz.sizeOf4
 v4:=Tryz.zeroValue4
 t5:=Tryz.underlying5
 a5:=Tryz.isAgg5
 z5:=Tryz.sizeOf5
 v5:=Tryz.zeroValue5
 t9:=Tryz.underlying9
 a9:=Tryz.isAgg9
 z9:=Tryz.sizeOf9
 v9:=Tryz.zeroValue9
 t22:=Tryz.underlying37
 a22:=Tryz.isAgg37
 z22:=Tryz.sizeOf37
 v22:=Tryz.zeroValue37
 t25:=Tryz.underlying198
 a25:=Tryz.isAgg198
 z25:=Tryz.sizeOf198
 v25:=Tryz.zeroValue198
 t39:=Tryz.underlying165
 a39:=Tryz.isAgg165
 z39:=Tryz.sizeOf165
 v39:=Tryz.zeroValue165
 t45:=Tryz.underlying212
 a45:=Tryz.isAgg212
 z45:=Tryz.sizeOf212
 v45:=Tryz.zeroValue212
 t46:=Tryz.underlying213
 a46:=Tryz.isAgg213
 z46:=Tryz.sizeOf213
 v46:=Tryz.zeroValue213
 t50:=Tryz.underlying53
 a50:=Tryz.isAgg53
 z50:=Tryz.sizeOf53
 v50:=Tryz.zeroValue53
 t53:=Tryz.underlying219
 a53:=Tryz.isAgg219
 z53:=Tryz.sizeOf219
 v53:=Tryz.zeroValue219
 t55:=Tryz.underlying221
 a55:=Tryz.isAgg221
 z55:=Tryz.sizeOf221
 v55:=Tryz.zeroValue221
 t66:=Tryz.underlying246
 a66:=Tryz.isAgg246
 z66:=Tryz.sizeOf246
 v66:=Tryz.zeroValue246
 t70:=Tryz.underlying250
 a70:=Tryz.isAgg250
 z70:=Tryz.sizeOf250
 v70:=Tryz.zeroValue250
 t76:=Tryz.underlying265
 a76:=Tryz.isAgg265
 z76:=Tryz.sizeOf265
 v76:=Tryz.zeroValue265
 t77:=Tryz.underlying266
 a77:=Tryz.isAgg266
 z77:=Tryz.sizeOf266
 v77:=Tryz.zeroValue266 }
def Jk8:Go.Shelf.Ren:=⟨fun |6=>42 |15=>92 |14=>91 |28=>135 |29=>136 |20=>127 |21=>128 |22=>129 |23=>130 |24=>131 |25=>132 |26=>133 |27=>134 |46=>176 |47=>177 |48=>178 |49=>179 |50=>180 |57=>199 |n=>n,fun |22=>59 |24=>105 |25=>106 |3=>3 |39=>165 |0=>0 |53=>219 |55=>221 |4=>4 |46=>213 |45=>212 |50=>53 |5=>5 |9=>9 |66=>246 |70=>250 |76=>265 |77=>266 |n=>n,fun |n=>n⟩
theorem Jsp:Go.Proofs.SlLaysF0.n6 Tryz.prog Jk8:={
 mixed:=by kernel_rfl
 f6:=⟨Tryz.f42.name,by decide,Tryz.func42.trans (congrArg some (by kernel_rfl))⟩
 f14:=⟨Tryz.f91.name,by decide,Tryz.func91.trans (congrArg some (by kernel_rfl))⟩
 f15:=Tryz.func92.trans (congrArg some (by kernel_rfl))
 f20:=⟨Tryz.f127.name,by decide,Tryz.func127.trans (congrArg some (by kernel_rfl))⟩
 f21:=⟨Tryz.f128.name,by decide,Tryz.func128.trans (congrArg some (by kernel_rfl))⟩
 f22:=⟨Tryz.f129.name,by decide,Tryz.func129.trans (congrArg some (by kernel_rfl))⟩
 f23:=⟨Tryz.f130.name,by decide,Tryz.func130.trans (congrArg some (by kernel_rfl))⟩
 f24:=⟨Tryz.f131.name,by decide,Tryz.func131.trans (congrArg some (by kernel_rfl))⟩
 f25:=⟨Tryz.f132.name,by decide,Tryz.func132.trans (congrArg some (by kernel_rfl))⟩
 f26:=⟨Tryz.f133.name,by decide,Tryz.func133.trans (congrArg some (by kernel_rfl))⟩
 f27:=⟨Tryz.f134.name,by decide,Tryz.func134.trans (congrArg some (by kernel_rfl))⟩
 f28:=Tryz.func135.trans (congrArg some (by kernel_rfl))
 f29:=Tryz.func136.trans (congrArg some (by kernel_rfl))
 f46:=⟨Tryz.f176.name,by decide,Tryz.func176.trans (congrArg some (by kernel_rfl))⟩
 f47:=Tryz.func177.trans (congrArg some (by kernel_rfl))
 f48:=Tryz.func178.trans (congrArg some (by kernel_rfl))
 f49:=⟨Tryz.f179.name,by decide,Tryz.func179.trans (congrArg some (by kernel_rfl))⟩
 f50:=⟨Tryz.f180.name,by decide,Tryz.func180.trans (congrArg some (by kernel_rfl))⟩
 f57:=⟨Tryz.f199.name,by decide,Tryz.func199.trans (congrArg some (by kernel_rfl))⟩
 t0:=Tryz.underlying0
 a0:=Tryz.isAgg0
 z0:=Tryz.sizeOf0
 v0:=Tryz.zeroValue0
 t3:=Tryz.underlying3
 a3:=Tryz.isAgg3
 z3:=Tryz.sizeOf3
 v3:=Tryz.zeroValue3
 t4:=Tryz.underlying4
 a4:=Tryz.isAgg4
 z4:=Tryz.sizeOf4
 v4:=Tryz.zeroValue4
 t5:=Tryz.underlying5
 a5:=Tryz.isAgg5
 z5:=Tryz.sizeOf5
 v5:=Tryz.zeroValue5
 t9:=Tryz.underlying9
 a9:=Tryz.isAgg9
 z9:=Tryz.sizeOf9
 v9:=Tryz.zeroValue9
 t22:=Tryz.underlying59
 a22:=Tryz.isAgg59
 z22:=Tryz.sizeOf59
 v22:=Tryz.zeroValue59
 t25:=Tryz.underlying106
 a25:=Tryz.isAgg106
 z25:=Tryz.sizeOf106
 v25:=Tryz.zeroValue106
 t39:=Tryz.underlying165
 a39:=Tryz.isAgg165
 z39:=Tryz.sizeOf165
 v39:=Tryz.zeroValue165
 t45:=Tryz.underlying212
 a45:=Tryz.isAgg212
 z45:=Tryz.sizeOf212
 v45:=Tryz.zeroValue212
 t46:=Tryz.underlying213
 a46:=Tryz.isAgg213
 z46:=Tryz.sizeOf213
 v46:=Tryz.zeroValue213
 t50:=Tryz.underlying53
 a50:=Tryz.isAgg53
 z50:=Tryz.sizeOf53
 v50:=Tryz.zeroValue53
 t53:=Tryz.underlying219
 a53:=Tryz.isAgg219
 z53:=Tryz.sizeOf219
 v53:=Tryz.zeroValue219
 t55:=Tryz.underlying221
 a55:=Tryz.isAgg221
 z55:=Tryz.sizeOf221
 v55:=Tryz.zeroValue221
 t66:=Tryz.underlying246
 a66:=Tryz.isAgg246
 z66:=Tryz.sizeOf246
 v66:=Tryz.zeroValue246
 t70:=Tryz.underlying250
 a70:=Tryz.isAgg250
 z70:=Tryz.sizeOf250
 v70:=Tryz.zeroValue250
 t76:=Tryz.underlying265
 a76:=Tryz.isAgg265
 z76:=Tryz.sizeOf265
 v76:=Tryz.zeroValue265
 t77:=Tryz.underlying266
 a77:=Tryz.isAgg266
 z77:=Tryz.sizeOf266
 v77:=Tryz.zeroValue266 }
end Go.Proofs.YtehhohbnhcogkaaGreatDoor.Ex
namespace Go.Proofs.YtehhohbnhcogkaaGreatDoor.Ex
open Go.RowKit Go.Proofs.YtehhohbnhcogkaaGreatDoor.Ax Go.Sort Go.Shelf Go.Lib
def JsA (x:Passage):List Value:=[.int .i64 x.Bag,.int .i64 x.From,.int .i64 x.To]
set_option maxHeartbeats 1000000 in
theorem Jsz (x y:Passage) (W:World):Calls Tryz.prog 43 #[.agg (JsA (Jli x)).toArray,.agg (JsA (Jli y)).toArray] W fun e w'=>e= .returned (.int .i64 (Yv x y))∧∃q os',w'=grow (W.drewN q) os':=by
 have hx:=Jlj x.From
 have hy:=Jlj y.From
 have hw:IntKind.i64.wrap (Jd4 x.From - Jd4 y.From)=Jd4 x.From - Jd4 y.From:=Jml (by omega) (by omega)
 change Calls Tryz.prog 43 #[.agg #[.int .i64 x.Bag,.int .i64 (Jd4 x.From),.int .i64 x.To],.agg #[.int .i64 y.Bag,.int .i64 (Jd4 y.From),.int .i64 y.To]] W fun e w'=>e= .returned (.int .i64 (Jd4 x.From - Jd4 y.From))∧∃q os',w'=grow (W.drewN q) os'
 generalize Jd4 x.From=a at hx hw ⊢
 generalize Jd4 y.From=b at hy hw ⊢
 go_enter Tryz.func43,Tryz.ntmps43
 go_wp2
 go_ret
 exact⟨rfl,0,_,by rw [alloc_eq_grow,alloc_eq_grow,grow_grow];rfl⟩
theorem JiN (l r:List Passage) (hF:Jji Jaw Yv l=some r):AC Tryz.prog 42 [.osl 0,.fn 43 []] [.row 3 (l.map JH)] (.tup []) [.row 3 (r.map JH)]:=by
 refine Jso Jsp 3 (by omega) Tryz.isAgg105 Tryz.sizeOf105 JH JsA Jli Jaw (fun x h=>JuI h) (fun _=>rfl) (fun _=>rfl) (fun x v hv=>by simp [JsA] at hv;rcases hv with rfl |rfl |rfl<;>rfl) (fun x u hu=>by simp [JH] at hu;rcases hu with rfl |rfl |rfl<;>rfl)
  (fun x w F β j u v hu hr=> ?_) (fun x w F β j u v hu hv=> ?_) Yv Jsy _ (enters_of Tryz.func43 (by kernel_rfl) rfl) (fun blk off size w m os dk _ x y=>Jsz x y _) l r hF
 .
  match j,hu with
  |0,hu=>cases hu;cases hr;rfl
  |1,hu=>cases hu;cases hr;rfl
  |2,hu=>cases hu;cases hr;rfl
 .
  match j,hu,hv with
  |0,hu,hv=>cases hu;cases hv;exact .int _ _
  |1,hu,hv=>cases hu;cases hv;exact .int _ _
  |2,hu,hv=>cases hu;cases hv;exact .int _ _
end Go.Proofs.YtehhohbnhcogkaaGreatDoor.Ex
namespace Go.Proofs.YtehhohbnhcogkaaGreatDoor.Ex
open Go.RowKit Go.Proofs.YtehhohbnhcogkaaGreatDoor.Ax
variable {E:List Int}
def Jho (E:List Int):List (List AV):=E.reverse.zipIdx.map fun p=>[.int .i64 ((E.length:Int) - 1 - (p.2:Int)),.int .i64 p.1]
theorem JjO (E:List Int):(Jho E).length=E.reverse.length:=by simp [Jho]
theorem Jn1 {k:Nat} {args:List AV} (h:(Jho E)[k]? =some args):∃e,E.reverse[k]? =some e∧args=[.int .i64 ((E.length:Int) - 1 - (k:Int)),.int .i64 e]:=by
 unfold Jho at h
 rw [Wp,List.getElem?_zipIdx] at h
 cases he:E.reverse[k]? with
 |none=>rw [he] at h;cases h
 |some e=>rw [he] at h;simp at h;exact⟨e,rfl,h.symm⟩
theorem JoU :∀args∈Jho E,args.length=2:=fun args h=>by
 obtain⟨k,hk⟩:=List.getElem?_of_mem h
 obtain⟨e,_,rfl⟩:=Jn1 hk
 rfl
def bmu (a:Act) (w:World):Nat:=match a.tmps.getD 3 undef with
 | .int _ n=>(n+1).toNat
 |_=>0
def Jgg (l:Nat) (E:List Int) (k:Nat):List (Nat×AV):=[(0,.val (.func (.yield l) #[] #[])),(1,.iptr [.lst 1 (E.map iA)]),(3,.int .i64 ((E.length:Int) - 1 - (k:Int)))]
theorem Jrq {l:Nat} {k:Nat} {F:Nat->Prop} {a:Act} {w:World} (h:IV 19 (eL (Jgg l E k)) F a w) (hk:k<=E.length):bmu a w=E.length - k:=by
 have h3:RV w F noB (.int .i64 ((E.length:Int) - 1 - (k:Int))) (a.tmps.getD 3 undef):=h.env 3
 unfold bmu
 generalize a.tmps.getD 3 undef=v at h3
 cases h3
 simp only
 omega
set_option maxRecDepth 100000 in
set_option maxHeartbeats 4000000 in
theorem JoC (E:List Int):JrF Tryz.prog 167 [.iptr [.lst 1 (E.map iA)]] (Jho E):=by
 intro l m cs J Jx hJ hJx hS hY W S F hJ0 hcs hgl hF
 obtain⟨c0,rfl⟩:∃c0,cs= #[c0]:=by
  have hs:cs.size=1:=hcs.1.symm
  exact⟨cs[0],by apply Array.ext;simp [hs];intro i h1 h2;simp at h2;subst h2;simp⟩
 have hc:=hcs.2 0 _ c0 rfl rfl
 have hlen:E.length<=9223372036854775807:=by
  have:=(YC hc.bnd.icell 0 rfl).len
  simpa using this
 refine calls_of_wp Tryz.func167 rfl ?_
 refine(wpIn_wide (n:=m+1)).1 ?_
 obtain⟨T0,hT0⟩:∃T0,T0=(#[Value.func (.yield l) #[] #[]]++ #[c0])++Array.replicate (19 - (#[Value.func (.yield l) #[] #[]]++ #[c0]).size) undef:=⟨_,rfl⟩
 have hs0:T0.size=19:=by rw [hT0];simp
 have g0:T0.getD 0 undef= .func (.yield l) #[] #[]:=by rw [hT0];simp
 have g1:T0.getD 1 undef=c0:=by rw [hT0];simp
 show Code.wpIn _ _ _ _ _ { tmps:=(#[Value.func (.yield l) #[] #[]]++ #[c0])++Array.replicate (19 - (#[Value.func (.yield l) #[] #[]]++ #[c0]).size) undef,defers:=[] } W
 rw [<-hT0]
 clear hT0
 have h0:IV 19 (eL [(0,.val (.func (.yield l) #[] #[])),(1,.iptr [.lst 1 (E.map iA)])]) F { tmps:=T0,defers:=[] } W:=by
  refine⟨hs0,rfl,fun t=> ?_,fun b hb=>(hF b hb).1,hgl⟩
  rcases Jbq [(0,.val (.func (.yield l) #[] #[])),(1,.iptr [.lst 1 (E.map iA)])] t with e |⟨p,hp,rfl,e⟩
  . rw [e];exact .any _
  .
   rw [e]
   simp only [List.mem_cons,List.not_mem_nil,or_false] at hp
   rcases hp with rfl |rfl
   .
    show RV W F noB (.val (.func (.yield l) #[] #[])) (T0.getD 0 undef)
    rw [g0]
    exact .val _
   .
    show RV W F noB (.iptr [.lst 1 (E.map iA)]) (T0.getD 1 undef)
    rw [g1]
    exact hc
 clear g0 g1 hs0
 refine wpIn_seq ?_
 refine IVd.reg (K:=fun σ=>σ.env 0= .val (.func (.yield l) #[] #[])∧σ.env 1= .iptr [.lst 1 (E.map iA)]∧σ.env 3= .int .i64 ((E.length:Int) - 1)) Jc h0 ?_ ?_
 .
  conv=>whnf
  refine Jm (enc:=iA) (l:=E) rfl ?_
  conv=>whnf
  refine⟨(E.length:Int) - 1,JkU rfl (by omega) (by omega),?_⟩
  conv=>whnf
  exact⟨rfl,rfl,rfl⟩
 rintro σ1 a1 W1 F1 ⟨k0,k1,k3⟩ hiv hsame hFF hF1
 have hj1:=hJ _ _ _ _ hJ0 hsame
 have hi1:=hiv (eL (Jgg l E 0)) (JbD fun p hp=>by
  simp only [Jgg,List.mem_cons,List.not_mem_nil,or_false] at hp
  rcases hp with rfl |rfl |rfl
  . exact⟨k0,rfl⟩
  . exact⟨k1,rfl⟩
  . exact⟨by rw [k3];simp,rfl⟩)
 have hS1:∀b,F1 b->¬S b:=fun b hb hs=>by
  rcases hF1 b hb with h |h
  . exact(hF b h).2 hs
  . have:=hS _ _ _ _ hJ0 hs;omega
 clear hiv k0 k1 k3 h0 hJ0 hcs hc hF hFF hF1 hsame
 refine wpIn_block ?_
 refine wpIn_loop (fun a w=>∃k F S,IV 19 (eL (Jgg l E k)) F a w∧J k S w∧(∀b,F b->¬S b)∧k<=E.length) bmu ⟨0,F1,S,hi1,hj1,hS1,Nat.zero_le _⟩ ?_
 clear hi1 hj1 hS1
 rintro a w ⟨k,F,S,hi,hj,hFS,hk⟩
 have hmu:=Jrq hi hk
 refine wpIn_seq ?_
 refine wpIn_seq ?_
 refine IVd.reg (K:=fun σ=>σ.env 0= .val (.func (.yield l) #[] #[])∧σ.env 1= .iptr [.lst 1 (E.map iA)]∧σ.env 3= .int .i64 ((E.length:Int) - 1 - (k:Int))∧σ.env 8= .bool (decide (0<=(E.length:Int) - 1 - (k:Int)))) Jc hi ?_ ?_
 .
  conv=>whnf
  exact⟨rfl,rfl,rfl,rfl⟩
 rintro σ1 a1 w1 F1 ⟨k0,k1,k3,k8⟩ hiv hsame hFF hF1
 have hj1:=hJ _ _ _ _ hj hsame
 have hS1:∀b,F1 b->¬S b:=fun b hb hs=>by
  rcases hF1 b hb with h |h
  . exact hFS b h hs
  . have:=hS _ _ _ _ hj hs;omega
 have hi1:=hiv (eL ((8,.bool (decide (0<=(E.length:Int) - 1 - (k:Int))))::Jgg l E k)) (JbD fun p hp=>by
  simp only [Jgg,List.mem_cons,List.not_mem_nil,or_false] at hp
  rcases hp with rfl |rfl |rfl |rfl
  . exact⟨k8,rfl⟩
  . exact⟨k0,rfl⟩
  . exact⟨k1,rfl⟩
  . exact⟨k3,rfl⟩)
 have h8:a1.tmps.getD 8 undef= .bool (decide (0<=(E.length:Int) - 1 - (k:Int))):=by
  have h3:RV w1 F1 noB (.bool (decide (0<=(E.length:Int) - 1 - (k:Int)))) (a1.tmps.getD 8 undef):=hi1.env 8
  generalize a1.tmps.getD 8 undef=v at h3
  cases h3
  rfl
 have hb1:=hiv (eL (Jgg l E k)) (JbD fun p hp=>by
  simp only [Jgg,List.mem_cons,List.not_mem_nil,or_false] at hp
  rcases hp with rfl |rfl |rfl
  . exact⟨k0,rfl⟩
  . exact⟨k1,rfl⟩
  . exact⟨k3,rfl⟩)
 clear hiv hi hj hFS hFF hF1 hsame hi1 k0 k1 k3 k8
 by_cases hlt:k<E.length
 rotate_left
 .
  have hke:k=E.length:=by omega
  refine wpIn_cond_false (show a1.tmps.getD 8 undef= .bool false by rw [h8];congr 1;exact We (by omega)) (wpIn_exit ?_)
  exact⟨hb1.defers,_,results_none rfl _ _ _,⟨_,rfl⟩,.inl ⟨S,by rw [JjO,List.length_reverse,<-hke];exact hj1⟩⟩
 refine wpIn_cond_true (show a1.tmps.getD 8 undef= .bool true by rw [h8];congr 1;exact Wd (by omega)) (wpIn_skip ?_)
 clear h8
 obtain⟨e,he⟩:∃e,E[E.length - 1 - k]? =some e:=⟨_,Wg (by omega)⟩
 have hrev:E.reverse[k]? =some e:=by rw [List.getElem?_reverse hlt];exact he
 refine wpIn_seq ?_
 refine wpIn_block ?_
 refine wpIn_seq ?_
 refine wpIn_region_list ?_
 refine IVd.ops (l:=[_,_,_,_,_,_]) (r:=[_,_]) (K:=fun σ=>σ.env 0= .val (.func (.yield l) #[] #[])∧σ.env 1= .iptr [.lst 1 (E.map iA)]∧σ.env 3= .int .i64 ((E.length:Int) - 1 - (k:Int))∧σ.env 11= .val (.func (.yield l) #[] #[])∧σ.env 12= .int .i64 ((E.length:Int) - 1 - (k:Int))∧σ.env 16= .int .i64 e) Jc hb1 ?_ ?_
 .
  conv=>whnf
  refine⟨E.length - 1 - k,iA e,by omega,by rw [Wp,he];rfl,?_⟩
  conv=>whnf
  exact⟨rfl,rfl,rfl,rfl,rfl,rfl⟩
 rintro σ2 a2 w2 F2 ⟨k0,k1,k3,k11,k12,k16⟩ hiv hsame hFF hF1
 have hj2:=hJ _ _ _ _ hj1 hsame
 have hS2:∀b,F2 b->¬S b:=fun b hb hs=>by
  rcases hF1 b hb with h |h
  . exact hS1 b h hs
  . have:=hS _ _ _ _ hj1 hs;omega
 have hi2:=hiv (eL ((11,.val (.func (.yield l) #[] #[]))::(12,.int .i64 ((E.length:Int) - 1 - (k:Int)))::(16,.int .i64 e)::Jgg l E k)) (JbD fun p hp=>by
  simp only [Jgg,List.mem_cons,List.not_mem_nil,or_false] at hp
  rcases hp with rfl |rfl |rfl |rfl |rfl |rfl
  . exact⟨k11,rfl⟩
  . exact⟨k12,rfl⟩
  . exact⟨k16,rfl⟩
  . exact⟨k0,rfl⟩
  . exact⟨k1,rfl⟩
  . exact⟨k3,rfl⟩)
 have hb2:=hiv (eL (Jgg l E k)) (JbD fun p hp=>by
  simp only [Jgg,List.mem_cons,List.not_mem_nil,or_false] at hp
  rcases hp with rfl |rfl |rfl
  . exact⟨k0,rfl⟩
  . exact⟨k1,rfl⟩
  . exact⟨k3,rfl⟩)
 have x11:=hi2.val (t:=11) rfl
 have x12:=hi2.int (t:=12) rfl
 have x16:=hi2.int (t:=16) rfl
 have hbk:(Jho E)[k]? =some [.int .i64 ((E.length:Int) - 1 - (k:Int)),.int .i64 e]:=by
  unfold Jho
  rw [Wp,List.getElem?_zipIdx,hrev]
  simp
 clear hiv hi2 k0 k1 k3 k11 k12 k16 hsame hFF hF1 hj1 hS1 hb1
 refine JkT (l:=l) (vs:= #[.int .i64 ((E.length:Int) - 1 - (k:Int)),.int .i64 e]) rfl rfl x11 ?_ (hY k S w2 _ _ hj2 hbk ⟨rfl,fun j u v hu hv=> ?_⟩) ?_
 . rw [show (#[Operand.tmp 12,Operand.tmp 16]:Array Operand).map a2.eval= #[a2.eval (.tmp 12),a2.eval (.tmp 16)] from by simp,show a2.eval (.tmp 12)=_ from x12,show a2.eval (.tmp 16)=_ from x16]
 .
  match j,hu,hv with
  |0,hu,hv=>cases hu;cases hv;exact .int _ _
  |1,hu,hv=>cases hu;cases hv;exact .int _ _
 have hsz2:=hb2.size
 rintro ee W' (⟨rfl,hge,hsm,S',hj3,hS3⟩|⟨rfl,hx⟩)
 .
  refine⟨true,rfl,Jj7 rfl rfl (show (a2.put (some 17) _).tmps.getD 17 undef= .bool true from JfD (by omega)) (wpListIn_nil ?_)⟩
  have hF3:∀b,F2 b->W'.heap[b]? =w2.heap[b]? :=fun b hb=>hsm b (hb2.fr b hb) (hS2 b hb)
  have hi3:=((hb2.world hge hF3).put (d:=17) (x:= .bool true) (v:= .bool true) (by omega) (.bool _)).put (d:=18) (x:= .bool false) (v:= .bool false) (by omega) (.bool _)
  refine wpIn_cond_false (hi3.bool (t:=18) rfl) (wpIn_skip ?_)
  have hi4:IV 19 (eL (Jgg l E k)) F2 ((a2.put (some 17) (.bool true)).put (some 18) (.bool false)) W':=by
   refine⟨hi3.size,hi3.defers,fun t=> ?_,hi3.fr,hi3.glo⟩
   have:=hi3.env t
   by_cases h18:t=18
   . subst h18;exact .any _
   .
    by_cases h17:t=17
    . subst h17;exact .any _
    .
     rw [Jc6 _ _ h18,Jc6 _ _ h17] at this
     exact this
  refine IVd.reg (K:=fun σ=>σ.env 0= .val (.func (.yield l) #[] #[])∧σ.env 1= .iptr [.lst 1 (E.map iA)]∧σ.env 3= .int .i64 ((E.length:Int) - 1 - ((k+1:Nat):Int))) Jc hi4 ?_ ?_
  .
   conv=>whnf
   refine⟨(E.length:Int) - 1 - ((k+1:Nat):Int),JkU (by omega) (by omega) (by omega),?_⟩
   conv=>whnf
   exact⟨rfl,rfl,rfl⟩
  rintro σ5 a5 w5 F5 ⟨k0,k1,k3⟩ hiv hsame hFF hF1
  have hi5:=hiv (eL (Jgg l E (k+1))) (JbD fun p hp=>by
   simp only [Jgg,List.mem_cons,List.not_mem_nil,or_false] at hp
   rcases hp with rfl |rfl |rfl
   . exact⟨k0,rfl⟩
   . exact⟨k1,rfl⟩
   . exact⟨k3,rfl⟩)
  have h5:=Jrq hi5 (by omega)
  refine⟨⟨k+1,F5,S',hi5,hJ _ _ _ _ hj3 hsame,fun b hb hs=> ?_,by omega⟩,by rw [h5,hmu];omega⟩
  rcases hF1 b hb with h |h
  .
   rcases hS3 b hs with q |q
   . exact hS2 b h q
   . have:=hb2.fr b h;omega
  . have:=hS _ _ _ _ hj3 hs;omega
 .
  refine⟨false,rfl,Jj7 rfl rfl (show (a2.put (some 17) _).tmps.getD 17 undef= .bool false from JfD (by omega)) (wpListIn_nil ?_)⟩
  refine wpIn_cond_true (show ((a2.put (some 17) _).put (some 18) _).tmps.getD 18 undef= .bool true from JfD (by simp [Act.put];omega)) (wpIn_ret ?_)
  exact⟨hb2.defers,_,results_none rfl _ _ _,⟨_,rfl⟩,.inr hx⟩
end Go.Proofs.YtehhohbnhcogkaaGreatDoor.Ex
namespace Go.Proofs.YtehhohbnhcogkaaGreatDoor.Ax
open Go.RowKit
variable {w:World} {β:Nat->Option Hdr} {sz:Nat} {xs:List (List AV)}
theorem Jc7 (P:Program) (w:World) (b o:Nat) (cur:Array Value) (ty:TypeId) (vs:List Value) (hg:w.heap[b]? =some (.cells cur ty (0,0))) (hf:o+vs.length<=cur.size) (h1:∀v∈vs,v.oneCell'=true):
  w.setCells b o vs=w.setRow b (cur.toList.take o++vs++cur.toList.drop (o+vs.length)).toArray:=by
 have e1:=run_storeCells_at P b o ty vs 0 cur w hg (by simpa using hf) h1
 have e2:=run_storeCells_cells (P:=P) b o vs 0 w (fun j hj=>by
  have:o+0+j<cur.size:=by omega
  simp [World.cell?,hg,this];omega) (fun j hj=>by simp [World.frozen?,hg]) h1
 simp only [Nat.add_zero] at e1 e2
 rw [e1] at e2
 injection e2 with _ e3
 exact e3.symm
theorem Jdd.take {F:Nat->Prop} {cs:List Value} (h:Jdd w F β sz xs cs) {i:Nat} (hi:i<=xs.length):Jdd w F β sz (xs.take i) (cs.take (i*sz)):=by
 obtain⟨h1,h2,h3⟩:=h
 have hle:i*sz<=cs.length:=by rw [h1];exact Nat.mul_le_mul_right _ hi
 refine⟨by rw [List.length_take,List.length_take,Nat.min_eq_left hle,Nat.min_eq_left hi],fun k c hk=> ?_,fun k c j u hk hj=> ?_⟩
 .
  rw [List.getElem?_take] at hk
  split at hk
  . exact h2 k c hk
  . cases hk
 .
  rw [List.getElem?_take] at hk
  split at hk
  .
   rename_i hki
   obtain⟨v,e1,e2⟩:=h3 k c j u hk hj
   have hj':=(List.getElem?_eq_some_iff.1 hj).1
   rw [(h2 k c hk).1] at hj'
   exact⟨v,by rw [List.getElem?_take,if_pos (Jdc hki hj')];exact e1,e2⟩
  . cases hk
theorem Jdd.drop {F:Nat->Prop} {cs:List Value} (h:Jdd w F β sz xs cs) (i:Nat):Jdd w F β sz (xs.drop i) (cs.drop (i*sz)):=by
 obtain⟨h1,h2,h3⟩:=h
 refine⟨by rw [List.length_drop,List.length_drop,h1,Nat.sub_mul],fun k c hk=> ?_,fun k c j u hk hj=> ?_⟩
 .
  rw [List.getElem?_drop] at hk
  exact h2 _ c hk
 .
  rw [List.getElem?_drop] at hk
  obtain⟨v,e1,e2⟩:=h3 _ c j u hk hj
  exact⟨v,by rw [List.getElem?_drop,<-e1];congr 1;rw [Nat.add_mul];omega,e2⟩
theorem JbY {h:Hdr} {i:Nat}:QS h (.row sz xs) i↔h.blk=some i:=⟨fun e=>e.elim (fun x=>x) False.elim,.inl⟩
theorem JnE {C:Ctx} {args:List AV} {ys zs:List (List AV)} {T:Array Value} {w':World} {F:Nat->Prop} (h:RelB C (Qj 2) (entry args [.row sz xs,.row sz ys]) ⟨T,[]⟩ w β F) {g:Hdr} (hg:β 0=some g) (g':Hdr) (hs:Same w w' g.blk)
  (hg':g'.blk=g.blk∨∃b,g'.blk=some b∧w.heap.size<=b∧b<w'.heap.size) (hb:YE w' F (Yg β 2 g') g' (.row sz zs)):
  Rel { C with nt:=1 } (Qj 3) (entry [.osl 2] [.dead,.row sz ys,.row sz zs]) ⟨#[.slice (J5 g'.blk 0) g'.len g'.cap],[]⟩ w':=by
 obtain⟨g0,q1,_,q3⟩:=h.live 0 _ rfl
 obtain⟨g1,p1,_,p3⟩:=h.live 1 _ rfl
 rw [hg] at q1
 cases q1
 have hn:¬Qj 2 2:=fun(e:2<2)=>by omega
 have hβ:=JaZ g' (h.fresh hn)
 have h01:∀i,g.blk=some i->g1.blk=some i->False:=fun i e1 e2=>by
  have:=h.inj 0 1 _ _ g g1 i rfl rfl hg p1 (JbY.2 e1) (JbY.2 e2)
  omega
 have hH:∀id k,(entry [.osl 2] [.dead,.row sz ys,.row sz zs]).H id=some k->(id=1∧k= .row sz ys)∨(id=2∧k= .row sz zs):=fun id k e=>by
  obtain⟨e1,e2⟩:=Ja2 e
  match id,e1 with
  |0,e1=>cases e1;cases e2
  |1,e1=>cases e1;exact .inl ⟨rfl,rfl⟩
  |2,e1=>cases e1;exact .inr ⟨rfl,rfl⟩
 have h1':Yg β 2 g' 1=some g1:=hβ 1 g1 p1
 have hd:∀i,g1.blk=some i->g'.blk=some i->False:=fun i e1 e2=>by
  rcases hg' with e |⟨b,e,e3,_⟩
  . exact h01 i (e▸e2) e1
  .
   rw [e] at e2
   cases e2
   have:=(p3 _ (JbY.2 e1)).1
   omega
 have q:=h.step hs (fun i e=>by
   obtain⟨r1,r2,r3⟩:=q3 i (JbY.2 e)
   refine⟨r2,fun hi=> ?_⟩
   rcases r3 with r3 |r3
   . exact r3
   . omega) (Qj 3) (fun i (hi:i<2)=>(show i<3 by omega)) (entry [.osl 2] [.dead,.row sz ys,.row sz zs]).H (Yg β 2 g') hβ (fun id g2 e=>by
   by_cases hid:id=2
   . subst hid;exact(show 2<3 by omega)
   .
    unfold Yg at e;rw [if_neg hid] at e
    have:id<2:=h.dom id g2 e
    exact(show id<3 by omega)) (fun id k e=>by
   rcases hH id k e with⟨rfl,rfl⟩|⟨rfl,rfl⟩
   .
    refine .inl ⟨rfl,fun g2 i e1 e2 e3=> ?_⟩
    rw [p1] at e1
    cases e1
    exact h01 i e3.symm (JbY.1 e2)
   .
    refine .inr ⟨g',J7 _ _ _,hb,fun i hi0=> ?_⟩
    have hi:=JbY.1 hi0
    rcases hg' with e2 |⟨b,e2,e3,e4⟩
    .
     obtain⟨r1,r2,r3⟩:=q3 i (JbY.2 (e2▸hi))
     exact⟨Nat.lt_of_lt_of_le r1 hs.size,r2,r3⟩
    .
     rw [e2] at hi
     cases hi
     exact⟨e4,fun hf=>by have:=(h.news _ hf).1;omega,.inr (Nat.le_trans h.grow e3)⟩) (fun id id' k k' g2 g3 i e1 e2 e3 e4 e5 e6=>by
   rcases hH id k e1 with⟨rfl,rfl⟩|⟨rfl,rfl⟩<;>rcases hH id' k' e2 with⟨rfl,rfl⟩|⟨rfl,rfl⟩
   . rfl
   . rw [h1'] at e3;rw [J7] at e4;cases e3;cases e4;exact(hd i (JbY.1 e5) (JbY.1 e6)).elim
   . rw [h1'] at e4;rw [J7] at e3;cases e3;cases e4;exact(hd i (JbY.1 e6) (JbY.1 e5)).elim
   . rfl)
 refine⟨Yg β 2 g',F,⟨fun t=> ?_,rfl,q.defers,q.live,q.inj,q.dom,q.gr,q.sub,q.news,q.os,q.tape,q.output,q.grow,q.block,q.glo⟩⟩
 match t with
 |0=>exact .osl 2 g' (J7 _ _ _)
 |t+1=>exact .any _
theorem Jjm {C:Ctx} {res:AV} {ys:List (List AV)} {z:ABlk} {a:Act} (h:Rel C (Qj 3) (entry [res] [.dead,.row sz ys,z]) a w):Rel C (Qj 3) (entry [res] [.dead,.dead,z]) a w:=by
 obtain⟨β,F,h⟩:=h
 have hH:∀id k,(entry [res] [.dead,.dead,z]).H id=some k->(entry [res] [.dead,.row sz ys,z]).H id=some k:=fun id k e=>by
  match id,e with
  |0,e=>exact e
  |1,e=>cases e
  |n+2,e=>exact e
 exact⟨β,F,⟨h.env,h.size,h.defers,fun id k e=>h.live id k (hH id k e),fun id id' k k' g g' b e1 e2=>h.inj id id' k k' g g' b (hH id k e1) (hH id' k' e2),h.dom,h.gr,h.sub,h.news,h.os,h.tape,h.output,h.grow,h.block,h.glo⟩⟩
end Go.Proofs.YtehhohbnhcogkaaGreatDoor.Ax
namespace Go.Proofs.YtehhohbnhcogkaaGreatDoor.Ex
def Jhk:Go.Shelf.Ren:=⟨fun |21=>125 |27=>174 |28=>175 |35=>198 |39=>208 |n=>n,fun |22=>22 |3=>3 |4=>4 |0=>0 |n=>n,fun |n=>n⟩
theorem Jkl:Go.Proofs.Lays2.n21 Tryz.prog Jhk:={
 mixed:=by kernel_rfl
 f21:=Tryz.func125.trans (congrArg some (by kernel_rfl))
 f27:=Tryz.func174.trans (congrArg some (by kernel_rfl))
 f28:=Tryz.func175.trans (congrArg some (by kernel_rfl))
 f35:=Tryz.func198.trans (congrArg some (by kernel_rfl))
 f39:=Tryz.func208.trans (congrArg some (by kernel_rfl))
 t0:=Tryz.underlying0
 a0:=Tryz.isAgg0
 z0:=Tryz.sizeOf0
 v0:=Tryz.zeroValue0
 t3:=Tryz.underlying3
 a3:=Tryz.isAgg3
 z3:=Tryz.sizeOf3
 v3:=Tryz.zeroValue3
 t4:=Tryz.underlying4
 a4:=Tryz.isAgg4
 z4:=Tryz.sizeOf4
 v4:=Tryz.zeroValue4
 t22:=Tryz.underlying22
 a22:=Tryz.isAgg22
 z22:=Tryz.sizeOf22
 v22:=Tryz.zeroValue22
 i3:=by kernel_rfl }
end Go.Proofs.YtehhohbnhcogkaaGreatDoor.Ex
namespace Go.Proofs.YtehhohbnhcogkaaGreatDoor.Insint
open Go.Shelf Go.RowKit Go.Lib
variable {vals:Array Value}
set_option maxHeartbeats 4000000 in
set_option maxRecDepth 100000 in
theorem shift (b n c i vb voff m vc:Nat) (cs vs:List Value) (w:World) (hi:i<n) (hm:0<m) (hroom:n+m<=c) (hc63:c<=9223372036854775807) (hvb:vb≠b)
  (hcl:cs.length=n*1) (hvl:vs.length=m*1)
  (hcs:∀j v,cs[j]? =some v->w.cell? ⟨b,j,none⟩=some v) (hsp:∀j,j<(n+m)*1->(w.cell? ⟨b,j,none⟩).isSome=true) (hfz:∀j,j<(n+m)*1->w.frozen? ⟨b,j,none⟩=false)
  (hvs:∀j v,vs[j]? =some v->w.cell? ⟨vb,voff+j,none⟩=some v) (h1c:∀v∈cs,v.oneCell'=true) (h1v:∀v∈vs,v.oneCell'=true)
  (tA tB:TypeId) (kA kB:Nat) (hsa:w.shape? vb=some (tA,kA)) (hsb:w.shape? b=some (tB,kB)) (hkB:kB≠0) (hfa:w.frozen? ⟨vb,voff,none⟩=false) (hfe:w.frozen? ⟨vb,kA,none⟩=false):
  Calls Tryz.prog 125 #[.slice (some ⟨b,0,none⟩) n c,.int .i64 i,.slice (some ⟨vb,voff,none⟩) m vc] w fun e w'=>
   e= .returned (.slice (some ⟨b,0,none⟩) (n+m) c)∧w'=(w.drew.setCells b ((i+m)*1) (cs.drop (i*1))).setCells b (i*1) vs:=by
 have:=Any2.slices_Insert_int_shift Ex.Jkl b 0 n c i vb voff m vc cs vs w hi hm hroom hc63 hvb (by simpa using hcl) (by simpa using hvl) (by simpa using hcs) (by simpa using hsp) (by simpa using hfz) hvs h1c h1v tA tB kA kB hsa hsb hkB hfa hfe
 simp only [Nat.zero_add,Nat.mul_one] at this ⊢
 exact this
theorem Juk:∃i0 z,Tryz.prog.info? 3=some i0∧i0.zero=some z∧i0.size=1∧z.cells.size=1∧i0.bytes<=8388608:=by
 have h:(match Tryz.prog.info? 3 with
  |some i=>match i.zero with
   |some z=>i.size==1&&z.cells.size==1&&Nat.ble i.bytes 8388608
   |none=>false
  |none=>false)=true:=by kernel_rfl
 split at h
 .
  rename_i i hi
  split at h
  .
   rename_i z hz
   simp only [Bool.and_eq_true,beq_iff_eq] at h
   exact⟨i,z,hi,hz,h.1.1,h.1.2,Wl h.2⟩
  . cases h
 . cases h
theorem Jsk (z:Value) (h:z.cells.size=1) (k:Nat):(Builtin.zeroCells z.cells k).size=k*1:=by
 simp [Builtin.zeroCells,h]
set_option maxHeartbeats 4000000 in
set_option maxRecDepth 100000 in
theorem grow (z:Value) (i0:TypeInfo) (hi0:Tryz.prog.info? 3=some i0) (hz0:i0.zero=some z) (hzs:i0.size=1) (hzc:z.cells.size=1) (b n c i vb voff m vc:Nat) (cs vs:List Value) (w:World) (hi:i<n) (hm:0<m) (hnc:n<=c) (hroom:c<n+m) (hbig:(n+m)*i0.bytes<=140737488355328) (hbig2:n+m<=16777216)
  (hcl:cs.length=n*1) (hvl:vs.length=m*1)
  (hcs:∀j v,cs[j]? =some v->w.cell? ⟨b,j,none⟩=some v)
  (hvs:∀j v,vs[j]? =some v->w.cell? ⟨vb,voff+j,none⟩=some v) (h1c:∀v∈cs,v.oneCell'=true) (h1v:∀v∈vs,v.oneCell'=true):
  Calls Tryz.prog 125 #[.slice (some ⟨b,0,none⟩) n c,.int .i64 i,.slice (some ⟨vb,voff,none⟩) m vc] w fun e w'=>
   e= .returned (.slice (some ⟨w.heap.size,0,none⟩) (n+m) (grownCap w (n+m) c 3))∧
   w'=(((w.alloc (.cells ((cs.take (i*1)).toArray++Builtin.zeroCells z.cells (n+m - i)++Builtin.zeroCells z.cells (grownCap w (n+m) c 3 - (n+m))) 3)).drew.setCells w.heap.size (i*1) vs).drew).setCells w.heap.size ((i+m)*1) (cs.drop (i*1)):=by
 have hz:z= .int .i64 0:=by
  have h0:=Ex.Jkl.v3 w
  simp [zeroValue,run_typeInfo w hi0,hz0,Ex.Jhk] at h0
  exact h0
 subst hz
 have hby:i0.bytes=8:=by
  have h1:(Tryz.prog.info? 3).map (·.bytes)=some 8:=by kernel_rfl
  rw [hi0] at h1
  exact Wi h1
 have:=Any2.slices_Insert_int_grow Ex.Jkl b 0 n c i vb voff m vc cs vs w hi hm hnc hroom (by rw [<-hby];exact hbig) (by simpa using hcl) (by simpa using hvl) (by simpa using hcs) hvs h1c h1v
 simp only [Nat.zero_add,Nat.mul_one] at this ⊢
 exact this
open Go.Proofs.YtehhohbnhcogkaaGreatDoor.Ax
set_option maxRecDepth 100000 in
set_option maxHeartbeats 4000000 in
theorem JsT (xs ys:List (List AV)) (k:Nat) (hk:k<xs.length) (hy:0<ys.length) (hlen:xs.length+ys.length<=16777216) {C:Ctx} {w:World} {β:Nat->Option Hdr} {F:Nat->Prop} (hv:vals.size=3)
  (hB:RelB C (Qj 2) (entry [.osl 0,.int .i64 (k:Nat),.osl 1] [.row 1 xs,.row 1 ys]) ⟨vals,[]⟩ w β F):
  Calls Tryz.prog 125 vals w fun e w'=>∃v,e= .returned v∧Rel { C with nt:=1 } (Qj 3) (entry [.osl 2] [.dead,.row 1 ys,.row 1 (xs.take k++ys++xs.drop k)]) ⟨#[v],[]⟩ w':=by
 obtain⟨v0,v1,v2,rfl⟩:∃v0 v1 v2,vals= #[v0,v1,v2]:=⟨vals[0],vals[1],vals[2],by
  apply Array.ext
  . simpa using hv
  .
   intro i h1 h2
   have:i<3:=by omega
   match i,this with
   |0,_=>rfl
   |1,_=>rfl
   |2,_=>rfl⟩
 have q0:RV w F β (.osl 0) v0:=hB.env 0
 have q1:RV w F β (.int .i64 (k:Nat)) v1:=hB.env 1
 have q2:RV w F β (.osl 1) v2:=hB.env 2
 obtain⟨g,hg,hbg,hlg⟩:=hB.live 0 (.row 1 xs) rfl
 obtain⟨g1,hg1,hbg1,hlg1⟩:=hB.live 1 (.row 1 ys) rfl
 cases q1
 cases q0 with
 |osl _ h e=>
 rw [hg] at e
 cases e
 cases q2 with
 |osl _ h e=>
 rw [hg1] at e
 cases e
 have hbg0:=hbg
 obtain⟨p1,p2,p3,p4,p5,p6⟩:=hbg0
 obtain⟨r1,r2,r3,r4,r5,r6⟩:=hbg1
 obtain⟨b,hb⟩:∃b,g.blk=some b:=by
  cases e:g.blk with
  |none=>have:=p4 e;omega
  |some b=>exact⟨b,rfl⟩
 obtain⟨vb,hvb⟩:∃b,g1.blk=some b:=by
  cases e:g1.blk with
  |none=>have:=r4 e;omega
  |some b=>exact⟨b,rfl⟩
 have hne:vb≠b:=fun e=>by
  subst e
  have:=hB.inj 0 1 _ _ g g1 vb rfl rfl hg hg1 (.inl hb) (.inl hvb)
  omega
 obtain⟨arr,ty,a1,a2,a3⟩:=Je8 hbg hb (lo:=0) (n:=xs.length) (by omega)
 obtain⟨arr1,ty1,b1,b2,b3⟩:=Je8 (h:=⟨r1,r2,r3,r4,r5,r6⟩) hvb (lo:=0) (n:=ys.length) (by omega)
 simp only [List.drop_zero,Nat.zero_mul,List.take_length] at a3 b3
 have a4:xs.length*1<=arr.size:=Nat.le_trans (Nat.mul_le_mul_right _ p2) a2
 have b4:ys.length*1<=arr1.size:=Nat.le_trans (Nat.mul_le_mul_right _ r2) b2
 have hcs:∀j v,(arr.toList.take (xs.length*1))[j]? =some v->w.cell? ⟨b,j,none⟩=some v:=fun j v hj=>by
  rw [List.getElem?_take] at hj
  split at hj
  . rw [Wu] at hj;simp [World.cell?,a1,hj]
  . cases hj
 have hvs:∀j v,(arr1.toList.take (ys.length*1))[j]? =some v->w.cell? ⟨vb,0+j,none⟩=some v:=fun j v hj=>by
  rw [List.getElem?_take] at hj
  split at hj
  . rw [Wu] at hj;simp [World.cell?,b1,hj]
  . cases hj
 have hcl:(arr.toList.take (xs.length*1)).length=xs.length*1:=by
  have e0:arr.toList.length=arr.size:=Array.length_toList
  rw [List.length_take];omega
 have hvl:(arr1.toList.take (ys.length*1)).length=ys.length*1:=by
  have e0:arr1.toList.length=arr1.size:=Array.length_toList
  rw [List.length_take];omega
 have h1c:=a3.one
 have h1v:=b3.one
 have hcat:=((a3.take (i:=k) (by omega)).append b3).append (a3.drop k)
 have hzl:(xs.take k++ys++xs.drop k).length=xs.length+ys.length:=by simp;omega
 generalize hcsE:arr.toList.take (xs.length*1)=cs at a3 hcs hcl h1c hcat
 generalize hvsE:arr1.toList.take (ys.length*1)=vs at b3 hvs hvl h1v hcat
 have hml:maxLen=9223372036854775807:=rfl
 rw [hb,hvb]
 simp only [J5,Option.map_some,p1,r1]
 by_cases hroom:xs.length+ys.length<=g.cap
 .
  have hsz:(xs.length+ys.length)*1<=arr.size:=Nat.le_trans (Nat.mul_le_mul_right _ hroom) a2
  refine(shift b xs.length g.cap k vb 0 ys.length g1.cap cs vs w hk hy hroom (by omega) hne hcl hvl hcs (fun j hj=>by
    have:j<arr.size:=by omega
    simp [World.cell?,a1,this]) (fun j hj=>by simp [World.frozen?,a1]) hvs h1c h1v ty1 ty arr1.size arr.size (by simp [World.shape?,b1]) (by simp [World.shape?,a1]) (by omega) (by simp [World.frozen?,b1]) (by simp [World.frozen?,b1])).mono ?_
  rintro e w' ⟨rfl,rfl⟩
  have hdl:(cs.drop (k*1)).length=(xs.length - k)*1:=by rw [List.length_drop,hcl];omega
  have a1':w.drew.heap[b]? =some (.cells arr ty (0,0)):=a1
  have e1:=Jc7 Tryz.prog w.drew b ((k+ys.length)*1) arr ty (cs.drop (k*1)) a1' (by omega) (fun v hv=>h1c v (List.mem_of_mem_drop hv))
  rw [e1]
  generalize hA1:(arr.toList.take ((k+ys.length)*1)++cs.drop (k*1)++arr.toList.drop ((k+ys.length)*1+(cs.drop (k*1)).length)).toArray=A1
  have hA1s:A1.size=arr.size:=by
   rw [<-hA1]
   simp only [List.size_toArray,List.length_append,List.length_take,List.length_drop,Array.length_toList,hcl]
   omega
  have hh1:(w.drew.setRow b A1).heap[b]? =some (.cells A1 ty (0,0)):=setRow_heap w.drew b arr _ ty _ a1'
  have e2:=Jc7 Tryz.prog (w.drew.setRow b A1) b (k*1) A1 ty vs hh1 (by omega) h1v
  rw [e2]
  generalize hA2:(A1.toList.take (k*1)++vs++A1.toList.drop (k*1+vs.length)).toArray=A2
  have hh2:((w.drew.setRow b A1).setRow b A2).heap[b]? =some (.cells A2 ty (0,0)):=setRow_heap _ b A1 _ ty _ hh1
  have hlook:∀p,p<(cs.take (k*1)++vs++cs.drop (k*1)).length->A2[p]? =(cs.take (k*1)++vs++cs.drop (k*1))[p]? :=fun p hp=>by
   have hcat:=hcat.1
   have eA1:A1.toList.length=A1.size:=Array.length_toList
   have eA0:arr.toList.length=arr.size:=Array.length_toList
   have hct:(cs.take (k*1)).length=k*1:=by rw [List.length_take,hcl];omega
   rw [<-hA2,List.getElem?_toArray,List.append_assoc,ZA (by omega),hvl]
   rw [List.append_assoc]
   by_cases c1:p<k*1
   . rw [if_pos c1,Wc (by omega),<-hA1,Wu,List.getElem?_toArray,List.append_assoc,ZA (by omega),if_pos (show p<(k+ys.length)*1 by omega),List.getElem?_take,if_pos c1,<-hcsE,List.getElem?_take,if_pos (by omega)]
   .
    rw [if_neg c1,List.getElem?_append_right (by omega),hct]
    by_cases c2:p<k*1+ys.length*1
    . rw [if_pos c2,Wc (by omega)]
    .
     rw [if_neg c2,List.getElem?_append_right (by omega),hvl,<-hA1,Wu,List.getElem?_toArray,List.append_assoc,ZA (by omega)]
     rw [List.length_append,List.length_append,hct,hvl,hdl] at hp
     rw [if_neg (by omega),if_pos (by omega)]
     congr 1
     omega
  have hsame:Same w ((w.drew.setRow b A1).setRow b A2) g.blk:=by
   rw [hb]
   exact⟨rfl,.it,rfl,by simp,fun j hj hn=>by
    rw [setRow_other _ b j _ (fun e=>hn (by rw [e])),setRow_other _ b j _ (fun e=>hn (by rw [e]))]
    rfl⟩
  have hFw:∀j,F j->((w.drew.setRow b A1).setRow b A2).heap[j]? =w.heap[j]? :=fun j hj=>hsame.block j (hB.news j hj).1 (fun e=>(hlg b (.inl hb)).2.1 (by rw [hb] at e;cases e;exact hj))
  have hn2:β 2=none:=hB.fresh (fun(e:2<2)=>by omega)
  have hfl2:=hcat.mono (F':=F) (w':=(w.drew.setRow b A1).setRow b A2) (β':=Yg β 2 (YN (some b) (xs.take k++ys++xs.drop k).length g.cap)) (fun _ x=>x) hFw (JaZ _ hn2)
  have hA2s:A2.size=arr.size:=by
   rw [<-hA2]
   simp only [List.size_toArray,List.length_append,List.length_take,List.length_drop,Array.length_toList,hvl]
   omega
  have hblk:=Jeo hfl2 hh2 hlook (cap:=g.cap) (by rw [hA2s];exact a2) (by rw [hzl];exact hroom) (by omega)
  have hr:=JnE hB hg (YN (some b) (xs.take k++ys++xs.drop k).length g.cap) hsame (.inl (by rw [hb])) hblk
  refine⟨_,rfl,?_⟩
  have e3:(Value.slice (some ⟨b,0,none⟩) (xs.length+ys.length) g.cap)= .slice (J5 (some b) 0) (xs.take k++ys++xs.drop k).length g.cap:=by rw [hzl];rfl
  rw [e3]
  exact hr
 .
  obtain⟨i0,z,hi0,hz0,hzs,hzc,hby⟩:=Juk
  have hbig:(xs.length+ys.length)*i0.bytes<=140737488355328:=Nat.le_trans (Nat.mul_le_mul hlen hby) (by decide)
  refine(grow z i0 hi0 hz0 hzs hzc b xs.length g.cap k vb 0 ys.length g1.cap cs vs w hk hy p2 (by omega) hbig hlen hcl hvl hcs hvs h1c h1v).mono ?_
  rintro e w' ⟨rfl,rfl⟩
  have hGn:xs.length+ys.length<=grownCap w (xs.length+ys.length) g.cap 3:=grownCap_ge w _ _ _
  have hG63:grownCap w (xs.length+ys.length) g.cap 3<=maxLen:=grownCap_le_maxLen w (xs.length+ys.length) g.cap 3 (by unfold maxLen;omega)
  generalize grownCap w (xs.length+ys.length) g.cap 3=G at hGn hG63 ⊢
  have hdl:(cs.drop (k*1)).length=(xs.length - k)*1:=by rw [List.length_drop,hcl];omega
  have hct:(cs.take (k*1)).length=k*1:=by rw [List.length_take,hcl];omega
  generalize hR:(cs.take (k*1)).toArray++Builtin.zeroCells z.cells (xs.length+ys.length - k)++Builtin.zeroCells z.cells (G - (xs.length+ys.length))=ROW
  have hRs:ROW.size=G*1:=by
   rw [<-hR]
   simp only [Array.size_append,Jsk z hzc,List.size_toArray,hct]
   omega
  have hh0:((w.alloc (.cells ROW 3)).drew).heap[w.heap.size]? =some (.cells ROW 3 (0,0)):=heap_alloc_new w (.cells ROW 3)
  rw [Jc7 Tryz.prog _ w.heap.size (k*1) ROW 3 vs hh0 (by omega) h1v]
  generalize hA1:(ROW.toList.take (k*1)++vs++ROW.toList.drop (k*1+vs.length)).toArray=A1
  have eR:ROW.toList.length=ROW.size:=Array.length_toList
  have hA1s:A1.size=G*1:=by
   rw [<-hA1]
   simp only [List.size_toArray,List.length_append,List.length_take,List.length_drop,hvl]
   omega
  have hh1:((((w.alloc (.cells ROW 3)).drew).setRow w.heap.size A1).drew).heap[w.heap.size]? =some (.cells A1 3 (0,0)):=setRow_heap _ w.heap.size ROW _ 3 _ hh0
  rw [Jc7 Tryz.prog _ w.heap.size ((k+ys.length)*1) A1 3 (cs.drop (k*1)) hh1 (by omega) (fun v hv=>h1c v (List.mem_of_mem_drop hv))]
  generalize hA2:(A1.toList.take ((k+ys.length)*1)++cs.drop (k*1)++A1.toList.drop ((k+ys.length)*1+(cs.drop (k*1)).length)).toArray=A2
  have eA1:A1.toList.length=A1.size:=Array.length_toList
  have hA2s:A2.size=G*1:=by
   rw [<-hA2]
   simp only [List.size_toArray,List.length_append,List.length_take,List.length_drop,hdl]
   omega
  have hh2:(((((w.alloc (.cells ROW 3)).drew).setRow w.heap.size A1).drew).setRow w.heap.size A2).heap[w.heap.size]? =some (.cells A2 3 (0,0)):=setRow_heap _ w.heap.size A1 _ 3 _ hh1
  have hlook:∀p,p<(cs.take (k*1)++vs++cs.drop (k*1)).length->A2[p]? =(cs.take (k*1)++vs++cs.drop (k*1))[p]? :=fun p hp=>by
   rw [List.length_append,List.length_append,hct,hvl,hdl] at hp
   rw [<-hA2,List.getElem?_toArray,List.append_assoc,ZA (by omega),hdl]
   rw [List.append_assoc]
   by_cases c1:p<k*1
   . rw [if_pos (by omega),Wc (by omega),<-hA1,Wu,List.getElem?_toArray,List.append_assoc,ZA (by omega),if_pos c1,<-hR,Wu,Array.append_assoc,Array.getElem?_append_left (by rw [List.size_toArray];omega),List.getElem?_toArray]
   .
    rw [List.getElem?_append_right (by omega),hct]
    by_cases c2:p<k*1+ys.length*1
    . rw [if_pos (by omega),Wc (by omega),<-hA1,Wu,List.getElem?_toArray,List.append_assoc,ZA (by omega),if_neg c1,if_pos (by omega)]
    .
     rw [if_neg (by omega),if_pos (by omega),List.getElem?_append_right (by omega),hvl]
     congr 1
     omega
  have hsame:Same w (((((w.alloc (.cells ROW 3)).drew).setRow w.heap.size A1).drew).setRow w.heap.size A2) g.blk:=⟨rfl,.it rfl (Nat.le_add_right _ 2),rfl,by simp,fun j hj hn=>by
   rw [setRow_other _ w.heap.size j _ (by omega)]
   show (((w.alloc (.cells ROW 3)).drew).setRow w.heap.size A1).heap[j]? =w.heap[j]?
   rw [setRow_other _ w.heap.size j _ (by omega)]
   exact Below.heap_alloc _ _ _ hj⟩
  have hFw:∀j,F j->(((((w.alloc (.cells ROW 3)).drew).setRow w.heap.size A1).drew).setRow w.heap.size A2).heap[j]? =w.heap[j]? :=fun j hj=>hsame.block j (hB.news j hj).1 (fun e=>(hlg b (.inl hb)).2.1 (by rw [hb] at e;cases e;exact hj))
  have hn2:β 2=none:=hB.fresh (fun(e:2<2)=>by omega)
  have hfl2:=hcat.mono (F':=F) (w':=((((w.alloc (.cells ROW 3)).drew).setRow w.heap.size A1).drew).setRow w.heap.size A2) (β':=Yg β 2 (YN (some w.heap.size) (xs.take k++ys++xs.drop k).length G)) (fun _ x=>x) hFw (JaZ _ hn2)
  have hblk:=Jeo hfl2 hh2 hlook (cap:=G) (by rw [hA2s];exact Nat.le_refl _) (by rw [hzl];exact hGn) hG63
  have hr:=JnE hB hg (YN (some w.heap.size) (xs.take k++ys++xs.drop k).length G) hsame (.inr ⟨w.heap.size,rfl,Nat.le_refl _,by simp⟩) hblk
  refine⟨_,rfl,?_⟩
  have e3:(Value.slice (some ⟨w.heap.size,0,none⟩) (xs.length+ys.length) G)= .slice (J5 (some w.heap.size) 0) (xs.take k++ys++xs.drop k).length G:=by rw [hzl];rfl
  rw [e3]
  exact hr
set_option maxRecDepth 100000 in
set_option maxHeartbeats 4000000 in
theorem Jko (base:Option Addr) (n c:Nat) (hnil:base=none->n=0) (hsp:∀a,base=some a->a.spot=none) (hnc:n<=c) (hc63:c<=9223372036854775807) (vb m vc:Nat) (hm:0<m) (w w':World) (u:Value)
  (hrun:(Builtin.append_ #[22,22] 22 #[.slice base n c,.slice (some ⟨vb,0,none⟩) m vc]).run Tryz.prog w= .ok u w'):
  Calls Tryz.prog 125 #[.slice base n c,.int .i64 n,.slice (some ⟨vb,0,none⟩) m vc] w fun e w2=>e= .returned u∧w2=w':=by
 have hz1:¬((m:Int)=0):=by omega
 go_enter Tryz.func125,Tryz.ntmps125
 cases base with
 |none=>
  have h0:=hnil rfl
  subst h0
  go_wp2_with (at_builtin;refine Lib.wpList_append_run _ rfl _ _ _ _ rfl _ _ rfl rfl _ _ hrun ?_)
  go_ret
  exact⟨rfl,rfl⟩
 |some a=>
  obtain⟨ab,ao,asp⟩:=a
  have:=hsp _ rfl
  simp only at this
  subst this
  go_wp2_with (at_builtin;refine Lib.wpList_append_run _ rfl _ _ _ _ rfl _ _ rfl rfl _ _ hrun ?_)
  all_goals (go_ret;exact⟨rfl,rfl⟩)
theorem JvQ (hv:vals.size=3):∃v0 v1 v2,vals= #[v0,v1,v2]:=⟨vals[0],vals[1],vals[2],by
 apply Array.ext
 . simpa using hv
 .
  intro i h1 h2
  have:i<3:=by omega
  match i,this with
  |0,_=>rfl
  |1,_=>rfl
  |2,_=>rfl⟩
set_option maxRecDepth 100000 in
theorem JsU (xs ys:List (List AV)) (hy:0<ys.length) (hlen:xs.length+ys.length<=16777216) {C:Ctx} {w:World} {β:Nat->Option Hdr} {F:Nat->Prop} (hv:vals.size=3) (hC:C.γ.length=2)
  (hB:RelB C (Qj 2) (entry [.osl 0,.int .i64 (xs.length:Nat),.osl 1] [.row 1 xs,.row 1 ys]) ⟨vals,[]⟩ w β F):
  Calls Tryz.prog 125 vals w fun e w'=>∃v,e= .returned v∧Rel { C with nt:=1 } (Qj 3) (entry [.osl 2] [.dead,.row 1 ys,.row 1 (xs++ys)]) ⟨#[v],[]⟩ w':=by
 obtain⟨v0,v1,v2,rfl⟩:=JvQ hv
 have q0:RV w F β (.osl 0) v0:=hB.env 0
 have q1:RV w F β (.int .i64 (xs.length:Nat)) v1:=hB.env 1
 have q2:RV w F β (.osl 1) v2:=hB.env 2
 obtain⟨g,hg,hbg,hlg⟩:=hB.live 0 (.row 1 xs) rfl
 obtain⟨g1,hg1,hbg1,hlg1⟩:=hB.live 1 (.row 1 ys) rfl
 obtain⟨i0,z,hi0,hz0,hzs,hzc,hby⟩:=Juk
 have hx:=Jbd (H:=(entry [.osl 0,.int .i64 (xs.length:Nat),.osl 1] [.row 1 xs,.row 1 ys]).H) (ys:=ys) (sz:=1) (ids:=[1]) (.inr (.inr (.inl ⟨1,rfl,rfl,rfl⟩))) (hB.known [1]) q2
 obtain⟨u,w',β',h1,h2,h3⟩:=JiE (P:=Tryz.prog) (t:=22) (ty:=22) (e:=3) (n:=2) hB (fun(e:2<2)=>by omega) hC (xs:=xs) (ys:=ys) (sz:=1) (.inr (.inl ⟨0,rfl,rfl,rfl⟩)) q0 hx Tryz.underlying22 hi0 hz0 hzs hzc
  (Nat.le_trans (Nat.mul_le_mul hlen hby) (by decide)) (by unfold maxLen;omega)
 have hml:maxLen=9223372036854775807:=rfl
 have hbg0:=hbg
 obtain⟨p1,p2,p3,p4,p5,p6⟩:=hbg0
 obtain⟨r1,r2,r3,r4,r5,r6⟩:=hbg1
 cases q1
 cases q0 with
 |osl _ h e=>
 rw [hg] at e
 cases e
 cases q2 with
 |osl _ h e=>
 rw [hg1] at e
 cases e
 obtain⟨vb,hvb⟩:∃b,g1.blk=some b:=by
  cases e:g1.blk with
  |none=>have:=r4 e;omega
  |some b=>exact⟨b,rfl⟩
 rw [hvb] at h1 ⊢
 have e1:J5 (some vb) 0=some ⟨vb,0,none⟩:=rfl
 rw [e1] at h1 ⊢
 rw [<-p1]
 refine(Jko (J5 g.blk 0) g.len g.cap (fun e=> ?_) (fun a e=> ?_) (by omega) (by omega) vb g1.len g1.cap (by omega) w w' u h1).mono ?_
 .
  cases hb:g.blk with
  |none=>have:=p4 hb;omega
  |some b=>rw [hb] at e;cases e
 .
  cases hb:g.blk with
  |none=>rw [hb] at e;cases e
  |some b=>rw [hb] at e;cases e;rfl
 .
  rintro e w2 ⟨rfl,rfl⟩
  refine⟨u,rfl,β',F,?_⟩
  have hH:wrH (entry [.osl 0,.int .i64 (xs.length:Nat),.osl 1] [.row 1 xs,.row 1 ys]).H ([(0,none)]++[(2,some (.row 1 (xs++ys)))])=(entry [.osl 2] [.dead,.row 1 ys,.row 1 (xs++ys)]).H:=by
   funext id
   match id with
   |0=>rfl
   |1=>rfl
   |2=>rfl
   |n+3=>rfl
  have q:=h2.fin (σ':=⟨(entry [.osl 0,.int .i64 (xs.length:Nat),.osl 1] [.row 1 xs,.row 1 ys]).env,(entry [.osl 2] [.dead,.row 1 ys,.row 1 (xs++ys)]).H,3⟩) (I':=Qj 3) rfl hH.symm (fun i hi=>by
   rcases hi with(hi:i<2)|rfl
   . exact(show i<3 by omega)
   . exact(show 2<3 by omega))
  refine⟨fun t=> ?_,rfl,q.defers,q.live,q.inj,q.dom,q.gr,q.sub,q.news,q.os,q.tape,q.output,q.grow,q.block,q.glo⟩
  match t with
  |0=>exact h3
  |t+1=>exact .any _
theorem JsV (xs ys:List (List AV)) (k:Nat) (hk:k<=xs.length) (hy:0<ys.length) (hlen:xs.length+ys.length<=16777216):
  AC Tryz.prog 125 [.osl 0,.int .i64 (k:Nat),.osl 1] [.row 1 xs,.row 1 ys] (.osl 2) [.dead,.dead,.row 1 (xs.take k++ys++xs.drop k)]:=by
 intro C w vals h1 h2 h3 h4 ⟨β,F,hB⟩
 by_cases hkl:k<xs.length
 . exact(JsT xs ys k hkl hy hlen (by simpa using h4) hB).mono fun e w' ⟨v,e1,e2⟩=>⟨v,e1,Jjm e2⟩
 .
  obtain rfl:k=xs.length:=by omega
  have:=JsU xs ys hy hlen (by simpa using h4) (by simpa using h1) hB
  rw [List.take_length,List.drop_length,List.append_nil]
  exact this.mono fun e w' ⟨v,e1,e2⟩=>⟨v,e1,Jjm e2⟩
theorem insert_ac {α:Type} (enc:α->List AV) (l y:List α) (i:Int) (r:List α) (hF:Ex.JoE l i y=some r):
  AC Tryz.prog 125 [.osl 0,.int .i64 i,.osl 1] [.row 1 (l.map enc),.row 1 (y.map enc)] (.osl 2) [.dead,.dead,.row 1 (r.map enc)]:=by
 obtain⟨k,rfl,h1,h2,h3,rfl⟩:=Ex.JoD hF
 have:=JsV (l.map enc) (y.map enc) k (by simpa using h1) (by simpa using h2) (by simpa using h3)
 simpa only [List.map_append,List.map_take,List.map_drop] using this
end Go.Proofs.YtehhohbnhcogkaaGreatDoor.Insint
