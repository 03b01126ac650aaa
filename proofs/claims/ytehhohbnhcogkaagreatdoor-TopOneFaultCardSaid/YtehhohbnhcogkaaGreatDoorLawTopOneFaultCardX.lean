/- The statement TopOneFaultSaid: the law's Go function returns true for every input that can be read, and each argument reads afterwards as before. No condition. -/
import Derived.Test.YtehhohbnhcogkaaGreatDoorCards
import Derived.Test.YtehhohbnhcogkaaGreatDoorTie
import Derived.Test.YtehhohbnhcogkaaGreatDoorMp2
import Derived.Test.YtehhohbnhcogkaaGreatDoorMw2
import Derived.WalkKit
import Derived.ProofKit
import Derived.OpenShut
import Derived.ShutString
import Derived.ChangeOld
import Derived.Below
import Derived.Deep.DeepHandedRow
import Derived.Lib.LaidTab
namespace Go.Proofs.YtehhohbnhcogkaaGreatDoor.topOneFaultCard
open Go.ChangeShapes Go.WideShapes Go.ChangeAt Go.RowKit
open Go.ChangeMaps (open_string shut_string)
open Go.Proofs.YtehhohbnhcogkaaGreatDoor.Ax (RV AC)
set_option linter.unusedVariables false
theorem own:ownKnob Tryz.prog.godebug=none:=by kernel_rfl
theorem laidOut:laidOutB Tryz.prog=true:=by kernel_rfl
def Jus (k:IntKind) (w:World) (a:Option Addr) (len cap:Nat) (zs:List Int):Prop:=
 (a=none∧len=0∧cap=0∧zs=[])∨
 ∃x,a=some x∧len<=cap∧cap<=maxLen∧zs.length=cap∧(∀i,i<zs.length->w.cell? (x.add i)=some (.int k (zs.getD i 0)))∧∀n∈zs,(Lit.int k n).wf=true
theorem gTab:Tryz.prog.globalNamed "math/bits.deBruijn64tab" =some 1:=by kernel_rfl
theorem JqS:(Tryz.prog.globals[1]?).map (·.type)=some 264:=by kernel_rfl
theorem JuZ:Tryz.prog.cellsOf 264=64:=by kernel_rfl
theorem Ju0:Tryz.prog.cellsOf 5=1:=by kernel_rfl
theorem table {W:World} (h:laidMetH Tryz.prog Rows.topOneFaultRow.laid W):Lib.TabIs Tryz.prog W "math/bits.deBruijn64tab" .u8 [0,1,56,2,57,49,28,3,61,58,42,50,38,29,17,4,62,47,59,36,45,43,51,22,53,39,33,30,24,18,12,5,63,55,48,27,60,41,37,16,46,35,44,21,52,32,23,11,54,26,40,15,34,20,31,10,25,14,19,9,13,8,7,6]:=by
 have h3:=laidMetH.filter (fun x=>x.1== "math/bits.deBruijn64tab") h
 rw [show (Rows.topOneFaultRow.laid.filter fun x=>x.1== "math/bits.deBruijn64tab")=[("math/bits.deBruijn64tab",Lib.tabData .u8 [0,1,56,2,57,49,28,3,61,58,42,50,38,29,17,4,62,47,59,36,45,43,51,22,53,39,33,30,24,18,12,5,63,55,48,27,60,41,37,16,46,35,44,21,52,32,23,11,54,26,40,15,34,20,31,10,25,14,19,9,13,8,7,6])] from by kernel_rfl] at h3
 exact Lib.tabIs_of_head (rest:=[]) gTab JqS Tryz.underlying264 Tryz.underlying5 Ju0 JuZ h3
theorem walk (a0:Option Addr) (len0 cap0:Nat) (z0:List Int) (w:World) (w0:Jus .i64 w a0 len0 cap0 z0) (hgl:Ax.Ji6 w (fun b=>b<w.heap.size)):
  Calls Tryz.prog 3 #[.slice a0 len0 cap0] w fun e w'=>e= .returned (.bool true)∧Below w.heap.size w w':=by
 obtain⟨l0,hl0,rfl⟩:=JlR w0;exact Ex.JqA (args:=[.lst 1 (l0.map Ex.iA)]) (vals:=[.slice a0 _ cap0]) (Ex.Jf0 l0 true (Ex.JgJ l0)) rfl ⟨Ex.Jst hl0,trivial⟩ hgl
set_option maxRecDepth 100000 in
theorem contract (H:Type) (enc:TypeId×Value->H) (W:World) (base:Nat) (args:Array Value) (ds gs:List (DataW H)) (before:List MemPlace)
  (hval0:∀(j:Nat) t v,Tryz.f3.params[j]? =some t->args[j]? =some v->Value.okWide Tryz.prog W .any base t v)
  (hW:DataW.Whole enc Tryz.prog Tryz.f3.params.toList Rows.topOneFaultSpec.vars false W args.toList ds gs before) (hL:laidMetH Tryz.prog Rows.topOneFaultRow.laid W):
  Calls Tryz.prog 3 args W fun e W'=>∃v,e= .returned v∧Rows.topOneFaultSpec.post enc Tryz.prog Tryz.f3 false true false false W args v W':=by
 have hval:∀(j:Nat) t v,Tryz.f3.params[j]? =some t->args[j]? =some v->Value.okWide Tryz.prog W .any base t v:=hval0
 have hW':=hW
 obtain⟨p,q,hA0,hV,rfl,hfz,hnd⟩:=hW
 have hA:DataW.TrodAll enc Tryz.prog W 0 (fun _=>true) true Tryz.f3.params.toList args.toList ds p:=hA0
 rw [Tryz.params3] at hA hval
 obtain⟨v0,vs0,d0,ds0,p0,q0,hargs,rfl,rfl,h0,r0⟩:=trodAll_cons hA
 obtain⟨rfl,rfl,rfl⟩:=trodAll_nil r0
 obtain rfl:args= #[v0]:=by cases args;simp_all
 obtain⟨rfl,rfl⟩:=trodVars_none hV
 obtain⟨a0,len0,cap0,rfl⟩:=okWide_slice Tryz.underlying22 (hval 0 _ v0 rfl rfl)
 have k0:=h0
 have lt0:∀x∈p0,x.block<W.heap.size:=by obtain⟨m,hm⟩:=k0;exact DataW.trod_lt m _ _ _ hm
 obtain⟨z0,w0⟩:∃zs,Jus .i64 W a0 len0 cap0 zs:=by
  obtain⟨fuel,hf⟩:=h0
  rcases open_ints Tryz.underlying22 Tryz.underlying3 (by kernel_rfl) hf with⟨hcs,_⟩|⟨x,l,c,zs,hcs,_,hl,hm,hz,_,hcell,hwz⟩
  .
   simp [Value.cells] at hcs
   obtain⟨rfl,rfl,rfl⟩:=hcs
   exact⟨[],.inl ⟨rfl,rfl,rfl,rfl⟩⟩
  .
   simp [Value.cells] at hcs
   obtain⟨rfl,rfl,rfl⟩:=hcs
   exact⟨zs,.inr ⟨_,rfl,hl,hm,by simpa using hz,hcell,hwz⟩⟩
 clear hA0 hval0
 refine(walk a0 len0 cap0 z0 W w0 (Ex.JuY fun j hj=>(table hL).cell gTab j (by simpa using hj))).mono fun e W' ⟨he,bel⟩=> ?_
 subst he
 exact⟨_,rfl,_,_,_,[],_,[],hW',trodAll_mk1 (shut_bool Tryz.underlying4 _),(trodAll_cons_mk (Below.trod laidOut (by kernel_rfl) (Wt (by kernel_rfl)) k0 bel lt0) trodAll_mk0),rfl,bel.frame _,fun h=>by cases h⟩
noncomputable def JfG (os:Os):World:=
 { World.holding Tryz.prog os ⟨#[],#[],[]⟩ with heap:=(((World.holding Tryz.prog os ⟨#[],#[],[]⟩).heap.modify 0 (fun | .cells _ t frozen=> .cells #[.int .u8 0,.int .u8 1,.int .u8 28,.int .u8 2,.int .u8 29,.int .u8 14,.int .u8 24,.int .u8 3,.int .u8 30,.int .u8 22,.int .u8 20,.int .u8 15,.int .u8 25,.int .u8 17,.int .u8 4,.int .u8 8,.int .u8 31,.int .u8 27,.int .u8 13,.int .u8 23,.int .u8 21,.int .u8 19,.int .u8 16,.int .u8 7,.int .u8 26,.int .u8 12,.int .u8 18,.int .u8 6,.int .u8 11,.int .u8 5,.int .u8 10,.int .u8 9] t frozen |o=>o)).modify 1 (fun | .cells _ t frozen=> .cells #[.int .u8 0,.int .u8 1,.int .u8 56,.int .u8 2,.int .u8 57,.int .u8 49,.int .u8 28,.int .u8 3,.int .u8 61,.int .u8 58,.int .u8 42,.int .u8 50,.int .u8 38,.int .u8 29,.int .u8 17,.int .u8 4,.int .u8 62,.int .u8 47,.int .u8 59,.int .u8 36,.int .u8 45,.int .u8 43,.int .u8 51,.int .u8 22,.int .u8 53,.int .u8 39,.int .u8 33,.int .u8 30,.int .u8 24,.int .u8 18,.int .u8 12,.int .u8 5,.int .u8 63,.int .u8 55,.int .u8 48,.int .u8 27,.int .u8 60,.int .u8 41,.int .u8 37,.int .u8 16,.int .u8 46,.int .u8 35,.int .u8 44,.int .u8 21,.int .u8 52,.int .u8 32,.int .u8 23,.int .u8 11,.int .u8 54,.int .u8 26,.int .u8 40,.int .u8 15,.int .u8 34,.int .u8 20,.int .u8 31,.int .u8 10,.int .u8 25,.int .u8 14,.int .u8 19,.int .u8 9,.int .u8 13,.int .u8 8,.int .u8 7,.int .u8 6] t frozen |o=>o)).modify 2 (fun | .cells _ t frozen=> .cells #[.int .u64 1,.int .u64 10,.int .u64 100,.int .u64 1000,.int .u64 10000,.int .u64 100000,.int .u64 1000000,.int .u64 10000000,.int .u64 100000000,.int .u64 1000000000,.int .u64 10000000000,.int .u64 100000000000,.int .u64 1000000000000,.int .u64 10000000000000,.int .u64 100000000000000,.int .u64 1000000000000000,.int .u64 10000000000000000,.int .u64 100000000000000000,.int .u64 1000000000000000000,.int .u64 10000000000000000000] t frozen |o=>o) }
theorem JqC (os:Os):laidMet Tryz.prog Rows.topOneFaultRow.laid ((JfG os).forCall (fun _ _=>0) ⟨#[],#[.slice none 0 0],[]⟩).memory:=
 laidMet_of_run' 8 (by kernel_rfl) (by kernel_rfl)
theorem reads (os:Os) {H:Type} (enc:TypeId×Value->H):∃ds gs places,DataW.whole enc Tryz.prog ((JfG os).forCall (fun _ _=>0) ⟨#[],#[.slice none 0 0],[]⟩).memory Tryz.f3.params.toList Rows.topOneFaultSpec.vars false (#[.slice none 0 0]:Array Value).toList 8=some (ds,gs,places):=by
 have h:(DataW.whole enc Tryz.prog ((JfG os).forCall (fun _ _=>0) ⟨#[],#[.slice none 0 0],[]⟩).memory Tryz.f3.params.toList Rows.topOneFaultSpec.vars false (#[.slice none 0 0]:Array Value).toList 8).isSome=true:=by kernel_rfl
 obtain⟨⟨a,b,c⟩,hx⟩:=Option.isSome_iff_exists.1 h
 exact⟨a,b,c,hx⟩
set_option maxRecDepth 100000 in
theorem lifted (os:Os) (started:os.Started) (H:Type) (enc:TypeId×Value->H) (F:Stop.Interp):
  ReturnsInHanded {} Tryz.checked os 3 .any ((OpenSpec.ofChange Rows.topOneFaultSpec).preRow enc Tryz.prog Tryz.f3 Rows.topOneFaultRow.domain false Rows.topOneFaultRow.laid) (((OpenSpec.ofChange Rows.topOneFaultSpec).at F).post enc Tryz.prog Tryz.f3 false true false false):=by
 obtain⟨ds0,gs0,places,hx⟩:=reads os enc
 refine returnsInHanded_of_row (C:=Tryz.checked) (s:=OpenSpec.ofChange Rows.topOneFaultSpec) own started (by kernel_rfl) Tryz.func3
  (witness_row_at (enc:=enc) (C:=Tryz.checked) false (JfG os) #[.slice none 0 0] rfl (by kernel_rfl) (by kernel_rfl) (by kernel_rfl)
   (OpenSpec.preRow_of_cond 8 hx (by kernel_rfl) (fun k hk=>by cases hk) (by kernel_rfl) (JqC os))) ?_
 intro W base args ds gs before hval hW _ _ _ hL _ _
 exact contract H enc W base args ds gs before hval hW hL
theorem over:Rows.topOneFaultRow.holds Tryz.pinned (OpenSpec.ofChange Rows.topOneFaultSpec):=
 OpenClaim.holds_of_cond 3 Tryz.f3 rfl rfl rfl rfl rfl rfl rfl ⟨rfl,rfl,rfl,rfl,rfl⟩ rfl rfl rfl rfl rfl (by kernel_rfl) Tryz.func3 (by kernel_rfl)
  (Wt (by kernel_rfl)) (by unfold Func.isWrapper;first |(rw [if_pos (by decide+kernel)];kernel_rfl)|(rw [if_neg (by decide+kernel)];exact⟨rfl,rfl⟩))
  (fun os started H enc _ F=>by rw [OpenClaim.pre_eq_preRow];exact lifted os started H enc F)
theorem plain (f:FuncId) (fn:Func) (hf:Tryz.pinned.checked.prog.funcNamed "baggage/baggagetop.TopOneFault" =some f) (hfn:Tryz.pinned.checked.prog.funcs[f]? =some fn):
  false=Tryz.pinned.checked.prog.looks []∧∀(j:Nat) t,fn.params[j]? =some t->Tryz.pinned.checked.prog.wantsStandIn t=false:=by
 obtain rfl:f=3:=Wi ((show Tryz.prog.funcNamed "baggage/baggagetop.TopOneFault" =some 3 by kernel_rfl).symm.trans hf) |>.symm
 obtain rfl:fn=Tryz.f3:=(Wi (Tryz.func3.symm.trans hfn)).symm
 refine⟨by kernel_rfl,fun j t ht=> ?_⟩
 have h:=List.all_eq_true.1 (show (Tryz.f3.params.toList.all fun t=> !(Tryz.prog.wantsStandIn t))=true by kernel_rfl) t (Wm (i:=j) (by rw [Wu];exact ht))
 exact(Bool.not_eq_true' _).mp h
theorem said:Rows.TopOneFaultSaid:=over
theorem proved:Rows.TopOneFaultCardSaid:=
 Claim7.holds_tied_plain_at .later [] _ _ _ _ said (fun _ h=>by cases h) (by kernel_rfl) (fun _ h=>by cases h) topOneFault_row_tie rfl ⟨rfl,rfl⟩ (by kernel_rfl) rfl plain (by kernel_rfl)
#print axioms proved
end Go.Proofs.YtehhohbnhcogkaaGreatDoor.topOneFaultCard
