/- The plain law of the proof: that the answer is true. -/
import Derived.Lib.LaidTab
import Derived.Test.YtehhohbnhcogkaaGreatDoorMp1
set_option linter.unusedVariables false
set_option linter.unusedSimpArgs false
namespace Go.Proofs.YtehhohbnhcogkaaGreatDoor.Ex
open Go.RowKit Go.Proofs.YtehhohbnhcogkaaGreatDoor.Ax
structure InvT (zs:Nat->Int) (ly:Layout) (bud:Int) (s:Src) (p:Plant) (b:Belief) (cl:List Int) (u n:Int):Prop where
 src:SrcOk s
 num:∃N:Nat,n=(N:Int)∧N<=3∧PlOk ly N p∧BelOk ly N b∧∀v∈cl,1<=v∧v<=(N:Int)
 zone:PlW ly (Jme zs cl) p
 bdg:b.Budget=bud
 has:Jcz b.L p u
 u0:0<=u
 u1:u<=bud
 cll:(cl.length:Int)<=n
def JrA:Ctl Bool Unit->Prop:=YB (fun r=>r=true) (fun _=>True)
theorem Jqe {ρ σ τ:Type} {o:Option (Ctl ρ σ)} {k:σ->Option (Ctl ρ τ)} {S:σ->Prop} {Q:Ctl ρ τ->Prop} (h:okP o (YB (fun _=>False) S)) (hk:∀s,S s->okP (k s) Q):okP (Ctl.sub o k) Q:=by
 obtain⟨c,rfl,hc⟩:=h
 cases c with
 |ret r=>exact hc.elim
 |brk s=>exact hk s hc
theorem JrH {zs:Nat->Int} (r2:Layout×Src) (r3:Int×Src) (r6:(List Plate)×Src) (hw:LayW zs r2.1) (hb0:0<=r3.1) (hb2:r3.1<=2) (hps:r6.1.length=40) (hpw:∀p∈r6.1,JaO p) (q:Nat) (z:(List Int)×Int×(List (List Int))×(List (List Int))×Int×(List Hypothesis)×(List Int)×Int) (u i:Int)
  (hI:InvT zs r2.1 r3.1 ⟨z.1,z.2.1⟩ ⟨z.2.2.1,z.2.2.2.1⟩ ⟨z.2.2.2.2.1,z.2.2.2.2.2.1⟩ z.2.2.2.2.2.2.1 u z.2.2.2.2.2.2.2)
  (hrec:∀(s:Src) (p:Plant) (b:Belief) (u':Int),InvT zs r2.1 r3.1 s p b z.2.2.2.2.2.2.1 u' z.2.2.2.2.2.2.2->okP (Qo r2 r3 r6 q s.L s.At p.Slots p.Bins b.Budget b.L z.2.2.2.2.2.2.1 u' z.2.2.2.2.2.2.2 (w64 (i+(1:Int)))) JrA):
  okP (
  (ZX r2.1 (⟨z.2.2.1,z.2.2.2.1⟩:Plant)).bind fun r_31=>
  cond (!r_31)
  (some (Ctl.ret false))
  ((mkL z.2.2.2.2.2.2.2 false).bind fun l_32=>
  Ctl.sub (Jp z r2.1.Nodes 0 z.1 z.2.1 l_32) fun z_56=>
  (Jaj (⟨z_56.1,z_56.2.1⟩:Src) z.2.2.2.2.2.2.2 (r2.1.Nodes.length:Int)).bind fun r_57=>
  (Jan r2.1 (⟨z.2.2.2.2.1,z.2.2.2.2.2.1⟩:Belief) r_57.1 z_56.2.2 z_56.2.2 ([]:(List Bool))).bind fun r_58=>
  (JF r_57.2 (2:Int)).bind fun r_59=>
  (Jak r_59.2 r2.1 (if (w64 (r3.1 - u))<r_59.1 then (w64 (r3.1 - u)) else r_59.1)).bind fun r_60=>
  (Jbu r2.1 (⟨z.2.2.1,z.2.2.2.1⟩:Plant) r_58 r_60.1).bind fun r_61=>
  cond (r_61.2.2 != (0:Int))
  (some (Ctl.ret false))
  ((ZX r2.1 r_61.1).bind fun r_62=>
  cond (!r_62)
  (some (Ctl.ret false))
  ((JF r_60.2 (2:Int)).bind fun r_63=>
  (Y5 r_63.2 r2.1 r_61.1 (if (w64 ((w64 (r3.1 - u)) - (r_60.1.length:Int)))<r_63.1 then (w64 ((w64 (r3.1 - u)) - (r_60.1.length:Int))) else r_63.1)).bind fun r_64=>
  (Jad r2.1 r_61.1 r6.1 r_64.1).bind fun r_65=>
  cond (r_65.2 != (0:Int))
  (some (Ctl.ret false))
  ((Jby r2.1 (⟨z.2.2.2.2.1,z.2.2.2.2.2.1⟩:Belief) r_58 r6.1 r_65.1).bind fun r_66=>
  cond (r_66.2==(2:Int))
  ((Ja3).bind fun r_67=>
  some (Ctl.ret r_67))
  (cond (r_66.2 != (0:Int))
  (some (Ctl.ret false))
  ((Zn r2.1 r_61.1 z.2.2.2.2.2.2.1).bind fun r_68=>
  cond (decide ((0:Int)<(r_68.length:Int)))
  (some (Ctl.ret false))
  (Qo r2 r3 r6 q r_64.2.L r_64.2.At r_61.1.Slots r_61.1.Bins r_66.1.Budget r_66.1.L z.2.2.2.2.2.2.1 (w64 ((w64 (u+(r_60.1.length:Int)))+(r_64.1.length:Int))) z.2.2.2.2.2.2.2 (w64 (i+(1:Int))))))))))) JrA:=by
 obtain⟨hsrc,⟨N,hN,hN3,hp,hb,hcl⟩,hz,hbud,hhas,hu0,hu1,hcll⟩:=hI
 have hn1:=hw.n1
 have hn11:=hw.n11
 have hcl3:∀v∈z.2.2.2.2.2.2.1,1<=v∧v<=3:=fun v hv=>by have:=hcl v hv;omega
 have hp3:PlW r2.1 (fun _ v=>0<=v∧v<=3) ⟨z.2.2.1,z.2.2.2.1⟩:=hp.w.mono (fun _ v hv=>⟨hv.1,by omega⟩)
 have hcn:=hp.c
 rw [Jh2 hp.w,Wo,Bool.not_true,cond_false,JgV (by omega) (by omega),Wo]
 refine Jqe (JqR hw z hp.w hcl3 (by omega) (by omega) r2.1.Nodes 0 z.1 z.2.1 (List.replicate (Int.toNat z.2.2.2.2.2.2.2) false) rfl hsrc ⟨by rw [List.length_replicate];omega,fun j hj=> ?_⟩) (fun w hwo=> ?_)
 .
  rw [List.getElem?_replicate] at hj
  split at hj<;>simp at hj
 obtain⟨hs1,hop⟩:=hwo
 have hopl:=hop.1
 refine Ji (JrC _ hs1 _ (r2.1.Nodes.length:Int) (by omega) (by omega) (by omega)) (fun r57 h57=> ?_)
 refine Ji (JoX hw hb r57.1 (by omega) w.2.2 (by omega)) (fun cs hcs=> ?_)
 refine Ji (Jd8 _ 2 h57.1 (by omega) (by omega)) (fun r59 h59=> ?_)
 rw [JM (z:=r3.1 - u) (by omega) (by omega)]
 refine Ji (JrD hw r59.2 h59.2.2 _ (by split<;>omega)) (fun r60 h60=> ?_)
 obtain⟨hs60,hl60,hf60⟩:=h60
 have hmv1:(r60.1.length:Int)<=1∧(r60.1.length:Int)<=r3.1 - u:=by
  revert hl60
  split<;>omega
 obtain⟨p2,ms,ms2,he,hps2,hcnt2,hQ⟩:=Jp7 hw hp.w (by omega) hcs.1 hf60 (by omega)
 rw [hps2,Wo]
 have hp2:PlOk r2.1 N p2:=⟨hQ _ hp.w ⟨fun _=>by constructor<;>omega,fun _ _ _ _ h=>h⟩,by omega⟩
 have hp23:PlW r2.1 (fun _ v=>0<=v∧v<=3) p2:=hp2.w.mono (fun _ v hv=>⟨hv.1,by omega⟩)
 have hz2:PlW r2.1 (Jme zs z.2.2.2.2.2.2.1) p2:=hQ _ hz (Joa hw hop hhas hcs.2)
 show okP (cond ((0:Int) != 0) _ _) _
 rw [show ((0:Int) != 0)=false from rfl,cond_false,Jh2 hp2.w,Wo,Bool.not_true,cond_false]
 refine Ji (Jd8 _ 2 hs60 (by omega) (by omega)) (fun r63 h63=> ?_)
 rw [JM (z:=r3.1 - u - (r60.1.length:Int)) (by omega) (by omega)]
 refine Ji (Jmh hw hp23 hps hpw r63.2 h63.2.2 _ (by split<;>omega)) (fun r64 h64=> ?_)
 obtain⟨hs64,hl64,hf64⟩:=h64
 have hgl1:(r64.1.length:Int)<=1∧(r64.1.length:Int)<=r3.1 - u - r60.1.length:=by
  revert hl64
  split<;>omega
 refine Ji (JmE hw hp2.w hps hf64 (by omega)) (fun r65 h65=> ?_)
 obtain⟨h65a,h65b,h65c⟩:=h65
 rw [h65a]
 show okP (cond ((0:Int) != 0) _ _) _
 rw [show ((0:Int) != 0)=false from rfl,cond_false]
 have hsum:u+r60.1.length+r64.1.length<=(⟨z.2.2.2.2.1,z.2.2.2.2.2.1⟩:Belief).Budget:=by rw [hbud];omega
 refine Ji (JqK hw hN3 hb hp hhas hcs.1 hf60 (by omega) he hps hf64 (by omega) hsum h65b h65c) (fun r66 h66=> ?_)
 rcases h66 with h66 |⟨h66,hb',hbud',hhas'⟩
 .
  rw [h66,show ((2:Int)==2)=true from rfl,cond_true,Jl7]
  exact Jf rfl
 .
  rw [h66,show ((0:Int)==2)=false from rfl,cond_false,show ((0:Int) != 0)=false from rfl,cond_false,Jl6 hw hz2 hp23 hcl3 (by omega),Wo]
  show okP (Qo _ _ _ _ _ _ _ _ _ _ _ _ _ _) _
  rw [JM (z:=u+(r60.1.length:Int)) (by omega) (by omega),JM (z:=u+(r60.1.length:Int)+(r64.1.length:Int)) (by omega) (by omega)]
  exact hrec r64.2 p2 r66.1 _ ⟨hs64,⟨N,hN,hN3,hp2,hb',hcl⟩,hz2,by rw [hbud',hbud],hhas',by omega,by omega,hcll⟩
theorem JlZ {zs:Nat->Int} (r2:Layout×Src) (bud:Int) (hw:LayW zs r2.1) (a_7:List Int) (i_8:Int) (a_9 a_10:List (List Int)) (i_11:Int) (a_12:List Hypothesis) (a_13:List Int) (u i_15:Int) (hI:InvT zs r2.1 bud ⟨a_7,i_8⟩ ⟨a_9,a_10⟩ ⟨i_11,a_12⟩ a_13 u i_15):
  okP (α:=Ctl Bool ((List Int)×Int×(List (List Int))×(List (List Int))×Int×(List Hypothesis)×(List Int)×Int)) (cond (decide (i_15<(3:Int)))
  ((JF (⟨a_7,i_8⟩:Src) (2:Int)).bind fun r_17=>
  cond (r_17.1==(0:Int))
  ((YH r2.1 (⟨a_9,a_10⟩:Plant) (0:Int) (w64 (i_15+(1:Int)))).bind fun r_18=>
  cond (r_18.2==(0:Int))
  ((Jbb r2.1 (⟨i_11,a_12⟩:Belief) (0:Int) (w64 (i_15+(1:Int)))).bind fun r_19=>
  cond (r_19.2 != (0:Int))
  (some (Ctl.ret false))
  ((JF r_17.2 (2:Int)).bind fun r_20=>
  cond (r_20.1==(0:Int))
  ((apL a_13 ([(w64 (i_15+(1:Int)))]:List Int)).bind fun l_21=>
  some (Ctl.brk (r_20.2.L,r_20.2.At,r_18.1.Slots,r_18.1.Bins,r_19.1.Budget,r_19.1.L,l_21,(w64 (i_15+(1:Int))))))
  (some (Ctl.brk (r_20.2.L,r_20.2.At,r_18.1.Slots,r_18.1.Bins,r_19.1.Budget,r_19.1.L,a_13,(w64 (i_15+(1:Int))))))))
  (some (Ctl.brk (r_17.2.L,r_17.2.At,a_9,a_10,i_11,a_12,a_13,i_15))))
  (some (Ctl.brk (r_17.2.L,r_17.2.At,a_9,a_10,i_11,a_12,a_13,i_15))))
  (some (Ctl.brk (a_7,i_8,a_9,a_10,i_11,a_12,a_13,i_15)))) (YB (fun r=>r=true) (fun z=>InvT zs r2.1 bud ⟨z.1,z.2.1⟩ ⟨z.2.2.1,z.2.2.2.1⟩ ⟨z.2.2.2.2.1,z.2.2.2.2.2.1⟩ z.2.2.2.2.2.2.1 u z.2.2.2.2.2.2.2)):=by
 obtain⟨hsrc,⟨N,hN,hN3,hp,hb,hcl⟩,hz,hbud,hhas,hu0,hu1,hcll⟩:=id hI
 have hcn:=hp.c
 have hn1:=hw.n1
 refine Jh (fun c=> ?_) (fun _=>Jf hI)
 have c:=Wt c
 have hw1:w64 (i_15+1)=((N+1:Nat):Int):=by rw [JM (by omega) (by omega)];omega
 rw [hw1]
 refine Ji (Jd8 _ 2 hsrc (by omega) (by omega)) (fun r17 h17=> ?_)
 have same:InvT zs r2.1 bud ⟨r17.2.L,r17.2.At⟩ ⟨a_9,a_10⟩ ⟨i_11,a_12⟩ a_13 u i_15:=⟨h17.2.2,⟨N,hN,hN3,hp,hb,hcl⟩,hz,hbud,hhas,hu0,hu1,hcll⟩
 refine Jh (fun _=> ?_) (fun _=>Jf same)
 obtain⟨r18,h18,h18a⟩:=Jl0 hw hp.w (by omega) (b:=((N+1:Nat):Int)) (by omega) (by omega)
 rw [h18,Wo]
 refine Jh (fun ce=> ?_) (fun _=>Jf same)
 have ce:r18.2=0:=eq_of_beq ce
 obtain⟨hQ,hcnt⟩:=h18a ce
 have h18':YH r2.1 ⟨a_9,a_10⟩ 0 ((N+1:Nat):Int)=some (r18.1,0):=by rw [h18,<-ce]
 have hp':PlOk r2.1 (N+1) r18.1:=⟨hQ _ (hp.w.mono (fun _ v hv=>⟨hv.1,by omega⟩)) ⟨by omega,by omega⟩,by omega⟩
 obtain⟨x,hx⟩:=YO (l:=r2.1.Nodes) (k:=0) (by omega)
 have hx0:=hw.nodes 0 x hx
 have hz0:zs 0=0:=by rw [<-hx0.zone];exact hx0.z0 (.inl (hx0.entry.2 rfl))
 refine Ji (JoF hw (show N<=2 by omega) hb hhas h18') (fun r19 h19=> ?_)
 obtain⟨h19a,hb',hbud',hhas'⟩:=h19
 rw [h19a]
 show okP (cond ((0:Int) != 0) _ _) _
 rw [show ((0:Int) != 0)=false from rfl,cond_false]
 refine Ji (Jd8 _ 2 h17.2.2 (by omega) (by omega)) (fun r20 h20=> ?_)
 refine Jh (fun _=> ?_) (fun _=>Jf ?_)
 .
  rw [QZ (by simp;omega),Wo]
  refine Jf ⟨h20.2.2,⟨N+1,rfl,by omega,hp',hb',fun v hv=> ?_⟩,?_,by show r19.1.Budget=bud;rw [hbud'];exact hbud,hhas',hu0,hu1,by simp;omega⟩
  .
   have hv:v∈a_13++[((N+1:Nat):Int)]:=hv
   rw [List.mem_append,List.mem_singleton] at hv
   rcases hv with hv |rfl
   . have:=hcl v hv;omega
   . omega
  .
   refine hQ _ (hz.mono (fun j v hv=> ?_)) (.inr (.inl (by rw [hz0];omega)))
   rcases hv with e |e |e
   . exact .inl e
   . exact .inr (.inl e)
   . exact .inr (.inr (List.mem_append_left _ e))
 . exact⟨h20.2.2,⟨N+1,rfl,by omega,hp',hb',fun v hv=>by have:=hcl v hv;omega⟩,hQ _ hz (.inr (.inl (by rw [hz0];omega))),by show r19.1.Budget=bud;rw [hbud'];exact hbud,hhas',hu0,hu1,by show (a_13.length:Int)<=((N+1:Nat):Int);omega⟩
theorem JqB {zs:Nat->Int} (r2:Layout×Src) (r3:Int×Src) (r6:(List Plate)×Src) (hw:LayW zs r2.1) (hb0:0<=r3.1) (hb2:r3.1<=2) (hps:r6.1.length=40) (hpw:∀p∈r6.1,JaO p):∀(d N:Nat) (s:Src) (p:Plant) (b:Belief) (cl:List Int) (u n i:Int),(24 - i).toNat=d->d<N->0<=i->i<=24->InvT zs r2.1 r3.1 s p b cl u n->
  okP (Qo r2 r3 r6 N s.L s.At p.Slots p.Bins b.Budget b.L cl u n i) JrA
 |d,0,s,p,b,cl,u,n,i,h1,h2,h3,h4,hI=>by omega
 |d,N+1,s,p,b,cl,u,n,i,h1,h2,h3,h4,hI=>by
  rw [Qo]
  refine Jh (fun c=> ?_) (fun _=>Jf trivial)
  have c:=Wt c
  have hi1:w64 (i+1)=i+1:=JM (by omega) (by omega)
  have body:=fun(z:(List Int)×Int×(List (List Int))×(List (List Int))×Int×(List Hypothesis)×(List Int)×Int) (hz:InvT zs r2.1 r3.1 ⟨z.1,z.2.1⟩ ⟨z.2.2.1,z.2.2.2.1⟩ ⟨z.2.2.2.2.1,z.2.2.2.2.2.1⟩ z.2.2.2.2.2.2.1 u z.2.2.2.2.2.2.2)=>
   JrH r2 r3 r6 hw hb0 hb2 hps hpw N z u i hz (fun s p b u' hI'=>by rw [hi1];exact JqB r2 r3 r6 hw hb0 hb2 hps hpw (d - 1) N s p b z.2.2.2.2.2.2.1 u' z.2.2.2.2.2.2.2 (i+1) (by omega) (by omega) (by omega) (by omega) hI')
  refine Jh (fun _=> ?_) (fun _=> ?_)
  . exact JbZ (JlZ r2 r3.1 hw s.L s.At p.Slots p.Bins b.Budget b.L cl u n hI) body
  .
   refine JfE (show JcB _=some _ from rfl) ?_
   refine Jh (fun _=> ?_) (fun _=>Jf trivial)
   exact JbZ (JlZ r2 r3.1 hw s.L s.At p.Slots p.Bins b.Budget b.L cl u n hI) body
theorem JgJ (l:List Int):Jbs l=some true:=by
 refine JuL ?_
 unfold Jbs
 refine Ji (Jva l) (fun r1 h1=> ?_)
 refine Ji (JoW r1 h1) (fun r2 h2=> ?_)
 obtain⟨h2s,zs,hw⟩:=h2
 refine Ji (Jd8 r2.2 3 h2s (by omega) (by omega)) (fun r3 h3=> ?_)
 rw [Jqj hw,Wo,JsW hw h3.1 (by omega),Wo]
 show okP ((Z8 r3.2).bind _) _
 refine Ji (Jm6 r3.2 h3.2.2) (fun r6 h6=> ?_)
 have h0:=Joj hw
 have hI:InvT zs r2.1 r3.1 ⟨r6.2.L,r6.2.At⟩ (JaF r2.1) ⟨r3.1,[⟨0,JaF r2.1⟩]⟩ [] 0 0:=
  ⟨h6.1,⟨0,rfl,by omega,h0,⟨h3.1,by show r3.1<=2;omega,fun h hh=>by
   have hh:h∈[(⟨0,JaF r2.1⟩:Hypothesis)]:=hh
   rw [List.mem_singleton] at hh
   subst hh
   exact⟨h0,by show (0:Int)<=0;omega,h3.1⟩,by show [(⟨0,JaF r2.1⟩:Hypothesis)].length<=40;simp⟩,by simp⟩,Jlk hw (fun _=> .inl rfl),rfl,⟨⟨0,JaF r2.1⟩,by show _∈[(⟨0,JaF r2.1⟩:Hypothesis)];simp,rfl,by show (0:Int)<=0;omega⟩,by omega,h3.1,by simp⟩
 refine JhO (JqB r2 r3 r6 hw h3.1 (by omega) h6.2.1 h6.2.2 _ 9223372036854775807 ⟨r6.2.L,r6.2.At⟩ (JaF r2.1) ⟨r3.1,[⟨0,JaF r2.1⟩]⟩ [] 0 0 0 rfl (by decide) (by omega) (by omega) hI) (fun _ _=> ?_)
 rw [Jl7]
 exact Jf rfl
theorem JuY {w:World} (h:∀j:Nat,j<64->w.cell? ⟨1,j,none⟩=some (.int .u8 (((Lib.deBruijn64tab.map fun(n:Nat)=>(n:Int)):List Int).getD j 0))):Ji6 w (fun b=>b<w.heap.size):=by
 intro g
 match g with
 |1=>
  have h0:=h 0 (by omega)
  have hs:1<w.heap.size:=by
   rcases Nat.lt_or_ge 1 w.heap.size with e |e
   . exact e
   .
    have:w.heap[1]? =none:=by rw [Array.getElem?_eq_none_iff];omega
    simp [World.cell?,this] at h0
  rw [JnI]
  refine .iptr _ 1 0 (fun j=> .int .u8 (((Lib.deBruijn64tab.map fun(n:Nat)=>(n:Int)):List Int).getD j 0)) hs (fun j u hu=> ?_) (fun j u hu=> ?_) (fun j u hu=> ?_)
  .
   have hj:=(List.getElem?_eq_some_iff.1 hu).1
   rw [Nat.zero_add]
   rw [List.length_map] at hj
   exact h j hj
  .
   rw [Wp,Option.map_eq_some_iff] at hu
   obtain⟨n,_,rfl⟩:=hu
   rfl
  .
   rw [Wp,Option.map_eq_some_iff] at hu
   obtain⟨n,hn,rfl⟩:=hu
   rw [List.getD_eq_getElem?_getD,Wp,hn]
   exact .int _ _
 |0=>exact .any _
 |g+2=>exact .any _
end Go.Proofs.YtehhohbnhcogkaaGreatDoor.Ex
