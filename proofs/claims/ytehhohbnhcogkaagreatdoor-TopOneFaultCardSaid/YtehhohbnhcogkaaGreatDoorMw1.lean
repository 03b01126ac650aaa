/- The walks of the proof: that the program computes it. -/
import Derived.Test.YtehhohbnhcogkaaGreatDoorM4
import Derived.Test.YtehhohbnhcogkaaGreatDoorMp1
import Derived.Test.YtehhohbnhcogkaaGreatDoorM5
import Derived.Test.YtehhohbnhcogkaaGreatDoorM3
set_option linter.unusedVariables false
set_option linter.unusedSimpArgs false
namespace Go.Proofs.YtehhohbnhcogkaaGreatDoor.Ex
open Go.RowKit Go.Proofs.YtehhohbnhcogkaaGreatDoor.Ax
set_option maxRecDepth 100000
set_option maxHeartbeats 40000000
theorem JlH (x0:(List Int)) (r:Src) (hF:Jfg x0=some r):AC Tryz.prog 4 [.lst 1 (x0.map iA)] [] (.ptr 0 0) ([.box (ZP r)]):=by
 refine Ju Jc Ja Tryz.func4 rfl Tryz.ntmps4 rfl ?_
 unfold Jfg at hF
 conv=>whnf
 refine Jm (enc:=iA) (l:=x0) rfl ?_
 conv=>whnf
 refine xB hF (fun b2 hF=> ?_) fun b2 hF=> ?_
 conv=>whnf
 obtain⟨l1,hl1,hF⟩:=bs' hF
 refine Jjj (enc:=iA) (l:=x0) hl1 rfl ?_
 conv=>whnf
 obtain rfl:=si hF
 exact Jk [0] [] [] rfl (aP 0) ⟨bN,tv⟩
 conv=>whnf
 obtain rfl:=si hF
 exact Jk [0] [] [] rfl (aP 0) ⟨bN,tv⟩
theorem JhB (x0:Src) (r:Int×Src) (hF:Jb8 x0=some r):AC Tryz.prog 29 [.ptr 0 0] [.box (ZP x0)] (.int .i64 r.1) ([.box (ZP r.2)]):=by
 refine Ju Jc Ja Tryz.func29 rfl Tryz.ntmps29 rfl ?_
 unfold Jb8 at hF
 conv=>whnf
 refine Jm (enc:=iA) (l:=x0.L) rfl ?_
 conv=>whnf
 refine⟨by kernel_rfl,?_⟩
 conv=>whnf
 refine xB hF (fun b2 hF=> ?_) fun b2 hF=> ?_
 conv=>whnf
 obtain rfl:=si hF
 exact Jk [0] [] [] rfl aq ⟨bN,tv⟩
 conv=>whnf
 refine⟨_,rfl,?_⟩
 conv=>whnf
 refine⟨_,rfl,?_⟩
 conv=>whnf
 obtain⟨e1,he1,hF⟩:=bs' hF
 refine JZ (enc:=iA) (l:=x0.L) he1 rfl (fun m_e_1 hm_e_1 hx_e_1=> ?_)
 conv=>whnf
 refine⟨by kernel_rfl,?_⟩
 conv=>whnf
 obtain rfl:=si hF
 exact Jk [0] [] [] rfl aq ⟨bN,tv⟩
theorem JlI (x0:Int) (x1:Int) (r:Int) (hF:Jfh x0 x1=some r):AC Tryz.prog 28 [.int .i64 x0,.int .i64 x1] [] (.int .i64 r) ([]):=by
 refine Ju Jc Ja Tryz.func28 rfl Tryz.ntmps28 rfl ?_
 unfold Jfh at hF
 conv=>whnf
 refine xB hF (fun b3 hF=> ?_) fun b3 hF=> ?_
 conv=>whnf
 obtain rfl:=si hF
 exact rZ
 conv=>whnf
 obtain⟨u1,hu1,hF⟩:=bs' hF
 refine⟨JsF hu1,_,rfl,?_⟩
 conv=>whnf
 refine xB hF (fun b4 hF=> ?_) fun b4 hF=> ?_
 conv=>whnf
 refine⟨_,rfl,?_⟩
 conv=>whnf
 obtain rfl:=si hF
 exact rZ
 conv=>whnf
 obtain rfl:=si hF
 exact rZ
theorem JD (x0:Src) (x1:Int) (r:Int×Src) (hF:JF x0 x1=some r):AC Tryz.prog 6 [.ptr 0 0,.int .i64 x1] [.box (ZP x0)] (.int .i64 r.1) ([.box (ZP r.2)]):=by
 refine Ju Jc Ja Tryz.func6 rfl Tryz.ntmps6 rfl ?_
 unfold JF at hF
 conv=>whnf
 obtain⟨r1,hr1,hF⟩:=bs' hF
 refine cE (dX false [0] [] 0 Tryz.func29 (JhB x0 r1 hr1) ⟨rfl,tv⟩ Qd ⟨rfl,tv⟩) ?_
 conv=>whnf
 obtain⟨r2,hr2,hF⟩:=bs' hF
 refine cE (d0 0 Tryz.func28 (JlI r1.1 x1 r2 hr2)) ?_
 conv=>whnf
 obtain rfl:=si hF
 exact Jk [0] [] [] rfl aq ⟨bN,tv⟩
theorem ZG (x0:Src) (x1:Int) (x2:Int) (r:Int×Src) (hF:Yu x0 x1 x2=some r):AC Tryz.prog 24 [.ptr 0 0,.int .i64 x1,.int .i64 x2] [.box (ZP x0)] (.int .i64 r.1) ([.box (ZP r.2)]):=by
 refine Ju Jc Ja Tryz.func24 rfl Tryz.ntmps24 rfl ?_
 unfold Yu at hF
 conv=>whnf
 refine⟨_,rfl,?_⟩
 conv=>whnf
 refine⟨_,rfl,?_⟩
 conv=>whnf
 obtain⟨r1,hr1,hF⟩:=bs' hF
 refine cE (dX false [0] [] 0 Tryz.func6 (JD x0 (w64 ((w64 (x2 - x1))+1)) r1 hr1) ⟨rfl,tv⟩ Qd ⟨rfl,tv⟩) ?_
 conv=>whnf
 refine⟨_,rfl,?_⟩
 conv=>whnf
 obtain rfl:=si hF
 exact Jk [0] [] [] rfl aq ⟨bN,tv⟩
theorem Jcv (x0:Src) (x1:(List Int)) (r:Int×Src) (hF:Jay x0 x1=some r):AC Tryz.prog 44 [.ptr 0 0,.lst 1 (x1.map iA)] [.box (ZP x0)] (.int .i64 r.1) ([.box (ZP r.2)]):=by
 refine Ju Jc Ja Tryz.func44 rfl Tryz.ntmps44 rfl ?_
 unfold Jay at hF
 conv=>whnf
 refine Jm (enc:=iA) (l:=x1) rfl ?_
 conv=>whnf
 obtain⟨r1,hr1,hF⟩:=bs' hF
 refine cE (dX false [0] [] 0 Tryz.func6 (JD x0 (x1.length:Int) r1 hr1) ⟨rfl,tv⟩ Qd ⟨rfl,tv⟩) ?_
 conv=>whnf
 obtain⟨e2,he2,hF⟩:=bs' hF
 refine JZ (enc:=iA) (l:=x1) he2 rfl (fun m_e_2 hm_e_2 hx_e_2=> ?_)
 conv=>whnf
 obtain rfl:=si hF
 exact Jk [0] [] [] rfl aq ⟨bN,tv⟩
theorem JdQ (x0:Src) (x1:(List Int)) (x2:Int) (r:Int×Src) (hF:JaG x0 x1 x2=some r):AC Tryz.prog 58 [.ptr 0 0,.lst 1 (x1.map iA),.int .i64 x2] [.box (ZP x0)] (.int .i64 r.1) ([.box (ZP r.2)]):=by
 refine Ju Jc Ja Tryz.func58 rfl Tryz.ntmps58 rfl ?_
 unfold JaG at hF
 conv=>whnf
 obtain⟨c1,hc_1,hF⟩:=Jr hF
 refine J1 1 (v:= .lst 1 (x1.map iA)) (by(conv=>lhs;whnf)<;>rfl) (fun hb=> ?_)
 have hbd_k_3:x1.length<=9223372036854775807:=Jz (enc:=iA) (hb)
 refine Jo Jc Ja (fun y:Nat×(List Int)=>y.1<=x1.length∧Q0 x2 (x1.drop y.1) y.1 y.2=some c1) (fun y=>⟨eL [(0,.ptr 0 0),(1,.lst 1 (x1.map iA)),(2,.int .i64 x2),(7,.osl 1),(8,.int .i64 (y.1:Int))],hL [(0,.box [.lst 1 (x0.L.map iA),.int .i64 x0.At]),(1,.row 1 (y.2.map iA))],2⟩) (fun y=>x1.length - y.1) (0,([]:List Int)) ⟨Nat.zero_le _,hc_1⟩ (wK [0] [1] [] ⟨bN,Jci rfl,tv⟩) ?_
 rintro⟨k3,a1⟩ ⟨hk_k_3,hL1⟩
 try dsimp only at hk_k_3 hL1
 show awp _ _ _ _ _ _ ⟨eL [(0,.ptr 0 0),(1,.lst 1 (x1.map iA)),(2,.int .i64 x2),(7,.osl 1),(8,.int .i64 (k3:Int))],hL [(0,.box [.lst 1 (x0.L.map iA),.int .i64 x0.At]),(1,.row 1 (a1.map iA))],2⟩
 conv=>whnf
 refine Jm (enc:=iA) (l:=x1) rfl ?_
 conv=>whnf
 refine⟨fun h=> ?_,fun h=> ?_⟩
 have lk3:k3<x1.length:=by have h:=Wt h;omega
 obtain⟨e4,he4⟩:=ge lk3
 rw [Jl he4,Q0.eq_2] at hL1
 conv=>whnf
 refine⟨k3,_,rfl,Jv he4,?_⟩
 conv=>whnf
 refine xB hL1 (fun b8 hL1=> ?_) fun b8 hL1=> ?_
 conv=>whnf
 refine⟨k3,_,rfl,Jv he4,?_⟩
 conv=>whnf
 obtain⟨l5,hl5,hL1⟩:=bs' hL1
 refine ZV (enc:=iA) (l:=a1) (y:=([e4]:List Int)) hl5 rfl rfl (by decide) ?_
 conv=>whnf
 refine⟨((k3+1:Nat):Int),wE,?_⟩
 conv=>whnf
 exact⟨(k3+1,l5),_,_,_,⟨lk3,hL1⟩,sl lk3,wK [0,3] [] []⟩
 conv=>whnf
 refine⟨((k3+1:Nat):Int),wE,?_⟩
 conv=>whnf
 exact⟨(k3+1,a1),_,_,_,⟨lk3,hL1⟩,sl lk3,wK [0,1] [] []⟩
 rw [Jq (nl h),Q0.eq_1] at hL1
 conv=>whnf
 obtain rfl:=si hL1
 replace hF:=Jw hF
 try dsimp only at hF
 refine Jm (enc:=iA) (l:=a1) rfl ?_
 conv=>whnf
 refine xB hF (fun b9 hF=> ?_) fun b9 hF=> ?_
 conv=>whnf
 obtain rfl:=si hF
 exact Jk [0] [] [] rfl aq ⟨bN,tv⟩
 conv=>whnf
 refine Jm (enc:=iA) (l:=a1) rfl ?_
 conv=>whnf
 obtain⟨r8,hr8,hF⟩:=bs' hF
 refine cE (dX false [0] [] 0 Tryz.func6 (JD x0 (a1.length:Int) r8 hr8) ⟨rfl,tv⟩ Qd ⟨rfl,tv⟩) ?_
 conv=>whnf
 obtain⟨e9,he9,hF⟩:=bs' hF
 refine Qc (enc:=iA) (l:=a1) he9 rfl (fun m_e_9 hm_e_9 hx_e_9=> ?_)
 conv=>whnf
 refine⟨_,Jv (enc:=iA) hx_e_9,?_⟩
 conv=>whnf
 obtain rfl:=si hF
 exact Jk [0] [] [] rfl aq ⟨bN,tv⟩
theorem Jb7 (x0:Src) (x1:Int) (x2:Int) (x3:(List Int)) (x4:(List Int)) (r:Node×Src) (hF:Jai x0 x1 x2 x3 x4=some r):AC Tryz.prog 25 [.ptr 0 0,.int .i64 x1,.int .i64 x2,.lst 1 (x3.map iA),.lst 1 (x4.map iA)] [.box (ZP x0)] (.agg (Jb r.1)) ([.box (ZP r.2)]):=by
 refine Ju Jc Ja Tryz.func25 rfl Tryz.ntmps25 rfl ?_
 unfold Jai at hF
 conv=>whnf
 obtain⟨r1,hr1,hF⟩:=bs' hF
 refine cE (dX false [0] [] 0 Tryz.func44 (Jcv x0 x3 r1 hr1) ⟨rfl,tv⟩ Qd ⟨rfl,tv⟩) ?_
 conv=>whnf
 obtain⟨r2,hr2,hF⟩:=bs' hF
 refine cE (dX false [0] [] 0 Tryz.func24 (ZG r1.2 1 3 r2 hr2) ⟨rfl,tv⟩ Qd ⟨rfl,tv⟩) ?_
 conv=>whnf
 obtain⟨r3,hr3,hF⟩:=bs' hF
 refine cE (dX false [0] [] 0 Tryz.func58 (JdQ r2.2 x4 (-1:Int) r3 hr3) ⟨rfl,tv⟩ Qd ⟨rfl,tv⟩) ?_
 conv=>whnf
 refine xB hF (fun b4 hF=> ?_) fun b4 hF=> ?_
 conv=>whnf
 refine⟨_,rfl,?_⟩
 conv=>whnf
 obtain rfl:=si hF
 exact Jk [0] [] [6] rfl (aA [.str (⟨#[]⟩:ByteArray),.int .i64 r1.1,.int .i64 (w64 (r2.1+1)),.int .i64 x2,.osl 6] ⟨(.ni _ rfl),(.ni _ rfl),(.ni _ rfl),(.ni _ rfl),(.osl 6 1 _ (by simp) rfl (QI (fun _=>⟨rfl,rfl⟩) _)),tv⟩) ⟨bN,tv⟩
 conv=>whnf
 refine xB hF (fun b5 hF=> ?_) fun b5 hF=> ?_
 conv=>whnf
 obtain⟨r4,hr4,hF⟩:=bs' hF
 refine cE (dX false [0] [] 0 Tryz.func58 (JdQ r3.2 x4 r3.1 r4 hr4) ⟨rfl,tv⟩ Qd ⟨rfl,tv⟩) ?_
 conv=>whnf
 refine xB hF (fun b6 hF=> ?_) fun b6 hF=> ?_
 conv=>whnf
 obtain rfl:=si hF
 exact Jk [0] [] [7] rfl (aA [.str (⟨#[]⟩:ByteArray),.int .i64 2,.int .i64 r2.1,.int .i64 x2,.osl 7] ⟨(.ni _ rfl),(.ni _ rfl),(.ni _ rfl),(.ni _ rfl),(.osl 7 1 _ (by simp) rfl (QI (fun _=>⟨rfl,rfl⟩) _)),tv⟩) ⟨bN,tv⟩
 conv=>whnf
 obtain rfl:=si hF
 exact Jk [0] [] [7] rfl (aA [.str (⟨#[]⟩:ByteArray),.int .i64 r1.1,.int .i64 r2.1,.int .i64 x2,.osl 7] ⟨(.ni _ rfl),(.ni _ rfl),(.ni _ rfl),(.ni _ rfl),(.osl 7 1 _ (by simp) rfl (QI (fun _=>⟨rfl,rfl⟩) _)),tv⟩) ⟨bN,tv⟩
 conv=>whnf
 obtain rfl:=si hF
 exact Jk [0] [] [6] rfl (aA [.str (⟨#[]⟩:ByteArray),.int .i64 r1.1,.int .i64 r2.1,.int .i64 x2,.osl 6] ⟨(.ni _ rfl),(.ni _ rfl),(.ni _ rfl),(.ni _ rfl),(.osl 6 1 _ (by simp) rfl (QI (fun _=>⟨rfl,rfl⟩) _)),tv⟩) ⟨bN,tv⟩
theorem JmL (x0:(List Int)) (x1:Int) (r:Bool) (hF:Jgu x0 x1=some r):AC Tryz.prog 26 [.lst 1 (x0.map iA),.int .i64 x1] [] (.bool r) ([]):=by
 refine Ju Jc Ja Tryz.func26 rfl Tryz.ntmps26 rfl ?_
 unfold Jgu at hF
 conv=>whnf
 obtain⟨c1,hc_1,hF⟩:=Jr hF
 refine J1 0 (v:= .lst 1 (x0.map iA)) (by(conv=>lhs;whnf)<;>rfl) (fun hb=> ?_)
 have hbd_k_2:x0.length<=9223372036854775807:=Jz (enc:=iA) (hb)
 refine Jo Jc Ja (fun y:Nat=>y<=x0.length∧Jbx x1 (x0.drop y) y=some c1) (fun y=>⟨eL [(0,.lst 1 (x0.map iA)),(1,.int .i64 x1),(5,.int .i64 (y:Int))],hL [],0⟩) (fun y=>x0.length - y) 0 ⟨Nat.zero_le _,hc_1⟩ (wK [] [] []) ?_
 rintro k2 ⟨hk_k_2,hL1⟩
 try dsimp only at hk_k_2 hL1
 show awp _ _ _ _ _ _ ⟨eL [(0,.lst 1 (x0.map iA)),(1,.int .i64 x1),(5,.int .i64 (k2:Int))],hL [],0⟩
 conv=>whnf
 refine Jm (enc:=iA) (l:=x0) rfl ?_
 conv=>whnf
 refine⟨fun h=> ?_,fun h=> ?_⟩
 have lk2:k2<x0.length:=by have h:=Wt h;omega
 obtain⟨e3,he3⟩:=ge lk2
 rw [Jl he3,Jbx.eq_2] at hL1
 conv=>whnf
 refine⟨k2,_,rfl,Jv he3,?_⟩
 conv=>whnf
 refine xB hL1 (fun b7 hL1=> ?_) fun b7 hL1=> ?_
 conv=>whnf
 obtain rfl:=si hL1
 replace hF:=Jn hF
 obtain rfl:=si hF
 exact rZ
 conv=>whnf
 refine⟨((k2+1:Nat):Int),wE,?_⟩
 conv=>whnf
 exact⟨k2+1,_,_,_,⟨lk2,hL1⟩,sl lk2,wK [] [] []⟩
 rw [Jq (nl h),Jbx.eq_1] at hL1
 conv=>whnf
 obtain rfl:=si hL1
 replace hF:=Jw hF
 try dsimp only at hF
 obtain rfl:=si hF
 exact rZ
theorem JcZ (x0:Src) (x1:Layout) (r:(List Device)×Src×(List Node)) (hF:Zm x0 x1=some r):AC Tryz.prog 27 [.ptr 0 0,.agg [.osl 1,.nils]] [.box (ZP x0),.row 5 (x1.Nodes.map Jb)] (.osl 2) ([.box (ZP r.2.1),.row 5 (r.2.2.map Jb),.row 3 (r.1.map Jd)]):=by
 refine Ju Jc Ja Tryz.func27 rfl Tryz.ntmps27 rfl ?_
 unfold Zm at hF
 conv=>whnf
 obtain⟨c1,hc_1,hF⟩:=Jr hF
 refine Jk4 1 (sz:=5) (xs:=x1.Nodes.map Jb) (by(conv=>lhs;whnf)<;>rfl) (fun hb=> ?_)
 have hbd_k_5:x1.Nodes.length<=9223372036854775807:=Jz (enc:=Jb) (hb)
 refine Jo Jc Ja (fun y:Nat×(List Int)×Int×(List Device)=>y.1<=x1.Nodes.length∧Yh (x1.Nodes.drop y.1) y.1 y.2.1 y.2.2.1 y.2.2.2=some c1) (fun y=>⟨eL [(0,.ptr 0 0),(3,.ptr 2 0),(5,.osl 3),(6,.int .i64 (y.1:Int))],hL [(0,.box [.lst 1 (y.2.1.map iA),.int .i64 y.2.2.1]),(1,.row 5 (x1.Nodes.map Jb)),(2,.box [.osl 1,.nils]),(3,.row 3 (y.2.2.2.map Jd))],4⟩) (fun y=>x1.Nodes.length - y.1) (0,x0.L,x0.At,([]:List Device)) ⟨Nat.zero_le _,hc_1⟩ (wK [0,1,2] [3] [] ⟨bN,bR,Jy rfl rfl rfl ⟨(.oslg 1 1 rfl),(.ni _ rfl),tv⟩,Jci rfl,tv⟩) ?_
 rintro⟨k5,a1,i2,a3⟩ ⟨hk_k_5,hL1⟩
 try dsimp only at hk_k_5 hL1
 show awp _ _ _ _ _ _ ⟨eL [(0,.ptr 0 0),(3,.ptr 2 0),(5,.osl 3),(6,.int .i64 (k5:Int))],hL [(0,.box [.lst 1 (a1.map iA),.int .i64 i2]),(1,.row 5 (x1.Nodes.map Jb)),(2,.box [.osl 1,.nils]),(3,.row 3 (a3.map Jd))],4⟩
 conv=>whnf
 refine Jm (enc:=Jb) (l:=x1.Nodes) rfl ?_
 conv=>whnf
 refine⟨fun h=> ?_,fun h=> ?_⟩
 have lk5:k5<x1.Nodes.length:=by have h:=Wt h;omega
 obtain⟨e6,he6⟩:=ge lk5
 rw [Jl he6,Yh.eq_2] at hL1
 conv=>whnf
 obtain⟨c2,hc_2,hL1⟩:=YF hL1
 refine Jo Jc Ja (fun y:Nat×(List Int)×Int×(List Device)×Int=>Jt k5 e6 y.1 y.2.1 y.2.2.1 y.2.2.2.1 y.2.2.2.2=some c2) (fun y=>⟨eL [(0,.ptr 0 0),(3,.ptr 2 0),(5,.osl 3),(6,.int .i64 (k5:Int)),(7,.int .i64 y.2.2.2.2)],hL [(0,.box [.lst 1 (y.2.1.map iA),.int .i64 y.2.2.1]),(1,.row 5 (x1.Nodes.map Jb)),(2,.box [.osl 1,.nils]),(3,.row 3 (y.2.2.2.1.map Jd))],4⟩) (fun y=>y.1) (9223372036854775807,a1,i2,a3,0) hc_2 (wK [0,1,2,3] [] [] ⟨bN,bR,Jy rfl rfl rfl ⟨(.oslg 1 1 rfl),(.ni _ rfl),tv⟩,bR,tv⟩) ?_
 rintro⟨q22,a7,i8,a9,i10⟩ hL2
 try dsimp only at hL2
 rcases q22 with _ |q22
 rw [Jt.eq_1] at hL2
 cases hL2
 rw [Jt.eq_2] at hL2
 show awp _ _ _ _ _ _ ⟨eL [(0,.ptr 0 0),(3,.ptr 2 0),(5,.osl 3),(6,.int .i64 (k5:Int)),(7,.int .i64 i10)],hL [(0,.box [.lst 1 (a7.map iA),.int .i64 i8]),(1,.row 5 (x1.Nodes.map Jb)),(2,.box [.osl 1,.nils]),(3,.row 3 (a9.map Jd))],4⟩
 conv=>whnf
 refine⟨k5,rfl,by rw [List.length_map];exact lk5,?_⟩
 conv=>whnf
 refine⟨_,Jv (enc:=Jb) he6,?_⟩
 conv=>whnf
 refine xB hL2 (fun b156 hL2=> ?_) fun b156 hL2=> ?_
 conv=>whnf
 refine⟨k5,rfl,by rw [List.length_map];exact lk5,?_⟩
 conv=>whnf
 refine⟨_,Jv (enc:=Jb) he6,?_⟩
 conv=>whnf
 refine⟨_,rfl,?_⟩
 conv=>whnf
 refine Jm (enc:=Jd) (l:=a9) rfl ?_
 conv=>whnf
 refine xB hL2 (fun b157 hL2=> ?_) fun b157 hL2=> ?_
 conv=>whnf
 obtain⟨r11,hr11,hL2⟩:=bs' hL2
 refine cE (dX false [0] [] 0 Tryz.func6 (JD (⟨a7,i8⟩:Src) 3 r11 hr11) ⟨rfl,tv⟩ Qd ⟨rfl,tv⟩) ?_
 conv=>whnf
 refine⟨fun b158=> ?_,fun b158=> ?_⟩
 replace hL2:=cf b158 hL2
 conv=>whnf
 refine xB hL2 (fun b161 hL2=> ?_) fun b161 hL2=> ?_
 conv=>whnf
 refine⟨k5,rfl,by rw [List.length_map];exact lk5,?_⟩
 conv=>whnf
 refine⟨_,Jv (enc:=Jb) he6,?_⟩
 conv=>whnf
 refine xB hL2 (fun b162 hL2=> ?_) fun b162 hL2=> ?_
 conv=>whnf
 obtain⟨l15,hl15,hL2⟩:=bs' hL2
 refine ZV (enc:=Jd) (l:=a9) (y:=([(⟨2,(k5:Int),i10⟩:Device)]:List Device)) hl15 rfl rfl (by decide) ?_
 conv=>whnf
 refine Jm (enc:=Jd) (l:=l15) rfl ?_
 conv=>whnf
 refine xB hL2 (fun b163 hL2=> ?_) fun b163 hL2=> ?_
 conv=>whnf
 obtain⟨r16,hr16,hL2⟩:=bs' hL2
 refine cE (dX false [0] [] 0 Tryz.func6 (JD r11.2 2 r16 hr16) ⟨rfl,tv⟩ Qd ⟨rfl,tv⟩) ?_
 conv=>whnf
 refine xB hL2 (fun b164 hL2=> ?_) fun b164 hL2=> ?_
 conv=>whnf
 obtain⟨l17,hl17,hL2⟩:=bs' hL2
 refine ZV (enc:=Jd) (l:=l15) (y:=([(⟨1,(k5:Int),i10⟩:Device)]:List Device)) hl17 rfl rfl (by decide) ?_
 conv=>whnf
 refine⟨_,rfl,?_⟩
 conv=>whnf
 exact⟨(q22,r16.2.L,r16.2.At,l17,(w64 (i10+1))),_,_,_,hL2,Wn _,wK [0,1,2,9] [] [] ⟨bN,bR,Jy rfl rfl rfl ⟨(.oslg 1 1 rfl),(.ni _ rfl),tv⟩,bR,tv⟩⟩
 conv=>whnf
 refine⟨_,rfl,?_⟩
 conv=>whnf
 exact⟨(q22,r16.2.L,r16.2.At,l15,(w64 (i10+1))),_,_,_,hL2,Wn _,wK [0,1,2,6] [] [] ⟨bN,bR,Jy rfl rfl rfl ⟨(.oslg 1 1 rfl),(.ni _ rfl),tv⟩,bR,tv⟩⟩
 conv=>whnf
 refine⟨_,rfl,?_⟩
 conv=>whnf
 exact⟨(q22,r11.2.L,r11.2.At,l15,(w64 (i10+1))),_,_,_,hL2,Wn _,wK [0,1,2,6] [] [] ⟨bN,bR,Jy rfl rfl rfl ⟨(.oslg 1 1 rfl),(.ni _ rfl),tv⟩,bR,tv⟩⟩
 conv=>whnf
 refine Jm (enc:=Jd) (l:=a9) rfl ?_
 conv=>whnf
 refine⟨fun h=> ?_,fun h=> ?_⟩
 conv=>whnf
 obtain⟨r18,hr18,hL2⟩:=bs' hL2
 refine cE (dX false [0] [] 0 Tryz.func6 (JD r11.2 2 r18 hr18) ⟨rfl,tv⟩ Qd ⟨rfl,tv⟩) ?_
 conv=>whnf
 refine xB hL2 (fun b165 hL2=> ?_) fun b165 hL2=> ?_
 conv=>whnf
 obtain⟨l19,hl19,hL2⟩:=bs' hL2
 refine ZV (enc:=Jd) (l:=a9) (y:=([(⟨1,(k5:Int),i10⟩:Device)]:List Device)) hl19 rfl rfl (by decide) ?_
 conv=>whnf
 refine⟨_,rfl,?_⟩
 conv=>whnf
 exact⟨(q22,r18.2.L,r18.2.At,l19,(w64 (i10+1))),_,_,_,hL2,Wn _,wK [0,1,2,7] [] [] ⟨bN,bR,Jy rfl rfl rfl ⟨(.oslg 1 1 rfl),(.ni _ rfl),tv⟩,bR,tv⟩⟩
 conv=>whnf
 refine⟨_,rfl,?_⟩
 conv=>whnf
 exact⟨(q22,r18.2.L,r18.2.At,a9,(w64 (i10+1))),_,_,_,hL2,Wn _,wK [0,1,2,3] [] [] ⟨bN,bR,Jy rfl rfl rfl ⟨(.oslg 1 1 rfl),(.ni _ rfl),tv⟩,bR,tv⟩⟩
 cases (b157).symm.trans h
 conv=>whnf
 refine Jm (enc:=Jd) (l:=a9) rfl ?_
 conv=>whnf
 refine⟨fun h=> ?_,fun h=> ?_⟩
 conv=>whnf
 obtain⟨r20,hr20,hL2⟩:=bs' hL2
 refine cE (dX false [0] [] 0 Tryz.func6 (JD r11.2 2 r20 hr20) ⟨rfl,tv⟩ Qd ⟨rfl,tv⟩) ?_
 conv=>whnf
 refine xB hL2 (fun b166 hL2=> ?_) fun b166 hL2=> ?_
 conv=>whnf
 obtain⟨l21,hl21,hL2⟩:=bs' hL2
 refine ZV (enc:=Jd) (l:=a9) (y:=([(⟨1,(k5:Int),i10⟩:Device)]:List Device)) hl21 rfl rfl (by decide) ?_
 conv=>whnf
 refine⟨_,rfl,?_⟩
 conv=>whnf
 exact⟨(q22,r20.2.L,r20.2.At,l21,(w64 (i10+1))),_,_,_,hL2,Wn _,wK [0,1,2,7] [] [] ⟨bN,bR,Jy rfl rfl rfl ⟨(.oslg 1 1 rfl),(.ni _ rfl),tv⟩,bR,tv⟩⟩
 conv=>whnf
 refine⟨_,rfl,?_⟩
 conv=>whnf
 exact⟨(q22,r20.2.L,r20.2.At,a9,(w64 (i10+1))),_,_,_,hL2,Wn _,wK [0,1,2,3] [] [] ⟨bN,bR,Jy rfl rfl rfl ⟨(.oslg 1 1 rfl),(.ni _ rfl),tv⟩,bR,tv⟩⟩
 cases (b157).symm.trans h
 replace hL2:=ct b158 hL2
 conv=>whnf
 obtain⟨l12,hl12,hL2⟩:=bs' hL2
 refine ZV (enc:=Jd) (l:=a9) (y:=([(⟨2,(k5:Int),i10⟩:Device)]:List Device)) hl12 rfl rfl (by decide) ?_
 conv=>whnf
 refine Jm (enc:=Jd) (l:=l12) rfl ?_
 conv=>whnf
 refine xB hL2 (fun b159 hL2=> ?_) fun b159 hL2=> ?_
 conv=>whnf
 obtain⟨r13,hr13,hL2⟩:=bs' hL2
 refine cE (dX false [0] [] 0 Tryz.func6 (JD r11.2 2 r13 hr13) ⟨rfl,tv⟩ Qd ⟨rfl,tv⟩) ?_
 conv=>whnf
 refine xB hL2 (fun b160 hL2=> ?_) fun b160 hL2=> ?_
 conv=>whnf
 obtain⟨l14,hl14,hL2⟩:=bs' hL2
 refine ZV (enc:=Jd) (l:=l12) (y:=([(⟨1,(k5:Int),i10⟩:Device)]:List Device)) hl14 rfl rfl (by decide) ?_
 conv=>whnf
 refine⟨_,rfl,?_⟩
 conv=>whnf
 exact⟨(q22,r13.2.L,r13.2.At,l14,(w64 (i10+1))),_,_,_,hL2,Wn _,wK [0,1,2,9] [] [] ⟨bN,bR,Jy rfl rfl rfl ⟨(.oslg 1 1 rfl),(.ni _ rfl),tv⟩,bR,tv⟩⟩
 conv=>whnf
 refine⟨_,rfl,?_⟩
 conv=>whnf
 exact⟨(q22,r13.2.L,r13.2.At,l12,(w64 (i10+1))),_,_,_,hL2,Wn _,wK [0,1,2,6] [] [] ⟨bN,bR,Jy rfl rfl rfl ⟨(.oslg 1 1 rfl),(.ni _ rfl),tv⟩,bR,tv⟩⟩
 conv=>whnf
 refine⟨_,rfl,?_⟩
 conv=>whnf
 exact⟨(q22,r11.2.L,r11.2.At,l12,(w64 (i10+1))),_,_,_,hL2,Wn _,wK [0,1,2,6] [] [] ⟨bN,bR,Jy rfl rfl rfl ⟨(.oslg 1 1 rfl),(.ni _ rfl),tv⟩,bR,tv⟩⟩
 conv=>whnf
 refine Jm (enc:=Jd) (l:=a9) rfl ?_
 conv=>whnf
 refine⟨fun h=> ?_,fun h=> ?_⟩
 cases (b157).symm.trans h
 conv=>whnf
 refine⟨_,rfl,?_⟩
 conv=>whnf
 exact⟨(q22,a7,i8,a9,(w64 (i10+1))),_,_,_,hL2,Wn _,wK [0,1,2,3] [] [] ⟨bN,bR,Jy rfl rfl rfl ⟨(.oslg 1 1 rfl),(.ni _ rfl),tv⟩,bR,tv⟩⟩
 conv=>whnf
 obtain rfl:=si hL2
 replace hL1:=Zz hL1
 try dsimp only at hL1
 refine⟨((k5+1:Nat):Int),wE,?_⟩
 conv=>whnf
 exact⟨(k5+1,a7,i8,a9),_,_,_,⟨lk5,hL1⟩,sl lk5,wK [0,1,2,3] [] [] ⟨bN,bR,Jy rfl rfl rfl ⟨(.oslg 1 1 rfl),(.ni _ rfl),tv⟩,bR,tv⟩⟩
 rw [Jq (nl h),Yh.eq_1] at hL1
 conv=>whnf
 obtain rfl:=si hL1
 replace hF:=Jw hF
 try dsimp only at hF
 obtain rfl:=si hF
 exact Jk [0,1,3] [] [] rfl (aO 3) ⟨bN,bR,bR,tv⟩
theorem Jf9 (x0:Src) (r:Layout×Src) (hF:JaP x0=some r):AC Tryz.prog 5 [.ptr 0 0] [.box (ZP x0)] (.agg (JC r.1)) ([.box (ZP r.2)]):=by
 refine Ju Jc Ja Tryz.func5 rfl Tryz.ntmps5 rfl ?_
 unfold JaP at hF
 conv=>whnf
 obtain⟨r1,hr1,hF⟩:=bs' hF
 refine cE (dX false [0] [] 0 Tryz.func24 (ZG x0 1 3 r1 hr1) ⟨rfl,tv⟩ Qd ⟨rfl,tv⟩) ?_
 conv=>whnf
 obtain⟨r2,hr2,hF⟩:=bs' hF
 refine cE (dX false [0] [] 0 Tryz.func24 (ZG r1.2 0 3 r2 hr2) ⟨rfl,tv⟩ Qd ⟨rfl,tv⟩) ?_
 conv=>whnf
 obtain⟨r3,hr3,hF⟩:=bs' hF
 refine cE (dX false [0] [] 0 Tryz.func24 (ZG r2.2 1 2 r3 hr3) ⟨rfl,tv⟩ Qd ⟨rfl,tv⟩) ?_
 conv=>whnf
 refine⟨_,rfl,?_⟩
 conv=>whnf
 refine⟨_,rfl,?_⟩
 conv=>whnf
 refine⟨_,rfl,?_⟩
 conv=>whnf
 refine⟨_,rfl,?_⟩
 conv=>whnf
 refine⟨_,rfl,?_⟩
 conv=>whnf
 obtain⟨c1,hc_1,hF⟩:=Jr hF
 refine Jo Jc Ja (fun y:Nat×(List Int)×Int×(List Node)×Int=>JU r1 r2 r3 y.1 y.2.1 y.2.2.1 y.2.2.2.1 y.2.2.2.2=some c1) (fun y=>⟨eL [(0,.ptr 0 0),(2,.ptr 1 0),(4,.int .i64 r2.1),(6,.int .i64 (w64 ((w64 ((w64 ((w64 (r1.1+1))+r2.1))+r3.1))+2))),(7,.int .i64 r1.1),(8,.int .i64 (w64 ((w64 ((w64 ((w64 ((w64 (r1.1+1))+r2.1))+r3.1))+2)) - 2))),(9,.ptr 2 0),(10,.int .i64 y.2.2.2.2)],hL [(0,.box [.lst 1 (y.2.1.map iA),.int .i64 y.2.2.1]),(1,.box [.nils,.nils]),(2,.box [.osl 3,.nils]),(3,.row 5 (y.2.2.2.1.map Jb))],4⟩) (fun y=>y.1) (9223372036854775807,r3.2.L,r3.2.At,([]:List Node),0) hc_1 (wK [0,1,5] [3] [] ⟨bN,bN,Jy rfl rfl rfl ⟨(.nilz 3 (by simp)),(.ni _ rfl),tv⟩,Jci rfl,tv⟩) ?_
 rintro⟨q33,a4,i5,a6,i7⟩ hL1
 try dsimp only at hL1
 rcases q33 with _ |q33
 rw [JU.eq_1] at hL1
 cases hL1
 rw [JU.eq_2] at hL1
 show awp _ _ _ _ _ _ ⟨eL [(0,.ptr 0 0),(2,.ptr 1 0),(4,.int .i64 r2.1),(6,.int .i64 (w64 ((w64 ((w64 ((w64 (r1.1+1))+r2.1))+r3.1))+2))),(7,.int .i64 r1.1),(8,.int .i64 (w64 ((w64 ((w64 ((w64 ((w64 (r1.1+1))+r2.1))+r3.1))+2)) - 2))),(9,.ptr 2 0),(10,.int .i64 i7)],hL [(0,.box [.lst 1 (a4.map iA),.int .i64 i5]),(1,.box [.nils,.nils]),(2,.box [.osl 3,.nils]),(3,.row 5 (a6.map Jb))],4⟩
 conv=>whnf
 refine xB hL1 (fun b64 hL1=> ?_) fun b64 hL1=> ?_
 conv=>whnf
 refine⟨_,rfl,?_⟩
 conv=>whnf
 obtain⟨c2,hc_2,hL1⟩:=YF hL1
 refine Jo Jc Ja (fun y:Nat×(List Int)×Int=>YA r1 y.1 y.2.1 y.2.2=some c2) (fun y=>⟨eL [(0,.ptr 0 0),(2,.ptr 1 0),(4,.int .i64 r2.1),(6,.int .i64 (w64 ((w64 ((w64 ((w64 (r1.1+1))+r2.1))+r3.1))+2))),(7,.int .i64 r1.1),(8,.int .i64 (w64 ((w64 ((w64 ((w64 ((w64 (r1.1+1))+r2.1))+r3.1))+2)) - 2))),(9,.ptr 2 0),(10,.int .i64 i7),(11,.osl 4),(12,.nils),(13,.int .i64 y.2.2)],hL [(0,.box [.lst 1 (a4.map iA),.int .i64 i5]),(1,.box [.nils,.nils]),(2,.box [.osl 3,.nils]),(3,.row 5 (a6.map Jb)),(4,.row 1 (y.2.1.map iA))],5⟩) (fun y=>y.1) (9223372036854775807,([]:List Int),(w64 (i7+1))) hc_2 (wK [0,1,2,3] [4] [] ⟨bN,bN,Jy rfl rfl rfl ⟨(.oslg 3 3 rfl),(.ni _ rfl),tv⟩,bR,Jci rfl,tv⟩) ?_
 rintro⟨q11,a8,i9⟩ hL2
 try dsimp only at hL2
 rcases q11 with _ |q11
 rw [YA.eq_1] at hL2
 cases hL2
 rw [YA.eq_2] at hL2
 show awp _ _ _ _ _ _ ⟨eL [(0,.ptr 0 0),(2,.ptr 1 0),(4,.int .i64 r2.1),(6,.int .i64 (w64 ((w64 ((w64 ((w64 (r1.1+1))+r2.1))+r3.1))+2))),(7,.int .i64 r1.1),(8,.int .i64 (w64 ((w64 ((w64 ((w64 ((w64 (r1.1+1))+r2.1))+r3.1))+2)) - 2))),(9,.ptr 2 0),(10,.int .i64 i7),(11,.osl 4),(12,.nils),(13,.int .i64 i9)],hL [(0,.box [.lst 1 (a4.map iA),.int .i64 i5]),(1,.box [.nils,.nils]),(2,.box [.osl 3,.nils]),(3,.row 5 (a6.map Jb)),(4,.row 1 (a8.map iA))],5⟩
 conv=>whnf
 refine xB hL2 (fun b65 hL2=> ?_) fun b65 hL2=> ?_
 conv=>whnf
 obtain⟨l10,hl10,hL2⟩:=bs' hL2
 refine ZV (enc:=iA) (l:=a8) (y:=([i9]:List Int)) hl10 rfl rfl (by decide) ?_
 conv=>whnf
 refine⟨_,rfl,?_⟩
 conv=>whnf
 exact⟨(q11,l10,(w64 (i9+1))),_,_,_,hL2,Wn _,wK [0,1,2,3,6] [] [] ⟨bN,bN,Jy rfl rfl rfl ⟨(.oslg 3 3 rfl),(.ni _ rfl),tv⟩,bR,bR,tv⟩⟩
 conv=>whnf
 obtain rfl:=si hL2
 replace hL1:=Zz hL1
 try dsimp only at hL1
 obtain⟨l13,hl13,hL1⟩:=bs' hL1
 refine ZV (enc:=iA) (l:=a8) (y:=([(w64 ((w64 ((w64 ((w64 ((w64 (r1.1+1))+r2.1))+r3.1))+2)) - 2))]:List Int)) hl13 rfl rfl (by decide) ?_
 conv=>whnf
 refine⟨_,rfl,?_⟩
 conv=>whnf
 obtain⟨c3,hc_3,hL1⟩:=YF hL1
 refine Jo Jc Ja (fun y:Nat×(List Int)×Int=>Yz r1 r2 r3 y.1 y.2.1 y.2.2=some c3) (fun y=>⟨eL [(0,.ptr 0 0),(2,.ptr 1 0),(4,.int .i64 r2.1),(6,.int .i64 (w64 ((w64 ((w64 ((w64 (r1.1+1))+r2.1))+r3.1))+2))),(7,.int .i64 r1.1),(8,.int .i64 (w64 ((w64 ((w64 ((w64 ((w64 (r1.1+1))+r2.1))+r3.1))+2)) - 2))),(9,.ptr 2 0),(10,.int .i64 i7),(11,.osl 4),(12,.osl 5),(14,.int .i64 y.2.2)],hL [(0,.box [.lst 1 (a4.map iA),.int .i64 i5]),(1,.box [.nils,.nils]),(2,.box [.osl 3,.nils]),(3,.row 5 (a6.map Jb)),(4,.row 1 (l13.map iA)),(5,.row 1 (y.2.1.map iA))],6⟩) (fun y=>y.1) (9223372036854775807,([]:List Int),(w64 ((if i7<r1.1 then r1.1 else i7)+1))) hc_3 (wK [0,1,2,3,6] [5] [] ⟨bN,bN,Jy rfl rfl rfl ⟨(.oslg 3 3 rfl),(.ni _ rfl),tv⟩,bR,bR,Jci rfl,tv⟩) ?_
 rintro⟨q17,a14,i15⟩ hL2
 try dsimp only at hL2
 rcases q17 with _ |q17
 rw [Yz.eq_1] at hL2
 cases hL2
 rw [Yz.eq_2] at hL2
 show awp _ _ _ _ _ _ ⟨eL [(0,.ptr 0 0),(2,.ptr 1 0),(4,.int .i64 r2.1),(6,.int .i64 (w64 ((w64 ((w64 ((w64 (r1.1+1))+r2.1))+r3.1))+2))),(7,.int .i64 r1.1),(8,.int .i64 (w64 ((w64 ((w64 ((w64 ((w64 (r1.1+1))+r2.1))+r3.1))+2)) - 2))),(9,.ptr 2 0),(10,.int .i64 i7),(11,.osl 4),(12,.osl 5),(14,.int .i64 i15)],hL [(0,.box [.lst 1 (a4.map iA),.int .i64 i5]),(1,.box [.nils,.nils]),(2,.box [.osl 3,.nils]),(3,.row 5 (a6.map Jb)),(4,.row 1 (l13.map iA)),(5,.row 1 (a14.map iA))],6⟩
 conv=>whnf
 refine xB hL2 (fun b66 hL2=> ?_) fun b66 hL2=> ?_
 conv=>whnf
 obtain⟨l16,hl16,hL2⟩:=bs' hL2
 refine ZV (enc:=iA) (l:=a14) (y:=([i15]:List Int)) hl16 rfl rfl (by decide) ?_
 conv=>whnf
 refine⟨_,rfl,?_⟩
 conv=>whnf
 exact⟨(q17,l16,(w64 (i15+1))),_,_,_,hL2,Wn _,wK [0,1,2,3,4,7] [] [] ⟨bN,bN,Jy rfl rfl rfl ⟨(.oslg 3 3 rfl),(.ni _ rfl),tv⟩,bR,bR,bR,tv⟩⟩
 conv=>whnf
 obtain rfl:=si hL2
 replace hL1:=Zz hL1
 try dsimp only at hL1
 refine⟨_,rfl,?_⟩
 conv=>whnf
 obtain⟨l19,hl19,hL1⟩:=bs' hL1
 refine ZV (enc:=iA) (l:=a14) (y:=([(w64 ((w64 ((w64 ((w64 ((w64 (r1.1+1))+r2.1))+r3.1))+2)) - 1))]:List Int)) hl19 rfl rfl (by decide) ?_
 conv=>whnf
 refine xB hL1 (fun b67 hL1=> ?_) fun b67 hL1=> ?_
 conv=>whnf
 obtain⟨r20,hr20,hL1⟩:=bs' hL1
 refine cE (dX true [0] [9,4] 0 Tryz.func25 (Jb7 (⟨a4,i5⟩:Src) i7 0 ([1]:List Int) l13 r20 hr20) ⟨rfl,tv⟩ JdU ⟨rfl,tv⟩) ?_
 conv=>whnf
 refine⟨_,rfl,?_⟩
 conv=>whnf
 refine⟨_,rfl,?_⟩
 conv=>whnf
 refine⟨([(IntKind.u8.wrap (w64 (65+i7)))]:List Int),rfl,?_⟩
 conv=>whnf
 obtain⟨l21,hl21,hL1⟩:=bs' hL1
 refine ZV (enc:=Jb) (l:=a6) (y:=([(⟨(YS ([(IntKind.u8.wrap (w64 (65+i7)))]:List Int)),r20.1.Kind,r20.1.Length,r20.1.Zone,r20.1.Exits⟩:Node)]:List Node)) hl21 rfl rfl (by decide) ?_
 conv=>whnf
 refine⟨_,rfl,?_⟩
 conv=>whnf
 exact⟨(q33,r20.2.L,r20.2.At,l21,(w64 (i7+1))),_,_,_,hL1,Wn _,wK [0,1,2,13] [] [] ⟨bN,bN,Jy rfl rfl rfl ⟨(.oslg 13 3 rfl),(.ni _ rfl),tv⟩,bR,tv⟩⟩
 conv=>whnf
 refine xB hL1 (fun b68 hL1=> ?_) fun b68 hL1=> ?_
 conv=>whnf
 obtain⟨r22,hr22,hL1⟩:=bs' hL1
 refine cE (dX true [0] [9,4] 0 Tryz.func25 (Jb7 (⟨a4,i5⟩:Src) i7 0 ([2,3,4,5,3]:List Int) l13 r22 hr22) ⟨rfl,tv⟩ JdU ⟨rfl,tv⟩) ?_
 conv=>whnf
 refine⟨_,rfl,?_⟩
 conv=>whnf
 refine⟨_,rfl,?_⟩
 conv=>whnf
 refine⟨([(IntKind.u8.wrap (w64 (65+i7)))]:List Int),rfl,?_⟩
 conv=>whnf
 obtain⟨l23,hl23,hL1⟩:=bs' hL1
 refine ZV (enc:=Jb) (l:=a6) (y:=([(⟨(YS ([(IntKind.u8.wrap (w64 (65+i7)))]:List Int)),r22.1.Kind,r22.1.Length,r22.1.Zone,r22.1.Exits⟩:Node)]:List Node)) hl23 rfl rfl (by decide) ?_
 conv=>whnf
 refine⟨_,rfl,?_⟩
 conv=>whnf
 exact⟨(q33,r22.2.L,r22.2.At,l23,(w64 (i7+1))),_,_,_,hL1,Wn _,wK [0,1,2,13] [] [] ⟨bN,bN,Jy rfl rfl rfl ⟨(.oslg 13 3 rfl),(.ni _ rfl),tv⟩,bR,tv⟩⟩
 conv=>whnf
 refine xB hL1 (fun b69 hL1=> ?_) fun b69 hL1=> ?_
 conv=>whnf
 obtain⟨r24,hr24,hL1⟩:=bs' hL1
 refine cE (dX false [0] [] 0 Tryz.func24 (ZG (⟨a4,i5⟩:Src) 1 3 r24 hr24) ⟨rfl,tv⟩ Qd ⟨rfl,tv⟩) ?_
 conv=>whnf
 refine Jm (enc:=iA) (l:=l19) rfl ?_
 conv=>whnf
 obtain⟨r25,hr25,hL1⟩:=bs' hL1
 refine cE (dX false [0] [] 0 Tryz.func6 (JD r24.2 (l19.length:Int) r25 hr25) ⟨rfl,tv⟩ Qd ⟨rfl,tv⟩) ?_
 conv=>whnf
 obtain⟨e26,he26,hL1⟩:=bs' hL1
 refine Qc (enc:=iA) (l:=l19) he26 rfl (fun m_e_26 hm_e_26 hx_e_26=> ?_)
 conv=>whnf
 refine⟨_,Jv (enc:=iA) hx_e_26,?_⟩
 conv=>whnf
 refine⟨_,rfl,?_⟩
 conv=>whnf
 refine⟨_,rfl,?_⟩
 conv=>whnf
 refine⟨([(IntKind.u8.wrap (w64 (65+i7)))]:List Int),rfl,?_⟩
 conv=>whnf
 obtain⟨l27,hl27,hL1⟩:=bs' hL1
 refine JkN hl27 (by simp) (by simp [Jch]) (by decide) ?_
 conv=>whnf
 refine⟨_,rfl,?_⟩
 conv=>whnf
 exact⟨(q33,r25.2.L,r25.2.At,l27,(w64 (i7+1))),_,_,_,hL1,Wn _,wK [0,1,2,14] [] [11] ⟨bN,bN,Jy rfl rfl rfl ⟨(.oslg 14 3 rfl),(.ni _ rfl),tv⟩,Jcx rfl rfl (JbN.app (JbN.ni (JgW (fun _=>⟨rfl,rfl⟩) _)) (Jgf (c':=[.str (YS ([(IntKind.u8.wrap (w64 (65+i7)))]:List Int)),.int .i64 6,.int .i64 r24.1,.int .i64 0,.lst 1 (([(w64 ((w64 ((w64 ((w64 ((w64 (r1.1+1))+r2.1))+r3.1))+2)) - 2)),e26]:List Int).map iA)]) rfl rfl ⟨(.ni _ rfl),(.ni _ rfl),(.ni _ rfl),(.ni _ rfl),(.osl 11 1 _ (by simp) rfl (QI (fun _=>⟨rfl,rfl⟩) _)),tv⟩)) (by rw [(Jbr hl27).2,List.map_append];rfl),tv⟩⟩
 conv=>whnf
 refine⟨_,rfl,?_⟩
 conv=>whnf
 refine⟨_,rfl,?_⟩
 conv=>whnf
 refine xB hL1 (fun b70 hL1=> ?_) fun b70 hL1=> ?_
 conv=>whnf
 obtain⟨r28,hr28,hL1⟩:=bs' hL1
 refine cE (dX true [0] [9,7] 0 Tryz.func25 (Jb7 (⟨a4,i5⟩:Src) i7 1 ([2,4,5,7]:List Int) l19 r28 hr28) ⟨rfl,tv⟩ JdU ⟨rfl,tv⟩) ?_
 conv=>whnf
 refine xB hL1 (fun b71 hL1=> ?_) fun b71 hL1=> ?_
 conv=>whnf
 refine⟨_,rfl,?_⟩
 conv=>whnf
 refine⟨_,rfl,?_⟩
 conv=>whnf
 refine⟨([(IntKind.u8.wrap (w64 (65+i7)))]:List Int),rfl,?_⟩
 conv=>whnf
 obtain⟨l29,hl29,hL1⟩:=bs' hL1
 refine ZV (enc:=Jb) (l:=a6) (y:=([(⟨(YS ([(IntKind.u8.wrap (w64 (65+i7)))]:List Int)),r28.1.Kind,0,r28.1.Zone,r28.1.Exits⟩:Node)]:List Node)) hl29 rfl rfl (by decide) ?_
 conv=>whnf
 refine⟨_,rfl,?_⟩
 conv=>whnf
 exact⟨(q33,r28.2.L,r28.2.At,l29,(w64 (i7+1))),_,_,_,hL1,Wn _,wK [0,1,2,13] [] [] ⟨bN,bN,Jy rfl rfl rfl ⟨(.oslg 13 3 rfl),(.ni _ rfl),tv⟩,bR,tv⟩⟩
 conv=>whnf
 refine⟨_,rfl,?_⟩
 conv=>whnf
 refine⟨_,rfl,?_⟩
 conv=>whnf
 refine⟨([(IntKind.u8.wrap (w64 (65+i7)))]:List Int),rfl,?_⟩
 conv=>whnf
 obtain⟨l30,hl30,hL1⟩:=bs' hL1
 refine ZV (enc:=Jb) (l:=a6) (y:=([(⟨(YS ([(IntKind.u8.wrap (w64 (65+i7)))]:List Int)),r28.1.Kind,r28.1.Length,r28.1.Zone,r28.1.Exits⟩:Node)]:List Node)) hl30 rfl rfl (by decide) ?_
 conv=>whnf
 refine⟨_,rfl,?_⟩
 conv=>whnf
 exact⟨(q33,r28.2.L,r28.2.At,l30,(w64 (i7+1))),_,_,_,hL1,Wn _,wK [0,1,2,13] [] [] ⟨bN,bN,Jy rfl rfl rfl ⟨(.oslg 13 3 rfl),(.ni _ rfl),tv⟩,bR,tv⟩⟩
 conv=>whnf
 refine xB hL1 (fun b72 hL1=> ?_) fun b72 hL1=> ?_
 conv=>whnf
 refine⟨_,rfl,?_⟩
 conv=>whnf
 refine⟨_,rfl,?_⟩
 conv=>whnf
 refine⟨([(IntKind.u8.wrap (w64 (65+i7)))]:List Int),rfl,?_⟩
 conv=>whnf
 obtain⟨l31,hl31,hL1⟩:=bs' hL1
 refine JkN hl31 (by simp) (by simp [Jch]) (by decide) ?_
 conv=>whnf
 refine⟨_,rfl,?_⟩
 conv=>whnf
 exact⟨(q33,a4,i5,l31,(w64 (i7+1))),_,_,_,hL1,Wn _,wK [0,1,2,11] [] [] ⟨bN,bN,Jy rfl rfl rfl ⟨(.oslg 11 3 rfl),(.ni _ rfl),tv⟩,Jcx rfl rfl (JbN.app (JbN.ni (JgW (fun _=>⟨rfl,rfl⟩) _)) (Jgf (c':=[.str (YS ([(IntKind.u8.wrap (w64 (65+i7)))]:List Int)),.int .i64 8,.int .i64 0,.int .i64 1,.lst 1 (([]:List Int).map iA)]) rfl rfl ⟨(.ni _ rfl),(.ni _ rfl),(.ni _ rfl),(.ni _ rfl),(.nils _),tv⟩)) (by rw [(Jbr hl31).2,List.map_append];rfl),tv⟩⟩
 conv=>whnf
 refine⟨_,rfl,?_⟩
 conv=>whnf
 refine⟨_,rfl,?_⟩
 conv=>whnf
 refine⟨_,rfl,?_⟩
 conv=>whnf
 refine⟨([(IntKind.u8.wrap (w64 (65+i7)))]:List Int),rfl,?_⟩
 conv=>whnf
 obtain⟨l32,hl32,hL1⟩:=bs' hL1
 refine JkN hl32 (by simp) (by simp [Jch]) (by decide) ?_
 conv=>whnf
 refine⟨_,rfl,?_⟩
 conv=>whnf
 exact⟨(q33,a4,i5,l32,(w64 (i7+1))),_,_,_,hL1,Wn _,wK [0,1,2,11] [] [] ⟨bN,bN,Jy rfl rfl rfl ⟨(.oslg 11 3 rfl),(.ni _ rfl),tv⟩,Jcx rfl rfl (JbN.app (JbN.ni (JgW (fun _=>⟨rfl,rfl⟩) _)) (Jgf (c':=[.str (YS ([(IntKind.u8.wrap (w64 (65+i7)))]:List Int)),.int .i64 9,.int .i64 0,.int .i64 (w64 (i7 - (w64 ((w64 ((w64 ((w64 ((w64 (r1.1+1))+r2.1))+r3.1))+2)) - 2)))),.lst 1 (([]:List Int).map iA)]) rfl rfl ⟨(.ni _ rfl),(.ni _ rfl),(.ni _ rfl),(.ni _ rfl),(.nils _),tv⟩)) (by rw [(Jbr hl32).2,List.map_append];rfl),tv⟩⟩
 conv=>whnf
 obtain rfl:=si hL1
 replace hF:=Jw hF
 try dsimp only at hF
 obtain⟨r35,hr35,hF⟩:=bs' hF
 refine cE (dX false [0] [] 0 Tryz.func6 (JD (⟨a4,i5⟩:Src) 4 r35 hr35) ⟨rfl,tv⟩ Qd ⟨rfl,tv⟩) ?_
 conv=>whnf
 refine xB hF (fun b73 hF=> ?_) fun b73 hF=> ?_
 conv=>whnf
 obtain⟨c4,hc_4,hF⟩:=Jr hF
 refine Jo Jc Ja (fun y:Nat×(List Node)×Int=>QL r1 y.1 y.2.1 y.2.2=some c4) (fun y=>⟨eL [(0,.ptr 0 0),(2,.ptr 1 0),(7,.int .i64 r1.1),(9,.ptr 2 0),(16,.int .i64 y.2.2)],hL [(0,.box [.lst 1 (r35.2.L.map iA),.int .i64 r35.2.At]),(1,.box [.nils,.nils]),(2,.box [.osl 3,.nils]),(3,.row 5 (y.2.1.map Jb))],4⟩) (fun y=>y.1) (9223372036854775807,a6,0) hc_4 (wK [0,1,2,3] [] [] ⟨bN,bN,Jy rfl rfl rfl ⟨(.oslg 3 3 rfl),(.ni _ rfl),tv⟩,bR,tv⟩) ?_
 rintro⟨q45,a36,i37⟩ hL1
 try dsimp only at hL1
 rcases q45 with _ |q45
 rw [QL.eq_1] at hL1
 cases hL1
 rw [QL.eq_2] at hL1
 show awp _ _ _ _ _ _ ⟨eL [(0,.ptr 0 0),(2,.ptr 1 0),(7,.int .i64 r1.1),(9,.ptr 2 0),(16,.int .i64 i37)],hL [(0,.box [.lst 1 (r35.2.L.map iA),.int .i64 r35.2.At]),(1,.box [.nils,.nils]),(2,.box [.osl 3,.nils]),(3,.row 5 (a36.map Jb))],4⟩
 conv=>whnf
 refine xB hL1 (fun b74 hL1=> ?_) fun b74 hL1=> ?_
 conv=>whnf
 obtain⟨e38,he38,hL1⟩:=bs' hL1
 refine Qc (enc:=Jb) (l:=a36) he38 rfl (fun m_e_38 hm_e_38 hx_e_38=> ?_)
 conv=>whnf
 refine⟨_,Jv (enc:=Jb) hx_e_38,?_⟩
 conv=>whnf
 refine xB hL1 (fun b75 hL1=> ?_) fun b75 hL1=> ?_
 conv=>whnf
 obtain⟨e39,he39,hL1⟩:=bs' hL1
 refine Qc (enc:=Jb) (l:=a36) he39 rfl (fun m_e_39 hm_e_39 hx_e_39=> ?_)
 conv=>whnf
 refine⟨_,Jv (enc:=Jb) hx_e_39,?_⟩
 conv=>whnf
 refine⟨_,rfl,?_⟩
 conv=>whnf
 obtain⟨r40,hr40,hL1⟩:=bs' hL1
 refine cE (d0 0 Tryz.func26 (JmL e39.Exits (w64 (i37+1)) r40 hr40)) ?_
 conv=>whnf
 refine xB hL1 (fun b76 hL1=> ?_) fun b76 hL1=> ?_
 conv=>whnf
 refine⟨_,rfl,?_⟩
 conv=>whnf
 obtain⟨e41,he41,hL1⟩:=bs' hL1
 refine Qc (enc:=Jb) (l:=a36) he41 rfl (fun m_e_41 hm_e_41 hx_e_41=> ?_)
 conv=>whnf
 refine⟨_,Jv (enc:=Jb) hx_e_41,?_⟩
 conv=>whnf
 obtain⟨l42,hl42,hL1⟩:=bs' hL1
 refine JvS (enc:=iA) (l:=e41.Exits) hl42 rfl ?_
 conv=>whnf
 obtain⟨l43,hl43,hL1⟩:=bs' hL1
 refine ZV (enc:=iA) (l:=([(w64 (i37+1))]:List Int)) (y:=l42) hl43 rfl rfl (by decide) ?_
 conv=>whnf
 obtain⟨e44,he44,hL1⟩:=bs' hL1
 refine Qc (enc:=Jb) (l:=a36) he44 rfl (fun m_e_44 hm_e_44 hx_e_44=> ?_)
 conv=>whnf
 refine⟨QI (fun _=>⟨rfl,rfl⟩) _,?_⟩
 conv=>whnf
 refine Z6 (enc:=Jb) (l:=a36) (x':=(⟨e44.Name,e44.Kind,e44.Length,e44.Zone,l43⟩:Node)) (i:=i37) hm_e_44 hx_e_44 rfl (Wl rfl) rfl ?_
 conv=>whnf
 refine⟨by kernel_rfl,?_⟩
 conv=>whnf
 refine⟨_,rfl,?_⟩
 conv=>whnf
 exact⟨(q45,(a36.set i37.toNat (⟨e44.Name,e44.Kind,e44.Length,e44.Zone,l43⟩:Node)),(w64 (i37+1))),_,_,_,hL1,Wn _,wK [0,1,2,3] [] [] ⟨bN,bN,Jy rfl rfl rfl ⟨(.oslg 3 3 rfl),(.ni _ rfl),tv⟩,bR,tv⟩⟩
 conv=>whnf
 refine⟨_,rfl,?_⟩
 conv=>whnf
 exact⟨(q45,a36,(w64 (i37+1))),_,_,_,hL1,Wn _,wK [0,1,2,3] [] [] ⟨bN,bN,Jy rfl rfl rfl ⟨(.oslg 3 3 rfl),(.ni _ rfl),tv⟩,bR,tv⟩⟩
 conv=>whnf
 refine⟨_,rfl,?_⟩
 conv=>whnf
 exact⟨(q45,a36,(w64 (i37+1))),_,_,_,hL1,Wn _,wK [0,1,2,3] [] [] ⟨bN,bN,Jy rfl rfl rfl ⟨(.oslg 3 3 rfl),(.ni _ rfl),tv⟩,bR,tv⟩⟩
 conv=>whnf
 obtain rfl:=si hL1
 replace hF:=Jw hF
 try dsimp only at hF
 obtain⟨r47,hr47,hF⟩:=bs' hF
 refine cE (cX false [0,3] [] 1 Tryz.func27 (JcZ r35.2 (⟨a36,([]:(List Device))⟩:Layout) r47 hr47) ⟨(aP 0),(aA [.osl 3,.nils] ⟨(.oslg 3 1 rfl),(.ni _ rfl),tv⟩),tv⟩ ⟨rfl,gR,tv⟩ Qd ⟨rfl,rR,rR,tv⟩) ?_
 conv=>whnf
 obtain rfl:=si hF
 exact Jk [0] [] [3,4] rfl (aA [.osl 3,.osl 4] ⟨(.osl 3 5 _ (by simp) rfl (QI (fun _=>⟨rfl,rfl⟩) _)),(.osl 4 3 _ (by simp) rfl (QI (fun _=>⟨rfl,rfl⟩) _)),tv⟩) ⟨bN,tv⟩
 conv=>whnf
 obtain⟨r48,hr48,hF⟩:=bs' hF
 refine cE (cX false [0,3] [] 1 Tryz.func27 (JcZ r35.2 (⟨a6,([]:(List Device))⟩:Layout) r48 hr48) ⟨(aP 0),(aA [.osl 3,.nils] ⟨(.oslg 3 1 rfl),(.ni _ rfl),tv⟩),tv⟩ ⟨rfl,gR,tv⟩ Qd ⟨rfl,rR,rR,tv⟩) ?_
 conv=>whnf
 obtain rfl:=si hF
 exact Jk [0] [] [3,5] rfl (aA [.osl 3,.osl 5] ⟨(.osl 3 5 _ (by simp) rfl (QI (fun _=>⟨rfl,rfl⟩) _)),(.osl 5 3 _ (by simp) rfl (QI (fun _=>⟨rfl,rfl⟩) _)),tv⟩) ⟨bN,tv⟩
theorem Jep (x0:Int) (r:Bool) (hF:JcD x0=some r):AC Tryz.prog 152 [.int .u8 x0] [] (.bool r) ([]):=by
 refine Ju Jc Ja Tryz.func152 rfl Tryz.ntmps152 rfl ?_
 unfold JcD at hF
 conv=>whnf
 refine xB hF (fun b2 hF=> ?_) fun b2 hF=> ?_
 conv=>whnf
 obtain rfl:=si hF
 exact rZ
 conv=>whnf
 obtain rfl:=si hF
 exact rZ
theorem JhD (x0:Int) (r:Bool) (hF:JeE x0=some r):AC Tryz.prog 155 [.int .u8 x0] [] (.bool r) ([]):=by
 refine Ju Jc Ja Tryz.func155 rfl Tryz.ntmps155 rfl ?_
 unfold JeE at hF
 conv=>whnf
 refine xB hF (fun b2 hF=> ?_) fun b2 hF=> ?_
 conv=>whnf
 obtain rfl:=si hF
 exact rZ
 conv=>whnf
 obtain rfl:=si hF
 exact rZ
theorem JgA (x0:Int) (r:Bool) (hF:JdC x0=some r):AC Tryz.prog 154 [.int .u8 x0] [] (.bool r) ([]):=by
 refine Ju Jc Ja Tryz.func154 rfl Tryz.ntmps154 rfl ?_
 unfold JdC at hF
 conv=>whnf
 obtain⟨r1,hr1,hF⟩:=bs' hF
 refine cE (d0 0 Tryz.func152 (Jep x0 r1 hr1)) ?_
 conv=>whnf
 refine⟨fun b2=> ?_,fun b2=> ?_⟩
 replace hF:=cf b2 hF
 conv=>whnf
 obtain⟨r2,hr2,hF⟩:=bs' hF
 refine cE (d0 0 Tryz.func155 (JhD x0 r2 hr2)) ?_
 conv=>whnf
 obtain rfl:=si hF
 exact rZ
 replace hF:=ct b2 hF
 conv=>whnf
 obtain rfl:=si hF
 exact rZ
theorem Ji2 (x0:ByteArray) (r:Bool) (hF:Jgc x0=some r):AC Tryz.prog 153 [.str x0,.fn 154 []] [] (.bool r) ([]):=by
 refine Ju Jc Ja Tryz.func153 rfl Tryz.ntmps153 rfl ?_
 unfold Jgc at hF
 conv=>whnf
 obtain⟨c1,hc_1,hF⟩:=Jr hF
 refine Jo Jc Ja (fun y:Nat×Int=>Jbp x0 y.1 y.2=some c1) (fun y=>⟨eL [(0,.str x0),(1,.fn 154 []),(7,.int .i64 (x0.size:Int)),(8,.int .i64 y.2)],hL [],0⟩) (fun y=>y.1) (9223372036854775807,0) hc_1 (wK [] [] []) ?_
 rintro⟨q4,i1⟩ hL1
 try dsimp only at hL1
 rcases q4 with _ |q4
 rw [Jbp.eq_1] at hL1
 cases hL1
 rw [Jbp.eq_2] at hL1
 show awp _ _ _ _ _ _ ⟨eL [(0,.str x0),(1,.fn 154 []),(7,.int .i64 (x0.size:Int)),(8,.int .i64 i1)],hL [],0⟩
 conv=>whnf
 refine xB hL1 (fun b9 hL1=> ?_) fun b9 hL1=> ?_
 conv=>whnf
 obtain⟨b_2,hb2,hL1⟩:=bs' hL1
 refine Juh hb2 (fun m_b_2 u_b_2 hm_b_2 hb_b_2 hz_b_2=> ?_)
 subst hz_b_2
 conv=>whnf
 obtain⟨r3,hr3,hL1⟩:=bs' hL1
 refine cE (d0 0 Tryz.func154 (JgA ((u_b_2.toNat:Nat):Int) r3 hr3)) ?_
 conv=>whnf
 refine xB hL1 (fun b10 hL1=> ?_) fun b10 hL1=> ?_
 conv=>whnf
 obtain rfl:=si hL1
 replace hF:=Jn hF
 obtain rfl:=si hF
 exact rZ
 conv=>whnf
 refine⟨_,rfl,?_⟩
 conv=>whnf
 exact⟨(q4,(w64 (i1+1))),_,_,_,hL1,Wn _,wK [] [] []⟩
 conv=>whnf
 obtain rfl:=si hL1
 replace hF:=Jw hF
 try dsimp only at hF
 obtain rfl:=si hF
 exact rZ
theorem Jiv (x0:ByteArray) (x1:Int) (r:Bool) (hF:JdW x0 x1=some r):AC Tryz.prog 101 [.str x0,.int .i64 x1] [] (.bool r) ([]):=by
 refine Ju Jc Ja Tryz.func101 rfl Tryz.ntmps101 rfl ?_
 unfold JdW at hF
 conv=>whnf
 refine xB hF (fun b4 hF=> ?_) fun b4 hF=> ?_
 conv=>whnf
 refine xB hF (fun b5 hF=> ?_) fun b5 hF=> ?_
 conv=>whnf
 obtain⟨b1,hb1,hF⟩:=bs' hF
 refine Juh hb1 (fun m_b_1 u_b_1 hm_b_1 hb_b_1 hz_b_1=> ?_)
 subst hz_b_1
 conv=>whnf
 obtain⟨r2,hr2,hF⟩:=bs' hF
 refine cE (d0 0 Tryz.func152 (Jep ((u_b_1.toNat:Nat):Int) r2 hr2)) ?_
 conv=>whnf
 refine xB hF (fun b6 hF=> ?_) fun b6 hF=> ?_
 conv=>whnf
 obtain⟨r3,hr3,hF⟩:=bs' hF
 refine cE (d0 0 Tryz.func153 (Ji2 x0 r3 hr3)) ?_
 conv=>whnf
 obtain rfl:=si hF
 exact rZ
 conv=>whnf
 obtain rfl:=si hF
 exact rZ
 conv=>whnf
 obtain rfl:=si hF
 exact rZ
 conv=>whnf
 obtain rfl:=si hF
 exact rZ
theorem Qv (x0:Int) (r:Bool) (hF:Qp x0=some r):AC Tryz.prog 85 [.int .i64 x0] [] (.bool r) ([]):=by
 refine Ju Jc Ja Tryz.func85 rfl Tryz.ntmps85 rfl ?_
 unfold Qp at hF
 conv=>whnf
 refine xB hF (fun b2 hF=> ?_) fun b2 hF=> ?_
 conv=>whnf
 obtain rfl:=si hF
 exact rZ
 conv=>whnf
 obtain rfl:=si hF
 exact rZ
theorem JgX (x0:Node) (r:Bool) (hF:Jbo x0=some r):AC Tryz.prog 102 [.agg (Jb x0)] [] (.bool r) ([]):=by
 refine Ju Jc Ja Tryz.func102 rfl Tryz.ntmps102 rfl ?_
 unfold Jbo at hF
 conv=>whnf
 obtain⟨r1,hr1,hF⟩:=bs' hF
 refine cE (d0 0 Tryz.func85 (Qv x0.Kind r1 hr1)) ?_
 conv=>whnf
 refine xB hF (fun b5 hF=> ?_) fun b5 hF=> ?_
 conv=>whnf
 obtain rfl:=si hF
 exact rZ
 conv=>whnf
 refine xB hF (fun b6 hF=> ?_) fun b6 hF=> ?_
 conv=>whnf
 refine xB hF (fun b7 hF=> ?_) fun b7 hF=> ?_
 conv=>whnf
 obtain rfl:=si hF
 exact rZ
 conv=>whnf
 obtain rfl:=si hF
 exact rZ
 conv=>whnf
 refine xB hF (fun b8 hF=> ?_) fun b8 hF=> ?_
 conv=>whnf
 obtain rfl:=si hF
 exact rZ
 conv=>whnf
 obtain rfl:=si hF
 exact rZ
theorem Jhy (x0:Int) (r:Int) (hF:Jb5 x0=some r):AC Tryz.prog 156 [.int .i64 x0] [] (.int .i64 r) ([]):=by
 refine Ju Jc Ja Tryz.func156 rfl Tryz.ntmps156 rfl ?_
 unfold Jb5 at hF
 conv=>whnf
 refine xB hF (fun b6 hF=> ?_) fun b6 hF=> ?_
 conv=>whnf
 refine⟨fun h=> ?_,fun h=> ?_⟩
 conv=>whnf
 obtain rfl:=si hF
 exact rZ
 cases (b6).symm.trans h
 conv=>whnf
 refine xB hF (fun b7 hF=> ?_) fun b7 hF=> ?_
 conv=>whnf
 obtain rfl:=si hF
 exact rZ
 conv=>whnf
 refine xB hF (fun b8 hF=> ?_) fun b8 hF=> ?_
 conv=>whnf
 refine⟨fun h=> ?_,fun h=> ?_⟩
 conv=>whnf
 obtain rfl:=si hF
 exact rZ
 cases (b8).symm.trans h
 conv=>whnf
 refine xB hF (fun b9 hF=> ?_) fun b9 hF=> ?_
 conv=>whnf
 refine⟨fun h=> ?_,fun h=> ?_⟩
 conv=>whnf
 obtain rfl:=si hF
 exact rZ
 cases (b9).symm.trans h
 conv=>whnf
 refine xB hF (fun b10 hF=> ?_) fun b10 hF=> ?_
 conv=>whnf
 obtain rfl:=si hF
 exact rZ
 conv=>whnf
 obtain rfl:=si hF
 exact rZ
theorem JcV (x0:(List Int)) (x1:Int) (r:Int) (hF:Z7 x0 x1=some r):AC Tryz.prog 67 [.lst 1 (x0.map iA),.int .i64 x1] [] (.int .i64 r) ([]):=by
 refine Ju Jc Ja Tryz.func67 rfl Tryz.ntmps67 rfl ?_
 unfold Z7 at hF
 conv=>whnf
 refine Jm (enc:=iA) (l:=x0) rfl ?_
 conv=>whnf
 obtain⟨c1,hc_1,hF⟩:=Jr hF
 refine J1 0 (v:= .lst 1 (x0.map iA)) (by(conv=>lhs;whnf)<;>rfl) (fun hb=> ?_)
 have hbd_k_2:x0.length<=9223372036854775807:=Jz (enc:=iA) (hb)
 refine Jo Jc Ja (fun y:Nat=>y<=x0.length∧Yf x1 (x0.drop y) y=some c1) (fun y=>⟨eL [(0,.lst 1 (x0.map iA)),(1,.int .i64 x1),(7,.int .i64 (x0.length:Int)),(8,.int .i64 (y:Int))],hL [],0⟩) (fun y=>x0.length - y) 0 ⟨Nat.zero_le _,hc_1⟩ (wK [] [] []) ?_
 rintro k2 ⟨hk_k_2,hL1⟩
 try dsimp only at hk_k_2 hL1
 show awp _ _ _ _ _ _ ⟨eL [(0,.lst 1 (x0.map iA)),(1,.int .i64 x1),(7,.int .i64 (x0.length:Int)),(8,.int .i64 (k2:Int))],hL [],0⟩
 conv=>whnf
 refine⟨fun h=> ?_,fun h=> ?_⟩
 have lk2:k2<x0.length:=by have h:=Wt h;omega
 obtain⟨e3,he3⟩:=ge lk2
 rw [Jl he3,Yf.eq_2] at hL1
 conv=>whnf
 refine⟨k2,_,rfl,Jv he3,?_⟩
 conv=>whnf
 refine xB hL1 (fun b7 hL1=> ?_) fun b7 hL1=> ?_
 conv=>whnf
 obtain rfl:=si hL1
 replace hF:=Jn hF
 obtain rfl:=si hF
 exact rZ
 conv=>whnf
 refine⟨((k2+1:Nat):Int),wE,?_⟩
 conv=>whnf
 exact⟨k2+1,_,_,_,⟨lk2,hL1⟩,sl lk2,wK [] [] []⟩
 rw [Jq (nl h),Yf.eq_1] at hL1
 conv=>whnf
 obtain rfl:=si hL1
 replace hF:=Jw hF
 try dsimp only at hF
 obtain rfl:=si hF
 exact rZ
theorem ZT (x0:(List Int)) (x1:Int) (r:Bool) (hF:QU x0 x1=some r):AC Tryz.prog 68 [.lst 1 (x0.map iA),.int .i64 x1] [] (.bool r) ([]):=by
 refine Ju Jc Ja Tryz.func68 rfl Tryz.ntmps68 rfl ?_
 unfold QU at hF
 conv=>whnf
 obtain⟨r1,hr1,hF⟩:=bs' hF
 refine cE (d0 0 Tryz.func67 (JcV x0 x1 r1 hr1)) ?_
 conv=>whnf
 obtain rfl:=si hF
 exact rZ
theorem JeK (x0:Layout) (x1:Int) (r:Bool) (hF:Jbf x0 x1=some r):AC Tryz.prog 103 [.agg (JC x0),.int .i64 x1] [] (.bool r) ([]):=by
 refine Ju Jc Ja Tryz.func103 rfl Tryz.ntmps103 rfl ?_
 unfold Jbf at hF
 conv=>whnf
 obtain⟨e1,he1,hF⟩:=bs' hF
 refine JZ (enc:=Jb) (l:=x0.Nodes) he1 rfl (fun m_e_1 hm_e_1 hx_e_1=> ?_)
 conv=>whnf
 refine Jm (enc:=iA) (l:=e1.Exits) rfl ?_
 conv=>whnf
 obtain⟨r2,hr2,hF⟩:=bs' hF
 refine cE (d0 0 Tryz.func156 (Jhy e1.Kind r2 hr2)) ?_
 conv=>whnf
 refine⟨by kernel_rfl,?_⟩
 conv=>whnf
 refine xB hF (fun b40 hF=> ?_) fun b40 hF=> ?_
 conv=>whnf
 obtain rfl:=si hF
 exact rZ
 conv=>whnf
 refine Jm (enc:=iA) (l:=e1.Exits) rfl ?_
 conv=>whnf
 obtain⟨c1,hc_1,hF⟩:=Jr hF
 refine J1 12 (v:= .iptr [.str e1.Name,.int .i64 e1.Kind,.int .i64 e1.Length,.int .i64 e1.Zone,.lst 1 (e1.Exits.map iA)]) (by(conv=>lhs;whnf)<;>rfl) (fun hb=> ?_)
 have hbd_k_4:e1.Exits.length<=9223372036854775807:=Jz (enc:=iA) ((YC hb.icell 4 rfl))
 refine Jo Jc Ja (fun y:Nat=>y<=e1.Exits.length∧Zc x0 x1 e1 (e1.Exits.drop y) y=some c1) (fun y=>⟨eL [(1,.int .i64 x1),(2,.ptr 0 0),(5,.ptr 1 0),(22,.lst 1 (e1.Exits.map iA)),(23,.int .i64 (e1.Exits.length:Int)),(24,.int .i64 (y:Int))],hL [(0,.box [.lst 5 (x0.Nodes.map Jb),.lst 3 (x0.Devices.map Jd)]),(1,.box [.str e1.Name,.int .i64 e1.Kind,.int .i64 e1.Length,.int .i64 e1.Zone,.lst 1 (e1.Exits.map iA)])],2⟩) (fun y=>e1.Exits.length - y) 0 ⟨Nat.zero_le _,hc_1⟩ (wK [0,1] [] []) ?_
 rintro k4 ⟨hk_k_4,hL1⟩
 try dsimp only at hk_k_4 hL1
 show awp _ _ _ _ _ _ ⟨eL [(1,.int .i64 x1),(2,.ptr 0 0),(5,.ptr 1 0),(22,.lst 1 (e1.Exits.map iA)),(23,.int .i64 (e1.Exits.length:Int)),(24,.int .i64 (k4:Int))],hL [(0,.box [.lst 5 (x0.Nodes.map Jb),.lst 3 (x0.Devices.map Jd)]),(1,.box [.str e1.Name,.int .i64 e1.Kind,.int .i64 e1.Length,.int .i64 e1.Zone,.lst 1 (e1.Exits.map iA)])],2⟩
 conv=>whnf
 refine⟨fun h=> ?_,fun h=> ?_⟩
 have lk4:k4<e1.Exits.length:=by have h:=Wt h;omega
 obtain⟨e5,he5⟩:=ge lk4
 rw [Jl he5,Zc.eq_2] at hL1
 conv=>whnf
 refine⟨k4,_,rfl,Jv he5,?_⟩
 conv=>whnf
 refine xB hL1 (fun b41 hL1=> ?_) fun b41 hL1=> ?_
 conv=>whnf
 refine⟨fun b42=> ?_,fun b42=> ?_⟩
 replace hL1:=cf b42 hL1
 conv=>whnf
 refine Jm (enc:=Jb) (l:=x0.Nodes) rfl ?_
 conv=>whnf
 refine⟨fun b43=> ?_,fun b43=> ?_⟩
 replace hL1:=cf b43 hL1
 conv=>whnf
 refine⟨fun b44=> ?_,fun b44=> ?_⟩
 replace hL1:=cf b44 hL1
 conv=>whnf
 obtain⟨l6,hl6,hL1⟩:=bs' hL1
 refine Jjj (enc:=iA) (l:=e1.Exits) hl6 rfl ?_
 conv=>whnf
 obtain⟨r7,hr7,hL1⟩:=bs' hL1
 refine cE (d0 0 Tryz.func68 (ZT l6 e5 r7 hr7)) ?_
 conv=>whnf
 refine xB hL1 (fun b45 hL1=> ?_) fun b45 hL1=> ?_
 conv=>whnf
 obtain rfl:=si hL1
 replace hF:=Jn hF
 obtain rfl:=si hF
 exact rZ
 conv=>whnf
 refine⟨((k4+1:Nat):Int),wE,?_⟩
 conv=>whnf
 exact⟨k4+1,_,_,_,⟨lk4,hL1⟩,sl lk4,wK [0,1] [] []⟩
 replace hL1:=ct b44 hL1
 conv=>whnf
 obtain rfl:=si hL1
 replace hF:=Jn hF
 obtain rfl:=si hF
 exact rZ
 replace hL1:=ct b43 hL1
 conv=>whnf
 obtain rfl:=si hL1
 replace hF:=Jn hF
 obtain rfl:=si hF
 exact rZ
 replace hL1:=ct b42 hL1
 conv=>whnf
 obtain rfl:=si hL1
 replace hF:=Jn hF
 obtain rfl:=si hF
 exact rZ
 conv=>whnf
 refine⟨fun b46=> ?_,fun b46=> ?_⟩
 replace hL1:=cf b46 hL1
 conv=>whnf
 refine Jm (enc:=Jb) (l:=x0.Nodes) rfl ?_
 conv=>whnf
 refine⟨fun b47=> ?_,fun b47=> ?_⟩
 replace hL1:=cf b47 hL1
 conv=>whnf
 refine⟨fun b48=> ?_,fun b48=> ?_⟩
 replace hL1:=cf b48 hL1
 conv=>whnf
 obtain⟨l8,hl8,hL1⟩:=bs' hL1
 refine Jjj (enc:=iA) (l:=e1.Exits) hl8 rfl ?_
 conv=>whnf
 obtain⟨r9,hr9,hL1⟩:=bs' hL1
 refine cE (d0 0 Tryz.func68 (ZT l8 e5 r9 hr9)) ?_
 conv=>whnf
 refine xB hL1 (fun b49 hL1=> ?_) fun b49 hL1=> ?_
 conv=>whnf
 obtain rfl:=si hL1
 replace hF:=Jn hF
 obtain rfl:=si hF
 exact rZ
 conv=>whnf
 refine⟨((k4+1:Nat):Int),wE,?_⟩
 conv=>whnf
 exact⟨k4+1,_,_,_,⟨lk4,hL1⟩,sl lk4,wK [0,1] [] []⟩
 replace hL1:=ct b48 hL1
 conv=>whnf
 obtain rfl:=si hL1
 replace hF:=Jn hF
 obtain rfl:=si hF
 exact rZ
 replace hL1:=ct b47 hL1
 conv=>whnf
 obtain rfl:=si hL1
 replace hF:=Jn hF
 obtain rfl:=si hF
 exact rZ
 replace hL1:=ct b46 hL1
 conv=>whnf
 obtain rfl:=si hL1
 replace hF:=Jn hF
 obtain rfl:=si hF
 exact rZ
 rw [Jq (nl h),Zc.eq_1] at hL1
 conv=>whnf
 obtain rfl:=si hL1
 replace hF:=Jw hF
 try dsimp only at hF
 obtain rfl:=si hF
 exact rZ
theorem Jim (x0:Layout) (x1:Int) (r:Int) (hF:JcI x0 x1=some r):AC Tryz.prog 59 [.agg (JC x0),.int .i64 x1] [] (.int .i64 r) ([]):=by
 refine Ju Jc Ja Tryz.func59 rfl Tryz.ntmps59 rfl ?_
 unfold JcI at hF
 conv=>whnf
 obtain⟨e1,he1,hF⟩:=bs' hF
 refine JZ (enc:=Jb) (l:=x0.Nodes) he1 rfl (fun m_e_1 hm_e_1 hx_e_1=> ?_)
 conv=>whnf
 obtain⟨r2,hr2,hF⟩:=bs' hF
 refine cE (d0 0 Tryz.func101 (Jiv e1.Name 12 r2 hr2)) ?_
 conv=>whnf
 refine xB hF (fun b9 hF=> ?_) fun b9 hF=> ?_
 conv=>whnf
 obtain rfl:=si hF
 exact rZ
 conv=>whnf
 refine⟨fun b10=> ?_,fun b10=> ?_⟩
 replace hF:=cf b10 hF
 conv=>whnf
 refine xB hF (fun b11 hF=> ?_) fun b11 hF=> ?_
 conv=>whnf
 obtain rfl:=si hF
 exact rZ
 conv=>whnf
 obtain⟨r3,hr3,hF⟩:=bs' hF
 refine cE (d0 0 Tryz.func102 (JgX e1 r3 hr3)) ?_
 conv=>whnf
 refine⟨fun b12=> ?_,fun b12=> ?_⟩
 replace hF:=cf b12 hF
 conv=>whnf
 refine xB hF (fun b13 hF=> ?_) fun b13 hF=> ?_
 conv=>whnf
 refine⟨fun b14=> ?_,fun b14=> ?_⟩
 replace hF:=cf b14 hF
 conv=>whnf
 obtain⟨r4,hr4,hF⟩:=bs' hF
 refine cE (d0 0 Tryz.func103 (JeK x0 x1 r4 hr4)) ?_
 conv=>whnf
 refine xB hF (fun b15 hF=> ?_) fun b15 hF=> ?_
 conv=>whnf
 obtain rfl:=si hF
 exact rZ
 conv=>whnf
 obtain rfl:=si hF
 exact rZ
 replace hF:=ct b14 hF
 conv=>whnf
 obtain rfl:=si hF
 exact rZ
 conv=>whnf
 obtain⟨r5,hr5,hF⟩:=bs' hF
 refine cE (d0 0 Tryz.func103 (JeK x0 x1 r5 hr5)) ?_
 conv=>whnf
 refine xB hF (fun b16 hF=> ?_) fun b16 hF=> ?_
 conv=>whnf
 obtain rfl:=si hF
 exact rZ
 conv=>whnf
 obtain rfl:=si hF
 exact rZ
 replace hF:=ct b12 hF
 conv=>whnf
 obtain rfl:=si hF
 exact rZ
 replace hF:=ct b10 hF
 conv=>whnf
 obtain rfl:=si hF
 exact rZ
theorem Jhw (x0:Layout) (r:Int) (hF:Jb3 x0=some r):AC Tryz.prog 60 [.agg (JC x0)] [] (.int .i64 r) ([]):=by
 refine Ju Jc Ja Tryz.func60 rfl Tryz.ntmps60 rfl ?_
 unfold Jb3 at hF
 conv=>whnf
 refine Jm (enc:=Jb) (l:=x0.Nodes) rfl ?_
 conv=>whnf
 obtain⟨c1,hc_1,hF⟩:=Jr hF
 refine J1 0 (v:= .agg [.lst 5 (x0.Nodes.map Jb),.lst 3 (x0.Devices.map Jd)]) (by(conv=>lhs;whnf)<;>rfl) (fun hb=> ?_)
 have hbd_k_3:x0.Nodes.length<=9223372036854775807:=Jz (enc:=Jb) ((YC hb.cell 0 rfl))
 refine Jo Jc Ja (fun y:Nat×Int=>y.1<=x0.Nodes.length∧ZM (x0.Nodes.drop y.1) y.1 y.2=some c1) (fun y=>⟨eL [(3,.int .i64 y.2),(7,.lst 5 (x0.Nodes.map Jb)),(8,.int .i64 (x0.Nodes.length:Int)),(9,.int .i64 (y.1:Int))],hL [],0⟩) (fun y=>x0.Nodes.length - y.1) (0,0) ⟨Nat.zero_le _,hc_1⟩ (wK [] [] []) ?_
 rintro⟨k3,i1⟩ ⟨hk_k_3,hL1⟩
 try dsimp only at hk_k_3 hL1
 show awp _ _ _ _ _ _ ⟨eL [(3,.int .i64 i1),(7,.lst 5 (x0.Nodes.map Jb)),(8,.int .i64 (x0.Nodes.length:Int)),(9,.int .i64 (k3:Int))],hL [],0⟩
 conv=>whnf
 refine⟨fun h=> ?_,fun h=> ?_⟩
 have lk3:k3<x0.Nodes.length:=by have h:=Wt h;omega
 obtain⟨e4,he4⟩:=ge lk3
 rw [Jl he4,ZM.eq_2] at hL1
 conv=>whnf
 refine⟨k3,_,rfl,Jv he4,?_⟩
 conv=>whnf
 refine⟨_,rfl,?_⟩
 conv=>whnf
 refine⟨((k3+1:Nat):Int),wE,?_⟩
 conv=>whnf
 exact⟨(k3+1,(w64 (i1+e4.Length))),_,_,_,⟨lk3,hL1⟩,sl lk3,wK [] [] []⟩
 rw [Jq (nl h),ZM.eq_1] at hL1
 conv=>whnf
 obtain rfl:=si hL1
 replace hF:=Jw hF
 try dsimp only at hF
 obtain rfl:=si hF
 exact rZ
theorem Jgt (x0:Node) (x1:ByteArray) (r:Bool) (hF:Jb6 x0 x1=some r):AC Tryz.prog 157 [.agg (Jb x0),.iptr [.str x1]] [] (.bool r) ([]):=by
 refine Ju Jc Ja Tryz.func157 rfl Tryz.ntmps157 rfl ?_
 unfold Jb6 at hF
 conv=>whnf
 obtain rfl:=si hF
 exact rZ
theorem Jd0 (x0:(List Node)) (x1:ByteArray) (r:Int) (hF:Jao x0 x1=some r):AC Tryz.prog 106 [.lst 5 (x0.map Jb),.fn 157 [.iptr [.str x1]]] [] (.int .i64 r) ([]):=by
 refine Ju Jc Ja Tryz.func106 rfl Tryz.ntmps106 rfl ?_
 unfold Jao at hF
 conv=>whnf
 refine Jm (enc:=Jb) (l:=x0) rfl ?_
 conv=>whnf
 obtain⟨c1,hc_1,hF⟩:=Jr hF
 refine J1 0 (v:= .lst 5 (x0.map Jb)) (by(conv=>lhs;whnf)<;>rfl) (fun hb=> ?_)
 have hbd_k_2:x0.length<=9223372036854775807:=Jz (enc:=Jb) (hb)
 refine Jo Jc Ja (fun y:Nat=>y<=x0.length∧Ql x1 (x0.drop y) y=some c1) (fun y=>⟨eL [(0,.lst 5 (x0.map Jb)),(1,.fn 157 [.iptr [.str x1]]),(7,.int .i64 (x0.length:Int)),(8,.int .i64 (y:Int))],hL [],0⟩) (fun y=>x0.length - y) 0 ⟨Nat.zero_le _,hc_1⟩ (wK [] [] []) ?_
 rintro k2 ⟨hk_k_2,hL1⟩
 try dsimp only at hk_k_2 hL1
 show awp _ _ _ _ _ _ ⟨eL [(0,.lst 5 (x0.map Jb)),(1,.fn 157 [.iptr [.str x1]]),(7,.int .i64 (x0.length:Int)),(8,.int .i64 (k2:Int))],hL [],0⟩
 conv=>whnf
 refine⟨fun h=> ?_,fun h=> ?_⟩
 have lk2:k2<x0.length:=by have h:=Wt h;omega
 obtain⟨e3,he3⟩:=ge lk2
 rw [Jl he3,Ql.eq_2] at hL1
 conv=>whnf
 refine⟨k2,_,rfl,Jv he3,?_⟩
 conv=>whnf
 obtain⟨r4,hr4,hL1⟩:=bs' hL1
 refine cE (d0 0 Tryz.func157 (Jgt e3 x1 r4 hr4)) ?_
 conv=>whnf
 refine xB hL1 (fun b7 hL1=> ?_) fun b7 hL1=> ?_
 conv=>whnf
 obtain rfl:=si hL1
 replace hF:=Jn hF
 obtain rfl:=si hF
 exact rZ
 conv=>whnf
 refine⟨((k2+1:Nat):Int),wE,?_⟩
 conv=>whnf
 exact⟨k2+1,_,_,_,⟨lk2,hL1⟩,sl lk2,wK [] [] []⟩
 rw [Jq (nl h),Ql.eq_1] at hL1
 conv=>whnf
 obtain rfl:=si hL1
 replace hF:=Jw hF
 try dsimp only at hF
 obtain rfl:=si hF
 exact rZ
theorem Jin (x0:Layout) (x1:ByteArray) (r:Int) (hF:JbK x0 x1=some r):AC Tryz.prog 104 [.agg (JC x0),.str x1] [] (.int .i64 r) ([]):=by
 refine Ju Jc Ja Tryz.func104 rfl Tryz.ntmps104 rfl ?_
 unfold JbK at hF
 conv=>whnf
 obtain⟨r1,hr1,hF⟩:=bs' hF
 refine cE (cX false [] [1] 0 Tryz.func106 (Jd0 x0.Nodes x1 r1 hr1) ⟨aq,(Q4 (c:=[.ptr 1 0]) (by(conv=>lhs;whnf)<;>rfl) rfl ⟨(YT 1 _ rfl rfl rfl rfl rfl),tv⟩),tv⟩ trivial (YJ rfl trivial) trivial) ?_
 conv=>whnf
 obtain rfl:=si hF
 exact rZ
theorem Jhx (x0:Layout) (r:Bool) (hF:Jb4 x0=some r):AC Tryz.prog 61 [.agg (JC x0)] [] (.bool r) ([]):=by
 refine Ju Jc Ja Tryz.func61 rfl Tryz.ntmps61 rfl ?_
 unfold Jb4 at hF
 conv=>whnf
 refine Jm (enc:=Jb) (l:=x0.Nodes) rfl ?_
 conv=>whnf
 obtain⟨c1,hc_1,hF⟩:=Jr hF
 refine J1 0 (v:= .agg [.lst 5 (x0.Nodes.map Jb),.lst 3 (x0.Devices.map Jd)]) (by(conv=>lhs;whnf)<;>rfl) (fun hb=> ?_)
 have hbd_k_2:x0.Nodes.length<=9223372036854775807:=Jz (enc:=Jb) ((YC hb.cell 0 rfl))
 refine Jo Jc Ja (fun y:Nat=>y<=x0.Nodes.length∧ZN x0 (x0.Nodes.drop y) y=some c1) (fun y=>⟨eL [(1,.ptr 0 0),(6,.lst 5 (x0.Nodes.map Jb)),(7,.int .i64 (x0.Nodes.length:Int)),(8,.int .i64 (y:Int))],hL [(0,.box [.lst 5 (x0.Nodes.map Jb),.lst 3 (x0.Devices.map Jd)])],1⟩) (fun y=>x0.Nodes.length - y) 0 ⟨Nat.zero_le _,hc_1⟩ (wK [0] [] []) ?_
 rintro k2 ⟨hk_k_2,hL1⟩
 try dsimp only at hk_k_2 hL1
 show awp _ _ _ _ _ _ ⟨eL [(1,.ptr 0 0),(6,.lst 5 (x0.Nodes.map Jb)),(7,.int .i64 (x0.Nodes.length:Int)),(8,.int .i64 (k2:Int))],hL [(0,.box [.lst 5 (x0.Nodes.map Jb),.lst 3 (x0.Devices.map Jd)])],1⟩
 conv=>whnf
 refine⟨fun h=> ?_,fun h=> ?_⟩
 have lk2:k2<x0.Nodes.length:=by have h:=Wt h;omega
 obtain⟨e3,he3⟩:=ge lk2
 rw [Jl he3,ZN.eq_2] at hL1
 conv=>whnf
 refine⟨k2,_,rfl,Jv he3,?_⟩
 conv=>whnf
 obtain⟨r4,hr4,hL1⟩:=bs' hL1
 refine cE (d0 0 Tryz.func104 (Jin x0 e3.Name r4 hr4)) ?_
 conv=>whnf
 refine xB hL1 (fun b7 hL1=> ?_) fun b7 hL1=> ?_
 conv=>whnf
 obtain rfl:=si hL1
 replace hF:=Jn hF
 obtain rfl:=si hF
 exact rZ
 conv=>whnf
 refine⟨((k2+1:Nat):Int),wE,?_⟩
 conv=>whnf
 exact⟨k2+1,_,_,_,⟨lk2,hL1⟩,sl lk2,wK [0] [] []⟩
 rw [Jq (nl h),ZN.eq_1] at hL1
 conv=>whnf
 obtain rfl:=si hL1
 replace hF:=Jw hF
 try dsimp only at hF
 obtain rfl:=si hF
 exact rZ
theorem Jhv (x0:Layout) (x1:Int) (r:Bool) (hF:Jb2 x0 x1=some r):AC Tryz.prog 62 [.agg (JC x0),.int .i64 x1] [] (.bool r) ([]):=by
 refine Ju Jc Ja Tryz.func62 rfl Tryz.ntmps62 rfl ?_
 unfold Jb2 at hF
 conv=>whnf
 obtain⟨e1,he1,hF⟩:=bs' hF
 refine JZ (enc:=Jb) (l:=x0.Nodes) he1 rfl (fun m_e_1 hm_e_1 hx_e_1=> ?_)
 conv=>whnf
 refine xB hF (fun b80 hF=> ?_) fun b80 hF=> ?_
 conv=>whnf
 refine⟨fun h=> ?_,fun h=> ?_⟩
 conv=>whnf
 refine xB hF (fun b81 hF=> ?_) fun b81 hF=> ?_
 conv=>whnf
 obtain rfl:=si hF
 exact rZ
 conv=>whnf
 refine Jm (enc:=iA) (l:=e1.Exits) rfl ?_
 conv=>whnf
 obtain⟨c1,hc_1,hF⟩:=Jr hF
 refine J1 12 (v:= .iptr [.str e1.Name,.int .i64 e1.Kind,.int .i64 e1.Length,.int .i64 e1.Zone,.lst 1 (e1.Exits.map iA)]) (by(conv=>lhs;whnf)<;>rfl) (fun hb=> ?_)
 have hbd_k_3:e1.Exits.length<=9223372036854775807:=Jz (enc:=iA) ((YC hb.icell 4 rfl))
 refine Jo Jc Ja (fun y:Nat=>y<=e1.Exits.length∧JI x0 e1 (e1.Exits.drop y) y=some c1) (fun y=>⟨eL [(2,.ptr 0 0),(5,.ptr 1 0),(30,.lst 1 (e1.Exits.map iA)),(31,.int .i64 (e1.Exits.length:Int)),(32,.int .i64 (y:Int))],hL [(0,.box [.lst 5 (x0.Nodes.map Jb),.lst 3 (x0.Devices.map Jd)]),(1,.box [.str e1.Name,.int .i64 e1.Kind,.int .i64 e1.Length,.int .i64 e1.Zone,.lst 1 (e1.Exits.map iA)])],2⟩) (fun y=>e1.Exits.length - y) 0 ⟨Nat.zero_le _,hc_1⟩ (wK [0,1] [] []) ?_
 rintro k3 ⟨hk_k_3,hL1⟩
 try dsimp only at hk_k_3 hL1
 show awp _ _ _ _ _ _ ⟨eL [(2,.ptr 0 0),(5,.ptr 1 0),(30,.lst 1 (e1.Exits.map iA)),(31,.int .i64 (e1.Exits.length:Int)),(32,.int .i64 (k3:Int))],hL [(0,.box [.lst 5 (x0.Nodes.map Jb),.lst 3 (x0.Devices.map Jd)]),(1,.box [.str e1.Name,.int .i64 e1.Kind,.int .i64 e1.Length,.int .i64 e1.Zone,.lst 1 (e1.Exits.map iA)])],2⟩
 conv=>whnf
 refine⟨fun h=> ?_,fun h=> ?_⟩
 have lk3:k3<e1.Exits.length:=by have h:=Wt h;omega
 obtain⟨e4,he4⟩:=ge lk3
 rw [Jl he4,JI.eq_2] at hL1
 conv=>whnf
 refine⟨k3,_,rfl,Jv he4,?_⟩
 conv=>whnf
 refine⟨fun h=> ?_,fun h=> ?_⟩
 cases (Jrt (c:=6) b80 rfl).symm.trans h
 conv=>whnf
 obtain⟨e5,he5,hL1⟩:=bs' hL1
 refine JZ (enc:=Jb) (l:=x0.Nodes) he5 rfl (fun m_e_5 hm_e_5 hx_e_5=> ?_)
 conv=>whnf
 refine⟨fun b82=> ?_,fun b82=> ?_⟩
 replace hL1:=cf b82 hL1
 conv=>whnf
 obtain⟨e6,he6,hL1⟩:=bs' hL1
 refine JZ (enc:=Jb) (l:=x0.Nodes) he6 rfl (fun m_e_6 hm_e_6 hx_e_6=> ?_)
 conv=>whnf
 refine xB hL1 (fun b83 hL1=> ?_) fun b83 hL1=> ?_
 conv=>whnf
 obtain rfl:=si hL1
 replace hF:=Jn hF
 obtain rfl:=si hF
 exact rZ
 conv=>whnf
 refine⟨((k3+1:Nat):Int),wE,?_⟩
 conv=>whnf
 exact⟨k3+1,_,_,_,⟨lk3,hL1⟩,sl lk3,wK [0,1] [] []⟩
 replace hL1:=ct b82 hL1
 conv=>whnf
 obtain rfl:=si hL1
 replace hF:=Jn hF
 obtain rfl:=si hF
 exact rZ
 rw [Jq (nl h),JI.eq_1] at hL1
 conv=>whnf
 obtain rfl:=si hL1
 replace hF:=Jw hF
 try dsimp only at hF
 obtain rfl:=si hF
 exact rZ
 cases (b80).symm.trans h
 conv=>whnf
 refine xB hF (fun b84 hF=> ?_) fun b84 hF=> ?_
 conv=>whnf
 refine⟨fun h=> ?_,fun h=> ?_⟩
 conv=>whnf
 refine xB hF (fun b85 hF=> ?_) fun b85 hF=> ?_
 conv=>whnf
 obtain rfl:=si hF
 exact rZ
 conv=>whnf
 refine Jm (enc:=iA) (l:=e1.Exits) rfl ?_
 conv=>whnf
 obtain⟨c1,hc_1,hF⟩:=Jr hF
 refine J1 12 (v:= .iptr [.str e1.Name,.int .i64 e1.Kind,.int .i64 e1.Length,.int .i64 e1.Zone,.lst 1 (e1.Exits.map iA)]) (by(conv=>lhs;whnf)<;>rfl) (fun hb=> ?_)
 have hbd_k_10:e1.Exits.length<=9223372036854775807:=Jz (enc:=iA) ((YC hb.icell 4 rfl))
 refine Jo Jc Ja (fun y:Nat=>y<=e1.Exits.length∧JI x0 e1 (e1.Exits.drop y) y=some c1) (fun y=>⟨eL [(2,.ptr 0 0),(5,.ptr 1 0),(30,.lst 1 (e1.Exits.map iA)),(31,.int .i64 (e1.Exits.length:Int)),(32,.int .i64 (y:Int))],hL [(0,.box [.lst 5 (x0.Nodes.map Jb),.lst 3 (x0.Devices.map Jd)]),(1,.box [.str e1.Name,.int .i64 e1.Kind,.int .i64 e1.Length,.int .i64 e1.Zone,.lst 1 (e1.Exits.map iA)])],2⟩) (fun y=>e1.Exits.length - y) 0 ⟨Nat.zero_le _,hc_1⟩ (wK [0,1] [] []) ?_
 rintro k10 ⟨hk_k_10,hL1⟩
 try dsimp only at hk_k_10 hL1
 show awp _ _ _ _ _ _ ⟨eL [(2,.ptr 0 0),(5,.ptr 1 0),(30,.lst 1 (e1.Exits.map iA)),(31,.int .i64 (e1.Exits.length:Int)),(32,.int .i64 (k10:Int))],hL [(0,.box [.lst 5 (x0.Nodes.map Jb),.lst 3 (x0.Devices.map Jd)]),(1,.box [.str e1.Name,.int .i64 e1.Kind,.int .i64 e1.Length,.int .i64 e1.Zone,.lst 1 (e1.Exits.map iA)])],2⟩
 conv=>whnf
 refine⟨fun h=> ?_,fun h=> ?_⟩
 have lk10:k10<e1.Exits.length:=by have h:=Wt h;omega
 obtain⟨e11,he11⟩:=ge lk10
 rw [Jl he11,JI.eq_2] at hL1
 conv=>whnf
 refine⟨k10,_,rfl,Jv he11,?_⟩
 conv=>whnf
 refine⟨fun h=> ?_,fun h=> ?_⟩
 cases (Jrt (c:=6) b84 rfl).symm.trans h
 conv=>whnf
 obtain⟨e12,he12,hL1⟩:=bs' hL1
 refine JZ (enc:=Jb) (l:=x0.Nodes) he12 rfl (fun m_e_12 hm_e_12 hx_e_12=> ?_)
 conv=>whnf
 refine⟨fun b86=> ?_,fun b86=> ?_⟩
 replace hL1:=cf b86 hL1
 conv=>whnf
 obtain⟨e13,he13,hL1⟩:=bs' hL1
 refine JZ (enc:=Jb) (l:=x0.Nodes) he13 rfl (fun m_e_13 hm_e_13 hx_e_13=> ?_)
 conv=>whnf
 refine xB hL1 (fun b87 hL1=> ?_) fun b87 hL1=> ?_
 conv=>whnf
 obtain rfl:=si hL1
 replace hF:=Jn hF
 obtain rfl:=si hF
 exact rZ
 conv=>whnf
 refine⟨((k10+1:Nat):Int),wE,?_⟩
 conv=>whnf
 exact⟨k10+1,_,_,_,⟨lk10,hL1⟩,sl lk10,wK [0,1] [] []⟩
 replace hL1:=ct b86 hL1
 conv=>whnf
 obtain rfl:=si hL1
 replace hF:=Jn hF
 obtain rfl:=si hF
 exact rZ
 rw [Jq (nl h),JI.eq_1] at hL1
 conv=>whnf
 obtain rfl:=si hL1
 replace hF:=Jw hF
 try dsimp only at hF
 obtain rfl:=si hF
 exact rZ
 cases (b84).symm.trans h
 conv=>whnf
 refine xB hF (fun b88 hF=> ?_) fun b88 hF=> ?_
 conv=>whnf
 refine xB hF (fun b89 hF=> ?_) fun b89 hF=> ?_
 conv=>whnf
 obtain rfl:=si hF
 exact rZ
 conv=>whnf
 refine Jm (enc:=iA) (l:=e1.Exits) rfl ?_
 conv=>whnf
 obtain⟨c3,hc_3,hF⟩:=Jr hF
 refine J1 12 (v:= .iptr [.str e1.Name,.int .i64 e1.Kind,.int .i64 e1.Length,.int .i64 e1.Zone,.lst 1 (e1.Exits.map iA)]) (by(conv=>lhs;whnf)<;>rfl) (fun hb=> ?_)
 have hbd_k_17:e1.Exits.length<=9223372036854775807:=Jz (enc:=iA) ((YC hb.icell 4 rfl))
 refine Jo Jc Ja (fun y:Nat=>y<=e1.Exits.length∧Zb x0 e1 (e1.Exits.drop y) y=some c3) (fun y=>⟨eL [(2,.ptr 0 0),(5,.ptr 1 0),(30,.lst 1 (e1.Exits.map iA)),(31,.int .i64 (e1.Exits.length:Int)),(32,.int .i64 (y:Int))],hL [(0,.box [.lst 5 (x0.Nodes.map Jb),.lst 3 (x0.Devices.map Jd)]),(1,.box [.str e1.Name,.int .i64 e1.Kind,.int .i64 e1.Length,.int .i64 e1.Zone,.lst 1 (e1.Exits.map iA)])],2⟩) (fun y=>e1.Exits.length - y) 0 ⟨Nat.zero_le _,hc_3⟩ (wK [0,1] [] []) ?_
 rintro k17 ⟨hk_k_17,hL1⟩
 try dsimp only at hk_k_17 hL1
 show awp _ _ _ _ _ _ ⟨eL [(2,.ptr 0 0),(5,.ptr 1 0),(30,.lst 1 (e1.Exits.map iA)),(31,.int .i64 (e1.Exits.length:Int)),(32,.int .i64 (k17:Int))],hL [(0,.box [.lst 5 (x0.Nodes.map Jb),.lst 3 (x0.Devices.map Jd)]),(1,.box [.str e1.Name,.int .i64 e1.Kind,.int .i64 e1.Length,.int .i64 e1.Zone,.lst 1 (e1.Exits.map iA)])],2⟩
 conv=>whnf
 refine⟨fun h=> ?_,fun h=> ?_⟩
 have lk17:k17<e1.Exits.length:=by have h:=Wt h;omega
 obtain⟨e18,he18⟩:=ge lk17
 rw [Jl he18,Zb.eq_2] at hL1
 conv=>whnf
 refine⟨k17,_,rfl,Jv he18,?_⟩
 conv=>whnf
 refine⟨fun h=> ?_,fun h=> ?_⟩
 conv=>whnf
 refine xB hL1 (fun b90 hL1=> ?_) fun b90 hL1=> ?_
 conv=>whnf
 obtain⟨e19,he19,hL1⟩:=bs' hL1
 refine JZ (enc:=Jb) (l:=x0.Nodes) he19 rfl (fun m_e_19 hm_e_19 hx_e_19=> ?_)
 conv=>whnf
 refine⟨fun b91=> ?_,fun b91=> ?_⟩
 replace hL1:=cf b91 hL1
 conv=>whnf
 obtain⟨e20,he20,hL1⟩:=bs' hL1
 refine JZ (enc:=Jb) (l:=x0.Nodes) he20 rfl (fun m_e_20 hm_e_20 hx_e_20=> ?_)
 conv=>whnf
 refine xB hL1 (fun b92 hL1=> ?_) fun b92 hL1=> ?_
 conv=>whnf
 obtain rfl:=si hL1
 replace hF:=Jn hF
 obtain rfl:=si hF
 exact rZ
 conv=>whnf
 refine⟨((k17+1:Nat):Int),wE,?_⟩
 conv=>whnf
 exact⟨k17+1,_,_,_,⟨lk17,hL1⟩,sl lk17,wK [0,1] [] []⟩
 replace hL1:=ct b91 hL1
 conv=>whnf
 obtain rfl:=si hL1
 replace hF:=Jn hF
 obtain rfl:=si hF
 exact rZ
 conv=>whnf
 obtain⟨e21,he21,hL1⟩:=bs' hL1
 refine JZ (enc:=Jb) (l:=x0.Nodes) he21 rfl (fun m_e_21 hm_e_21 hx_e_21=> ?_)
 conv=>whnf
 refine⟨fun b93=> ?_,fun b93=> ?_⟩
 replace hL1:=cf b93 hL1
 conv=>whnf
 obtain⟨e22,he22,hL1⟩:=bs' hL1
 refine JZ (enc:=Jb) (l:=x0.Nodes) he22 rfl (fun m_e_22 hm_e_22 hx_e_22=> ?_)
 conv=>whnf
 refine xB hL1 (fun b94 hL1=> ?_) fun b94 hL1=> ?_
 conv=>whnf
 obtain rfl:=si hL1
 replace hF:=Jn hF
 obtain rfl:=si hF
 exact rZ
 conv=>whnf
 refine⟨((k17+1:Nat):Int),wE,?_⟩
 conv=>whnf
 exact⟨k17+1,_,_,_,⟨lk17,hL1⟩,sl lk17,wK [0,1] [] []⟩
 replace hL1:=ct b93 hL1
 conv=>whnf
 obtain rfl:=si hL1
 replace hF:=Jn hF
 obtain rfl:=si hF
 exact rZ
 cases (b88).symm.trans h
 rw [Jq (nl h),Zb.eq_1] at hL1
 conv=>whnf
 obtain rfl:=si hL1
 replace hF:=Jw hF
 try dsimp only at hF
 obtain rfl:=si hF
 exact rZ
 conv=>whnf
 refine xB hF (fun b95 hF=> ?_) fun b95 hF=> ?_
 conv=>whnf
 refine⟨fun h=> ?_,fun h=> ?_⟩
 conv=>whnf
 refine xB hF (fun b96 hF=> ?_) fun b96 hF=> ?_
 conv=>whnf
 obtain rfl:=si hF
 exact rZ
 conv=>whnf
 refine Jm (enc:=iA) (l:=e1.Exits) rfl ?_
 conv=>whnf
 obtain⟨c1,hc_1,hF⟩:=Jr hF
 refine J1 12 (v:= .iptr [.str e1.Name,.int .i64 e1.Kind,.int .i64 e1.Length,.int .i64 e1.Zone,.lst 1 (e1.Exits.map iA)]) (by(conv=>lhs;whnf)<;>rfl) (fun hb=> ?_)
 have hbd_k_26:e1.Exits.length<=9223372036854775807:=Jz (enc:=iA) ((YC hb.icell 4 rfl))
 refine Jo Jc Ja (fun y:Nat=>y<=e1.Exits.length∧JI x0 e1 (e1.Exits.drop y) y=some c1) (fun y=>⟨eL [(2,.ptr 0 0),(5,.ptr 1 0),(30,.lst 1 (e1.Exits.map iA)),(31,.int .i64 (e1.Exits.length:Int)),(32,.int .i64 (y:Int))],hL [(0,.box [.lst 5 (x0.Nodes.map Jb),.lst 3 (x0.Devices.map Jd)]),(1,.box [.str e1.Name,.int .i64 e1.Kind,.int .i64 e1.Length,.int .i64 e1.Zone,.lst 1 (e1.Exits.map iA)])],2⟩) (fun y=>e1.Exits.length - y) 0 ⟨Nat.zero_le _,hc_1⟩ (wK [0,1] [] []) ?_
 rintro k26 ⟨hk_k_26,hL1⟩
 try dsimp only at hk_k_26 hL1
 show awp _ _ _ _ _ _ ⟨eL [(2,.ptr 0 0),(5,.ptr 1 0),(30,.lst 1 (e1.Exits.map iA)),(31,.int .i64 (e1.Exits.length:Int)),(32,.int .i64 (k26:Int))],hL [(0,.box [.lst 5 (x0.Nodes.map Jb),.lst 3 (x0.Devices.map Jd)]),(1,.box [.str e1.Name,.int .i64 e1.Kind,.int .i64 e1.Length,.int .i64 e1.Zone,.lst 1 (e1.Exits.map iA)])],2⟩
 conv=>whnf
 refine⟨fun h=> ?_,fun h=> ?_⟩
 have lk26:k26<e1.Exits.length:=by have h:=Wt h;omega
 obtain⟨e27,he27⟩:=ge lk26
 rw [Jl he27,JI.eq_2] at hL1
 conv=>whnf
 refine⟨k26,_,rfl,Jv he27,?_⟩
 conv=>whnf
 refine⟨fun h=> ?_,fun h=> ?_⟩
 cases (b88).symm.trans h
 conv=>whnf
 obtain⟨e28,he28,hL1⟩:=bs' hL1
 refine JZ (enc:=Jb) (l:=x0.Nodes) he28 rfl (fun m_e_28 hm_e_28 hx_e_28=> ?_)
 conv=>whnf
 refine⟨fun b97=> ?_,fun b97=> ?_⟩
 replace hL1:=cf b97 hL1
 conv=>whnf
 obtain⟨e29,he29,hL1⟩:=bs' hL1
 refine JZ (enc:=Jb) (l:=x0.Nodes) he29 rfl (fun m_e_29 hm_e_29 hx_e_29=> ?_)
 conv=>whnf
 refine xB hL1 (fun b98 hL1=> ?_) fun b98 hL1=> ?_
 conv=>whnf
 obtain rfl:=si hL1
 replace hF:=Jn hF
 obtain rfl:=si hF
 exact rZ
 conv=>whnf
 refine⟨((k26+1:Nat):Int),wE,?_⟩
 conv=>whnf
 exact⟨k26+1,_,_,_,⟨lk26,hL1⟩,sl lk26,wK [0,1] [] []⟩
 replace hL1:=ct b97 hL1
 conv=>whnf
 obtain rfl:=si hL1
 replace hF:=Jn hF
 obtain rfl:=si hF
 exact rZ
 rw [Jq (nl h),JI.eq_1] at hL1
 conv=>whnf
 obtain rfl:=si hL1
 replace hF:=Jw hF
 try dsimp only at hF
 obtain rfl:=si hF
 exact rZ
 cases (b95).symm.trans h
 conv=>whnf
 refine xB hF (fun b99 hF=> ?_) fun b99 hF=> ?_
 conv=>whnf
 refine xB hF (fun b100 hF=> ?_) fun b100 hF=> ?_
 conv=>whnf
 obtain rfl:=si hF
 exact rZ
 conv=>whnf
 refine Jm (enc:=iA) (l:=e1.Exits) rfl ?_
 conv=>whnf
 obtain⟨c1,hc_1,hF⟩:=Jr hF
 refine J1 12 (v:= .iptr [.str e1.Name,.int .i64 e1.Kind,.int .i64 e1.Length,.int .i64 e1.Zone,.lst 1 (e1.Exits.map iA)]) (by(conv=>lhs;whnf)<;>rfl) (fun hb=> ?_)
 have hbd_k_33:e1.Exits.length<=9223372036854775807:=Jz (enc:=iA) ((YC hb.icell 4 rfl))
 refine Jo Jc Ja (fun y:Nat=>y<=e1.Exits.length∧JI x0 e1 (e1.Exits.drop y) y=some c1) (fun y=>⟨eL [(2,.ptr 0 0),(5,.ptr 1 0),(30,.lst 1 (e1.Exits.map iA)),(31,.int .i64 (e1.Exits.length:Int)),(32,.int .i64 (y:Int))],hL [(0,.box [.lst 5 (x0.Nodes.map Jb),.lst 3 (x0.Devices.map Jd)]),(1,.box [.str e1.Name,.int .i64 e1.Kind,.int .i64 e1.Length,.int .i64 e1.Zone,.lst 1 (e1.Exits.map iA)])],2⟩) (fun y=>e1.Exits.length - y) 0 ⟨Nat.zero_le _,hc_1⟩ (wK [0,1] [] []) ?_
 rintro k33 ⟨hk_k_33,hL1⟩
 try dsimp only at hk_k_33 hL1
 show awp _ _ _ _ _ _ ⟨eL [(2,.ptr 0 0),(5,.ptr 1 0),(30,.lst 1 (e1.Exits.map iA)),(31,.int .i64 (e1.Exits.length:Int)),(32,.int .i64 (k33:Int))],hL [(0,.box [.lst 5 (x0.Nodes.map Jb),.lst 3 (x0.Devices.map Jd)]),(1,.box [.str e1.Name,.int .i64 e1.Kind,.int .i64 e1.Length,.int .i64 e1.Zone,.lst 1 (e1.Exits.map iA)])],2⟩
 conv=>whnf
 refine⟨fun h=> ?_,fun h=> ?_⟩
 have lk33:k33<e1.Exits.length:=by have h:=Wt h;omega
 obtain⟨e34,he34⟩:=ge lk33
 rw [Jl he34,JI.eq_2] at hL1
 conv=>whnf
 refine⟨k33,_,rfl,Jv he34,?_⟩
 conv=>whnf
 refine⟨fun h=> ?_,fun h=> ?_⟩
 cases (b88).symm.trans h
 conv=>whnf
 obtain⟨e35,he35,hL1⟩:=bs' hL1
 refine JZ (enc:=Jb) (l:=x0.Nodes) he35 rfl (fun m_e_35 hm_e_35 hx_e_35=> ?_)
 conv=>whnf
 refine⟨fun b101=> ?_,fun b101=> ?_⟩
 replace hL1:=cf b101 hL1
 conv=>whnf
 obtain⟨e36,he36,hL1⟩:=bs' hL1
 refine JZ (enc:=Jb) (l:=x0.Nodes) he36 rfl (fun m_e_36 hm_e_36 hx_e_36=> ?_)
 conv=>whnf
 refine xB hL1 (fun b102 hL1=> ?_) fun b102 hL1=> ?_
 conv=>whnf
 obtain rfl:=si hL1
 replace hF:=Jn hF
 obtain rfl:=si hF
 exact rZ
 conv=>whnf
 refine⟨((k33+1:Nat):Int),wE,?_⟩
 conv=>whnf
 exact⟨k33+1,_,_,_,⟨lk33,hL1⟩,sl lk33,wK [0,1] [] []⟩
 replace hL1:=ct b101 hL1
 conv=>whnf
 obtain rfl:=si hL1
 replace hF:=Jn hF
 obtain rfl:=si hF
 exact rZ
 rw [Jq (nl h),JI.eq_1] at hL1
 conv=>whnf
 obtain rfl:=si hL1
 replace hF:=Jw hF
 try dsimp only at hF
 obtain rfl:=si hF
 exact rZ
 conv=>whnf
 refine Jm (enc:=iA) (l:=e1.Exits) rfl ?_
 conv=>whnf
 obtain⟨c1,hc_1,hF⟩:=Jr hF
 refine J1 12 (v:= .iptr [.str e1.Name,.int .i64 e1.Kind,.int .i64 e1.Length,.int .i64 e1.Zone,.lst 1 (e1.Exits.map iA)]) (by(conv=>lhs;whnf)<;>rfl) (fun hb=> ?_)
 have hbd_k_40:e1.Exits.length<=9223372036854775807:=Jz (enc:=iA) ((YC hb.icell 4 rfl))
 refine Jo Jc Ja (fun y:Nat=>y<=e1.Exits.length∧JI x0 e1 (e1.Exits.drop y) y=some c1) (fun y=>⟨eL [(2,.ptr 0 0),(5,.ptr 1 0),(30,.lst 1 (e1.Exits.map iA)),(31,.int .i64 (e1.Exits.length:Int)),(32,.int .i64 (y:Int))],hL [(0,.box [.lst 5 (x0.Nodes.map Jb),.lst 3 (x0.Devices.map Jd)]),(1,.box [.str e1.Name,.int .i64 e1.Kind,.int .i64 e1.Length,.int .i64 e1.Zone,.lst 1 (e1.Exits.map iA)])],2⟩) (fun y=>e1.Exits.length - y) 0 ⟨Nat.zero_le _,hc_1⟩ (wK [0,1] [] []) ?_
 rintro k40 ⟨hk_k_40,hL1⟩
 try dsimp only at hk_k_40 hL1
 show awp _ _ _ _ _ _ ⟨eL [(2,.ptr 0 0),(5,.ptr 1 0),(30,.lst 1 (e1.Exits.map iA)),(31,.int .i64 (e1.Exits.length:Int)),(32,.int .i64 (k40:Int))],hL [(0,.box [.lst 5 (x0.Nodes.map Jb),.lst 3 (x0.Devices.map Jd)]),(1,.box [.str e1.Name,.int .i64 e1.Kind,.int .i64 e1.Length,.int .i64 e1.Zone,.lst 1 (e1.Exits.map iA)])],2⟩
 conv=>whnf
 refine⟨fun h=> ?_,fun h=> ?_⟩
 have lk40:k40<e1.Exits.length:=by have h:=Wt h;omega
 obtain⟨e41,he41⟩:=ge lk40
 rw [Jl he41,JI.eq_2] at hL1
 conv=>whnf
 refine⟨k40,_,rfl,Jv he41,?_⟩
 conv=>whnf
 refine⟨fun h=> ?_,fun h=> ?_⟩
 cases (b88).symm.trans h
 conv=>whnf
 obtain⟨e42,he42,hL1⟩:=bs' hL1
 refine JZ (enc:=Jb) (l:=x0.Nodes) he42 rfl (fun m_e_42 hm_e_42 hx_e_42=> ?_)
 conv=>whnf
 refine⟨fun b103=> ?_,fun b103=> ?_⟩
 replace hL1:=cf b103 hL1
 conv=>whnf
 obtain⟨e43,he43,hL1⟩:=bs' hL1
 refine JZ (enc:=Jb) (l:=x0.Nodes) he43 rfl (fun m_e_43 hm_e_43 hx_e_43=> ?_)
 conv=>whnf
 refine xB hL1 (fun b104 hL1=> ?_) fun b104 hL1=> ?_
 conv=>whnf
 obtain rfl:=si hL1
 replace hF:=Jn hF
 obtain rfl:=si hF
 exact rZ
 conv=>whnf
 refine⟨((k40+1:Nat):Int),wE,?_⟩
 conv=>whnf
 exact⟨k40+1,_,_,_,⟨lk40,hL1⟩,sl lk40,wK [0,1] [] []⟩
 replace hL1:=ct b103 hL1
 conv=>whnf
 obtain rfl:=si hL1
 replace hF:=Jn hF
 obtain rfl:=si hF
 exact rZ
 rw [Jq (nl h),JI.eq_1] at hL1
 conv=>whnf
 obtain rfl:=si hL1
 replace hF:=Jw hF
 try dsimp only at hF
 obtain rfl:=si hF
 exact rZ
theorem Jej (x0:Layout) (r:(List Int)) (hF:Jax x0=some r):AC Tryz.prog 63 [.agg (JC x0)] [] (.lst 1 (r.map iA)) ([]):=by
 refine Ju Jc Ja Tryz.func63 rfl Tryz.ntmps63 rfl ?_
 unfold Jax at hF
 conv=>whnf
 refine⟨_,Jqn rfl,?_⟩
 conv=>whnf
 refine Jm (enc:=Jb) (l:=x0.Nodes) rfl ?_
 conv=>whnf
 obtain⟨c1,hc_1,hF⟩:=Jr hF
 refine J1 0 (v:= .agg [.lst 5 (x0.Nodes.map Jb),.lst 3 (x0.Devices.map Jd)]) (by(conv=>lhs;whnf)<;>rfl) (fun hb=> ?_)
 have hbd_k_3:x0.Nodes.length<=9223372036854775807:=Jz (enc:=Jb) ((YC hb.cell 0 rfl))
 refine Jo Jc Ja (fun y:Nat×(List (Int×Int))=>y.1<=x0.Nodes.length∧Zl (x0.Nodes.drop y.1) y.1 y.2=some c1) (fun y=>⟨eL [(1,.ptr 0 0),(3,.mp 1),(16,.lst 5 (x0.Nodes.map Jb)),(17,.int .i64 (x0.Nodes.length:Int)),(18,.int .i64 (y.1:Int))],hL [(0,.box [.lst 5 (x0.Nodes.map Jb),.lst 3 (x0.Devices.map Jd)]),(1,.obj (Jb1 y.2))],2⟩) (fun y=>x0.Nodes.length - y.1) (0,([]:List (Int×Int))) ⟨Nat.zero_le _,hc_1⟩ (wK [0,1] [] [] ⟨bN,Jav rfl rfl,tv⟩) ?_
 rintro⟨k3,a1⟩ ⟨hk_k_3,hL1⟩
 try dsimp only at hk_k_3 hL1
 show awp _ _ _ _ _ _ ⟨eL [(1,.ptr 0 0),(3,.mp 1),(16,.lst 5 (x0.Nodes.map Jb)),(17,.int .i64 (x0.Nodes.length:Int)),(18,.int .i64 (k3:Int))],hL [(0,.box [.lst 5 (x0.Nodes.map Jb),.lst 3 (x0.Devices.map Jd)]),(1,.obj (Jb1 a1))],2⟩
 conv=>whnf
 refine⟨fun h=> ?_,fun h=> ?_⟩
 have lk3:k3<x0.Nodes.length:=by have h:=Wt h;omega
 obtain⟨e4,he4⟩:=ge lk3
 rw [Jl he4,Zl.eq_2] at hL1
 conv=>whnf
 refine⟨k3,_,rfl,Jv he4,?_⟩
 conv=>whnf
 refine Jm (enc:=iA) (l:=e4.Exits) rfl ?_
 conv=>whnf
 obtain⟨c2,hc_2,hL1⟩:=YF hL1
 refine J1 21 (v:= .iptr [.str e4.Name,.int .i64 e4.Kind,.int .i64 e4.Length,.int .i64 e4.Zone,.lst 1 (e4.Exits.map iA)]) (by(conv=>lhs;whnf)<;>rfl) (fun hb=> ?_)
 have hbd_k_7:e4.Exits.length<=9223372036854775807:=Jz (enc:=iA) ((YC hb.icell 4 rfl))
 refine Jo Jc Ja (fun y:Nat×(List (Int×Int))=>y.1<=e4.Exits.length∧YM k3 (e4.Exits.drop y.1) y.1 y.2=some c2) (fun y=>⟨eL [(1,.ptr 0 0),(3,.mp 1),(4,.int .i64 (k3:Int)),(16,.lst 5 (x0.Nodes.map Jb)),(17,.int .i64 (x0.Nodes.length:Int)),(18,.int .i64 (k3:Int)),(24,.lst 1 (e4.Exits.map iA)),(25,.int .i64 (e4.Exits.length:Int)),(26,.int .i64 (y.1:Int))],hL [(0,.box [.lst 5 (x0.Nodes.map Jb),.lst 3 (x0.Devices.map Jd)]),(1,.obj (Jb1 y.2))],2⟩) (fun y=>e4.Exits.length - y.1) (0,a1) ⟨Nat.zero_le _,hc_2⟩ (wK [0,1] [] [] ⟨bN,Jav rfl rfl,tv⟩) ?_
 rintro⟨k7,a5⟩ ⟨hk_k_7,hL2⟩
 try dsimp only at hk_k_7 hL2
 show awp _ _ _ _ _ _ ⟨eL [(1,.ptr 0 0),(3,.mp 1),(4,.int .i64 (k3:Int)),(16,.lst 5 (x0.Nodes.map Jb)),(17,.int .i64 (x0.Nodes.length:Int)),(18,.int .i64 (k3:Int)),(24,.lst 1 (e4.Exits.map iA)),(25,.int .i64 (e4.Exits.length:Int)),(26,.int .i64 (k7:Int))],hL [(0,.box [.lst 5 (x0.Nodes.map Jb),.lst 3 (x0.Devices.map Jd)]),(1,.obj (Jb1 a5))],2⟩
 conv=>whnf
 refine⟨fun h=> ?_,fun h=> ?_⟩
 have lk7:k7<e4.Exits.length:=by have h:=Wt h;omega
 obtain⟨e8,he8⟩:=ge lk7
 rw [Jl he8,YM.eq_2] at hL2
 conv=>whnf
 refine⟨k7,_,rfl,Jv he8,?_⟩
 conv=>whnf
 refine xB hL2 (fun b82 hL2=> ?_) fun b82 hL2=> ?_
 conv=>whnf
 obtain⟨v9,hv9,hL2⟩:=bs' hL2
 refine⟨_,Jf8 (x:=e8) (E:=a5) rfl rfl rfl rfl hv9,?_⟩
 conv=>whnf
 refine⟨_,rfl,?_⟩
 conv=>whnf
 obtain⟨m10,hm10,hL2⟩:=bs' hL2
 refine⟨_,Jlx (x:=e8) (y:=(w64 (v9+1))) (E:=a5) rfl rfl rfl rfl rfl hm10,?_⟩
 conv=>whnf
 refine⟨((k7+1:Nat):Int),wE,?_⟩
 conv=>whnf
 exact⟨(k7+1,m10),_,_,_,⟨lk7,hL2⟩,sl lk7,wK [0,1] [] [] ⟨bN,Jav rfl rfl,tv⟩⟩
 conv=>whnf
 refine⟨((k7+1:Nat):Int),wE,?_⟩
 conv=>whnf
 exact⟨(k7+1,a5),_,_,_,⟨lk7,hL2⟩,sl lk7,wK [0,1] [] [] ⟨bN,Jav rfl rfl,tv⟩⟩
 rw [Jq (nl h),YM.eq_1] at hL2
 conv=>whnf
 obtain rfl:=si hL2
 replace hL1:=Zz hL1
 try dsimp only at hL1
 refine⟨((k3+1:Nat):Int),wE,?_⟩
 conv=>whnf
 exact⟨(k3+1,a5),_,_,_,⟨lk3,hL1⟩,sl lk3,wK [0,1] [] [] ⟨bN,Jav rfl rfl,tv⟩⟩
 rw [Jq (nl h),Zl.eq_1] at hL1
 conv=>whnf
 obtain rfl:=si hL1
 replace hF:=Jw hF
 try dsimp only at hF
 refine Jm (enc:=Jb) (l:=x0.Nodes) rfl ?_
 conv=>whnf
 obtain⟨l15,hl15,hF⟩:=bs' hF
 refine JuO hl15 (by decide) ?_
 conv=>whnf
 refine Jm (enc:=Jb) (l:=x0.Nodes) rfl ?_
 conv=>whnf
 obtain⟨c3,hc_3,hF⟩:=Jr hF
 refine J1 40 (v:= .lst 5 (x0.Nodes.map Jb)) (by(conv=>lhs;whnf)<;>rfl) (fun hb=> ?_)
 have hbd_k_20:x0.Nodes.length<=9223372036854775807:=Jz (enc:=Jb) (hb)
 refine Jo Jc Ja (fun y:Nat×(List (Int×Int))×(List Int)×(List Bool)=>y.1<=x0.Nodes.length∧Zk x0 (x0.Nodes.drop y.1) y.1 y.2.1 y.2.2.1 y.2.2.2=some c3) (fun y=>⟨eL [(1,.ptr 0 0),(3,.mp 1),(8,.osl 3),(9,.osl 2),(45,.int .i64 (x0.Nodes.length:Int)),(46,.int .i64 (y.1:Int))],hL [(0,.box [.lst 5 (x0.Nodes.map Jb),.lst 3 (x0.Devices.map Jd)]),(1,.obj (Jb1 y.2.1)),(2,.row 1 (y.2.2.2.map bA)),(3,.row 1 (y.2.2.1.map iA))],4⟩) (fun y=>x0.Nodes.length - y.1) (0,a1,([]:List Int),l15) ⟨Nat.zero_le _,hc_3⟩ (wK [0,1,2] [3] [] ⟨bN,Jav rfl rfl,Jcx rfl rfl (JbN.rep _ (Jgf (c':=[.bool false]) rfl rfl ⟨.fls,tv⟩)) (by rw [Jkh hl15,List.map_replicate];rfl),Jci rfl,tv⟩) ?_
 rintro⟨k20,a16,a18,a17⟩ ⟨hk_k_20,hL1⟩
 try dsimp only at hk_k_20 hL1
 show awp _ _ _ _ _ _ ⟨eL [(1,.ptr 0 0),(3,.mp 1),(8,.osl 3),(9,.osl 2),(45,.int .i64 (x0.Nodes.length:Int)),(46,.int .i64 (k20:Int))],hL [(0,.box [.lst 5 (x0.Nodes.map Jb),.lst 3 (x0.Devices.map Jd)]),(1,.obj (Jb1 a16)),(2,.row 1 (a17.map bA)),(3,.row 1 (a18.map iA))],4⟩
 conv=>whnf
 refine⟨fun h=> ?_,fun h=> ?_⟩
 have lk20:k20<x0.Nodes.length:=by have h:=Wt h;omega
 obtain⟨e21,he21⟩:=ge lk20
 rw [Jl he21,Zk.eq_2] at hL1
 conv=>whnf
 refine Jm (enc:=Jb) (l:=x0.Nodes) rfl ?_
 conv=>whnf
 obtain⟨c4,hc_4,hL1⟩:=YF hL1
 refine J1 49 (v:= .lst 5 (x0.Nodes.map Jb)) (by(conv=>lhs;whnf)<;>rfl) (fun hb=> ?_)
 have hbd_k_23:x0.Nodes.length<=9223372036854775807:=Jz (enc:=Jb) (hb)
 refine Jo Jc Ja (fun y:Nat=>y<=x0.Nodes.length∧YL a16 a17 (x0.Nodes.drop y) y=some c4) (fun y=>⟨eL [(1,.ptr 0 0),(3,.mp 1),(8,.osl 2),(9,.osl 3),(10,.int .i64 (-1:Int)),(45,.int .i64 (x0.Nodes.length:Int)),(46,.int .i64 (k20:Int)),(50,.int .i64 (x0.Nodes.length:Int)),(51,.int .i64 (y:Int))],hL [(0,.box [.lst 5 (x0.Nodes.map Jb),.lst 3 (x0.Devices.map Jd)]),(1,.obj (Jb1 a16)),(2,.row 1 (a18.map iA)),(3,.row 1 (a17.map bA))],4⟩) (fun y=>x0.Nodes.length - y) 0 ⟨Nat.zero_le _,hc_4⟩ (wK [0,1,3,2] [] [] ⟨bN,Jav rfl rfl,bR,bR,tv⟩) ?_
 rintro k23 ⟨hk_k_23,hL2⟩
 try dsimp only at hk_k_23 hL2
 show awp _ _ _ _ _ _ ⟨eL [(1,.ptr 0 0),(3,.mp 1),(8,.osl 2),(9,.osl 3),(10,.int .i64 (-1:Int)),(45,.int .i64 (x0.Nodes.length:Int)),(46,.int .i64 (k20:Int)),(50,.int .i64 (x0.Nodes.length:Int)),(51,.int .i64 (k23:Int))],hL [(0,.box [.lst 5 (x0.Nodes.map Jb),.lst 3 (x0.Devices.map Jd)]),(1,.obj (Jb1 a16)),(2,.row 1 (a18.map iA)),(3,.row 1 (a17.map bA))],4⟩
 conv=>whnf
 refine⟨fun h=> ?_,fun h=> ?_⟩
 have lk23:k23<x0.Nodes.length:=by have h:=Wt h;omega
 obtain⟨e24,he24⟩:=ge lk23
 rw [Jl he24,YL.eq_2] at hL2
 conv=>whnf
 obtain⟨e25,he25,hL2⟩:=bs' hL2
 refine Qc (enc:=bA) (l:=a17) he25 rfl (fun m_e_25 hm_e_25 hx_e_25=> ?_)
 conv=>whnf
 refine⟨_,Jv (enc:=bA) hx_e_25,?_⟩
 conv=>whnf
 refine xB hL2 (fun b83 hL2=> ?_) fun b83 hL2=> ?_
 conv=>whnf
 obtain⟨v26,hv26,hL2⟩:=bs' hL2
 refine⟨_,Jf8 (x:=(k23:Int)) (E:=a16) rfl rfl rfl rfl hv26,?_⟩
 conv=>whnf
 refine xB hL2 (fun b84 hL2=> ?_) fun b84 hL2=> ?_
 conv=>whnf
 obtain rfl:=si hL2
 replace hL1:=Zz hL1
 try dsimp only at hL1
 refine xB hL1 (fun b85 hL1=> ?_) fun b85 hL1=> ?_
 conv=>whnf
 obtain rfl:=si hL1
 replace hF:=Jw hF
 try dsimp only at hF
 obtain rfl:=si hF
 exact Jk [] [] [2] rfl (aL 2) trivial
 conv=>whnf
 obtain⟨e29,he29,hL1⟩:=bs' hL1
 refine Qc (enc:=bA) (l:=a17) he29 rfl (fun m_e_29 hm_e_29 hx_e_29=> ?_)
 conv=>whnf
 refine Z6 (enc:=bA) (l:=a17) (x':=true) (i:=(k23:Int)) hm_e_29 hx_e_29 rfl (Wl rfl) rfl ?_
 conv=>whnf
 obtain⟨l30,hl30,hL1⟩:=bs' hL1
 refine ZV (enc:=iA) (l:=a18) (y:=([(k23:Int)]:List Int)) hl30 rfl rfl (by decide) ?_
 conv=>whnf
 obtain⟨e31,he31,hL1⟩:=bs' hL1
 refine JZ (enc:=Jb) (l:=x0.Nodes) he31 rfl (fun m_e_31 hm_e_31 hx_e_31=> ?_)
 conv=>whnf
 refine Jm (enc:=iA) (l:=e31.Exits) rfl ?_
 conv=>whnf
 obtain⟨c5,hc_5,hL1⟩:=YF hL1
 refine J1 79 (v:= .iptr [.str e31.Name,.int .i64 e31.Kind,.int .i64 e31.Length,.int .i64 e31.Zone,.lst 1 (e31.Exits.map iA)]) (by(conv=>lhs;whnf)<;>rfl) (fun hb=> ?_)
 have hbd_k_34:e31.Exits.length<=9223372036854775807:=Jz (enc:=iA) ((YC hb.icell 4 rfl))
 refine Jo Jc Ja (fun y:Nat×(List (Int×Int))=>y.1<=e31.Exits.length∧YK (k23:Int) (e31.Exits.drop y.1) y.1 y.2=some c5) (fun y=>⟨eL [(1,.ptr 0 0),(3,.mp 1),(8,.osl 2),(9,.osl 3),(10,.int .i64 (k23:Int)),(45,.int .i64 (x0.Nodes.length:Int)),(46,.int .i64 (k20:Int)),(81,.lst 1 (e31.Exits.map iA)),(82,.int .i64 (e31.Exits.length:Int)),(83,.int .i64 (y.1:Int))],hL [(0,.box [.lst 5 (x0.Nodes.map Jb),.lst 3 (x0.Devices.map Jd)]),(1,.obj (Jb1 y.2)),(2,.row 1 (l30.map iA)),(3,.row 1 ((a17.set (k23:Int).toNat true).map bA))],4⟩) (fun y=>e31.Exits.length - y.1) (0,a16) ⟨Nat.zero_le _,hc_5⟩ (wK [0,1,5,3] [] [] ⟨bN,Jav rfl rfl,bR,bR,tv⟩) ?_
 rintro⟨k34,a32⟩ ⟨hk_k_34,hL2⟩
 try dsimp only at hk_k_34 hL2
 show awp _ _ _ _ _ _ ⟨eL [(1,.ptr 0 0),(3,.mp 1),(8,.osl 2),(9,.osl 3),(10,.int .i64 (k23:Int)),(45,.int .i64 (x0.Nodes.length:Int)),(46,.int .i64 (k20:Int)),(81,.lst 1 (e31.Exits.map iA)),(82,.int .i64 (e31.Exits.length:Int)),(83,.int .i64 (k34:Int))],hL [(0,.box [.lst 5 (x0.Nodes.map Jb),.lst 3 (x0.Devices.map Jd)]),(1,.obj (Jb1 a32)),(2,.row 1 (l30.map iA)),(3,.row 1 ((a17.set (k23:Int).toNat true).map bA))],4⟩
 conv=>whnf
 refine⟨fun h=> ?_,fun h=> ?_⟩
 have lk34:k34<e31.Exits.length:=by have h:=Wt h;omega
 obtain⟨e35,he35⟩:=ge lk34
 rw [Jl he35,YK.eq_2] at hL2
 conv=>whnf
 refine⟨k34,_,rfl,Jv he35,?_⟩
 conv=>whnf
 refine xB hL2 (fun b86 hL2=> ?_) fun b86 hL2=> ?_
 conv=>whnf
 obtain⟨v36,hv36,hL2⟩:=bs' hL2
 refine⟨_,Jf8 (x:=e35) (E:=a32) rfl rfl rfl rfl hv36,?_⟩
 conv=>whnf
 refine⟨_,rfl,?_⟩
 conv=>whnf
 obtain⟨m37,hm37,hL2⟩:=bs' hL2
 refine⟨_,Jlx (x:=e35) (y:=(w64 (v36 - 1))) (E:=a32) rfl rfl rfl rfl rfl hm37,?_⟩
 conv=>whnf
 refine⟨((k34+1:Nat):Int),wE,?_⟩
 conv=>whnf
 exact⟨(k34+1,m37),_,_,_,⟨lk34,hL2⟩,sl lk34,wK [0,1,2,3] [] [] ⟨bN,Jav rfl rfl,bR,bR,tv⟩⟩
 conv=>whnf
 refine⟨((k34+1:Nat):Int),wE,?_⟩
 conv=>whnf
 exact⟨(k34+1,a32),_,_,_,⟨lk34,hL2⟩,sl lk34,wK [0,1,2,3] [] [] ⟨bN,Jav rfl rfl,bR,bR,tv⟩⟩
 rw [Jq (nl h),YK.eq_1] at hL2
 conv=>whnf
 obtain rfl:=si hL2
 replace hL1:=Zz hL1
 try dsimp only at hL1
 refine⟨((k20+1:Nat):Int),wE,?_⟩
 conv=>whnf
 exact⟨(k20+1,a32,l30,(a17.set (k23:Int).toNat true)),_,_,_,⟨lk20,hL1⟩,sl lk20,wK [0,1,3,2] [] [] ⟨bN,Jav rfl rfl,bR,bR,tv⟩⟩
 conv=>whnf
 refine⟨((k23+1:Nat):Int),wE,?_⟩
 conv=>whnf
 exact⟨k23+1,_,_,_,⟨lk23,hL2⟩,sl lk23,wK [0,1,2,3] [] [] ⟨bN,Jav rfl rfl,bR,bR,tv⟩⟩
 conv=>whnf
 refine⟨((k23+1:Nat):Int),wE,?_⟩
 conv=>whnf
 exact⟨k23+1,_,_,_,⟨lk23,hL2⟩,sl lk23,wK [0,1,2,3] [] [] ⟨bN,Jav rfl rfl,bR,bR,tv⟩⟩
 rw [Jq (nl h),YL.eq_1] at hL2
 conv=>whnf
 obtain rfl:=si hL2
 replace hL1:=Zz hL1
 try dsimp only at hL1
 refine⟨fun h=> ?_,fun h=> ?_⟩
 conv=>whnf
 obtain rfl:=si hL1
 replace hF:=Jw hF
 try dsimp only at hF
 obtain rfl:=si hF
 exact Jk [] [] [2] rfl (aL 2) trivial
 cases (show (decide ((-1:Int)<0))=true from rfl).symm.trans h
 rw [Jq (nl h),Zk.eq_1] at hL1
 conv=>whnf
 obtain rfl:=si hL1
 replace hF:=Jw hF
 try dsimp only at hF
 obtain rfl:=si hF
 exact Jk [] [] [3] rfl (aL 3) trivial
theorem Jey (x0:(List Device)) (x1:Device) (r:Int) (hF:JaA x0 x1=some r):AC Tryz.prog 158 [.lst 3 (x0.map Jd),.agg (Jd x1)] [] (.int .i64 r) ([]):=by
 refine Ju Jc Ja Tryz.func158 rfl Tryz.ntmps158 rfl ?_
 unfold JaA at hF
 conv=>whnf
 refine Jm (enc:=Jd) (l:=x0) rfl ?_
 conv=>whnf
 obtain⟨c1,hc_1,hF⟩:=Jr hF
 refine J1 0 (v:= .lst 3 (x0.map Jd)) (by(conv=>lhs;whnf)<;>rfl) (fun hb=> ?_)
 have hbd_k_2:x0.length<=9223372036854775807:=Jz (enc:=Jd) (hb)
 refine Jo Jc Ja (fun y:Nat=>y<=x0.length∧Qw x1 (x0.drop y) y=some c1) (fun y=>⟨eL [(0,.lst 3 (x0.map Jd)),(3,.ptr 0 0),(7,.int .i64 (x0.length:Int)),(8,.int .i64 (y:Int))],hL [(0,.box [.int .i64 x1.Kind,.int .i64 x1.Node,.int .i64 x1.Window])],1⟩) (fun y=>x0.length - y) 0 ⟨Nat.zero_le _,hc_1⟩ (wK [0] [] []) ?_
 rintro k2 ⟨hk_k_2,hL1⟩
 try dsimp only at hk_k_2 hL1
 show awp _ _ _ _ _ _ ⟨eL [(0,.lst 3 (x0.map Jd)),(3,.ptr 0 0),(7,.int .i64 (x0.length:Int)),(8,.int .i64 (k2:Int))],hL [(0,.box [.int .i64 x1.Kind,.int .i64 x1.Node,.int .i64 x1.Window])],1⟩
 conv=>whnf
 refine⟨fun h=> ?_,fun h=> ?_⟩
 have lk2:k2<x0.length:=by have h:=Wt h;omega
 obtain⟨e3,he3⟩:=ge lk2
 rw [Jl he3,Qw.eq_2] at hL1
 conv=>whnf
 refine⟨k2,_,rfl,Jv he3,?_⟩
 conv=>whnf
 refine⟨by kernel_rfl,?_⟩
 conv=>whnf
 refine xB hL1 (fun b7 hL1=> ?_) fun b7 hL1=> ?_
 conv=>whnf
 obtain rfl:=si hL1
 replace hF:=Jn hF
 obtain rfl:=si hF
 exact rZ
 conv=>whnf
 refine⟨((k2+1:Nat):Int),wE,?_⟩
 conv=>whnf
 exact⟨k2+1,_,_,_,⟨lk2,hL1⟩,sl lk2,wK [0] [] []⟩
 rw [Jq (nl h),Qw.eq_1] at hL1
 conv=>whnf
 obtain rfl:=si hL1
 replace hF:=Jw hF
 try dsimp only at hF
 obtain rfl:=si hF
 exact rZ
theorem JdJ (x0:(List Device)) (x1:Device) (r:Bool) (hF:YV x0 x1=some r):AC Tryz.prog 105 [.lst 3 (x0.map Jd),.agg (Jd x1)] [] (.bool r) ([]):=by
 refine Ju Jc Ja Tryz.func105 rfl Tryz.ntmps105 rfl ?_
 unfold YV at hF
 conv=>whnf
 obtain⟨r1,hr1,hF⟩:=bs' hF
 refine cE (d0 0 Tryz.func158 (Jey x0 x1 r1 hr1)) ?_
 conv=>whnf
 obtain rfl:=si hF
 exact rZ
theorem Jgs (x0:Layout) (r:Int) (hF:Ja7 x0=some r):AC Tryz.prog 64 [.agg (JC x0)] [] (.int .i64 r) ([]):=by
 refine Ju Jc Ja Tryz.func64 rfl Tryz.ntmps64 rfl ?_
 unfold Ja7 at hF
 conv=>whnf
 refine Jm (enc:=Jd) (l:=x0.Devices) rfl ?_
 conv=>whnf
 obtain⟨c1,hc_1,hF⟩:=Jr hF
 refine J1 0 (v:= .agg [.lst 5 (x0.Nodes.map Jb),.lst 3 (x0.Devices.map Jd)]) (by(conv=>lhs;whnf)<;>rfl) (fun hb=> ?_)
 have hbd_k_2:x0.Devices.length<=9223372036854775807:=Jz (enc:=Jd) ((YC hb.cell 1 rfl))
 refine Jo Jc Ja (fun y:Nat=>y<=x0.Devices.length∧Ym x0 (x0.Devices.drop y) y=some c1) (fun y=>⟨eL [(1,.ptr 0 0),(8,.lst 3 (x0.Devices.map Jd)),(9,.int .i64 (x0.Devices.length:Int)),(10,.int .i64 (y:Int))],hL [(0,.box [.lst 5 (x0.Nodes.map Jb),.lst 3 (x0.Devices.map Jd)])],1⟩) (fun y=>x0.Devices.length - y) 0 ⟨Nat.zero_le _,hc_1⟩ (wK [0] [] []) ?_
 rintro k2 ⟨hk_k_2,hL1⟩
 try dsimp only at hk_k_2 hL1
 show awp _ _ _ _ _ _ ⟨eL [(1,.ptr 0 0),(8,.lst 3 (x0.Devices.map Jd)),(9,.int .i64 (x0.Devices.length:Int)),(10,.int .i64 (k2:Int))],hL [(0,.box [.lst 5 (x0.Nodes.map Jb),.lst 3 (x0.Devices.map Jd)])],1⟩
 conv=>whnf
 refine⟨fun h=> ?_,fun h=> ?_⟩
 have lk2:k2<x0.Devices.length:=by have h:=Wt h;omega
 obtain⟨e3,he3⟩:=ge lk2
 rw [Jl he3,Ym.eq_2] at hL1
 conv=>whnf
 refine⟨k2,_,rfl,Jv he3,?_⟩
 conv=>whnf
 refine xB hL1 (fun b49 hL1=> ?_) fun b49 hL1=> ?_
 conv=>whnf
 refine xB hL1 (fun b50 hL1=> ?_) fun b50 hL1=> ?_
 conv=>whnf
 obtain rfl:=si hL1
 replace hF:=Jn hF
 obtain rfl:=si hF
 exact rZ
 conv=>whnf
 refine⟨fun b51=> ?_,fun b51=> ?_⟩
 replace hL1:=cf b51 hL1
 conv=>whnf
 refine Jm (enc:=Jb) (l:=x0.Nodes) rfl ?_
 conv=>whnf
 refine⟨fun b52=> ?_,fun b52=> ?_⟩
 replace hL1:=cf b52 hL1
 conv=>whnf
 refine⟨fun b53=> ?_,fun b53=> ?_⟩
 replace hL1:=cf b53 hL1
 conv=>whnf
 obtain⟨e4,he4,hL1⟩:=bs' hL1
 refine JZ (enc:=Jb) (l:=x0.Nodes) he4 rfl (fun m_e_4 hm_e_4 hx_e_4=> ?_)
 conv=>whnf
 refine⟨by kernel_rfl,?_⟩
 conv=>whnf
 refine xB hL1 (fun b54 hL1=> ?_) fun b54 hL1=> ?_
 conv=>whnf
 obtain rfl:=si hL1
 replace hF:=Jn hF
 obtain rfl:=si hF
 exact rZ
 conv=>whnf
 refine⟨((k2+1:Nat):Int),wE,?_⟩
 conv=>whnf
 exact⟨k2+1,_,_,_,⟨lk2,hL1⟩,sl lk2,wK [0] [] []⟩
 replace hL1:=ct b53 hL1
 conv=>whnf
 refine⟨by kernel_rfl,?_⟩
 conv=>whnf
 obtain rfl:=si hL1
 replace hF:=Jn hF
 obtain rfl:=si hF
 exact rZ
 replace hL1:=ct b52 hL1
 conv=>whnf
 refine⟨by kernel_rfl,?_⟩
 conv=>whnf
 obtain rfl:=si hL1
 replace hF:=Jn hF
 obtain rfl:=si hF
 exact rZ
 replace hL1:=ct b51 hL1
 conv=>whnf
 refine⟨by kernel_rfl,?_⟩
 conv=>whnf
 obtain rfl:=si hL1
 replace hF:=Jn hF
 obtain rfl:=si hF
 exact rZ
 conv=>whnf
 refine⟨fun b55=> ?_,fun b55=> ?_⟩
 replace hL1:=cf b55 hL1
 conv=>whnf
 refine Jm (enc:=Jb) (l:=x0.Nodes) rfl ?_
 conv=>whnf
 refine⟨fun b56=> ?_,fun b56=> ?_⟩
 replace hL1:=cf b56 hL1
 conv=>whnf
 refine⟨fun b57=> ?_,fun b57=> ?_⟩
 replace hL1:=cf b57 hL1
 conv=>whnf
 obtain⟨e5,he5,hL1⟩:=bs' hL1
 refine JZ (enc:=Jb) (l:=x0.Nodes) he5 rfl (fun m_e_5 hm_e_5 hx_e_5=> ?_)
 conv=>whnf
 refine⟨by kernel_rfl,?_⟩
 conv=>whnf
 refine xB hL1 (fun b58 hL1=> ?_) fun b58 hL1=> ?_
 conv=>whnf
 obtain rfl:=si hL1
 replace hF:=Jn hF
 obtain rfl:=si hF
 exact rZ
 conv=>whnf
 refine⟨((k2+1:Nat):Int),wE,?_⟩
 conv=>whnf
 exact⟨k2+1,_,_,_,⟨lk2,hL1⟩,sl lk2,wK [0] [] []⟩
 replace hL1:=ct b57 hL1
 conv=>whnf
 refine⟨by kernel_rfl,?_⟩
 conv=>whnf
 obtain rfl:=si hL1
 replace hF:=Jn hF
 obtain rfl:=si hF
 exact rZ
 replace hL1:=ct b56 hL1
 conv=>whnf
 refine⟨by kernel_rfl,?_⟩
 conv=>whnf
 obtain rfl:=si hL1
 replace hF:=Jn hF
 obtain rfl:=si hF
 exact rZ
 replace hL1:=ct b55 hL1
 conv=>whnf
 refine⟨by kernel_rfl,?_⟩
 conv=>whnf
 obtain rfl:=si hL1
 replace hF:=Jn hF
 obtain rfl:=si hF
 exact rZ
 rw [Jq (nl h),Ym.eq_1] at hL1
 conv=>whnf
 obtain rfl:=si hL1
 replace hF:=Jw hF
 try dsimp only at hF
 refine Jm (enc:=Jd) (l:=x0.Devices) rfl ?_
 conv=>whnf
 obtain⟨c2,hc_2,hF⟩:=Jr hF
 refine J1 54 (v:= .lst 3 (x0.Devices.map Jd)) (by(conv=>lhs;whnf)<;>rfl) (fun hb=> ?_)
 have hbd_k_9:x0.Devices.length<=9223372036854775807:=Jz (enc:=Jd) (hb)
 refine Jo Jc Ja (fun y:Nat=>y<=x0.Devices.length∧Y3 x0 (x0.Devices.drop y) y=some c2) (fun y=>⟨eL [(1,.ptr 0 0),(54,.lst 3 (x0.Devices.map Jd)),(55,.int .i64 (x0.Devices.length:Int)),(56,.int .i64 (y:Int))],hL [(0,.box [.lst 5 (x0.Nodes.map Jb),.lst 3 (x0.Devices.map Jd)])],1⟩) (fun y=>x0.Devices.length - y) 0 ⟨Nat.zero_le _,hc_2⟩ (wK [0] [] []) ?_
 rintro k9 ⟨hk_k_9,hL1⟩
 try dsimp only at hk_k_9 hL1
 show awp _ _ _ _ _ _ ⟨eL [(1,.ptr 0 0),(54,.lst 3 (x0.Devices.map Jd)),(55,.int .i64 (x0.Devices.length:Int)),(56,.int .i64 (k9:Int))],hL [(0,.box [.lst 5 (x0.Nodes.map Jb),.lst 3 (x0.Devices.map Jd)])],1⟩
 conv=>whnf
 refine⟨fun h=> ?_,fun h=> ?_⟩
 have lk9:k9<x0.Devices.length:=by have h:=Wt h;omega
 obtain⟨e10,he10⟩:=ge lk9
 rw [Jl he10,Y3.eq_2] at hL1
 conv=>whnf
 refine⟨k9,_,rfl,Jv he10,?_⟩
 conv=>whnf
 obtain⟨l11,hl11,hL1⟩:=bs' hL1
 refine Jjj (enc:=Jd) (l:=x0.Devices) hl11 rfl ?_
 conv=>whnf
 obtain⟨r12,hr12,hL1⟩:=bs' hL1
 refine cE (d0 0 Tryz.func105 (JdJ l11 e10 r12 hr12)) ?_
 conv=>whnf
 refine⟨by kernel_rfl,?_⟩
 conv=>whnf
 refine xB hL1 (fun b59 hL1=> ?_) fun b59 hL1=> ?_
 conv=>whnf
 obtain rfl:=si hL1
 replace hF:=Jn hF
 obtain rfl:=si hF
 exact rZ
 conv=>whnf
 refine⟨((k9+1:Nat):Int),wE,?_⟩
 conv=>whnf
 exact⟨k9+1,_,_,_,⟨lk9,hL1⟩,sl lk9,wK [0] [] []⟩
 rw [Jq (nl h),Y3.eq_1] at hL1
 conv=>whnf
 obtain rfl:=si hL1
 replace hF:=Jw hF
 try dsimp only at hF
 obtain rfl:=si hF
 exact rZ
theorem JeR (x0:Node) (r:Bool) (hF:JaM x0=some r):AC Tryz.prog 66 [.agg (Jb x0)] [] (.bool r) ([]):=by
 refine Ju Jc Ja Tryz.func66 rfl Tryz.ntmps66 rfl ?_
 unfold JaM at hF
 conv=>whnf
 obtain rfl:=si hF
 exact rZ
theorem Jc3 (x0:(List Node)) (r:Int) (hF:Zt x0=some r):AC Tryz.prog 106 [.lst 5 (x0.map Jb),.fn 66 []] [] (.int .i64 r) ([]):=by
 refine Ju Jc Ja Tryz.func106 rfl Tryz.ntmps106 rfl ?_
 unfold Zt at hF
 conv=>whnf
 refine Jm (enc:=Jb) (l:=x0) rfl ?_
 conv=>whnf
 obtain⟨c1,hc_1,hF⟩:=Jr hF
 refine J1 0 (v:= .lst 5 (x0.map Jb)) (by(conv=>lhs;whnf)<;>rfl) (fun hb=> ?_)
 have hbd_k_2:x0.length<=9223372036854775807:=Jz (enc:=Jb) (hb)
 refine Jo Jc Ja (fun y:Nat=>y<=x0.length∧J3 (x0.drop y) y=some c1) (fun y=>⟨eL [(0,.lst 5 (x0.map Jb)),(1,.fn 66 []),(7,.int .i64 (x0.length:Int)),(8,.int .i64 (y:Int))],hL [],0⟩) (fun y=>x0.length - y) 0 ⟨Nat.zero_le _,hc_1⟩ (wK [] [] []) ?_
 rintro k2 ⟨hk_k_2,hL1⟩
 try dsimp only at hk_k_2 hL1
 show awp _ _ _ _ _ _ ⟨eL [(0,.lst 5 (x0.map Jb)),(1,.fn 66 []),(7,.int .i64 (x0.length:Int)),(8,.int .i64 (k2:Int))],hL [],0⟩
 conv=>whnf
 refine⟨fun h=> ?_,fun h=> ?_⟩
 have lk2:k2<x0.length:=by have h:=Wt h;omega
 obtain⟨e3,he3⟩:=ge lk2
 rw [Jl he3,J3.eq_2] at hL1
 conv=>whnf
 refine⟨k2,_,rfl,Jv he3,?_⟩
 conv=>whnf
 obtain⟨r4,hr4,hL1⟩:=bs' hL1
 refine cE (d0 0 Tryz.func66 (JeR e3 r4 hr4)) ?_
 conv=>whnf
 refine xB hL1 (fun b7 hL1=> ?_) fun b7 hL1=> ?_
 conv=>whnf
 obtain rfl:=si hL1
 replace hF:=Jn hF
 obtain rfl:=si hF
 exact rZ
 conv=>whnf
 refine⟨((k2+1:Nat):Int),wE,?_⟩
 conv=>whnf
 exact⟨k2+1,_,_,_,⟨lk2,hL1⟩,sl lk2,wK [] [] []⟩
 rw [Jq (nl h),J3.eq_1] at hL1
 conv=>whnf
 obtain rfl:=si hL1
 replace hF:=Jw hF
 try dsimp only at hF
 obtain rfl:=si hF
 exact rZ
theorem Jc5 (x0:(List Node)) (r:Bool) (hF:QR x0=some r):AC Tryz.prog 65 [.lst 5 (x0.map Jb),.fn 66 []] [] (.bool r) ([]):=by
 refine Ju Jc Ja Tryz.func65 rfl Tryz.ntmps65 rfl ?_
 unfold QR at hF
 conv=>whnf
 obtain⟨r1,hr1,hF⟩:=bs' hF
 refine cE (d0 0 Tryz.func106 (Jc3 x0 r1 hr1)) ?_
 conv=>whnf
 obtain rfl:=si hF
 exact rZ
theorem Jah (x0:Layout) (r:Int) (hF:Q9 x0=some r):AC Tryz.prog 30 [.agg (JC x0)] [] (.int .i64 r) ([]):=by
 refine Ju Jc Ja Tryz.func30 rfl Tryz.ntmps30 rfl ?_
 unfold Q9 at hF
 conv=>whnf
 refine Jm (enc:=Jb) (l:=x0.Nodes) rfl ?_
 conv=>whnf
 refine⟨fun b20=> ?_,fun b20=> ?_⟩
 replace hF:=cf b20 hF
 conv=>whnf
 refine Jm (enc:=Jd) (l:=x0.Devices) rfl ?_
 conv=>whnf
 refine xB hF (fun b21 hF=> ?_) fun b21 hF=> ?_
 conv=>whnf
 obtain rfl:=si hF
 exact rZ
 conv=>whnf
 refine Jm (enc:=Jb) (l:=x0.Nodes) rfl ?_
 conv=>whnf
 obtain⟨c1,hc_1,hF⟩:=Jr hF
 refine J1 0 (v:= .agg [.lst 5 (x0.Nodes.map Jb),.lst 3 (x0.Devices.map Jd)]) (by(conv=>lhs;whnf)<;>rfl) (fun hb=> ?_)
 have hbd_k_2:x0.Nodes.length<=9223372036854775807:=Jz (enc:=Jb) ((YC hb.cell 0 rfl))
 refine Jo Jc Ja (fun y:Nat=>y<=x0.Nodes.length∧Yy x0 (x0.Nodes.drop y) y=some c1) (fun y=>⟨eL [(1,.ptr 0 0),(19,.int .i64 (x0.Nodes.length:Int)),(20,.int .i64 (y:Int))],hL [(0,.box [.lst 5 (x0.Nodes.map Jb),.lst 3 (x0.Devices.map Jd)])],1⟩) (fun y=>x0.Nodes.length - y) 0 ⟨Nat.zero_le _,hc_1⟩ (wK [0] [] []) ?_
 rintro k2 ⟨hk_k_2,hL1⟩
 try dsimp only at hk_k_2 hL1
 show awp _ _ _ _ _ _ ⟨eL [(1,.ptr 0 0),(19,.int .i64 (x0.Nodes.length:Int)),(20,.int .i64 (k2:Int))],hL [(0,.box [.lst 5 (x0.Nodes.map Jb),.lst 3 (x0.Devices.map Jd)])],1⟩
 conv=>whnf
 refine⟨fun h=> ?_,fun h=> ?_⟩
 have lk2:k2<x0.Nodes.length:=by have h:=Wt h;omega
 obtain⟨e3,he3⟩:=ge lk2
 rw [Jl he3,Yy.eq_2] at hL1
 conv=>whnf
 obtain⟨r4,hr4,hL1⟩:=bs' hL1
 refine cE (d0 0 Tryz.func59 (Jim x0 (k2:Int) r4 hr4)) ?_
 conv=>whnf
 refine xB hL1 (fun b22 hL1=> ?_) fun b22 hL1=> ?_
 conv=>whnf
 obtain rfl:=si hL1
 replace hF:=Jn hF
 obtain rfl:=si hF
 exact rZ
 conv=>whnf
 refine⟨((k2+1:Nat):Int),wE,?_⟩
 conv=>whnf
 exact⟨k2+1,_,_,_,⟨lk2,hL1⟩,sl lk2,wK [0] [] []⟩
 rw [Jq (nl h),Yy.eq_1] at hL1
 conv=>whnf
 obtain rfl:=si hL1
 replace hF:=Jw hF
 try dsimp only at hF
 obtain⟨r7,hr7,hF⟩:=bs' hF
 refine cE (d0 0 Tryz.func60 (Jhw x0 r7 hr7)) ?_
 conv=>whnf
 refine xB hF (fun b23 hF=> ?_) fun b23 hF=> ?_
 conv=>whnf
 obtain rfl:=si hF
 exact rZ
 conv=>whnf
 obtain⟨r8,hr8,hF⟩:=bs' hF
 refine cE (d0 0 Tryz.func61 (Jhx x0 r8 hr8)) ?_
 conv=>whnf
 refine xB hF (fun b24 hF=> ?_) fun b24 hF=> ?_
 conv=>whnf
 obtain rfl:=si hF
 exact rZ
 conv=>whnf
 refine Jm (enc:=Jb) (l:=x0.Nodes) rfl ?_
 conv=>whnf
 obtain⟨c2,hc_2,hF⟩:=Jr hF
 refine J1 31 (v:= .agg [.lst 5 (x0.Nodes.map Jb),.lst 3 (x0.Devices.map Jd)]) (by(conv=>lhs;whnf)<;>rfl) (fun hb=> ?_)
 have hbd_k_10:x0.Nodes.length<=9223372036854775807:=Jz (enc:=Jb) ((YC hb.cell 0 rfl))
 refine Jo Jc Ja (fun y:Nat=>y<=x0.Nodes.length∧Yx x0 (x0.Nodes.drop y) y=some c2) (fun y=>⟨eL [(1,.ptr 0 0),(40,.int .i64 (x0.Nodes.length:Int)),(41,.int .i64 (y:Int))],hL [(0,.box [.lst 5 (x0.Nodes.map Jb),.lst 3 (x0.Devices.map Jd)])],1⟩) (fun y=>x0.Nodes.length - y) 0 ⟨Nat.zero_le _,hc_2⟩ (wK [0] [] []) ?_
 rintro k10 ⟨hk_k_10,hL1⟩
 try dsimp only at hk_k_10 hL1
 show awp _ _ _ _ _ _ ⟨eL [(1,.ptr 0 0),(40,.int .i64 (x0.Nodes.length:Int)),(41,.int .i64 (k10:Int))],hL [(0,.box [.lst 5 (x0.Nodes.map Jb),.lst 3 (x0.Devices.map Jd)])],1⟩
 conv=>whnf
 refine⟨fun h=> ?_,fun h=> ?_⟩
 have lk10:k10<x0.Nodes.length:=by have h:=Wt h;omega
 obtain⟨e11,he11⟩:=ge lk10
 rw [Jl he11,Yx.eq_2] at hL1
 conv=>whnf
 obtain⟨r12,hr12,hL1⟩:=bs' hL1
 refine cE (d0 0 Tryz.func62 (Jhv x0 (k10:Int) r12 hr12)) ?_
 conv=>whnf
 refine xB hL1 (fun b25 hL1=> ?_) fun b25 hL1=> ?_
 conv=>whnf
 obtain rfl:=si hL1
 replace hF:=Jn hF
 obtain rfl:=si hF
 exact rZ
 conv=>whnf
 refine⟨((k10+1:Nat):Int),wE,?_⟩
 conv=>whnf
 exact⟨k10+1,_,_,_,⟨lk10,hL1⟩,sl lk10,wK [0] [] []⟩
 rw [Jq (nl h),Yx.eq_1] at hL1
 conv=>whnf
 obtain rfl:=si hL1
 replace hF:=Jw hF
 try dsimp only at hF
 obtain⟨r15,hr15,hF⟩:=bs' hF
 refine cE (d0 0 Tryz.func63 (Jej x0 r15 hr15)) ?_
 conv=>whnf
 refine Jm (enc:=iA) (l:=r15) rfl ?_
 conv=>whnf
 refine Jm (enc:=Jb) (l:=x0.Nodes) rfl ?_
 conv=>whnf
 refine⟨by kernel_rfl,?_⟩
 conv=>whnf
 refine xB hF (fun b26 hF=> ?_) fun b26 hF=> ?_
 conv=>whnf
 obtain rfl:=si hF
 exact rZ
 conv=>whnf
 obtain⟨r16,hr16,hF⟩:=bs' hF
 refine cE (d0 0 Tryz.func64 (Jgs x0 r16 hr16)) ?_
 conv=>whnf
 refine xB hF (fun b27 hF=> ?_) fun b27 hF=> ?_
 conv=>whnf
 obtain rfl:=si hF
 exact rZ
 conv=>whnf
 obtain⟨r17,hr17,hF⟩:=bs' hF
 refine cE (d0 0 Tryz.func65 (Jc5 x0.Nodes r17 hr17)) ?_
 conv=>whnf
 refine xB hF (fun b28 hF=> ?_) fun b28 hF=> ?_
 conv=>whnf
 obtain rfl:=si hF
 exact rZ
 conv=>whnf
 obtain rfl:=si hF
 exact rZ
 replace hF:=ct b20 hF
 conv=>whnf
 obtain rfl:=si hF
 exact rZ
theorem Jgn (x0:Layout) (r:Plant×Int) (hF:Jdh x0=some r):AC Tryz.prog 7 [.agg (JC x0)] [] (.tup [.agg (Qi r.1),.int .i64 r.2]) ([]):=by
 refine Ju Jc Ja Tryz.func7 rfl Tryz.ntmps7 rfl ?_
 unfold Jdh at hF
 conv=>whnf
 obtain⟨r1,hr1,hF⟩:=bs' hF
 refine cE (d0 0 Tryz.func30 (Jah x0 r1 hr1)) ?_
 conv=>whnf
 refine xB hF (fun b4 hF=> ?_) fun b4 hF=> ?_
 conv=>whnf
 obtain rfl:=si hF
 exact Jk [] [] [] rfl (Qh rfl ⟨(aA [.nils,.nils] ⟨(.nils _),(.nils _),tv⟩),aq,tv⟩) trivial
 conv=>whnf
 refine Jm (enc:=Jb) (l:=x0.Nodes) rfl ?_
 conv=>whnf
 obtain⟨c1,hc_1,hF⟩:=Jr hF
 refine J1 0 (v:= .agg [.lst 5 (x0.Nodes.map Jb),.lst 3 (x0.Devices.map Jd)]) (by(conv=>lhs;whnf)<;>rfl) (fun hb=> ?_)
 have hbd_k_5:x0.Nodes.length<=9223372036854775807:=Jz (enc:=Jb) ((YC hb.cell 0 rfl))
 refine Jo Jc Ja (fun y:Nat×(List (List Int))×(List (List Int))=>y.1<=x0.Nodes.length∧Jas (x0.Nodes.drop y.1) y.1 y.2.1 y.2.2=some c1) (fun y=>⟨eL [(2,.ptr 0 0),(5,.ptr 1 0),(15,.lst 5 (x0.Nodes.map Jb)),(16,.int .i64 (x0.Nodes.length:Int)),(17,.int .i64 (y.1:Int))],hL [(0,.box [.nils,.nils]),(1,.box [.osl 2,.osl 3]),(2,.nest (y.2.1.map NE.hid)),(3,.row 1 (y.2.2.map (lA 1 iA)))],4⟩) (fun y=>x0.Nodes.length - y.1) (0,([]:List (List Int)),([]:List (List Int))) ⟨Nat.zero_le _,hc_1⟩ (Ye [1,3] [2,3] [] [] rfl rfl ⟨aP 1,aP 3,aq,aq,aq,tv⟩ ⟨bN,Jy rfl rfl rfl ⟨(.nilz 2 (by simp)),(.nilz 3 (by simp)),tv⟩,JaW rfl,Jci rfl,tv⟩) ?_
 rintro⟨k5,a2,a3⟩ ⟨hk_k_5,hL1⟩
 try dsimp only at hk_k_5 hL1
 show awp _ _ _ _ _ _ ⟨eL [(2,.ptr 0 0),(5,.ptr 1 0),(15,.lst 5 (x0.Nodes.map Jb)),(16,.int .i64 (x0.Nodes.length:Int)),(17,.int .i64 (k5:Int))],hL [(0,.box [.nils,.nils]),(1,.box [.osl 2,.osl 3]),(2,.nest (a2.map NE.hid)),(3,.row 1 (a3.map (lA 1 iA)))],4⟩
 conv=>whnf
 refine⟨fun h=> ?_,fun h=> ?_⟩
 have lk5:k5<x0.Nodes.length:=by have h:=Wt h;omega
 obtain⟨e6,he6⟩:=ge lk5
 rw [Jl he6,Jas.eq_2] at hL1
 conv=>whnf
 refine⟨k5,_,rfl,Jv he6,?_⟩
 conv=>whnf
 obtain⟨l7,hl7,hL1⟩:=bs' hL1
 refine JuP (enc:=iA) hl7 rfl (by decide) ?_
 conv=>whnf
 obtain⟨l8,hl8,hL1⟩:=bs' hL1
 refine⟨_,Jnr Jc rfl rfl rfl rfl rfl rfl rfl rfl hl8 (by decide),?_⟩
 conv=>whnf
 refine⟨by kernel_rfl,?_⟩
 conv=>whnf
 obtain⟨l9,hl9,hL1⟩:=bs' hL1
 refine JkN hl9 (by simp) (by simp [Jch]) (by decide) ?_
 conv=>whnf
 refine⟨((k5+1:Nat):Int),wE,?_⟩
 conv=>whnf
 exact⟨(k5+1,l8,l9),[0,1,7,9],[],[],⟨lk5,hL1⟩,sl lk5,Ye [0,1,7,9] [] [] [(2,a2.length,5)] rfl rfl ⟨aP 0,aP 1,aq,aq,aq,tv⟩ ⟨bN,Jy rfl rfl rfl ⟨(.oslg 7 2 rfl),(.oslg 9 3 rfl),tv⟩,Jlt hl8 rfl rfl rfl (Wl rfl) rfl,Jcx rfl rfl (JbN.app (JbN.ni (JgW (fun _=>⟨rfl,rfl⟩) _)) (Jgf (c':=[.lst 1 (([]:List Int).map iA)]) rfl rfl ⟨(.nils _),tv⟩)) (by rw [(Jbr hl9).2,List.map_append];rfl),tv⟩⟩
 rw [Jq (nl h),Jas.eq_1] at hL1
 conv=>whnf
 obtain rfl:=si hL1
 replace hF:=Jw hF
 try dsimp only at hF
 obtain rfl:=si hF
 exact Jk [] [] [2,3] rfl (Qh rfl ⟨(aA [.osl 2,.osl 3] ⟨(.nest 2 _ (by simp) rfl),(.osl 3 1 _ (by simp) rfl (QI (fun _=>⟨rfl,rfl⟩) _)),tv⟩),aq,tv⟩) trivial
theorem Jkp (x0:Layout) (x1:Int) (r:Belief×Int) (hF:Jen x0 x1=some r):AC Tryz.prog 8 [.agg (JC x0),.int .i64 x1] [] (.tup [.agg (Yp r.1),.int .i64 r.2]) ([]):=by
 refine Ju Jc Ja Tryz.func8 rfl Tryz.ntmps8 rfl ?_
 unfold Jen at hF
 conv=>whnf
 obtain⟨r1,hr1,hF⟩:=bs' hF
 refine cE (d0 0 Tryz.func7 (Jgn x0 r1 hr1)) ?_
 conv=>whnf
 refine xB hF (fun b4 hF=> ?_) fun b4 hF=> ?_
 conv=>whnf
 obtain rfl:=si hF
 exact Jk [] [] [] rfl (Qh rfl ⟨(aA [.int .i64 0,.nils] ⟨(.ni _ rfl),(.nils _),tv⟩),aq,tv⟩) trivial
 conv=>whnf
 refine⟨fun b5=> ?_,fun b5=> ?_⟩
 replace hF:=cf b5 hF
 conv=>whnf
 refine xB hF (fun b6 hF=> ?_) fun b6 hF=> ?_
 conv=>whnf
 obtain rfl:=si hF
 exact Jk [] [] [] rfl (Qh rfl ⟨(aA [.int .i64 0,.nils] ⟨(.ni _ rfl),(.nils _),tv⟩),aq,tv⟩) trivial
 conv=>whnf
 obtain rfl:=si hF
 exact Jk [] [] [4] rfl (Qh rfl ⟨(aA [.int .i64 x1,.osl 4] ⟨(.ni _ rfl),(.osl 4 3 _ (by simp) rfl (QI (fun _=>⟨rfl,rfl⟩) _)),tv⟩),aq,tv⟩) trivial
 replace hF:=ct b5 hF
 conv=>whnf
 obtain rfl:=si hF
 exact Jk [] [] [] rfl (Qh rfl ⟨(aA [.int .i64 0,.nils] ⟨(.ni _ rfl),(.nils _),tv⟩),aq,tv⟩) trivial
theorem JfN (x0:Src) (r:(List Plate)×Src) (hF:Z8 x0=some r):AC Tryz.prog 9 [.ptr 0 0] [.box (ZP x0)] (.lst 3 (r.1.map JJ)) ([.box (ZP r.2)]):=by
 refine Ju Jc Ja Tryz.func9 rfl Tryz.ntmps9 rfl ?_
 unfold Z8 at hF
 conv=>whnf
 obtain⟨r1,hr1,hF⟩:=bs' hF
 refine cE (dX false [0] [] 0 Tryz.func6 (JD x0 3 r1 hr1) ⟨rfl,tv⟩ Qd ⟨rfl,tv⟩) ?_
 conv=>whnf
 obtain⟨c1,hc_1,hF⟩:=Jr hF
 refine Jo Jc Ja (fun y:Nat×(List Int)×Int×(List Plate)×Int=>Yj r1 y.1 y.2.1 y.2.2.1 y.2.2.2.1 y.2.2.2.2=some c1) (fun y=>⟨eL [(0,.ptr 0 0),(3,.osl 1),(4,.int .i64 r1.1),(5,.int .i64 y.2.2.2.2)],hL [(0,.box [.lst 1 (y.2.1.map iA),.int .i64 y.2.2.1]),(1,.row 3 (y.2.2.2.1.map JJ))],2⟩) (fun y=>y.1) (9223372036854775807,r1.2.L,r1.2.At,([]:List Plate),0) hc_1 (wK [0] [1] [] ⟨bN,Jci rfl,tv⟩) ?_
 rintro⟨q8,a2,i3,a4,i5⟩ hL1
 try dsimp only at hL1
 rcases q8 with _ |q8
 rw [Yj.eq_1] at hL1
 cases hL1
 rw [Yj.eq_2] at hL1
 show awp _ _ _ _ _ _ ⟨eL [(0,.ptr 0 0),(3,.osl 1),(4,.int .i64 r1.1),(5,.int .i64 i5)],hL [(0,.box [.lst 1 (a2.map iA),.int .i64 i3]),(1,.row 3 (a4.map JJ))],2⟩
 conv=>whnf
 refine xB hL1 (fun b37 hL1=> ?_) fun b37 hL1=> ?_
 conv=>whnf
 refine⟨_,rfl,?_⟩
 conv=>whnf
 obtain⟨r6,hr6,hL1⟩:=bs' hL1
 refine cE (dX false [0] [] 0 Tryz.func6 (JD (⟨a2,i3⟩:Src) 2 r6 hr6) ⟨rfl,tv⟩ Qd ⟨rfl,tv⟩) ?_
 conv=>whnf
 refine⟨_,rfl,?_⟩
 conv=>whnf
 refine⟨_,rfl,?_⟩
 conv=>whnf
 obtain⟨l7,hl7,hL1⟩:=bs' hL1
 refine ZV (enc:=JJ) (l:=a4) (y:=([(⟨0,(w64 (117+r1.1)),(w64 (i5*(w64 (1+r6.1))))⟩:Plate)]:List Plate)) hl7 rfl rfl (by decide) ?_
 conv=>whnf
 refine⟨_,rfl,?_⟩
 conv=>whnf
 exact⟨(q8,r6.2.L,r6.2.At,l7,(w64 (i5+1))),_,_,_,hL1,Wn _,wK [0,4] [] []⟩
 conv=>whnf
 obtain rfl:=si hL1
 replace hF:=Jw hF
 try dsimp only at hF
 obtain⟨c2,hc_2,hF⟩:=Jr hF
 refine Jo Jc Ja (fun y:Nat×Int×(List Plate)=>Yi y.1 y.2.1 y.2.2=some c2) (fun y=>⟨eL [(3,.osl 1),(6,.int .i64 y.2.1)],hL [(0,.box [.lst 1 (a2.map iA),.int .i64 i3]),(1,.row 3 (y.2.2.map JJ))],2⟩) (fun y=>y.1) (9223372036854775807,0,a4) hc_2 (wK [0,1] [] []) ?_
 rintro⟨q20,i11,a10⟩ hL1
 try dsimp only at hL1
 rcases q20 with _ |q20
 rw [Yi.eq_1] at hL1
 cases hL1
 rw [Yi.eq_2] at hL1
 show awp _ _ _ _ _ _ ⟨eL [(3,.osl 1),(6,.int .i64 i11)],hL [(0,.box [.lst 1 (a2.map iA),.int .i64 i3]),(1,.row 3 (a10.map JJ))],2⟩
 conv=>whnf
 refine Jm (enc:=JJ) (l:=a10) rfl ?_
 conv=>whnf
 refine xB hL1 (fun b38 hL1=> ?_) fun b38 hL1=> ?_
 conv=>whnf
 obtain⟨c3,hc_3,hL1⟩:=YF hL1
 refine Jo Jc Ja (fun y:Nat×(List Plate)×Int=>QW i11 y.1 y.2.1 y.2.2=some c3) (fun y=>⟨eL [(3,.osl 1),(6,.int .i64 i11),(7,.int .i64 y.2.2)],hL [(0,.box [.lst 1 (a2.map iA),.int .i64 i3]),(1,.row 3 (y.2.1.map JJ))],2⟩) (fun y=>y.1) (9223372036854775807,a10,0) hc_3 (wK [0,1] [] []) ?_
 rintro⟨q18,a12,i13⟩ hL2
 try dsimp only at hL2
 rcases q18 with _ |q18
 rw [QW.eq_1] at hL2
 cases hL2
 rw [QW.eq_2] at hL2
 show awp _ _ _ _ _ _ ⟨eL [(3,.osl 1),(6,.int .i64 i11),(7,.int .i64 i13)],hL [(0,.box [.lst 1 (a2.map iA),.int .i64 i3]),(1,.row 3 (a12.map JJ))],2⟩
 conv=>whnf
 refine xB hL2 (fun b39 hL2=> ?_) fun b39 hL2=> ?_
 conv=>whnf
 obtain⟨e14,he14,hL2⟩:=bs' hL2
 refine Qc (enc:=JJ) (l:=a12) he14 rfl (fun m_e_14 hm_e_14 hx_e_14=> ?_)
 conv=>whnf
 refine⟨_,Jv (enc:=JJ) hx_e_14,?_⟩
 conv=>whnf
 obtain⟨e15,he15,hL2⟩:=bs' hL2
 refine Qc (enc:=JJ) (l:=a12) he15 rfl (fun m_e_15 hm_e_15 hx_e_15=> ?_)
 conv=>whnf
 refine⟨_,Jv (enc:=JJ) hx_e_15,?_⟩
 conv=>whnf
 refine⟨by kernel_rfl,?_⟩
 conv=>whnf
 refine xB hL2 (fun b40 hL2=> ?_) fun b40 hL2=> ?_
 conv=>whnf
 obtain⟨e16,he16,hL2⟩:=bs' hL2
 refine Qc (enc:=JJ) (l:=a12) he16 rfl (fun m_e_16 hm_e_16 hx_e_16=> ?_)
 conv=>whnf
 refine Z6 (enc:=JJ) (l:=a12) (x':=(⟨1,e16.Airline,e16.Serial⟩:Plate)) (i:=i11) hm_e_16 hx_e_16 rfl (Wl rfl) rfl ?_
 conv=>whnf
 obtain⟨e17,he17,hL2⟩:=bs' hL2
 refine Qc (enc:=JJ) (l:=(a12.set i11.toNat (⟨1,e16.Airline,e16.Serial⟩:Plate))) he17 rfl (fun m_e_17 hm_e_17 hx_e_17=> ?_)
 conv=>whnf
 refine Z6 (enc:=JJ) (l:=(a12.set i11.toNat (⟨1,e16.Airline,e16.Serial⟩:Plate))) (x':=(⟨e17.Lead,e17.Airline,i11⟩:Plate)) (i:=i11) hm_e_17 hx_e_17 rfl (Wl rfl) rfl ?_
 conv=>whnf
 refine⟨_,rfl,?_⟩
 conv=>whnf
 exact⟨(q18,((a12.set i11.toNat (⟨1,e16.Airline,e16.Serial⟩:Plate)).set i11.toNat (⟨e17.Lead,e17.Airline,i11⟩:Plate)),(w64 (i13+1))),_,_,_,hL2,Wn _,wK [0,1] [] []⟩
 conv=>whnf
 refine⟨_,rfl,?_⟩
 conv=>whnf
 exact⟨(q18,a12,(w64 (i13+1))),_,_,_,hL2,Wn _,wK [0,1] [] []⟩
 conv=>whnf
 obtain rfl:=si hL2
 replace hL1:=Zz hL1
 try dsimp only at hL1
 refine⟨_,rfl,?_⟩
 conv=>whnf
 exact⟨(q20,(w64 (i11+1)),a12),_,_,_,hL1,Wn _,wK [0,1] [] []⟩
 conv=>whnf
 obtain rfl:=si hL1
 replace hF:=Jw hF
 try dsimp only at hF
 obtain rfl:=si hF
 exact Jk [0] [] [1] rfl (aL 1) ⟨bN,tv⟩
theorem Jia (x0:Plant) (x1:Int) (r:Place×Bool) (hF:JbJ x0 x1=some r):AC Tryz.prog 31 [.agg (Qi x0),.int .i64 x1] [] (.tup [.agg (Jq7 r.1),.bool r.2]) ([]):=by
 refine Ju Jc Ja Tryz.func31 rfl Tryz.ntmps31 rfl ?_
 unfold JbJ at hF
 conv=>whnf
 refine xB hF (fun b14 hF=> ?_) fun b14 hF=> ?_
 conv=>whnf
 obtain rfl:=si hF
 exact Jk [] [] [] rfl (Qh rfl ⟨aq,aF,tv⟩) trivial
 conv=>whnf
 refine Jm (enc:=(lA 1 iA)) (l:=x0.Slots) rfl ?_
 conv=>whnf
 obtain⟨c1,hc_1,hF⟩:=Jr hF
 refine J1 0 (v:= .agg [.lst 1 (x0.Slots.map (lA 1 iA)),.lst 1 (x0.Bins.map (lA 1 iA))]) (by(conv=>lhs;whnf)<;>rfl) (fun hb=> ?_)
 have hbd_k_2:x0.Slots.length<=9223372036854775807:=Jz (enc:=(lA 1 iA)) ((YC hb.cell 0 rfl))
 refine Jo Jc Ja (fun y:Nat=>y<=x0.Slots.length∧Jag x1 (x0.Slots.drop y) y=some c1) (fun y=>⟨eL [(1,.int .i64 x1),(2,.ptr 0 0),(4,.ptr 1 0),(15,.lst 1 (x0.Slots.map (lA 1 iA))),(16,.int .i64 (x0.Slots.length:Int)),(17,.int .i64 (y:Int))],hL [(0,.box [.lst 1 (x0.Slots.map (lA 1 iA)),.lst 1 (x0.Bins.map (lA 1 iA))]),(1,.box [.int .i64 0,.int .i64 0])],2⟩) (fun y=>x0.Slots.length - y) 0 ⟨Nat.zero_le _,hc_1⟩ (wK [0,1] [] []) ?_
 rintro k2 ⟨hk_k_2,hL1⟩
 try dsimp only at hk_k_2 hL1
 show awp _ _ _ _ _ _ ⟨eL [(1,.int .i64 x1),(2,.ptr 0 0),(4,.ptr 1 0),(15,.lst 1 (x0.Slots.map (lA 1 iA))),(16,.int .i64 (x0.Slots.length:Int)),(17,.int .i64 (k2:Int))],hL [(0,.box [.lst 1 (x0.Slots.map (lA 1 iA)),.lst 1 (x0.Bins.map (lA 1 iA))]),(1,.box [.int .i64 0,.int .i64 0])],2⟩
 conv=>whnf
 refine⟨fun h=> ?_,fun h=> ?_⟩
 have lk2:k2<x0.Slots.length:=by have h:=Wt h;omega
 obtain⟨e3,he3⟩:=ge lk2
 rw [Jl he3,Jag.eq_2] at hL1
 conv=>whnf
 refine⟨k2,_,rfl,Jv he3,?_⟩
 conv=>whnf
 obtain⟨r4,hr4,hL1⟩:=bs' hL1
 refine cE (d0 0 Tryz.func67 (JcV e3 x1 r4 hr4)) ?_
 conv=>whnf
 refine xB hL1 (fun b15 hL1=> ?_) fun b15 hL1=> ?_
 conv=>whnf
 obtain rfl:=si hL1
 replace hF:=Jn hF
 obtain rfl:=si hF
 exact Jk [] [] [] rfl (Qh rfl ⟨aq,aT,tv⟩) trivial
 conv=>whnf
 refine⟨((k2+1:Nat):Int),wE,?_⟩
 conv=>whnf
 exact⟨k2+1,_,_,_,⟨lk2,hL1⟩,sl lk2,wK [0,1] [] []⟩
 rw [Jq (nl h),Jag.eq_1] at hL1
 conv=>whnf
 obtain rfl:=si hL1
 replace hF:=Jw hF
 try dsimp only at hF
 refine Jm (enc:=(lA 1 iA)) (l:=x0.Bins) rfl ?_
 conv=>whnf
 obtain⟨c2,hc_2,hF⟩:=Jr hF
 refine J1 32 (v:= .lst 1 (x0.Bins.map (lA 1 iA))) (by(conv=>lhs;whnf)<;>rfl) (fun hb=> ?_)
 have hbd_k_8:x0.Bins.length<=9223372036854775807:=Jz (enc:=(lA 1 iA)) (hb)
 refine Jo Jc Ja (fun y:Nat=>y<=x0.Bins.length∧Jaf x1 (x0.Bins.drop y) y=some c2) (fun y=>⟨eL [(1,.int .i64 x1),(4,.ptr 0 0),(32,.lst 1 (x0.Bins.map (lA 1 iA))),(33,.int .i64 (x0.Bins.length:Int)),(34,.int .i64 (y:Int))],hL [(0,.box [.int .i64 0,.int .i64 0])],1⟩) (fun y=>x0.Bins.length - y) 0 ⟨Nat.zero_le _,hc_2⟩ (wK [1] [] []) ?_
 rintro k8 ⟨hk_k_8,hL1⟩
 try dsimp only at hk_k_8 hL1
 show awp _ _ _ _ _ _ ⟨eL [(1,.int .i64 x1),(4,.ptr 0 0),(32,.lst 1 (x0.Bins.map (lA 1 iA))),(33,.int .i64 (x0.Bins.length:Int)),(34,.int .i64 (k8:Int))],hL [(0,.box [.int .i64 0,.int .i64 0])],1⟩
 conv=>whnf
 refine⟨fun h=> ?_,fun h=> ?_⟩
 have lk8:k8<x0.Bins.length:=by have h:=Wt h;omega
 obtain⟨e9,he9⟩:=ge lk8
 rw [Jl he9,Jaf.eq_2] at hL1
 conv=>whnf
 refine⟨k8,_,rfl,Jv he9,?_⟩
 conv=>whnf
 obtain⟨r10,hr10,hL1⟩:=bs' hL1
 refine cE (d0 0 Tryz.func68 (ZT e9 x1 r10 hr10)) ?_
 conv=>whnf
 refine xB hL1 (fun b16 hL1=> ?_) fun b16 hL1=> ?_
 conv=>whnf
 obtain rfl:=si hL1
 replace hF:=Jn hF
 obtain rfl:=si hF
 exact Jk [] [] [] rfl (Qh rfl ⟨aq,aT,tv⟩) trivial
 conv=>whnf
 refine⟨((k8+1:Nat):Int),wE,?_⟩
 conv=>whnf
 exact⟨k8+1,_,_,_,⟨lk8,hL1⟩,sl lk8,wK [0] [] []⟩
 rw [Jq (nl h),Jaf.eq_1] at hL1
 conv=>whnf
 obtain rfl:=si hL1
 replace hF:=Jw hF
 try dsimp only at hF
 obtain rfl:=si hF
 exact Jk [] [] [] rfl (Qh rfl ⟨aq,aF,tv⟩) trivial
theorem JcW (x0:(List Int)) (r:(List Int)) (hF:Zj x0=some r):AC Tryz.prog 69 [.lst 1 (x0.map iA)] [] (.osl 0) ([.row 1 (r.map iA)]):=by
 refine Ju Jc Ja Tryz.func69 rfl Tryz.ntmps69 rfl ?_
 unfold Zj at hF
 conv=>whnf
 intro b hb
 conv=>whnf
 refine⟨fun h=> ?_,fun h=> ?_⟩
 have hx:x0=[]:=List.map_eq_nil_iff.1 (hb h)
 subst hx
 obtain⟨h1,rfl⟩:=Jbr hF
 conv=>whnf
 exact Jk [] [0] [] rfl aZ ⟨Jci rfl,tv⟩
 conv=>whnf
 refine ZV (enc:=iA) (l:=([]:List Int)) (y:=x0) hF rfl rfl (by decide) ?_
 conv=>whnf
 exact Jk [1] [] [] rfl (aO 1) ⟨bR,tv⟩
theorem JiL (x0:(List Int)) (x1:Int) (r:(List Int)×Bool) (hF:Jdl x0 x1=some r):AC Tryz.prog 32 [.lst 1 (x0.map iA),.int .i64 x1] [] (.tup [.osl 0,.bool r.2]) ([.row 1 (r.1.map iA)]):=by
 refine Ju Jc Ja Tryz.func32 rfl Tryz.ntmps32 rfl ?_
 unfold Jdl at hF
 conv=>whnf
 refine Jm (enc:=iA) (l:=x0) rfl ?_
 conv=>whnf
 refine⟨fun b4=> ?_,fun b4=> ?_⟩
 replace hF:=cf b4 hF
 conv=>whnf
 obtain⟨e1,he1,hF⟩:=bs' hF
 refine JZ (enc:=iA) (l:=x0) he1 rfl (fun m_e_1 hm_e_1 hx_e_1=> ?_)
 conv=>whnf
 refine⟨fun b5=> ?_,fun b5=> ?_⟩
 replace hF:=cf b5 hF
 conv=>whnf
 refine xB hF (fun b6 hF=> ?_) fun b6 hF=> ?_
 conv=>whnf
 obtain rfl:=si hF
 exact Jk [] [0] [] rfl (Qh rfl ⟨aZ,aF,tv⟩) ⟨Jci rfl,tv⟩
 conv=>whnf
 obtain⟨r2,hr2,hF⟩:=bs' hF
 refine cE (d0 1 Tryz.func69 (JcW x0 r2 hr2) ⟨rR,tv⟩) ?_
 conv=>whnf
 obtain⟨e3,he3,hF⟩:=bs' hF
 refine Qc (enc:=iA) (l:=r2) he3 rfl (fun m_e_3 hm_e_3 hx_e_3=> ?_)
 conv=>whnf
 refine Z6 (enc:=iA) (l:=r2) (x':=x1) (i:=0) hm_e_3 hx_e_3 rfl (Wl rfl) rfl ?_
 conv=>whnf
 obtain rfl:=si hF
 exact Jk [0] [] [] rfl (Qh rfl ⟨(aO 0),aT,tv⟩) ⟨bR,tv⟩
 replace hF:=ct b5 hF
 conv=>whnf
 obtain rfl:=si hF
 exact Jk [] [0] [] rfl (Qh rfl ⟨aZ,aF,tv⟩) ⟨Jci rfl,tv⟩
 replace hF:=ct b4 hF
 conv=>whnf
 obtain rfl:=si hF
 exact Jk [] [0] [] rfl (Qh rfl ⟨aZ,aF,tv⟩) ⟨Jci rfl,tv⟩
theorem Jfq (x0:(List (List Int))) (r:(List (List Int))) (hF:JbM x0=some r):AC Tryz.prog 70 [.lst 1 (x0.map (lA 1 iA))] [] (.osl 0) ([.nest (r.map NE.hid)]):=by
 refine Ju Jc Ja Tryz.func70 rfl Tryz.ntmps70 rfl ?_
 unfold JbM at hF
 conv=>whnf
 refine Jm (enc:=(lA 1 iA)) (l:=x0) rfl ?_
 conv=>whnf
 obtain⟨c1,hc_1,hF⟩:=Jr hF
 refine J1 0 (v:= .lst 1 (x0.map (lA 1 iA))) (by(conv=>lhs;whnf)<;>rfl) (fun hb=> ?_)
 have hbd_k_3:x0.length<=9223372036854775807:=Jz (enc:=(lA 1 iA)) (hb)
 refine Jo Jc Ja (fun y:Nat×(List (List Int))=>y.1<=x0.length∧Zw (x0.drop y.1) y.1 y.2=some c1) (fun y=>⟨eL [(3,.osl 0),(6,.lst 1 (x0.map (lA 1 iA))),(7,.int .i64 (x0.length:Int)),(8,.int .i64 (y.1:Int))],hL [(0,.nest (y.2.map NE.hid))],1⟩) (fun y=>x0.length - y.1) (0,([]:List (List Int))) ⟨Nat.zero_le _,hc_1⟩ (Ye [] [0] [] [] rfl rfl ⟨aZ,aq,aq,aq,tv⟩ ⟨JaW rfl,tv⟩) ?_
 rintro⟨k3,a1⟩ ⟨hk_k_3,hL1⟩
 try dsimp only at hk_k_3 hL1
 show awp _ _ _ _ _ _ ⟨eL [(3,.osl 0),(6,.lst 1 (x0.map (lA 1 iA))),(7,.int .i64 (x0.length:Int)),(8,.int .i64 (k3:Int))],hL [(0,.nest (a1.map NE.hid))],1⟩
 conv=>whnf
 refine⟨fun h=> ?_,fun h=> ?_⟩
 have lk3:k3<x0.length:=by have h:=Wt h;omega
 obtain⟨e4,he4⟩:=ge lk3
 rw [Jl he4,Zw.eq_2] at hL1
 conv=>whnf
 refine⟨k3,_,rfl,Jv he4,?_⟩
 conv=>whnf
 obtain⟨l5,hl5,hL1⟩:=bs' hL1
 refine ZV (enc:=iA) (l:=([]:List Int)) (y:=e4) hl5 rfl rfl (by decide) ?_
 conv=>whnf
 obtain⟨l6,hl6,hL1⟩:=bs' hL1
 refine⟨_,Jnr Jc rfl rfl rfl rfl rfl rfl rfl rfl hl6 (by decide),?_⟩
 conv=>whnf
 refine⟨((k3+1:Nat):Int),wE,?_⟩
 conv=>whnf
 exact⟨(k3+1,l6),[3],[],[],⟨lk3,hL1⟩,sl lk3,Ye [3] [] [] [(0,a1.length,1)] rfl rfl ⟨aO 3,aq,aq,aq,tv⟩ ⟨Jlt hl6 rfl rfl rfl (Wl rfl) rfl,tv⟩⟩
 rw [Jq (nl h),Zw.eq_1] at hL1
 conv=>whnf
 obtain rfl:=si hL1
 replace hF:=Jw hF
 try dsimp only at hF
 obtain rfl:=si hF
 exact ZU [0] [] [] [] rfl rfl (aO 0) ⟨(.inr (Qy rfl rfl)),tv⟩
theorem JeM (x0:Plant) (r:Plant) (hF:Jbg x0=some r):AC Tryz.prog 33 [.agg (Qi x0)] [] (.agg [.osl 0,.osl 1]) ([.nest (r.Slots.map NE.hid),.nest (r.Bins.map NE.hid)]):=by
 refine Ju Jc Ja Tryz.func33 rfl Tryz.ntmps33 rfl ?_
 unfold Jbg at hF
 conv=>whnf
 obtain⟨r1,hr1,hF⟩:=bs' hF
 refine cE (d0 1 Tryz.func70 (Jfq x0.Slots r1 hr1) ⟨Jgk,tv⟩) ?_
 conv=>whnf
 obtain⟨r2,hr2,hF⟩:=bs' hF
 refine cE (d0 1 Tryz.func70 (Jfq x0.Bins r2 hr2) ⟨Jgk,tv⟩) ?_
 conv=>whnf
 refine⟨by kernel_rfl,?_⟩
 conv=>whnf
 obtain rfl:=si hF
 exact ZU [2,4] [] [] [] rfl rfl (aA [.osl 2,.osl 4] ⟨(.oslg 2 0 rfl),(.oslg 4 1 rfl),tv⟩) ⟨(.inr (Qy rfl rfl)),(.inr (Qy rfl rfl)),tv⟩
theorem Jhu (x0:Layout) (x1:Plant) (x2:Int) (x3:Int) (r:Plant×Int) (hF:YH x0 x1 x2 x3=some r):AC Tryz.prog 11 [.agg (JC x0),.agg (Qi x1),.int .i64 x2,.int .i64 x3] [] (.tup [.agg [.osl 0,.osl 1],.int .i64 r.2]) ([.nest (r.1.Slots.map NE.hid),.nest (r.1.Bins.map NE.hid)]):=by
 refine Ju Jc Ja Tryz.func11 rfl Tryz.ntmps11 rfl ?_
 unfold YH at hF
 conv=>whnf
 refine⟨fun b9=> ?_,fun b9=> ?_⟩
 replace hF:=cf b9 hF
 conv=>whnf
 refine Jm (enc:=Jb) (l:=x0.Nodes) rfl ?_
 conv=>whnf
 refine⟨fun b10=> ?_,fun b10=> ?_⟩
 replace hF:=cf b10 hF
 conv=>whnf
 refine⟨fun b11=> ?_,fun b11=> ?_⟩
 replace hF:=cf b11 hF
 conv=>whnf
 refine xB hF (fun b12 hF=> ?_) fun b12 hF=> ?_
 conv=>whnf
 obtain rfl:=si hF
 exact ZU [] [0,1] [] [] rfl rfl (Qh rfl ⟨(aA [.nils,.nils] ⟨(.nilz 0 (by simp)),(.nilz 1 (by simp)),tv⟩),aq,tv⟩) ⟨(.inr (JaW rfl)),(.inr (JaW rfl)),tv⟩
 conv=>whnf
 obtain⟨e1,he1,hF⟩:=bs' hF
 refine JZ (enc:=Jb) (l:=x0.Nodes) he1 rfl (fun m_e_1 hm_e_1 hx_e_1=> ?_)
 conv=>whnf
 refine xB hF (fun b13 hF=> ?_) fun b13 hF=> ?_
 conv=>whnf
 obtain rfl:=si hF
 exact ZU [] [0,1] [] [] rfl rfl (Qh rfl ⟨(aA [.nils,.nils] ⟨(.nilz 0 (by simp)),(.nilz 1 (by simp)),tv⟩),aq,tv⟩) ⟨(.inr (JaW rfl)),(.inr (JaW rfl)),tv⟩
 conv=>whnf
 obtain⟨r2,hr2,hF⟩:=bs' hF
 refine cE (d0 0 Tryz.func31 (Jia x1 x3 r2 hr2)) ?_
 conv=>whnf
 refine xB hF (fun b14 hF=> ?_) fun b14 hF=> ?_
 conv=>whnf
 obtain rfl:=si hF
 exact ZU [] [0,1] [] [] rfl rfl (Qh rfl ⟨(aA [.nils,.nils] ⟨(.nilz 0 (by simp)),(.nilz 1 (by simp)),tv⟩),aq,tv⟩) ⟨(.inr (JaW rfl)),(.inr (JaW rfl)),tv⟩
 conv=>whnf
 refine Jm (enc:=(lA 1 iA)) (l:=x1.Slots) rfl ?_
 conv=>whnf
 refine xB hF (fun b15 hF=> ?_) fun b15 hF=> ?_
 conv=>whnf
 obtain rfl:=si hF
 exact ZU [] [0,1] [] [] rfl rfl (Qh rfl ⟨(aA [.nils,.nils] ⟨(.nilz 0 (by simp)),(.nilz 1 (by simp)),tv⟩),aq,tv⟩) ⟨(.inr (JaW rfl)),(.inr (JaW rfl)),tv⟩
 conv=>whnf
 obtain⟨e3,he3,hF⟩:=bs' hF
 refine JZ (enc:=(lA 1 iA)) (l:=x1.Slots) he3 rfl (fun m_e_3 hm_e_3 hx_e_3=> ?_)
 conv=>whnf
 obtain⟨r4,hr4,hF⟩:=bs' hF
 refine cE (d0 1 Tryz.func32 (JiL e3 x3 r4 hr4) ⟨rR,tv⟩) ?_
 conv=>whnf
 refine xB hF (fun b16 hF=> ?_) fun b16 hF=> ?_
 conv=>whnf
 obtain rfl:=si hF
 exact ZU [] [0,1] [] [] rfl rfl (Qh rfl ⟨(aA [.nils,.nils] ⟨(.nilz 0 (by simp)),(.nilz 1 (by simp)),tv⟩),aq,tv⟩) ⟨(.inr (JaW rfl)),(.inr (JaW rfl)),tv⟩
 conv=>whnf
 obtain⟨r5,hr5,hF⟩:=bs' hF
 refine cE (d0 2 Tryz.func33 (JeM x1 r5 hr5) ⟨Jgk,Jgk,tv⟩) ?_
 conv=>whnf
 obtain⟨e6,he6,hF⟩:=bs' hF
 obtain⟨m_e_6,hm_e_6,hx_e_6⟩:=Jau he6
 refine⟨_,Jd5 Jc rfl rfl rfl rfl rfl rfl hm_e_6 hx_e_6,?_⟩
 conv=>whnf
 refine⟨_,JmG Jc rfl rfl rfl rfl rfl rfl hx_e_6,?_⟩
 conv=>whnf
 obtain rfl:=si hF
 exact ZU [7,8] [] [] [(0,m_e_6,5)] rfl rfl (Qh rfl ⟨(aA [.osl 7,.osl 8] ⟨(.oslg 7 0 rfl),(.oslg 8 1 rfl),tv⟩),aq,tv⟩) ⟨(.inr (Jfa hm_e_6 rfl rfl rfl (Wl rfl) rfl)),(.inr (Qy rfl rfl)),tv⟩
 replace hF:=ct b11 hF
 conv=>whnf
 obtain rfl:=si hF
 exact ZU [] [0,1] [] [] rfl rfl (Qh rfl ⟨(aA [.nils,.nils] ⟨(.nilz 0 (by simp)),(.nilz 1 (by simp)),tv⟩),aq,tv⟩) ⟨(.inr (JaW rfl)),(.inr (JaW rfl)),tv⟩
 replace hF:=ct b10 hF
 conv=>whnf
 obtain rfl:=si hF
 exact ZU [] [0,1] [] [] rfl rfl (Qh rfl ⟨(aA [.nils,.nils] ⟨(.nilz 0 (by simp)),(.nilz 1 (by simp)),tv⟩),aq,tv⟩) ⟨(.inr (JaW rfl)),(.inr (JaW rfl)),tv⟩
 replace hF:=ct b9 hF
 conv=>whnf
 obtain rfl:=si hF
 exact ZU [] [0,1] [] [] rfl rfl (Qh rfl ⟨(aA [.nils,.nils] ⟨(.nilz 0 (by simp)),(.nilz 1 (by simp)),tv⟩),aq,tv⟩) ⟨(.inr (JaW rfl)),(.inr (JaW rfl)),tv⟩
theorem Jdv (x0:Layout) (x1:Plant) (x2:Int) (x3:Int) (r:Plant×Int) (hF:YH x0 x1 x2 x3=some r):AC Tryz.prog 11 [.agg (JC x0),.agg (Qi x1),.int .i64 x2,.int .i64 x3] [] (.tup [.agg (Qi r.1),.int .i64 r.2]) ([]):=
 Jn7 (Jhu x0 x1 x2 x3 r hF) [] [] [0,1] rfl (Qh rfl ⟨(Jm4 rfl ⟨(.nest 0 _ (by simp) rfl),(.nest 1 _ (by simp) rfl),tv⟩),(.ni _ rfl),tv⟩) trivial
theorem Jd6 (x0:Plant) (r:(List Int)) (hF:Ja8 x0=some r):AC Tryz.prog 107 [.agg (Qi x0)] [] (.lst 1 (r.map iA)) ([]):=by
 refine Ju Jc Ja Tryz.func107 rfl Tryz.ntmps107 rfl ?_
 unfold Ja8 at hF
 conv=>whnf
 refine Jm (enc:=(lA 1 iA)) (l:=x0.Slots) rfl ?_
 conv=>whnf
 obtain⟨c1,hc_1,hF⟩:=Jr hF
 refine J1 0 (v:= .agg [.lst 1 (x0.Slots.map (lA 1 iA)),.lst 1 (x0.Bins.map (lA 1 iA))]) (by(conv=>lhs;whnf)<;>rfl) (fun hb=> ?_)
 have hbd_k_3:x0.Slots.length<=9223372036854775807:=Jz (enc:=(lA 1 iA)) ((YC hb.cell 0 rfl))
 refine Jo Jc Ja (fun y:Nat×(List Int)=>y.1<=x0.Slots.length∧Z2 (x0.Slots.drop y.1) y.1 y.2=some c1) (fun y=>⟨eL [(1,.ptr 0 0),(3,.osl 1),(9,.lst 1 (x0.Slots.map (lA 1 iA))),(10,.int .i64 (x0.Slots.length:Int)),(11,.int .i64 (y.1:Int))],hL [(0,.box [.lst 1 (x0.Slots.map (lA 1 iA)),.lst 1 (x0.Bins.map (lA 1 iA))]),(1,.row 1 (y.2.map iA))],2⟩) (fun y=>x0.Slots.length - y.1) (0,([]:List Int)) ⟨Nat.zero_le _,hc_1⟩ (wK [0] [1] [] ⟨bN,Jci rfl,tv⟩) ?_
 rintro⟨k3,a1⟩ ⟨hk_k_3,hL1⟩
 try dsimp only at hk_k_3 hL1
 show awp _ _ _ _ _ _ ⟨eL [(1,.ptr 0 0),(3,.osl 1),(9,.lst 1 (x0.Slots.map (lA 1 iA))),(10,.int .i64 (x0.Slots.length:Int)),(11,.int .i64 (k3:Int))],hL [(0,.box [.lst 1 (x0.Slots.map (lA 1 iA)),.lst 1 (x0.Bins.map (lA 1 iA))]),(1,.row 1 (a1.map iA))],2⟩
 conv=>whnf
 refine⟨fun h=> ?_,fun h=> ?_⟩
 have lk3:k3<x0.Slots.length:=by have h:=Wt h;omega
 obtain⟨e4,he4⟩:=ge lk3
 rw [Jl he4,Z2.eq_2] at hL1
 conv=>whnf
 refine⟨k3,_,rfl,Jv he4,?_⟩
 conv=>whnf
 obtain⟨l5,hl5,hL1⟩:=bs' hL1
 refine ZV (enc:=iA) (l:=a1) (y:=e4) hl5 rfl rfl (by decide) ?_
 conv=>whnf
 refine⟨((k3+1:Nat):Int),wE,?_⟩
 conv=>whnf
 exact⟨(k3+1,l5),_,_,_,⟨lk3,hL1⟩,sl lk3,wK [0,2] [] []⟩
 rw [Jq (nl h),Z2.eq_1] at hL1
 conv=>whnf
 obtain rfl:=si hL1
 replace hF:=Jw hF
 try dsimp only at hF
 refine Jm (enc:=(lA 1 iA)) (l:=x0.Bins) rfl ?_
 conv=>whnf
 obtain⟨c2,hc_2,hF⟩:=Jr hF
 refine J1 20 (v:= .lst 1 (x0.Bins.map (lA 1 iA))) (by(conv=>lhs;whnf)<;>rfl) (fun hb=> ?_)
 have hbd_k_10:x0.Bins.length<=9223372036854775807:=Jz (enc:=(lA 1 iA)) (hb)
 refine Jo Jc Ja (fun y:Nat×(List Int)=>y.1<=x0.Bins.length∧Z1 (x0.Bins.drop y.1) y.1 y.2=some c2) (fun y=>⟨eL [(3,.osl 0),(20,.lst 1 (x0.Bins.map (lA 1 iA))),(21,.int .i64 (x0.Bins.length:Int)),(22,.int .i64 (y.1:Int))],hL [(0,.row 1 (y.2.map iA))],1⟩) (fun y=>x0.Bins.length - y.1) (0,a1) ⟨Nat.zero_le _,hc_2⟩ (wK [1] [] []) ?_
 rintro⟨k10,a8⟩ ⟨hk_k_10,hL1⟩
 try dsimp only at hk_k_10 hL1
 show awp _ _ _ _ _ _ ⟨eL [(3,.osl 0),(20,.lst 1 (x0.Bins.map (lA 1 iA))),(21,.int .i64 (x0.Bins.length:Int)),(22,.int .i64 (k10:Int))],hL [(0,.row 1 (a8.map iA))],1⟩
 conv=>whnf
 refine⟨fun h=> ?_,fun h=> ?_⟩
 have lk10:k10<x0.Bins.length:=by have h:=Wt h;omega
 obtain⟨e11,he11⟩:=ge lk10
 rw [Jl he11,Z1.eq_2] at hL1
 conv=>whnf
 refine⟨k10,_,rfl,Jv he11,?_⟩
 conv=>whnf
 refine Jm (enc:=iA) (l:=e11) rfl ?_
 conv=>whnf
 obtain⟨l12,hl12,hL1⟩:=bs' hL1
 refine ZV (enc:=iA) (l:=a8) (y:=([(e11.length:Int)]:List Int)) hl12 rfl rfl (by decide) ?_
 conv=>whnf
 obtain⟨l13,hl13,hL1⟩:=bs' hL1
 refine ZV (enc:=iA) (l:=l12) (y:=e11) hl13 rfl rfl (by decide) ?_
 conv=>whnf
 refine⟨((k10+1:Nat):Int),wE,?_⟩
 conv=>whnf
 exact⟨(k10+1,l13),_,_,_,⟨lk10,hL1⟩,sl lk10,wK [3] [] []⟩
 rw [Jq (nl h),Z1.eq_1] at hL1
 conv=>whnf
 obtain rfl:=si hL1
 replace hF:=Jw hF
 try dsimp only at hF
 obtain rfl:=si hF
 exact Jk [] [] [0] rfl (aL 0) trivial
def JeS (v0 v2 v4 v13:Value) (b len i:Nat):List (Nat×AV):=[(0,.val v0),(2,.val v2),(4,.val v4),(6,.val (.pointer (some ⟨b,0,none⟩))),(13,.val v13),(14,.int .i64 (len:Int)),(15,.int .i64 (i:Int))]
set_option maxRecDepth 100000 in
set_option maxHeartbeats 4000000 in
theorem JbL (m:List (ByteArray×Int)) (l:List Hypothesis) (p:Plant) (u:Int) (r:List (ByteArray×Int)×List Hypothesis) (hF:Q7 m l p u=some r):AC Tryz.prog 71 [.ptr 0 0,.agg (Qi p),.int .i64 u] [.box [.mp 1,.osl 2],.obj (YR m),.row 3 (l.map Jg)] (.tup []) [.box [.mp 1,.osl 3],.obj (YR r.1),.dead,.row 3 (r.2.map Jg)]:=by
 unfold Q7 at hF
 obtain⟨a,ha,hF⟩:=bs' hF
 obtain⟨key,hkey,hF⟩:=bs' hF
 refine JiG Jc Ja Tryz.func71 rfl Tryz.ntmps71 rfl ?_
 refine Jnd Jc Ja (fun σ'=>∃gs zs bs,Wk 3 σ' ⟨eL [(0,.ptr 0 0),(2,.int .i64 u),(4,.ptr 3 0)],hL [(0,.box [.mp 1,.osl 2]),(1,.obj (YR m)),(2,.row 3 (l.map Jg)),(3,.box (Qi p))],4⟩ gs zs bs) ?_ ?_
 .
  conv=>whnf
  refine⟨rfl,[0,1,2,3],[],[],wK [0,1,2,3] [] [] ⟨Jy rfl rfl rfl ⟨Jcy (id:=1) rfl rfl,Zx (id:=2) rfl rfl,tv⟩,Jav rfl rfl,bR,bN,tv⟩⟩
 rintro σ1 ⟨gs,zs,bs,hw1⟩
 refine SW.weak hw1 ?_
 clear hw1
 refine Jnd Jc Ja (fun σ'=>∃gs zs bs,Wk 3 σ' ⟨eL [(0,.ptr 0 0),(2,.int .i64 u),(4,.ptr 3 0),(6,.ptr 4 0)],hL [(0,.box [.mp 1,.osl 2]),(1,.obj (YR m)),(2,.row 3 (l.map Jg)),(3,.box (Qi p)),(4,.obj Jmi)],5⟩ gs zs bs) ?_ ?_
 .
  conv=>whnf
  refine⟨_,Jor rfl,?_⟩
  conv=>whnf
  refine⟨rfl,[0,1,2,3,4],[],[],wK [0,1,2,3,4] [] [] ⟨Jy rfl rfl rfl ⟨Jcy (id:=1) rfl rfl,Zx (id:=2) rfl rfl,tv⟩,Jav rfl rfl,bR,bN,Jav rfl rfl,tv⟩⟩
 rintro σ2 ⟨gs2,zs2,bs2,hw2⟩
 refine SW.weak hw2 ?_
 clear hw2
 clear gs zs bs gs2 zs2 bs2 σ1 σ2
 intro ro mm C0 a0 w0 hnr hC0 hnt0 hR0
 refine wpIn_seq (wpIn_seq (wpIn_mono (Jcj Jc Ja _ (K:=fun e σ'=>e= .normal∧∃gs zs bs,Wk 3 σ' ⟨eL [(0,.ptr 0 0),(2,.int .i64 u),(4,.ptr 3 0),(6,.ptr 4 0),(13,.lst 1 (a.map iA)),(14,.int .i64 (a.length:Int)),(15,.int .i64 0)],hL [(0,.box [.mp 1,.osl 2]),(1,.obj (YR m)),(2,.row 3 (l.map Jg)),(3,.box (Qi p)),(4,.obj Jmi)],5⟩ gs zs bs) ?_ ro mm C0 a0 w0 (fun _=>rfl) hC0 hnt0 hR0) ?_))
 .
  conv=>whnf
  refine cE (d0 0 Tryz.func107 (Jd6 p a ha)) ?_
  conv=>whnf
  refine Jm (enc:=iA) (l:=a) rfl ?_
  conv=>whnf
  refine⟨rfl,[0,1,2,3,4],[],[],wK [0,1,2,3,4] [] [] ⟨Jy rfl rfl rfl ⟨Jcy (id:=1) rfl rfl,Zx (id:=2) rfl rfl,tv⟩,Jav rfl rfl,bR,bN,Jav rfl rfl,tv⟩⟩
 rintro e a1 w ⟨σ',C,⟨rfl,gs,zs,bs,hw⟩,hE,hR⟩
 have hC:C.γ.length=3:=by rw [hE.γ];exact hC0
 have hnt:C.nt=75:=by rw [hE.nt];exact hnt0
 obtain⟨β,F,hB⟩:=hw.rel hC hR
 clear hw hR hR0
 obtain⟨g,hg,⟨b,o,hgb,hbo,hBo⟩,hown⟩:=hB.live 4 (.obj Jmi) rfl
 unfold Jmi at hBo
 subst hBo
 obtain⟨hbs,hbF,hbM⟩:=hown b (.inl hgb)
 have x6:a1.tmps.getD 6 undef= .pointer (some ⟨b,0,none⟩):=by
  have h:RV w F β (.ptr 4 0) (a1.tmps.getD 6 undef):=hB.env 6
  generalize a1.tmps.getD 6 undef=v at h
  cases h with
  |ptr _ _ b2 h2 e1 e2=>
   rw [hg] at e1
   cases e1
   rw [hgb] at e2
   cases e2
   rfl
 obtain⟨v0,hv0⟩:∃v,v=a1.tmps.getD 0 undef:=⟨_,rfl⟩
 obtain⟨v2,hv2⟩:∃v,v=a1.tmps.getD 2 undef:=⟨_,rfl⟩
 obtain⟨v4,hv4⟩:∃v,v=a1.tmps.getD 4 undef:=⟨_,rfl⟩
 obtain⟨v13,hv13⟩:∃v,v=a1.tmps.getD 13 undef:=⟨_,rfl⟩
 have hr13:RV w F noB (.lst 1 (a.map iA)) v13:=by
  rw [hv13]
  exact RV.noIds (hB.env 13) rfl
 have hla:a.length<=9223372036854775807:=by
  have:=hr13.bnd.len
  simpa using this
 have hFs:∀x,F x->x<w.heap.size∧x≠b:=fun x hx=>⟨(hB.news x hx).1,fun e=>hbF (e▸hx)⟩
 have hiv:IVd C.df 75 (eL (JeS v0 v2 v4 v13 b a.length 0)) F a1 w:=by
  refine⟨hB.size.trans hnt,hB.defers,fun t=> ?_,fun x hx=>(hB.news x hx).1,hB.glo⟩
  rcases Jbq (JeS v0 v2 v4 v13 b a.length 0) t with e |⟨q,hq,rfl,e⟩
  .
   rw [e];exact .any _
  .
   rw [e]
   simp only [JeS,List.mem_cons,List.not_mem_nil,or_false] at hq
   rcases hq with rfl |rfl |rfl |rfl |rfl |rfl |rfl
   .
    show RV w F noB (.val v0) (a1.tmps.getD 0 undef)
    rw [<-hv0];exact .val _
   .
    show RV w F noB (.val v2) (a1.tmps.getD 2 undef)
    rw [<-hv2];exact .val _
   .
    show RV w F noB (.val v4) (a1.tmps.getD 4 undef)
    rw [<-hv4];exact .val _
   .
    show RV w F noB (.val _) (a1.tmps.getD 6 undef)
    rw [x6];exact .val _
   .
    show RV w F noB (.val v13) (a1.tmps.getD 13 undef)
    rw [<-hv13];exact .val _
   .
    exact RV.noIds (hB.env 14) rfl
   .
    exact RV.noIds (hB.env 15) rfl
 obtain⟨kl,hkl,hkey⟩:=bs' hkey
 have hksz:kl.length<=140737488355328∧key=⟨kl.toArray⟩:=by
  cases hc:decide (kl.length<=140737488355328) with
  |false=>rw [hc] at hkey;cases hkey
  |true=>rw [hc] at hkey;exact⟨Wt hc,(si hkey).symm⟩
 obtain⟨hksz,rfl⟩:=hksz
 clear hkey
 have hBl0:Bl w.heap.size b [] w:=⟨hbs,Nat.le_refl _,_,_,.inl rfl,hbo,rfl,.inl ⟨rfl,rfl⟩⟩
 refine wpIn_block ?_
 refine JfZ (fun n a' w'=>∃i k1 k2,i+n=a.length+1∧kl=k1++k2∧JoA (a.drop i)=some k2∧IVd C.df 75 (eL (JeS v0 v2 v4 v13 b a.length i)) F a' w'∧Bl w.heap.size b (Lib.byteCells k1) w'∧KeptB w.heap.size b w w'∧(k1=[]->w'.heap[b]? =some (.cells #[.pointer none,.slice none 0 0] 187 (0,0)))) (a.length+1) ⟨0,[],kl,by omega,rfl,by simpa using hkl,hiv,hBl0,KeptB.refl _ _ _,fun _=>hbo⟩ ?_
 clear hiv hBl0 hkl x6
 rintro n a' w' ⟨i,k1,k2,hin,rfl,hk2,hi,hbl,hkp,hz⟩
 have hN':w.heap.size<=w'.heap.size:=hkp.size
 have hF':∀{w2:World},KeptB w.heap.size b w w2->(∀x,F x->x<w2.heap.size)∧Ji6 w2 F∧RV w2 F noB (.lst 1 (a.map iA)) v13:=fun {w2} h=>
  ⟨fun x hx=>Nat.lt_of_lt_of_le (hFs x hx).1 h.size,fun gl=>(hB.glo gl).mono (fun _ x=>x) (fun x hx=>h.block x (hFs x hx).1 (hFs x hx).2) (fun _ _ e=>e),hr13.mono (fun _ x=>x) (fun x hx=>h.block x (hFs x hx).1 (hFs x hx).2) (fun _ _ e=>e)⟩
 refine wpIn_seq ?_
 refine IVd.reg (K:=fun σ=>(∀p∈JeS v0 v2 v4 v13 b a.length i,σ.env p.1=p.2)∧σ.env 16= .bool (decide ((i:Int)<(a.length:Int)))) Jc hi ?_ ?_
 .
  conv=>whnf
  refine⟨fun p hp=> ?_,rfl⟩
  simp only [JeS,List.mem_cons,List.not_mem_nil,or_false] at hp
  rcases hp with rfl |rfl |rfl |rfl |rfl |rfl |rfl<;>rfl
 rintro σ3 a3 w3 F3 ⟨k0,k16⟩ hiv hsame hFF hF3
 have hkp3:=hkp.same hN' hsame
 have hbl3:=hbl.same hsame
 obtain⟨q1,q2,q3⟩:=hF' hkp3
 have hz3:k1=[]->w3.heap[b]? =some (.cells #[.pointer none,.slice none 0 0] 187 (0,0)):=fun e=>(hsame.block b (by omega) (by simp)).trans (hz e)
 have hi3:=IVd.shrink (hiv (eL ((16,.bool (decide ((i:Int)<(a.length:Int))))::JeS v0 v2 v4 v13 b a.length i)) (JbD fun p hp=>by
  rcases List.mem_cons.1 hp with rfl |hp
  .
   exact⟨k16,rfl⟩
  .
   refine⟨k0 p hp,?_⟩
   simp only [JeS,List.mem_cons,List.not_mem_nil,or_false] at hp
   rcases hp with rfl |rfl |rfl |rfl |rfl |rfl |rfl<;>rfl)) rfl q1 q2
 clear hiv hsame hFF hF3 k0 k16 hi hbl hkp hz
 have x16:=hi3.bool (t:=16) rfl
 have hb3:IVd C.df 75 (eL (JeS v0 v2 v4 v13 b a.length i)) F a3 w3:=hi3.re (fun p hp=>by
  simp only [JeS,List.mem_cons,List.not_mem_nil,or_false] at hp
  rcases hp with rfl |rfl |rfl |rfl |rfl |rfl |rfl<;>rfl)
 refine wpIn_seq ?_
 by_cases hlt:i<a.length
 rotate_left
 .
  have hd:decide ((i:Int)<(a.length:Int))=false:=We (by omega)
  rw [hd] at x16
  refine wpIn_cond_false x16 (wpIn_exit ?_)
  show Code.wpIn _ _ _ (Code.seq (Code.region _ _ _) _) _ a3 w3
  rw [List.drop_eq_nil_of_le (by omega)] at hk2
  obtain rfl:=(si hk2).symm
  rw [List.append_nil] at hF hksz
  clear hd x16 hin hk2 hlt hi3
  have y6:=hb3.val (t:=6) rfl
  obtain⟨N,hN⟩:∃N,N=w.heap.size:=⟨_,rfl⟩
  have hstr:Calls Tryz.prog 111 #[.pointer (some ⟨b,0,none⟩)] w3 fun e w'=>e= .returned (.string ⟨k1.toArray⟩)∧KeptB w.heap.size b w3 w':=by
   by_cases h0:k1=[]
   .
    subst h0
    exact Jtc (hz3 rfl)
   .
    exact Ju2 hbl3 h0
  refine wpIn_seq ?_
  refine wpIn_region_list ?_
  refine JhV rfl rfl rfl (enters_of Tryz.func111 (by kernel_rfl) rfl) (vs:= #[.pointer (some ⟨b,0,none⟩)]) (Juf (Jiy y6)) hstr ?_
  rintro _ w4 ⟨rfl,hst4⟩
  refine⟨_,rfl,?_⟩
  have hkp4:=hkp3.trans hst4
  have hc3:=(hb3.world hst4.size (fun x hx=>hst4.block x (hFs x hx).1 (hFs x hx).2)).put (d:=24) (x:= .val (.string ⟨k1.toArray⟩)) (v:= .string ⟨k1.toArray⟩) (by decide) (.val _)
  refine IVd.give hc3 hc3 rfl rfl (by decide) (fun c hc=>by cases hc) (JdA (.inr rfl)) ?_
  intro u9 _ hc4 _
  refine wpListIn_nil ?_
  have x9:=hc4.val (t:=9) rfl
  have x0:=hc4.val (t:=0) rfl
  have x2:=hc4.val (t:=2) rfl
  have x4:=hc4.val (t:=4) rfl
  have hsz:=hc4.size
  have hdf:=hc4.defers
  generalize Act.put _ _ u9=a9 at*
  clear hc3 hc4 hb3 y6 hstr
  have hs4:=hkp4.toSame
  have mv:∀{x:AV} {v:Value},RV w F β x v->RV w4 F β x v:=fun h=>h.mono (fun _ x=>x) (fun x hx=>hkp4.block x (hFs x hx).1 (hFs x hx).2) (fun _ _ e=>e)
  have hRel:RelB C (Qj 5) ⟨eL [(0,.ptr 0 0),(2,.int .i64 u),(4,.ptr 3 0),(9,.str ⟨k1.toArray⟩)],ZI (hL [(0,.box [.mp 1,.osl 2]),(1,.obj (YR m)),(2,.row 3 (l.map Jg)),(3,.box (Qi p)),(4,.obj Jmi)]) 4 none,5⟩ a9 w4 β F:=by
   refine hB.hand (id:=4) rfl hg hgb hs4 (hsz.trans hnt.symm) hdf (fun t=> ?_)
   rcases Jbq [(0,.ptr 0 0),(2,.int .i64 u),(4,.ptr 3 0),(9,.str ⟨k1.toArray⟩)] t with e |⟨q,hq,rfl,e⟩
   .
    rw [e];exact .any _
   .
    rw [e]
    simp only [List.mem_cons,List.not_mem_nil,or_false] at hq
    rcases hq with rfl |rfl |rfl |rfl
    .
     show RV w4 F β (.ptr 0 0) (a9.tmps.getD 0 undef)
     rw [x0,hv0];exact mv (hB.env 0)
    .
     show RV w4 F β (.int .i64 u) (a9.tmps.getD 2 undef)
     rw [x2,hv2];exact mv (hB.env 2)
    .
     show RV w4 F β (.ptr 3 0) (a9.tmps.getD 4 undef)
     rw [x4,hv4];exact mv (hB.env 4)
    .
     show RV w4 F β (.str _) (a9.tmps.getD 9 undef)
     rw [x9];exact .str _
  refine wpIn_mono (Jcj (σ:=⟨eL [(0,.ptr 0 0),(2,.int .i64 u),(4,.ptr 3 0),(9,.str ⟨k1.toArray⟩)],ZI (hL [(0,.box [.mp 1,.osl 2]),(1,.obj (YR m)),(2,.row 3 (l.map Jg)),(3,.box (Qi p)),(4,.obj Jmi)]) 4 none,5⟩) Jc Ja _ ?_ ro mm C a9 w4 (fun _=>rfl) hC hnt ⟨β,F,hRel⟩) (fun e a' w' ⟨σ',C2,q,hE2,r⟩=>⟨σ',C2,q,hE.trans hE2,r⟩)
  clear hRel mv hs4 x9 x0 x2 x4 hsz hdf hkp4 hst4 hz3 hbl3 hkp3 hF' q1 q2 q3 hN' hr13 hFs hbs hbF hbM hgb hbo hg hB hE hown
  conv=>whnf
  obtain⟨n2,hn2,hF⟩:=bs' hF
  refine⟨_,Jlz (x:=⟨k1.toArray⟩) (E:=m) rfl rfl rfl rfl hn2,?_⟩
  conv=>whnf
  refine xB hF (fun h hF=> ?_) fun h hF=> ?_
  .
   conv=>whnf
   obtain⟨m',hm',hF⟩:=bs' hF
   refine Jm (enc:=Jg) (l:=l) rfl ?_
   conv=>whnf
   refine⟨_,Jqo (x:=⟨k1.toArray⟩) (y:=(l.length:Int)) (E:=m) rfl rfl rfl rfl rfl hm',?_⟩
   conv=>whnf
   refine⟨by kernel_rfl,?_⟩
   conv=>whnf
   obtain⟨l',hl',hF⟩:=bs' hF
   refine ZV (enc:=Jg) (l:=l) (y:=([(⟨u,p⟩:Hypothesis)]:List Hypothesis)) hl' rfl rfl (by decide) ?_
   conv=>whnf
   refine⟨by kernel_rfl,?_⟩
   conv=>whnf
   obtain rfl:=si hF
   exact Jk [0,1,2,6] [] [] rfl (.ni _ rfl) ⟨Jy rfl rfl rfl ⟨Jcy (id:=1) rfl rfl,Zx (id:=6) rfl rfl,tv⟩,⟨_,_,rfl,rfl,fun _ h=>h⟩,trivial,bR,tv⟩
  .
   conv=>whnf
   obtain⟨hy,hhy,hF⟩:=bs' hF
   refine Qc (enc:=Jg) (l:=l) hhy rfl (fun m1 hm_1 hx_1=> ?_)
   conv=>whnf
   refine⟨_,Jv hx_1,?_⟩
   conv=>whnf
   refine Qc (enc:=Jg) (l:=l) hhy rfl (fun m2 hm_2 hx_2=> ?_)
   conv=>whnf
   refine Z6 (enc:=Jg) (l:=l) (x':={ hy with Used:=if u<hy.Used then u else hy.Used }) (i:=n2.1) hm_2 hx_2 rfl (Wl rfl) rfl ?_
   conv=>whnf
   refine⟨by kernel_rfl,?_⟩
   conv=>whnf
   obtain rfl:=si hF
   exact Jk [0,1,2,2] [] [] rfl (.ni _ rfl) ⟨Jy rfl rfl rfl ⟨Jcy (id:=1) rfl rfl,Zx (id:=2) rfl rfl,tv⟩,⟨_,_,rfl,rfl,fun _ h=>h⟩,trivial,bR,tv⟩
 have hd:decide ((i:Int)<(a.length:Int))=true:=Wd (by omega)
 rw [hd] at x16
 refine wpIn_cond_true x16 (wpIn_skip ?_)
 clear x16 hd hi3
 obtain⟨e,he⟩:∃e,a[i]? =some e:=⟨_,Wg hlt⟩
 rw [Jl he] at hk2
 unfold JoA at hk2
 obtain⟨d,hd,hk2⟩:=bs' hk2
 obtain⟨k3,hk3,hk2⟩:=bs' hk2
 obtain rfl:=si hk2
 clear hk2
 refine wpIn_seq ?_
 refine wpIn_block ?_
 refine wpIn_seq ?_
 have hi4:=IVd.with hb3 13 (u:= .lst 1 (a.map iA)) (by rw [hb3.val (t:=13) rfl];exact q3)
 refine wpIn_region_list ?_
 refine IVd.give hb3 hi4 rfl rfl (by decide) (fun c hc=>by cases hc) (Jgz (i:=0) Jc rfl rfl rfl rfl rfl (m:=i) (Jv he) rfl) ?_
 intro u17 _ hc1 hc2
 refine IVd.give hc1 hc2 rfl rfl (by decide) (fun c hc=>by cases hc) (JdB Jc rfl rfl (.inl ⟨rfl,rfl,rfl⟩) (.inr ⟨rfl,rfl⟩)) ?_
 intro u18 _ hd1 hd2
 refine IVd.give hd1 hd2 rfl rfl (by decide) (fun c hc=>by cases hc) (JdA (.inr rfl)) ?_
 intro u8 _ he1 _
 refine wpListIn_nil ?_
 have hb4:IVd C.df 75 (eL ((8,.int .i64 e)::JeS v0 v2 v4 v13 b a.length i)) F _ w3:=he1.re (fun p hp=>by
  simp only [JeS,List.mem_cons,List.not_mem_nil,or_false] at hp
  rcases hp with rfl |rfl |rfl |rfl |rfl |rfl |rfl |rfl<;>rfl)
 clear hc1 hc2 hd1 hd2 he1 hi4 hb3
 have hds:ByteArray.size ⟨d.toArray⟩=d.length:=by simp [ByteArray.size]
 have hsb:d.length+1<=140737488355328∧(Lib.byteCells k1).length+(d.length+1)<=140737488355328:=by
  rw [Lib.byteCells_length]
  simp only [List.length_append,List.length_cons] at hksz
  omega
 refine wpIn_seq ?_
 refine wpIn_region_list ?_
 refine IVd.give hb4 hb4 rfl rfl (by decide) (fun c hc=>by cases hc) (JdA (.inl rfl)) ?_
 intro u19 _ hc1 _
 have x19:=hc1.int (t:=19) rfl
 refine JhV rfl rfl rfl (enters_of Tryz.func109 (by kernel_rfl) rfl) (vs:= #[.int .i64 e]) ?_ (JmM hd w3) ?_
 .
  exact Juf (Jiy x19)
 rintro _ W' ⟨rfl,hW⟩
 rw [hW]
 clear hW W'
 refine⟨_,rfl,?_⟩
 have hc2:=hc1.put (d:=20) (x:= .val (.string ⟨d.toArray⟩)) (by decide) (.val (.string ⟨d.toArray⟩))
 have x20:=hc2.val (t:=20) rfl
 have y6:=hc2.val (t:=6) rfl
 refine JhV rfl rfl rfl (enters_of Tryz.func108 (by kernel_rfl) rfl) (vs:= #[.pointer (some ⟨b,0,none⟩),.string ⟨d.toArray⟩]) ?_ (Jvd ⟨d.toArray⟩ hbl3 (by rw [hds];omega)) ?_
 .
  exact Jue (Jiy y6) (Jiy x20)
 rintro _ w4 ⟨rfl,hbl4,hst4⟩
 refine⟨_,rfl,?_⟩
 have hkp4:=hkp3.trans hst4
 obtain⟨q1,q2,q3⟩:=hF' hkp4
 have hc3:=(hc2.world hst4.size (fun x hx=>hst4.block x (hFs x hx).1 (hFs x hx).2)).put (d:=21) (x:= .any) (v:= .tuple #[.int .i64 (ByteArray.size ⟨d.toArray⟩),.nilIface]) (by decide) (.any _)
 have z6:=hc3.val (t:=6) rfl
 refine wpListIn_nil ?_
 rw [JmZ] at hbl4
 refine wpIn_region_list ?_
 refine JhV rfl rfl rfl (enters_of Tryz.func110 (by kernel_rfl) rfl) (vs:= #[.pointer (some ⟨b,0,none⟩),.int .u8 32]) ?_ (Juu 32 hbl4 ?_) ?_
 .
  exact Jue (Jiy z6) rfl
 .
  simp only [List.length_append,Lib.byteCells_length] at hsb ⊢
  omega
 rintro _ w5 ⟨rfl,hbl5,hst5⟩
 refine⟨_,rfl,?_⟩
 have hkp5:=hkp4.trans hst5
 obtain⟨q1,q2,q3⟩:=hF' hkp5
 have hc4:=(hc3.world hst5.size (fun x hx=>hst5.block x (hFs x hx).1 (hFs x hx).2)).put (d:=22) (x:= .any) (v:= .nilIface) (by decide) (.any _)
 refine wpListIn_nil ?_
 have hb5:IVd C.df 75 (eL (JeS v0 v2 v4 v13 b a.length i)) F _ w5:=hc4.re (fun p hp=>by
  simp only [JeS,List.mem_cons,List.not_mem_nil,or_false] at hp
  rcases hp with rfl |rfl |rfl |rfl |rfl |rfl |rfl<;>rfl)
 clear hc1 hc2 hc3 hc4 hb4 x19 x20 y6 z6
 refine IVd.reg (K:=fun σ=>∀p∈JeS v0 v2 v4 v13 b a.length (i+1),σ.env p.1=p.2) Jc hb5 ?_ ?_
 .
  conv=>whnf
  refine⟨((i+1:Nat):Int),wE,?_⟩
  conv=>whnf
  intro p hp
  simp only [JeS,List.mem_cons,List.not_mem_nil,or_false] at hp
  rcases hp with rfl |rfl |rfl |rfl |rfl |rfl |rfl<;>rfl
 rintro σ6 a6 w6 F6 k6 hiv hsame hFF hF6
 have hkp6:=hkp5.same hkp5.size hsame
 obtain⟨q1,q2,q3⟩:=hF' hkp6
 have hi6:=IVd.shrink (hiv (eL (JeS v0 v2 v4 v13 b a.length (i+1))) (JbD fun p hp=>by
  refine⟨k6 p hp,?_⟩
  simp only [JeS,List.mem_cons,List.not_mem_nil,or_false] at hp
  rcases hp with rfl |rfl |rfl |rfl |rfl |rfl |rfl<;>rfl)) rfl q1 q2
 refine⟨n - 1,by omega,i+1,k1++(d++[32]),k3,by omega,by simp,hk3,hi6,?_,hkp6,fun e=>by simp at e⟩
 have:=hbl5.same hsame
 have e:Lib.byteCells k1++Lib.byteCells d++[Value.int .u8 32]=Lib.byteCells (k1++(d++[32])):=by simp [Lib.byteCells]
 rw [e] at this
 exact this
theorem Jbh (x_0:Int) (r:Bool) (hF:Z5 x_0=some r):AC Tryz.prog 184 [.int .i64 x_0] [] (.bool r) ([]):=by
 refine Ju Jc Ja Tryz.func184 rfl Tryz.ntmps184 rfl ?_
 unfold Z5 at hF
 conv=>whnf
 obtain rfl:=si hF
 exact rZ
theorem Jge (x_0:Int) (x1:Int) (r:Int) (hF:JaR x_0 x1=some r):AC Tryz.prog 162 [.int .i64 x_0,.int .i64 x1] [] (.int .i64 r) ([]):=by
 refine Ju Jc Ja Tryz.func162 rfl Tryz.ntmps162 rfl ?_
 unfold JaR at hF
 conv=>whnf
 obtain⟨r1,hr1,hF⟩:=bs' hF
 refine cE (d0 0 Tryz.func184 (Jbh x_0 r1 hr1)) ?_
 conv=>whnf
 obtain⟨r2,hr2,hF⟩:=bs' hF
 refine cE (d0 0 Tryz.func184 (Jbh x1 r2 hr2)) ?_
 conv=>whnf
 refine xB hF (fun b6 hF=> ?_) fun b6 hF=> ?_
 conv=>whnf
 refine xB hF (fun b7 hF=> ?_) fun b7 hF=> ?_
 conv=>whnf
 obtain rfl:=si hF
 exact rZ
 conv=>whnf
 obtain rfl:=si hF
 exact rZ
 conv=>whnf
 refine xB hF (fun b8 hF=> ?_) fun b8 hF=> ?_
 conv=>whnf
 obtain rfl:=si hF
 exact rZ
 conv=>whnf
 refine xB hF (fun b9 hF=> ?_) fun b9 hF=> ?_
 conv=>whnf
 obtain rfl:=si hF
 exact rZ
 conv=>whnf
 refine xB hF (fun b10 hF=> ?_) fun b10 hF=> ?_
 conv=>whnf
 obtain rfl:=si hF
 exact rZ
 conv=>whnf
 obtain rfl:=si hF
 exact rZ
theorem JeO (x_0:(List Int)) (x1:(List Int)) (r:Int) (hF:Jac x_0 x1=some r):AC Tryz.prog 114 [.lst 1 (x_0.map iA),.lst 1 (x1.map iA)] [] (.int .i64 r) ([]):=by
 refine Ju Jc Ja Tryz.func114 rfl Tryz.ntmps114 rfl ?_
 unfold Jac at hF
 conv=>whnf
 refine Jm (enc:=iA) (l:=x_0) rfl ?_
 conv=>whnf
 obtain⟨c1,hc_1,hF⟩:=Jr hF
 refine J1 0 (v:= .lst 1 (x_0.map iA)) (by(conv=>lhs;whnf)<;>rfl) (fun hb=> ?_)
 have hbd_k_2:x_0.length<=9223372036854775807:=Jz (enc:=iA) (hb)
 refine Jo Jc Ja (fun y:Nat=>y<=x_0.length∧QF x1 (x_0.drop y) y=some c1) (fun y=>⟨eL [(0,.lst 1 (x_0.map iA)),(1,.lst 1 (x1.map iA)),(9,.lst 1 (x_0.map iA)),(10,.int .i64 (x_0.length:Int)),(11,.int .i64 (y:Int))],hL [],0⟩) (fun y=>x_0.length - y) 0 ⟨Nat.zero_le _,hc_1⟩ (wK [] [] []) ?_
 rintro k_2 ⟨hk_k_2,hL1⟩
 try dsimp only at hk_k_2 hL1
 show awp _ _ _ _ _ _ ⟨eL [(0,.lst 1 (x_0.map iA)),(1,.lst 1 (x1.map iA)),(9,.lst 1 (x_0.map iA)),(10,.int .i64 (x_0.length:Int)),(11,.int .i64 (k_2:Int))],hL [],0⟩
 conv=>whnf
 refine⟨fun h=> ?_,fun h=> ?_⟩
 have lk2:k_2<x_0.length:=by have h:=Wt h;omega
 obtain⟨e3,he3⟩:=ge lk2
 rw [Jl he3,QF.eq_2] at hL1
 conv=>whnf
 refine⟨k_2,_,rfl,Jv he3,?_⟩
 conv=>whnf
 refine Jm (enc:=iA) (l:=x1) rfl ?_
 conv=>whnf
 refine xB hL1 (fun b12 hL1=> ?_) fun b12 hL1=> ?_
 conv=>whnf
 obtain rfl:=si hL1
 replace hF:=Jn hF
 obtain rfl:=si hF
 exact rZ
 conv=>whnf
 obtain⟨e4,he4,hL1⟩:=bs' hL1
 refine JZ (enc:=iA) (l:=x1) he4 rfl (fun m_e_4 hm_e_4 hx_e_4=> ?_)
 conv=>whnf
 obtain⟨r5,hr5,hL1⟩:=bs' hL1
 refine cE (d0 0 Tryz.func162 (Jge e3 e4 r5 hr5)) ?_
 conv=>whnf
 refine xB hL1 (fun b13 hL1=> ?_) fun b13 hL1=> ?_
 conv=>whnf
 obtain rfl:=si hL1
 replace hF:=Jn hF
 obtain rfl:=si hF
 exact rZ
 conv=>whnf
 refine⟨((k_2+1:Nat):Int),wE,?_⟩
 conv=>whnf
 exact⟨k_2+1,_,_,_,⟨lk2,hL1⟩,sl lk2,wK [] [] []⟩
 rw [Jq (nl h),QF.eq_1] at hL1
 conv=>whnf
 obtain rfl:=si hL1
 replace hF:=Jw hF
 try dsimp only at hF
 refine Jm (enc:=iA) (l:=x_0) rfl ?_
 conv=>whnf
 refine Jm (enc:=iA) (l:=x1) rfl ?_
 conv=>whnf
 refine xB hF (fun b14 hF=> ?_) fun b14 hF=> ?_
 conv=>whnf
 obtain rfl:=si hF
 exact rZ
 conv=>whnf
 obtain rfl:=si hF
 exact rZ
theorem JcK (x_0:Hypothesis) (x1:Hypothesis) (r:Int) (hF:JV x_0 x1=some r):AC Tryz.prog 113 [.agg (Jg x_0),.agg (Jg x1)] [] (.int .i64 r) ([]):=by
 refine Ju Jc Ja Tryz.func113 rfl Tryz.ntmps113 rfl ?_
 unfold JV at hF
 conv=>whnf
 obtain⟨r1,hr1,hF⟩:=bs' hF
 refine cE (d0 0 Tryz.func107 (Jd6 x_0.Plant r1 hr1)) ?_
 conv=>whnf
 obtain⟨r2,hr2,hF⟩:=bs' hF
 refine cE (d0 0 Tryz.func107 (Jd6 x1.Plant r2 hr2)) ?_
 conv=>whnf
 obtain⟨r3,hr3,hF⟩:=bs' hF
 refine cE (d0 0 Tryz.func114 (JeO r1 r2 r3 hr3)) ?_
 conv=>whnf
 refine⟨by kernel_rfl,?_⟩
 conv=>whnf
 obtain rfl:=si hF
 exact rZ
theorem Jmu (l r:List Hypothesis) (hc:∀x∈l,∀y∈l,JV x y=some (Jgw x y)) (hF:Jjh Jgw l=some r):AC Tryz.prog 112 [.osl 0,.fn 113 []] [.row 3 (l.map Jg)] (.tup []) [.row 3 (r.map Jg)]:=by
 refine JpW Jsq 3 (by omega) Tryz.isAgg79 Tryz.sizeOf79 Jg Jgw (fun _=>rfl) (fun x u hu=> ?_) (fun x u hu=> ?_) JhS _ (enters_of Tryz.func113 (by kernel_rfl) rfl) l r (fun x hx y hy=>JcK x y _ (hc x hx y hy)) hF
 simp only [Jg,List.mem_cons,List.not_mem_nil,or_false] at hu
 rcases hu with rfl |rfl |rfl<;>rfl
 simp only [Jg,List.mem_cons,List.not_mem_nil,or_false] at hu
 rcases hu with rfl |rfl |rfl<;>rfl
set_option maxRecDepth 100000 in
set_option maxHeartbeats 4000000 in
theorem Ja9 (m:List (ByteArray×Int)) (l:List Hypothesis) (b:Int) (r:Belief) (hF:Q3 l b=some r):AC Tryz.prog 72 [.ptr 0 0,.int .i64 b] [.box [.mp 1,.osl 2],.obj (YR m),.row 3 (l.map Jg)] (.agg (Yp r)) [.dead,.dead,.dead]:=by
 unfold Q3 at hF
 have hc:(l.all (fun x=>l.all fun y=>decide (JV x y=some (Jgw x y))))=true:=by
  cases h:l.all (fun x=>l.all fun y=>decide (JV x y=some (Jgw x y))) with
  |false=>rw [h] at hF;cases hF
  |true=>rfl
 rw [hc] at hF
 have hc':∀x∈l,∀y∈l,JV x y=some (Jgw x y):=fun x hx y hy=>Wt (List.all_eq_true.1 (List.all_eq_true.1 hc x hx) y hy)
 obtain⟨s,hs,hF⟩:=bs' hF
 obtain rfl:=si hF
 refine Ju Jc Ja Tryz.func72 rfl Tryz.ntmps72 rfl ?_
 conv=>whnf
 refine cE (dX false [2] [] 0 Tryz.func112 (Jmu l s hc' hs) ⟨gR,tv⟩ Qd ⟨rR,tv⟩) ?_
 conv=>whnf
 exact Jk [0,1,2] [] [2] rfl (Jm4 rfl ⟨.ni _ rfl,Jrx 2 rfl rfl rfl (QI (fun _=>⟨rfl,rfl⟩) _),tv⟩) ⟨trivial,trivial,trivial,tv⟩
theorem Jgv (x_0:Plant) (x1:Layout) (x_2:Int) (x3:Int) (r:Plant×Bool) (hF:Jba x_0 x1 x_2 x3=some r):AC Tryz.prog 35 [.agg (Qi x_0),.iptr [.lst 5 (x1.Nodes.map Jb),.lst 3 (x1.Devices.map Jd)],.iptr [.int .i64 x_2],.iptr [.int .i64 x3]] [] (.tup [.agg (Qi r.1),.bool r.2]) ([]):=by
 refine Ju Jc Ja Tryz.func35 rfl Tryz.ntmps35 rfl ?_
 unfold Jba at hF
 conv=>whnf
 obtain⟨r1,hr1,hF⟩:=bs' hF
 refine cE (d0 0 Tryz.func11 (Jdv x1 x_0 x_2 x3 r1 hr1)) ?_
 conv=>whnf
 obtain rfl:=si hF
 exact Jk [] [] [] rfl (Qh rfl ⟨aq,aq,tv⟩) trivial
theorem JiZ (bel:Belief) (ly:Layout) (nd bg:Int) (r:Belief×Int) (hF:Jdy bel ly nd bg=some r):
  AC Tryz.prog 34 [.agg (Yp bel),.fn 35 [.iptr [.lst 5 (ly.Nodes.map Jb),.lst 3 (ly.Devices.map Jd)],.iptr [.int .i64 nd],.iptr [.int .i64 bg]]] [] (.tup [.agg (Yp r.1),.int .i64 r.2]) []:=by
 unfold Jdy at hF
 obtain⟨ml,hml,hF⟩:=bs' hF
 refine Ju Jc Ja Tryz.func34 rfl Tryz.ntmps34 rfl ?_
 conv=>whnf
 refine⟨_,Jly rfl,?_⟩
 conv=>whnf
 refine Jm (enc:=Jg) (l:=bel.L) rfl ?_
 conv=>whnf
 refine J1 14 (v:= .lst 3 (bel.L.map Jg)) (by(conv=>lhs;whnf)<;>rfl) (fun hbv=> ?_)
 have hlen:bel.L.length<=9223372036854775807:=Jz (enc:=Jg) hbv
 refine Jo Jc Ja (fun y:Nat×List (ByteArray×Int)×List Hypothesis=>y.1<=bel.L.length∧Jff ly nd bg (bel.L.drop y.1) y.2.1 y.2.2=some ml) (fun y=>⟨eL [(1,.fn 35 [.iptr [.lst 5 (ly.Nodes.map Jb),.lst 3 (ly.Devices.map Jd)],.iptr [.int .i64 nd],.iptr [.int .i64 bg]]),(2,.ptr 3 0),(4,.ptr 4 0),(5,.int .i64 0),(6,.ptr 0 0),(14,.lst 3 (bel.L.map Jg)),(15,.int .i64 (bel.L.length:Int)),(16,.int .i64 (y.1:Int))],hL [(0,.box [.mp 1,.osl 2]),(1,.obj (YR y.2.1)),(2,.row 3 (y.2.2.map Jg)),(3,.box (Yp bel)),(4,.box [.int .i64 0,.nils])],5⟩) (fun y=>bel.L.length - y.1) (0,[],[]) ⟨Nat.zero_le _,hml⟩ (wK [3,2,9,0,1] [2] [] ⟨Jy rfl rfl rfl ⟨Jcy (id:=2) rfl rfl,Ju7 rfl rfl,tv⟩,Jav rfl rfl,Jci rfl,bN,bN,tv⟩) ?_
 rintro⟨k,m1,l1⟩ ⟨hk,hG⟩
 try dsimp only at hk hG
 show awp _ _ _ _ _ _ ⟨eL [(1,.fn 35 [.iptr [.lst 5 (ly.Nodes.map Jb),.lst 3 (ly.Devices.map Jd)],.iptr [.int .i64 nd],.iptr [.int .i64 bg]]),(2,.ptr 3 0),(4,.ptr 4 0),(5,.int .i64 0),(6,.ptr 0 0),(14,.lst 3 (bel.L.map Jg)),(15,.int .i64 (bel.L.length:Int)),(16,.int .i64 (k:Int))],hL [(0,.box [.mp 1,.osl 2]),(1,.obj (YR m1)),(2,.row 3 (l1.map Jg)),(3,.box (Yp bel)),(4,.box [.int .i64 0,.nils])],5⟩
 conv=>whnf
 refine⟨fun hb5=> ?_,fun hb5=> ?_⟩
 .
  have hlt:k<bel.L.length:=by have h:=Wt hb5;omega
  obtain⟨h,hh⟩:=ge hlt
  rw [Jl hh] at hG
  unfold Jff at hG
  conv=>whnf
  refine⟨k,_,rfl,Jv hh,?_⟩
  conv=>whnf
  obtain⟨p,hp,hG⟩:=bs' hG
  refine cE (d0 0 Tryz.func35 (Jgv h.Plant ly nd bg p hp)) ?_
  conv=>whnf
  refine xB hG (fun hb6 hG=> ?_) fun hb6 hG=> ?_
  .
   conv=>whnf
   obtain⟨ml2,hml2,hG⟩:=bs' hG
   refine cE (dY false [.box [.mp 1,.osl 8],.obj (YR ml2.1),.dead,.row 3 (ml2.2.map Jg)] [0,1,2] [] 1 Tryz.func71 (JbL m1 l1 p.1 h.Used ml2 hml2) ⟨rfl,rfl,gR,tv⟩ Qd ⟨rfl,rfl,rfl,rR,tv⟩) ?_
   conv=>whnf
   refine⟨((k+1:Nat):Int),wE,?_⟩
   conv=>whnf
   exact⟨(k+1,ml2.1,ml2.2),_,_,_,⟨hlt,hG⟩,sl hlt,wK [0,1,8,3,4] [] [] ⟨Jy rfl rfl rfl ⟨Jcy (id:=1) rfl rfl,Zx (id:=8) rfl rfl,tv⟩,Jav rfl rfl,bR,bN,bN,tv⟩⟩
  .
   conv=>whnf
   refine⟨((k+1:Nat):Int),wE,?_⟩
   conv=>whnf
   exact⟨(k+1,m1,l1),_,_,_,⟨hlt,hG⟩,sl hlt,wK [0,1,2,3,4] [] [] ⟨Jy rfl rfl rfl ⟨Jcy (id:=1) rfl rfl,Zx (id:=2) rfl rfl,tv⟩,Jav rfl rfl,bR,bN,bN,tv⟩⟩
 .
  rw [Jq (show bel.L.length<=k by have h:=Wf hb5;omega)] at hG
  unfold Jff at hG
  obtain rfl:=si hG
  conv=>whnf
  refine Jm (enc:=Jg) (l:=l1) rfl ?_
  conv=>whnf
  refine xB hF (fun hb6 hF=> ?_) fun hb6 hF=> ?_
  .
   obtain rfl:=si hF
   conv=>whnf
   exact Jk [] [] [] rfl (Qh rfl ⟨Jm4 rfl ⟨.ni _ rfl,.nils 3,tv⟩,.ni _ rfl,tv⟩) trivial
  .
   obtain⟨rb,hrb,hF⟩:=bs' hF
   obtain rfl:=si hF
   conv=>whnf
   refine cE (dY true [.dead,.dead,.dead] [0,1,2] [] 0 Tryz.func72 (Ja9 m1 l1 bel.Budget rb hrb) ⟨rfl,rfl,gR,tv⟩ JdU ⟨rfl,rfl,rfl,tv⟩) ?_
   conv=>whnf
   exact Jk [] [] [] rfl (Qh rfl ⟨aq,.ni _ rfl,tv⟩) trivial
theorem Jfj (x0:Layout) (x1:Belief) (x2:Int) (x3:Int) (r:Belief×Int) (hF:Jbb x0 x1 x2 x3=some r):AC Tryz.prog 12 [.agg (JC x0),.agg (Yp x1),.int .i64 x2,.int .i64 x3] [] (.tup [.agg (Yp r.1),.int .i64 r.2]) ([]):=by
 refine Ju Jc Ja Tryz.func12 rfl Tryz.ntmps12 rfl ?_
 unfold Jbb at hF
 conv=>whnf
 refine⟨fun b6=> ?_,fun b6=> ?_⟩
 replace hF:=cf b6 hF
 conv=>whnf
 refine Jm (enc:=Jb) (l:=x0.Nodes) rfl ?_
 conv=>whnf
 refine⟨fun b7=> ?_,fun b7=> ?_⟩
 replace hF:=cf b7 hF
 conv=>whnf
 refine⟨fun b8=> ?_,fun b8=> ?_⟩
 replace hF:=cf b8 hF
 conv=>whnf
 refine xB hF (fun b9 hF=> ?_) fun b9 hF=> ?_
 conv=>whnf
 obtain rfl:=si hF
 exact Jk [] [] [] rfl (Qh rfl ⟨(aA [.int .i64 0,.nils] ⟨(.ni _ rfl),(.nils _),tv⟩),aq,tv⟩) trivial
 conv=>whnf
 obtain⟨e1,he1,hF⟩:=bs' hF
 refine JZ (enc:=Jb) (l:=x0.Nodes) he1 rfl (fun m_e_1 hm_e_1 hx_e_1=> ?_)
 conv=>whnf
 refine xB hF (fun b10 hF=> ?_) fun b10 hF=> ?_
 conv=>whnf
 obtain rfl:=si hF
 exact Jk [] [] [] rfl (Qh rfl ⟨(aA [.int .i64 0,.nils] ⟨(.ni _ rfl),(.nils _),tv⟩),aq,tv⟩) trivial
 conv=>whnf
 obtain⟨r2,hr2,hF⟩:=bs' hF
 refine cE (cX true [] [0,2,3] 0 Tryz.func34 (JiZ x1 x0 x2 x3 r2 hr2) ⟨aq,(Q4 (c:=[.ptr 0 0,.ptr 2 0,.ptr 3 0]) (by(conv=>lhs;whnf)<;>rfl) rfl ⟨(YT 0 _ rfl rfl rfl rfl rfl),(YT 2 _ rfl rfl rfl rfl rfl),(YT 3 _ rfl rfl rfl rfl rfl),tv⟩),tv⟩ trivial JdU trivial) ?_
 conv=>whnf
 obtain rfl:=si hF
 exact Jk [] [] [] rfl (Qh rfl ⟨aq,aq,tv⟩) trivial
 replace hF:=ct b8 hF
 conv=>whnf
 obtain rfl:=si hF
 exact Jk [] [] [] rfl (Qh rfl ⟨(aA [.int .i64 0,.nils] ⟨(.ni _ rfl),(.nils _),tv⟩),aq,tv⟩) trivial
 replace hF:=ct b7 hF
 conv=>whnf
 obtain rfl:=si hF
 exact Jk [] [] [] rfl (Qh rfl ⟨(aA [.int .i64 0,.nils] ⟨(.ni _ rfl),(.nils _),tv⟩),aq,tv⟩) trivial
 replace hF:=ct b6 hF
 conv=>whnf
 obtain rfl:=si hF
 exact Jk [] [] [] rfl (Qh rfl ⟨(aA [.int .i64 0,.nils] ⟨(.ni _ rfl),(.nils _),tv⟩),aq,tv⟩) trivial
theorem JbP (x0:Layout) (x1:Plant) (r:Bool) (hF:ZX x0 x1=some r):AC Tryz.prog 13 [.agg (JC x0),.agg (Qi x1)] [] (.bool r) ([]):=by
 refine Ju Jc Ja Tryz.func13 rfl Tryz.ntmps13 rfl ?_
 unfold ZX at hF
 conv=>whnf
 refine Jm (enc:=(lA 1 iA)) (l:=x1.Slots) rfl ?_
 conv=>whnf
 refine Jm (enc:=Jb) (l:=x0.Nodes) rfl ?_
 conv=>whnf
 refine⟨fun b9=> ?_,fun b9=> ?_⟩
 replace hF:=cf b9 hF
 conv=>whnf
 refine Jm (enc:=(lA 1 iA)) (l:=x1.Bins) rfl ?_
 conv=>whnf
 refine Jm (enc:=Jb) (l:=x0.Nodes) rfl ?_
 conv=>whnf
 refine xB hF (fun b10 hF=> ?_) fun b10 hF=> ?_
 conv=>whnf
 obtain rfl:=si hF
 exact rZ
 conv=>whnf
 obtain⟨c1,hc_1,hF⟩:=Jr hF
 refine J1 0 (v:= .agg [.lst 5 (x0.Nodes.map Jb),.lst 3 (x0.Devices.map Jd)]) (by(conv=>lhs;whnf)<;>rfl) (fun hb=> ?_)
 have hbd_k_2:x0.Nodes.length<=9223372036854775807:=Jz (enc:=Jb) ((YC hb.cell 0 rfl))
 refine Jo Jc Ja (fun y:Nat=>y<=x0.Nodes.length∧Jaa x1 (x0.Nodes.drop y) y=some c1) (fun y=>⟨eL [(2,.ptr 0 0),(3,.ptr 1 0),(5,.int .i64 (y:Int))],hL [(0,.box [.lst 5 (x0.Nodes.map Jb),.lst 3 (x0.Devices.map Jd)]),(1,.box [.lst 1 (x1.Slots.map (lA 1 iA)),.lst 1 (x1.Bins.map (lA 1 iA))])],2⟩) (fun y=>x0.Nodes.length - y) 0 ⟨Nat.zero_le _,hc_1⟩ (wK [0,1] [] []) ?_
 rintro k2 ⟨hk_k_2,hL1⟩
 try dsimp only at hk_k_2 hL1
 show awp _ _ _ _ _ _ ⟨eL [(2,.ptr 0 0),(3,.ptr 1 0),(5,.int .i64 (k2:Int))],hL [(0,.box [.lst 5 (x0.Nodes.map Jb),.lst 3 (x0.Devices.map Jd)]),(1,.box [.lst 1 (x1.Slots.map (lA 1 iA)),.lst 1 (x1.Bins.map (lA 1 iA))])],2⟩
 conv=>whnf
 refine Jm (enc:=Jb) (l:=x0.Nodes) rfl ?_
 conv=>whnf
 refine⟨fun h=> ?_,fun h=> ?_⟩
 have lk2:k2<x0.Nodes.length:=by have h:=Wt h;omega
 obtain⟨e3,he3⟩:=ge lk2
 rw [Jl he3,Jaa.eq_2] at hL1
 conv=>whnf
 obtain⟨e4,he4,hL1⟩:=bs' hL1
 refine JZ (enc:=(lA 1 iA)) (l:=x1.Slots) he4 rfl (fun m_e_4 hm_e_4 hx_e_4=> ?_)
 conv=>whnf
 refine Jm (enc:=iA) (l:=e4) rfl ?_
 conv=>whnf
 refine⟨k2,_,rfl,Jv he3,?_⟩
 conv=>whnf
 refine⟨by kernel_rfl,?_⟩
 conv=>whnf
 refine xB hL1 (fun b11 hL1=> ?_) fun b11 hL1=> ?_
 conv=>whnf
 obtain rfl:=si hL1
 replace hF:=Jn hF
 obtain rfl:=si hF
 exact rZ
 conv=>whnf
 refine⟨((k2+1:Nat):Int),wE,?_⟩
 conv=>whnf
 exact⟨k2+1,_,_,_,⟨lk2,hL1⟩,sl lk2,wK [0,1] [] []⟩
 rw [Jq (nl h),Jaa.eq_1] at hL1
 conv=>whnf
 obtain rfl:=si hL1
 replace hF:=Jw hF
 try dsimp only at hF
 obtain rfl:=si hF
 exact rZ
 replace hF:=ct b9 hF
 conv=>whnf
 obtain rfl:=si hF
 exact rZ
theorem JdF (x0:(List Int)) (r:(List (Int×Bool))) (hF:Jbc x0=some r):AC Tryz.prog 36 [.lst 1 (x0.map iA)] [] (.mp 0) ([.obj (Jeh r)]):=by
 refine Ju Jc Ja Tryz.func36 rfl Tryz.ntmps36 rfl ?_
 unfold Jbc at hF
 conv=>whnf
 refine⟨_,JsN rfl,?_⟩
 conv=>whnf
 refine Jm (enc:=iA) (l:=x0) rfl ?_
 conv=>whnf
 obtain⟨c1,hc_1,hF⟩:=Jr hF
 refine J1 0 (v:= .lst 1 (x0.map iA)) (by(conv=>lhs;whnf)<;>rfl) (fun hb=> ?_)
 have hbd_k_3:x0.length<=9223372036854775807:=Jz (enc:=iA) (hb)
 refine Jo Jc Ja (fun y:Nat×(List (Int×Bool))=>y.1<=x0.length∧Jam (x0.drop y.1) y.1 y.2=some c1) (fun y=>⟨eL [(3,.mp 0),(7,.lst 1 (x0.map iA)),(8,.int .i64 (x0.length:Int)),(9,.int .i64 (y.1:Int))],hL [(0,.obj (Jeh y.2))],1⟩) (fun y=>x0.length - y.1) (0,([]:List (Int×Bool))) ⟨Nat.zero_le _,hc_1⟩ (wK [0] [] [] ⟨Jav rfl rfl,tv⟩) ?_
 rintro⟨k3,a1⟩ ⟨hk_k_3,hL1⟩
 try dsimp only at hk_k_3 hL1
 show awp _ _ _ _ _ _ ⟨eL [(3,.mp 0),(7,.lst 1 (x0.map iA)),(8,.int .i64 (x0.length:Int)),(9,.int .i64 (k3:Int))],hL [(0,.obj (Jeh a1))],1⟩
 conv=>whnf
 refine⟨fun h=> ?_,fun h=> ?_⟩
 have lk3:k3<x0.length:=by have h:=Wt h;omega
 obtain⟨e4,he4⟩:=ge lk3
 rw [Jl he4,Jam.eq_2] at hL1
 conv=>whnf
 refine⟨k3,_,rfl,Jv he4,?_⟩
 conv=>whnf
 obtain⟨m5,hm5,hL1⟩:=bs' hL1
 refine⟨_,JsM (x:=e4) (y:=true) (E:=a1) rfl rfl rfl rfl rfl hm5,?_⟩
 conv=>whnf
 refine⟨((k3+1:Nat):Int),wE,?_⟩
 conv=>whnf
 exact⟨(k3+1,m5),_,_,_,⟨lk3,hL1⟩,sl lk3,wK [0] [] [] ⟨Jav rfl rfl,tv⟩⟩
 rw [Jq (nl h),Jam.eq_1] at hL1
 conv=>whnf
 obtain rfl:=si hL1
 replace hF:=Jw hF
 try dsimp only at hF
 obtain rfl:=si hF
 exact Jk [0] [] [] rfl (aM 0) ⟨⟨_,_,rfl,rfl,fun _ h=>h⟩,tv⟩
theorem QQ (x0:Votes) (r:Int×Bool) (hF:Y7 x0=some r):AC Tryz.prog 14 [.agg (Jq6 x0)] [] (.tup [.int .i64 r.1,.bool r.2]) ([]):=by
 refine Ju Jc Ja Tryz.func14 rfl Tryz.ntmps14 rfl ?_
 unfold Y7 at hF
 conv=>whnf
 obtain⟨r1,hr1,hF⟩:=bs' hF
 refine cE (d0 1 Tryz.func36 (JdF x0.Screen r1 hr1) ⟨rfl,tv⟩) ?_
 conv=>whnf
 obtain⟨r2,hr2,hF⟩:=bs' hF
 refine cE (d0 1 Tryz.func36 (JdF x0.Ledger r2 hr2) ⟨rfl,tv⟩) ?_
 conv=>whnf
 refine⟨by kernel_rfl,?_⟩
 conv=>whnf
 refine⟨fun b6=> ?_,fun b6=> ?_⟩
 replace hF:=cf b6 hF
 conv=>whnf
 refine⟨fun b7=> ?_,fun b7=> ?_⟩
 replace hF:=cf b7 hF
 conv=>whnf
 refine⟨fun b8=> ?_,fun b8=> ?_⟩
 replace hF:=cf b8 hF
 conv=>whnf
 obtain⟨v3,hv3,hF⟩:=bs' hF
 refine⟨_,JgU (x:=x0.Tracker) (E:=r1) rfl rfl rfl rfl hv3,?_⟩
 conv=>whnf
 refine⟨fun b9=> ?_,fun b9=> ?_⟩
 replace hF:=cf b9 hF
 conv=>whnf
 obtain⟨v4,hv4,hF⟩:=bs' hF
 refine⟨_,JgU (x:=x0.Tracker) (E:=r2) rfl rfl rfl rfl hv4,?_⟩
 conv=>whnf
 refine xB hF (fun b10 hF=> ?_) fun b10 hF=> ?_
 conv=>whnf
 obtain rfl:=si hF
 exact Jk [] [] [] rfl (Qh rfl ⟨aq,aF,tv⟩) trivial
 conv=>whnf
 obtain rfl:=si hF
 exact Jk [] [] [] rfl (Qh rfl ⟨aq,aT,tv⟩) trivial
 replace hF:=ct b9 hF
 conv=>whnf
 obtain rfl:=si hF
 exact Jk [] [] [] rfl (Qh rfl ⟨aq,aF,tv⟩) trivial
 replace hF:=ct b8 hF
 conv=>whnf
 obtain rfl:=si hF
 exact Jk [] [] [] rfl (Qh rfl ⟨aq,aF,tv⟩) trivial
 replace hF:=ct b7 hF
 conv=>whnf
 obtain rfl:=si hF
 exact Jk [] [] [] rfl (Qh rfl ⟨aq,aF,tv⟩) trivial
 replace hF:=ct b6 hF
 conv=>whnf
 obtain rfl:=si hF
 exact Jk [] [] [] rfl (Qh rfl ⟨aq,aF,tv⟩) trivial
theorem JdR (x0:Src) (x1:Int) (x2:Int) (r:(List Int)×Src) (hF:Jaj x0 x1 x2=some r):AC Tryz.prog 16 [.ptr 0 0,.int .i64 x1,.int .i64 x2] [.box (ZP x0)] (.lst 1 (r.1.map iA)) ([.box (ZP r.2)]):=by
 refine Ju Jc Ja Tryz.func16 rfl Tryz.ntmps16 rfl ?_
 unfold Jaj at hF
 conv=>whnf
 obtain⟨c1,hc_1,hF⟩:=Jr hF
 refine Jo Jc Ja (fun y:Nat×(List Int)×Int×(List Int)×Int=>Y4 x1 x2 y.1 y.2.1 y.2.2.1 y.2.2.2.1 y.2.2.2.2=some c1) (fun y=>⟨eL [(0,.ptr 0 0),(1,.int .i64 x1),(2,.int .i64 x2),(7,.osl 1),(8,.int .i64 y.2.2.2.2)],hL [(0,.box [.lst 1 (y.2.1.map iA),.int .i64 y.2.2.1]),(1,.row 1 (y.2.2.2.1.map iA))],2⟩) (fun y=>y.1) (9223372036854775807,x0.L,x0.At,([]:List Int),0) hc_1 (wK [0] [1] [] ⟨bN,Jci rfl,tv⟩) ?_
 rintro⟨q7,a1,i2,a3,i4⟩ hL1
 try dsimp only at hL1
 rcases q7 with _ |q7
 rw [Y4.eq_1] at hL1
 cases hL1
 rw [Y4.eq_2] at hL1
 show awp _ _ _ _ _ _ ⟨eL [(0,.ptr 0 0),(1,.int .i64 x1),(2,.int .i64 x2),(7,.osl 1),(8,.int .i64 i4)],hL [(0,.box [.lst 1 (a1.map iA),.int .i64 i2]),(1,.row 1 (a3.map iA))],2⟩
 conv=>whnf
 refine xB hL1 (fun b5 hL1=> ?_) fun b5 hL1=> ?_
 conv=>whnf
 obtain⟨r5,hr5,hL1⟩:=bs' hL1
 refine cE (dX false [0] [] 0 Tryz.func6 (JD (⟨a1,i2⟩:Src) x2 r5 hr5) ⟨rfl,tv⟩ Qd ⟨rfl,tv⟩) ?_
 conv=>whnf
 obtain⟨l6,hl6,hL1⟩:=bs' hL1
 refine ZV (enc:=iA) (l:=a3) (y:=([r5.1]:List Int)) hl6 rfl rfl (by decide) ?_
 conv=>whnf
 refine⟨_,rfl,?_⟩
 conv=>whnf
 exact⟨(q7,r5.2.L,r5.2.At,l6,(w64 (i4+1))),_,_,_,hL1,Wn _,wK [0,4] [] []⟩
 conv=>whnf
 obtain rfl:=si hL1
 replace hF:=Jw hF
 try dsimp only at hF
 obtain rfl:=si hF
 exact Jk [0] [] [1] rfl (aL 1) ⟨bN,tv⟩
theorem Jdm (x0:(List Int)) (r:(List Int)) (hF:slices_Sort_int x0=some r):AC Tryz.prog 57 [.osl 0] [.row 1 (x0.map iA)] (.tup []) ([.row 1 (r.map iA)]):=by
 exact JpY Jqz x0 r hF
theorem JeP (x0:(List Int)) (r:(List Int)) (hF:slices_Compact_int x0=some r):AC Tryz.prog 116 [.osl 0] [.row 1 (x0.map iA)] (.osl 1) ([.dead,.row 1 (r.map iA)]):=by
 exact Jri JlC x0 r hF
theorem JlS (x0:Belief) (x1:Int) (r:(List Int)) (hF:Jfk x0 x1=some r):AC Tryz.prog 74 [.agg (Yp x0),.int .i64 x1] [] (.osl 0) ([.row 1 (r.map iA)]):=by
 refine Ju Jc Ja Tryz.func74 rfl Tryz.ntmps74 rfl ?_
 unfold Jfk at hF
 conv=>whnf
 refine Jm (enc:=Jg) (l:=x0.L) rfl ?_
 conv=>whnf
 obtain⟨c1,hc_1,hF⟩:=Jr hF
 refine J1 0 (v:= .agg [.int .i64 x0.Budget,.lst 3 (x0.L.map Jg)]) (by(conv=>lhs;whnf)<;>rfl) (fun hb=> ?_)
 have hbd_k_3:x0.L.length<=9223372036854775807:=Jz (enc:=Jg) ((YC hb.cell 1 rfl))
 refine Jo Jc Ja (fun y:Nat×(List Int)=>y.1<=x0.L.length∧Z4 x1 (x0.L.drop y.1) y.1 y.2=some c1) (fun y=>⟨eL [(1,.int .i64 x1),(5,.osl 0),(10,.lst 3 (x0.L.map Jg)),(11,.int .i64 (x0.L.length:Int)),(12,.int .i64 (y.1:Int))],hL [(0,.row 1 (y.2.map iA))],1⟩) (fun y=>x0.L.length - y.1) (0,([]:List Int)) ⟨Nat.zero_le _,hc_1⟩ (wK [] [0] [] ⟨Jci rfl,tv⟩) ?_
 rintro⟨k3,a1⟩ ⟨hk_k_3,hL1⟩
 try dsimp only at hk_k_3 hL1
 show awp _ _ _ _ _ _ ⟨eL [(1,.int .i64 x1),(5,.osl 0),(10,.lst 3 (x0.L.map Jg)),(11,.int .i64 (x0.L.length:Int)),(12,.int .i64 (k3:Int))],hL [(0,.row 1 (a1.map iA))],1⟩
 conv=>whnf
 refine⟨fun h=> ?_,fun h=> ?_⟩
 have lk3:k3<x0.L.length:=by have h:=Wt h;omega
 obtain⟨e4,he4⟩:=ge lk3
 rw [Jl he4,Z4.eq_2] at hL1
 conv=>whnf
 refine⟨k3,_,rfl,Jv he4,?_⟩
 conv=>whnf
 refine⟨fun b15=> ?_,fun b15=> ?_⟩
 replace hL1:=cf b15 hL1
 conv=>whnf
 refine Jm (enc:=(lA 1 iA)) (l:=e4.Plant.Slots) rfl ?_
 conv=>whnf
 refine⟨fun b16=> ?_,fun b16=> ?_⟩
 replace hL1:=cf b16 hL1
 conv=>whnf
 obtain⟨e5,he5,hL1⟩:=bs' hL1
 refine JZ (enc:=(lA 1 iA)) (l:=e4.Plant.Slots) he5 rfl (fun m_e_5 hm_e_5 hx_e_5=> ?_)
 conv=>whnf
 refine Jm (enc:=iA) (l:=e5) rfl ?_
 conv=>whnf
 refine xB hL1 (fun b17 hL1=> ?_) fun b17 hL1=> ?_
 conv=>whnf
 refine⟨((k3+1:Nat):Int),wE,?_⟩
 conv=>whnf
 exact⟨(k3+1,a1),_,_,_,⟨lk3,hL1⟩,sl lk3,wK [0] [] []⟩
 conv=>whnf
 obtain⟨e6,he6,hL1⟩:=bs' hL1
 refine JZ (enc:=(lA 1 iA)) (l:=e4.Plant.Slots) he6 rfl (fun m_e_6 hm_e_6 hx_e_6=> ?_)
 conv=>whnf
 refine Jm (enc:=iA) (l:=e6) rfl ?_
 conv=>whnf
 refine⟨_,rfl,?_⟩
 conv=>whnf
 obtain⟨e7,he7,hL1⟩:=bs' hL1
 refine JZ (enc:=iA) (l:=e6) he7 rfl (fun m_e_7 hm_e_7 hx_e_7=> ?_)
 conv=>whnf
 obtain⟨l8,hl8,hL1⟩:=bs' hL1
 refine ZV (enc:=iA) (l:=a1) (y:=([e7]:List Int)) hl8 rfl rfl (by decide) ?_
 conv=>whnf
 refine⟨((k3+1:Nat):Int),wE,?_⟩
 conv=>whnf
 exact⟨(k3+1,l8),_,_,_,⟨lk3,hL1⟩,sl lk3,wK [3] [] []⟩
 replace hL1:=ct b16 hL1
 conv=>whnf
 refine⟨((k3+1:Nat):Int),wE,?_⟩
 conv=>whnf
 exact⟨(k3+1,a1),_,_,_,⟨lk3,hL1⟩,sl lk3,wK [0] [] []⟩
 replace hL1:=ct b15 hL1
 conv=>whnf
 refine⟨((k3+1:Nat):Int),wE,?_⟩
 conv=>whnf
 exact⟨(k3+1,a1),_,_,_,⟨lk3,hL1⟩,sl lk3,wK [0] [] []⟩
 rw [Jq (nl h),Z4.eq_1] at hL1
 conv=>whnf
 obtain rfl:=si hL1
 replace hF:=Jw hF
 try dsimp only at hF
 obtain⟨r11,hr11,hF⟩:=bs' hF
 refine cE (dX false [0] [] 0 Tryz.func57 (Jdm a1 r11 hr11) ⟨gR,tv⟩ Qd ⟨rR,tv⟩) ?_
 conv=>whnf
 obtain⟨r12,hr12,hF⟩:=bs' hF
 refine cE (dY false [.dead,.row 1 (r12.map iA)] [0] [] 1 Tryz.func116 (JeP r11 r12 hr12) ⟨gR,tv⟩ Qd ⟨rfl,rR,tv⟩) ?_
 conv=>whnf
 obtain rfl:=si hF
 exact Jk [2] [] [] rfl (aO 2) ⟨bR,tv⟩
theorem Jcn (x0:Int) (r:Bool) (hF:Zq x0=some r):AC Tryz.prog 75 [.int .i64 x0] [] (.bool r) ([]):=by
 refine Ju Jc Ja Tryz.func75 rfl Tryz.ntmps75 rfl ?_
 unfold Zq at hF
 conv=>whnf
 obtain rfl:=si hF
 exact rZ
theorem Jec (x0:(List Int)) (r:Int) (hF:Jar x0=some r):AC Tryz.prog 115 [.lst 1 (x0.map iA),.fn 75 []] [] (.int .i64 r) ([]):=by
 refine Ju Jc Ja Tryz.func115 rfl Tryz.ntmps115 rfl ?_
 unfold Jar at hF
 conv=>whnf
 refine Jm (enc:=iA) (l:=x0) rfl ?_
 conv=>whnf
 obtain⟨c1,hc_1,hF⟩:=Jr hF
 refine J1 0 (v:= .lst 1 (x0.map iA)) (by(conv=>lhs;whnf)<;>rfl) (fun hb=> ?_)
 have hbd_k_2:x0.length<=9223372036854775807:=Jz (enc:=iA) (hb)
 refine Jo Jc Ja (fun y:Nat=>y<=x0.length∧Qr (x0.drop y) y=some c1) (fun y=>⟨eL [(0,.lst 1 (x0.map iA)),(1,.fn 75 []),(7,.int .i64 (x0.length:Int)),(8,.int .i64 (y:Int))],hL [],0⟩) (fun y=>x0.length - y) 0 ⟨Nat.zero_le _,hc_1⟩ (wK [] [] []) ?_
 rintro k2 ⟨hk_k_2,hL1⟩
 try dsimp only at hk_k_2 hL1
 show awp _ _ _ _ _ _ ⟨eL [(0,.lst 1 (x0.map iA)),(1,.fn 75 []),(7,.int .i64 (x0.length:Int)),(8,.int .i64 (k2:Int))],hL [],0⟩
 conv=>whnf
 refine⟨fun h=> ?_,fun h=> ?_⟩
 have lk2:k2<x0.length:=by have h:=Wt h;omega
 obtain⟨e3,he3⟩:=ge lk2
 rw [Jl he3,Qr.eq_2] at hL1
 conv=>whnf
 refine⟨k2,_,rfl,Jv he3,?_⟩
 conv=>whnf
 obtain⟨r4,hr4,hL1⟩:=bs' hL1
 refine cE (d0 0 Tryz.func75 (Jcn e3 r4 hr4)) ?_
 conv=>whnf
 refine xB hL1 (fun b7 hL1=> ?_) fun b7 hL1=> ?_
 conv=>whnf
 obtain rfl:=si hL1
 replace hF:=Jn hF
 obtain rfl:=si hF
 exact rZ
 conv=>whnf
 refine⟨((k2+1:Nat):Int),wE,?_⟩
 conv=>whnf
 exact⟨k2+1,_,_,_,⟨lk2,hL1⟩,sl lk2,wK [] [] []⟩
 rw [Jq (nl h),Qr.eq_1] at hL1
 conv=>whnf
 obtain rfl:=si hL1
 replace hF:=Jw hF
 try dsimp only at hF
 obtain rfl:=si hF
 exact rZ
theorem Jd1 (x0:(List Int)) (r:(List Int)) (hF:Zg x0=some r):AC Tryz.prog 73 [.osl 0,.fn 75 []] [.row 1 (x0.map iA)] (.osl 1) ([.dead,.row 1 (r.map iA)]):=by
 refine Ju Jc Ja Tryz.func73 rfl Tryz.ntmps73 rfl ?_
 unfold Zg at hF
 conv=>whnf
 obtain⟨r1,hr1,hF⟩:=bs' hF
 refine cE (dX false [] [0] 0 Tryz.func115 (Jec x0 r1 hr1) trivial (YJ rfl trivial) trivial) ?_
 conv=>whnf
 refine xB hF (fun b10 hF=> ?_) fun b10 hF=> ?_
 conv=>whnf
 obtain rfl:=si hF
 exact Jk [0,0] [] [] rfl (aO 0) ⟨trivial,bR,tv⟩
 conv=>whnf
 refine⟨_,rfl,?_⟩
 conv=>whnf
 obtain⟨c1,hc_1,hF⟩:=Jr hF
 refine Jo Jc Ja (fun y:Nat×(List Int)×Int×Int=>Qm y.1 y.2.1 y.2.2.1 y.2.2.2=some c1) (fun y=>⟨eL [(0,.osl 1),(1,.fn 75 []),(5,.int .i64 y.2.2.1),(6,.int .i64 y.2.2.2)],hL [(1,.row 1 (y.2.1.map iA))],2⟩) (fun y=>y.1) (9223372036854775807,x0,r1,(w64 (r1+1))) hc_1 (wK [0,0] [] []) ?_
 rintro⟨q8,a2,i3,i4⟩ hL1
 try dsimp only at hL1
 rcases q8 with _ |q8
 rw [Qm.eq_1] at hL1
 cases hL1
 rw [Qm.eq_2] at hL1
 show awp _ _ _ _ _ _ ⟨eL [(0,.osl 1),(1,.fn 75 []),(5,.int .i64 i3),(6,.int .i64 i4)],hL [(1,.row 1 (a2.map iA))],2⟩
 conv=>whnf
 refine Jm (enc:=iA) (l:=a2) rfl ?_
 conv=>whnf
 refine xB hL1 (fun b11 hL1=> ?_) fun b11 hL1=> ?_
 conv=>whnf
 obtain⟨e5,he5,hL1⟩:=bs' hL1
 refine Qc (enc:=iA) (l:=a2) he5 rfl (fun m_e_5 hm_e_5 hx_e_5=> ?_)
 conv=>whnf
 refine⟨_,Jv (enc:=iA) hx_e_5,?_⟩
 conv=>whnf
 obtain⟨r6,hr6,hL1⟩:=bs' hL1
 refine cE (d0 0 Tryz.func75 (Jcn e5 r6 hr6)) ?_
 conv=>whnf
 refine xB hL1 (fun b12 hL1=> ?_) fun b12 hL1=> ?_
 conv=>whnf
 obtain⟨e7,he7,hL1⟩:=bs' hL1
 refine Qc (enc:=iA) (l:=a2) he7 rfl (fun m_e_7 hm_e_7 hx_e_7=> ?_)
 conv=>whnf
 refine Z6 (enc:=iA) (l:=a2) (x':=e5) (i:=i3) hm_e_7 hx_e_7 rfl (Wl rfl) rfl ?_
 conv=>whnf
 refine⟨_,rfl,?_⟩
 conv=>whnf
 refine⟨_,rfl,?_⟩
 conv=>whnf
 exact⟨(q8,(a2.set i3.toNat e5),(w64 (i3+1)),(w64 (i4+1))),_,_,_,hL1,Wn _,wK [0,1] [] []⟩
 conv=>whnf
 refine⟨_,rfl,?_⟩
 conv=>whnf
 exact⟨(q8,a2,i3,(w64 (i4+1))),_,_,_,hL1,Wn _,wK [0,1] [] []⟩
 conv=>whnf
 obtain rfl:=si hL1
 replace hF:=Jw hF
 try dsimp only at hF
 obtain⟨l10,hl10,hF⟩:=bs' hF
 refine JjW (enc:=iA) (l:=a2) hl10 rfl (fun n_l_10 f_l_10=> ?_)
 conv=>whnf
 refine⟨_,Jid Jc rfl rfl rfl rfl rfl rfl rfl (Jmq f_l_10) rfl (Jrj (enc:=iA) (x:=0) f_l_10 rfl),?_⟩
 conv=>whnf
 obtain⟨l11,hl11,hF⟩:=bs' hF
 refine JjX (enc:=iA) (l:=(clT a2 l10 0)) hl11 rfl (fun m_l_11 f_l_11=> ?_)
 conv=>whnf
 obtain rfl:=si hF
 exact JhM (hi:=m_l_11) rfl (Jmr f_l_11) (JhZ f_l_11) (.inl (by(conv=>lhs;whnf)<;>rfl)) [0,2] [] [] rfl (aO 2) ⟨trivial,bR,tv⟩
theorem JfW (x0:(List Bool)) (x1:Int) (r:Bool) (hF:Jcw x0 x1=some r):AC Tryz.prog 80 [.lst 1 (x0.map bA),.int .i64 x1] [] (.bool r) ([]):=by
 refine Ju Jc Ja Tryz.func80 rfl Tryz.ntmps80 rfl ?_
 unfold Jcw at hF
 conv=>whnf
 refine xB hF (fun b3 hF=> ?_) fun b3 hF=> ?_
 conv=>whnf
 refine Jm (enc:=bA) (l:=x0) rfl ?_
 conv=>whnf
 refine xB hF (fun b4 hF=> ?_) fun b4 hF=> ?_
 conv=>whnf
 refine⟨_,rfl,?_⟩
 conv=>whnf
 obtain⟨e1,he1,hF⟩:=bs' hF
 refine JZ (enc:=bA) (l:=x0) he1 rfl (fun m_e_1 hm_e_1 hx_e_1=> ?_)
 conv=>whnf
 obtain rfl:=si hF
 exact rZ
 conv=>whnf
 obtain rfl:=si hF
 exact rZ
 conv=>whnf
 obtain rfl:=si hF
 exact rZ
theorem Jd3 (x0:Layout) (x1:Int) (x2:Int) (x3:Int) (r:Bool) (hF:Jcr x0 x1 x2 x3=some r):AC Tryz.prog 165 [.agg (JC x0),.int .i64 x1,.int .i64 x2,.int .i64 x3] [] (.bool r) ([]):=by
 refine Ju Jc Ja Tryz.func165 rfl Tryz.ntmps165 rfl ?_
 unfold Jcr at hF
 conv=>whnf
 refine xB hF (fun b3 hF=> ?_) fun b3 hF=> ?_
 conv=>whnf
 refine⟨fun b4=> ?_,fun b4=> ?_⟩
 replace hF:=cf b4 hF
 conv=>whnf
 obtain⟨e1,he1,hF⟩:=bs' hF
 refine JZ (enc:=Jb) (l:=x0.Nodes) he1 rfl (fun m_e_1 hm_e_1 hx_e_1=> ?_)
 conv=>whnf
 obtain⟨r2,hr2,hF⟩:=bs' hF
 refine cE (d0 0 Tryz.func85 (Qv e1.Kind r2 hr2)) ?_
 conv=>whnf
 obtain rfl:=si hF
 exact rZ
 replace hF:=ct b4 hF
 conv=>whnf
 obtain rfl:=si hF
 exact rZ
 conv=>whnf
 obtain rfl:=si hF
 exact rZ
theorem Jj0 (x0:Layout) (x1:Int) (r:Bool) (hF:JfC x0 x1=some r):AC Tryz.prog 195 [.agg (JC x0),.int .i64 x1] [] (.bool r) ([]):=by
 refine Ju Jc Ja Tryz.func195 rfl Tryz.ntmps195 rfl ?_
 unfold JfC at hF
 conv=>whnf
 refine xB hF (fun b3 hF=> ?_) fun b3 hF=> ?_
 conv=>whnf
 refine Jm (enc:=Jb) (l:=x0.Nodes) rfl ?_
 conv=>whnf
 refine xB hF (fun b4 hF=> ?_) fun b4 hF=> ?_
 conv=>whnf
 obtain⟨e1,he1,hF⟩:=bs' hF
 refine JZ (enc:=Jb) (l:=x0.Nodes) he1 rfl (fun m_e_1 hm_e_1 hx_e_1=> ?_)
 conv=>whnf
 obtain⟨r2,hr2,hF⟩:=bs' hF
 refine cE (d0 0 Tryz.func85 (Qv e1.Kind r2 hr2)) ?_
 conv=>whnf
 obtain rfl:=si hF
 exact rZ
 conv=>whnf
 obtain rfl:=si hF
 exact rZ
 conv=>whnf
 obtain rfl:=si hF
 exact rZ
theorem Jh5 (x0:Layout) (x1:Int) (x2:Int) (r:Bool) (hF:JcG x0 x1 x2=some r):AC Tryz.prog 163 [.agg (JC x0),.int .i64 x1,.int .i64 x2] [] (.bool r) ([]):=by
 refine Ju Jc Ja Tryz.func163 rfl Tryz.ntmps163 rfl ?_
 unfold JcG at hF
 conv=>whnf
 refine xB hF (fun b4 hF=> ?_) fun b4 hF=> ?_
 conv=>whnf
 refine Jm (enc:=Jb) (l:=x0.Nodes) rfl ?_
 conv=>whnf
 refine xB hF (fun b5 hF=> ?_) fun b5 hF=> ?_
 conv=>whnf
 obtain⟨r1,hr1,hF⟩:=bs' hF
 refine cE (d0 0 Tryz.func195 (Jj0 x0 x2 r1 hr1)) ?_
 conv=>whnf
 refine xB hF (fun b6 hF=> ?_) fun b6 hF=> ?_
 conv=>whnf
 obtain⟨r2,hr2,hF⟩:=bs' hF
 refine cE (d0 0 Tryz.func30 (Jah x0 r2 hr2)) ?_
 conv=>whnf
 obtain rfl:=si hF
 exact rZ
 conv=>whnf
 obtain rfl:=si hF
 exact rZ
 conv=>whnf
 obtain rfl:=si hF
 exact rZ
 conv=>whnf
 obtain rfl:=si hF
 exact rZ
abbrev Jod (ly:Layout) (broken:List Bool) (mm:List (List Int)):List ABlk:=[.box [.osl 4],.box [.lst 1 (broken.map bA)],.box (JC ly),.box [.fn 196 [.ptr 0 0,.ptr 1 0,.ptr 2 0,.ptr 3 0]],.nest (mm.map NE.hid)]
theorem Jed (ly:Layout) (broken:List Bool) (n:Nat):∀(fr tg:Int) (mm:List (List Int)) (r:Int×List (List Int)),Ys ly broken n fr tg mm=some r->
  AC Tryz.prog 196 [.int .i64 fr,.int .i64 tg,.ptr 0 0,.ptr 1 0,.ptr 2 0,.ptr 3 0] (Jod ly broken mm) (.int .i64 r.1) (Jod ly broken r.2):=by
 induction n with
 |zero=>intro fr tg mm r hF;simp [Ys] at hF
 |succ n ih=>
 intro fr tg mm r hF
 unfold Ys at hF
 refine Ju Jc Ja Tryz.func196 rfl Tryz.ntmps196 rfl ?_
 obtain⟨row,hrow,hF⟩:=bs' hF
 obtain⟨d,hd,hF⟩:=bs' hF
 obtain⟨m1,hm1,hx1⟩:=Jau hrow
 conv=>whnf
 refine⟨_,Jd5 Jc rfl rfl rfl rfl rfl rfl hm1 hx1,?_⟩
 conv=>whnf
 refine⟨_,Jf6 Jc rfl rfl rfl rfl rfl hx1,?_⟩
 conv=>whnf
 refine Qc (enc:=iA) (l:=row) hd rfl (fun m2 hm2 hx2=> ?_)
 conv=>whnf
 refine⟨_,Jv hx2,?_⟩
 conv=>whnf
 refine xB hF (fun hb hF=> ?_) fun hb hF=> ?_
 .
  obtain rfl:=si hF
  conv=>whnf
  refine⟨_,JeB Jc rfl rfl rfl rfl rfl rfl hm1 hx1,?_⟩
  conv=>whnf
  refine⟨_,JhP Jc rfl rfl rfl rfl rfl hx1,?_⟩
  conv=>whnf
  refine Qc (enc:=iA) (l:=row) hd rfl (fun m3 hm3 hx3=> ?_)
  conv=>whnf
  refine⟨_,Jv hx3,?_⟩
  conv=>whnf
  have hdd:some d=some d:=rfl
  exact ZU [0,1,2,3,4] [] [] [(4,m1,5)] rfl rfl (.ni _ rfl) ⟨.inr (Jy rfl rfl rfl ⟨Zx (id:=4) rfl rfl,tv⟩),.inr bN,.inr bN,.inr (Jy rfl rfl rfl ⟨Q4 (c:=[.ptr 0 0,.ptr 1 0,.ptr 2 0,.ptr 3 0]) rfl rfl ⟨JN (id:=0) rfl rfl,JN (id:=1) rfl rfl,JN (id:=2) rfl rfl,JN (id:=3) rfl rfl,tv⟩,tv⟩),.inr (JgR hx1 rfl rfl rfl rfl),tv⟩
 .
  conv=>whnf
  obtain⟨br,hbr,hF⟩:=bs' hF
  obtain⟨bm,hbm,hF⟩:=bs' hF
  obtain⟨row2,hrow2,hF⟩:=bs' hF
  obtain⟨d2,hd2,hF⟩:=bs' hF
  obtain rfl:=si hF
  refine Jm (enc:=bA) (l:=broken) rfl ?_
  conv=>whnf
  refine xB hbr (fun hb1 hbr=> ?_) fun hb1 hbr=> ?_
  .
   conv=>whnf
   refine JZ (enc:=bA) (l:=broken) hbr rfl (fun m4 hm4 hx4=> ?_)
   conv=>whnf
   refine xB hbm (fun hb2 hbm=> ?_) fun hb2 hbm=> ?_
   .
    obtain rfl:=si hbm
    try dsimp only at hrow2 hd2
    conv=>whnf
    obtain rfl:row2=row:=by rw [hrow] at hrow2;exact(si hrow2).symm
    refine⟨_,JeB Jc rfl rfl rfl rfl rfl rfl hm1 hx1,?_⟩
    conv=>whnf
    refine⟨_,JhP Jc rfl rfl rfl rfl rfl hx1,?_⟩
    conv=>whnf
    refine Qc (enc:=iA) (l:=row2) hd2 rfl (fun m6 hm6 hx6=> ?_)
    conv=>whnf
    refine Z6 (enc:=iA) (l:=row2) (x':=(-1:Int)) (i:=tg) hm6 hx6 rfl (Wl rfl) rfl ?_
    conv=>whnf
    exact ZU [0,1,2,3,4] [] [] [(4,m1,5)] rfl rfl (.ni _ rfl) ⟨.inr (Jy rfl rfl rfl ⟨Zx (id:=4) rfl rfl,tv⟩),.inr bN,.inr bN,.inr (Jy rfl rfl rfl ⟨Q4 (c:=[.ptr 0 0,.ptr 1 0,.ptr 2 0,.ptr 3 0]) rfl rfl ⟨JN (id:=0) rfl rfl,JN (id:=1) rfl rfl,JN (id:=2) rfl rfl,JN (id:=3) rfl rfl,tv⟩,tv⟩),.inr (Jeg hm1 rfl rfl rfl rfl),tv⟩
   .
    conv=>whnf
    refine xB hbm (fun hb3 hbm=> ?_) fun hb3 hbm=> ?_
    .
     conv=>whnf
     obtain⟨e,he,hbm⟩:=bs' hbm
     obtain rfl:=si hbm
     try dsimp only at hrow2 hd2
     refine JZ (enc:=Jb) (l:=ly.Nodes) he rfl (fun m5 hm5 hx5=> ?_)
     conv=>whnf
     obtain rfl:row2=row:=by rw [hrow] at hrow2;exact(si hrow2).symm
     refine⟨_,JeB Jc rfl rfl rfl rfl rfl rfl hm1 hx1,?_⟩
     conv=>whnf
     refine⟨_,JhP Jc rfl rfl rfl rfl rfl hx1,?_⟩
     conv=>whnf
     refine Qc (enc:=iA) (l:=row2) hd2 rfl (fun m6 hm6 hx6=> ?_)
     conv=>whnf
     refine Z6 (enc:=iA) (l:=row2) (x':=e.Length) (i:=tg) hm6 hx6 rfl (Wl rfl) rfl ?_
     conv=>whnf
     exact ZU [0,1,2,3,4] [] [] [(4,m1,5)] rfl rfl (.ni _ rfl) ⟨.inr (Jy rfl rfl rfl ⟨Zx (id:=4) rfl rfl,tv⟩),.inr bN,.inr bN,.inr (Jy rfl rfl rfl ⟨Q4 (c:=[.ptr 0 0,.ptr 1 0,.ptr 2 0,.ptr 3 0]) rfl rfl ⟨JN (id:=0) rfl rfl,JN (id:=1) rfl rfl,JN (id:=2) rfl rfl,JN (id:=3) rfl rfl,tv⟩,tv⟩),.inr (Jeg hm1 rfl rfl rfl rfl),tv⟩
    .
     conv=>whnf
     obtain⟨e,he,hbm⟩:=bs' hbm
     refine JZ (enc:=Jb) (l:=ly.Nodes) he rfl (fun m5 hm5 hx5=> ?_)
     conv=>whnf
     refine Jm (enc:=iA) (l:=e.Exits) rfl ?_
     conv=>whnf
     refine J1 33 (v:= .lst 1 (e.Exits.map iA)) (by(conv=>lhs;whnf)<;>rfl) (fun hbv=> ?_)
     have hlen:e.Exits.length<=9223372036854775807:=Jz (enc:=iA) hbv
     refine Jo Jc Ja (fun y:Nat×Int×List (List Int)=>y.1<=e.Exits.length∧Jcp (Ys ly broken n) ly fr tg (e.Exits.drop y.1) y.2.1 y.2.2=some bm) (fun y=>⟨eL [(0,.int .i64 fr),(1,.int .i64 tg),(2,.ptr 0 0),(3,.ptr 1 0),(4,.ptr 2 0),(5,.ptr 3 0),(8,.int .i64 0),(9,.int .i64 y.2.1),(33,.lst 1 (e.Exits.map iA)),(34,.int .i64 (e.Exits.length:Int)),(35,.int .i64 (y.1:Int))],hL [(0,.box [.osl 4]),(1,.box [.lst 1 (broken.map bA)]),(2,.box (JC ly)),(3,.box [.fn 196 [.ptr 0 0,.ptr 1 0,.ptr 2 0,.ptr 3 0]]),(4,.nest (y.2.2.map NE.hid))],5⟩) (fun y=>e.Exits.length - y.1) (0, -1,mm) ⟨Nat.zero_le _,hbm⟩ (Ye [0,1,2,3,4] [] [] [(4,m1,5)] rfl rfl ⟨aq,aq,(aP 0),(aP 1),(aP 2),(aP 3),aq,aq,aq,aq,aq,tv⟩ ⟨Jy rfl rfl rfl ⟨Zx (id:=4) rfl rfl,tv⟩,bN,bN,Jy rfl rfl rfl ⟨Q4 (c:=[.ptr 0 0,.ptr 1 0,.ptr 2 0,.ptr 3 0]) rfl rfl ⟨JN (id:=0) rfl rfl,JN (id:=1) rfl rfl,JN (id:=2) rfl rfl,JN (id:=3) rfl rfl,tv⟩,tv⟩,JgR hx1 rfl rfl rfl rfl,tv⟩) ?_
     rintro⟨k,best,mk⟩ ⟨hk,hG⟩
     try dsimp only at hk hG
     show awp _ _ _ _ _ _ ⟨eL [(0,.int .i64 fr),(1,.int .i64 tg),(2,.ptr 0 0),(3,.ptr 1 0),(4,.ptr 2 0),(5,.ptr 3 0),(8,.int .i64 0),(9,.int .i64 best),(33,.lst 1 (e.Exits.map iA)),(34,.int .i64 (e.Exits.length:Int)),(35,.int .i64 (k:Int))],hL [(0,.box [.osl 4]),(1,.box [.lst 1 (broken.map bA)]),(2,.box (JC ly)),(3,.box [.fn 196 [.ptr 0 0,.ptr 1 0,.ptr 2 0,.ptr 3 0]]),(4,.nest (mk.map NE.hid))],5⟩
     conv=>whnf
     refine⟨fun hb5=> ?_,fun hb5=> ?_⟩
     .
      have hlt:k<e.Exits.length:=by have h:=Wt hb5;omega
      obtain⟨x,hx⟩:=ge hlt
      rw [Jl hx] at hG
      unfold Jcp at hG
      conv=>whnf
      refine⟨k,_,rfl,Jv hx,?_⟩
      conv=>whnf
      obtain⟨bb,hbb,hG⟩:=bs' hG
      refine cE (d0 0 Tryz.func165 (Jd3 ly fr x tg bb hbb)) ?_
      conv=>whnf
      refine xB hG (fun hb6 hG=> ?_) fun hb6 hG=> ?_
      .
       conv=>whnf
       refine⟨((k+1:Nat):Int),wE,?_⟩
       conv=>whnf
       exact⟨(k+1,best,mk),[0,1,2,3,4],[],[],⟨hlt,hG⟩,sl hlt,Ye [0,1,2,3,4] [] [] [] rfl rfl ⟨aq,aq,(aP 0),(aP 1),(aP 2),(aP 3),aq,aq,aq,aq,aq,tv⟩ ⟨Jy rfl rfl rfl ⟨Zx (id:=4) rfl rfl,tv⟩,bN,bN,Jy rfl rfl rfl ⟨Q4 (c:=[.ptr 0 0,.ptr 1 0,.ptr 2 0,.ptr 3 0]) rfl rfl ⟨JN (id:=0) rfl rfl,JN (id:=1) rfl rfl,JN (id:=2) rfl rfl,JN (id:=3) rfl rfl,tv⟩,tv⟩,Qy rfl rfl,tv⟩⟩
      .
       conv=>whnf
       obtain⟨dd,hdd,hG⟩:=bs' hG
       obtain⟨t,ht,hG⟩:=bs' hG
       refine cE (dY false (Jod ly broken dd.2) [0,1,2,3,4] [] 0 Tryz.func196 (ih x tg mk dd hdd) ⟨rfl,rfl,rfl,rfl,(grN rfl),tv⟩ Qd ⟨rfl,rfl,rfl,rfl,Jgk,tv⟩) ?_
       conv=>whnf
       refine xB ht (fun h1 ht=> ?_) fun h1 ht=> ?_
       .
        conv=>whnf
        refine⟨fun h2=> ?_,fun h2=> ?_⟩
        .
         replace ht:=cf h2 ht
         conv=>whnf
         obtain⟨e2,he2,ht⟩:=bs' ht
         obtain rfl:=(si ht).symm
         refine JZ (enc:=Jb) (l:=ly.Nodes) he2 rfl (fun m8 hm8 hx8=> ?_)
         conv=>whnf
         refine⟨w64 (dd.1+e2.Length),rfl,?_⟩
         conv=>whnf
         refine xB hG (fun hb7 hG=> ?_) fun hb7 hG=> ?_
         .
          obtain⟨e3,he3,hG⟩:=bs' hG
          conv=>whnf
          refine JZ (enc:=Jb) (l:=ly.Nodes) he3 rfl (fun m9 hm9 hx9=> ?_)
          conv=>whnf
          refine⟨w64 (dd.1+e3.Length),rfl,?_⟩
          conv=>whnf
          refine⟨((k+1:Nat):Int),wE,?_⟩
          conv=>whnf
          exact⟨(k+1,w64 (dd.1+e3.Length),dd.2),[0,1,2,3,4],[],[],⟨hlt,hG⟩,sl hlt,Ye [0,1,2,3,4] [] [] [] rfl rfl ⟨aq,aq,(aP 0),(aP 1),(aP 2),(aP 3),aq,aq,aq,aq,aq,tv⟩ ⟨Jy rfl rfl rfl ⟨Zx (id:=4) rfl rfl,tv⟩,bN,bN,Jy rfl rfl rfl ⟨Q4 (c:=[.ptr 0 0,.ptr 1 0,.ptr 2 0,.ptr 3 0]) rfl rfl ⟨JN (id:=0) rfl rfl,JN (id:=1) rfl rfl,JN (id:=2) rfl rfl,JN (id:=3) rfl rfl,tv⟩,tv⟩,Qy rfl rfl,tv⟩⟩
         .
          conv=>whnf
          refine⟨((k+1:Nat):Int),wE,?_⟩
          conv=>whnf
          exact⟨(k+1,best,dd.2),[0,1,2,3,4],[],[],⟨hlt,hG⟩,sl hlt,Ye [0,1,2,3,4] [] [] [] rfl rfl ⟨aq,aq,(aP 0),(aP 1),(aP 2),(aP 3),aq,aq,aq,aq,aq,tv⟩ ⟨Jy rfl rfl rfl ⟨Zx (id:=4) rfl rfl,tv⟩,bN,bN,Jy rfl rfl rfl ⟨Q4 (c:=[.ptr 0 0,.ptr 1 0,.ptr 2 0,.ptr 3 0]) rfl rfl ⟨JN (id:=0) rfl rfl,JN (id:=1) rfl rfl,JN (id:=2) rfl rfl,JN (id:=3) rfl rfl,tv⟩,tv⟩,Qy rfl rfl,tv⟩⟩
        .
         replace ht:=ct h2 ht
         obtain rfl:=(si ht).symm
         replace hG:=ct rfl hG
         obtain⟨e3,he3,hG⟩:=bs' hG
         conv=>whnf
         refine JZ (enc:=Jb) (l:=ly.Nodes) he3 rfl (fun m9 hm9 hx9=> ?_)
         conv=>whnf
         refine⟨w64 (dd.1+e3.Length),rfl,?_⟩
         conv=>whnf
         refine⟨((k+1:Nat):Int),wE,?_⟩
         conv=>whnf
         exact⟨(k+1,w64 (dd.1+e3.Length),dd.2),[0,1,2,3,4],[],[],⟨hlt,hG⟩,sl hlt,Ye [0,1,2,3,4] [] [] [] rfl rfl ⟨aq,aq,(aP 0),(aP 1),(aP 2),(aP 3),aq,aq,aq,aq,aq,tv⟩ ⟨Jy rfl rfl rfl ⟨Zx (id:=4) rfl rfl,tv⟩,bN,bN,Jy rfl rfl rfl ⟨Q4 (c:=[.ptr 0 0,.ptr 1 0,.ptr 2 0,.ptr 3 0]) rfl rfl ⟨JN (id:=0) rfl rfl,JN (id:=1) rfl rfl,JN (id:=2) rfl rfl,JN (id:=3) rfl rfl,tv⟩,tv⟩,Qy rfl rfl,tv⟩⟩
       .
        obtain rfl:=(si ht).symm
        replace hG:=cf rfl hG
        conv=>whnf
        refine⟨((k+1:Nat):Int),wE,?_⟩
        conv=>whnf
        exact⟨(k+1,best,dd.2),[0,1,2,3,4],[],[],⟨hlt,hG⟩,sl hlt,Ye [0,1,2,3,4] [] [] [] rfl rfl ⟨aq,aq,(aP 0),(aP 1),(aP 2),(aP 3),aq,aq,aq,aq,aq,tv⟩ ⟨Jy rfl rfl rfl ⟨Zx (id:=4) rfl rfl,tv⟩,bN,bN,Jy rfl rfl rfl ⟨Q4 (c:=[.ptr 0 0,.ptr 1 0,.ptr 2 0,.ptr 3 0]) rfl rfl ⟨JN (id:=0) rfl rfl,JN (id:=1) rfl rfl,JN (id:=2) rfl rfl,JN (id:=3) rfl rfl,tv⟩,tv⟩,Qy rfl rfl,tv⟩⟩
     .
      rw [Jq (show e.Exits.length<=k by have h:=Wf hb5;omega)] at hG
      unfold Jcp at hG
      obtain rfl:=si hG
      try dsimp only at hrow2 hd2
      conv=>whnf
      obtain⟨m7,hm7,hx7⟩:=Jau hrow2
      refine⟨_,Jd5 Jc rfl rfl rfl rfl rfl rfl hm7 hx7,?_⟩
      conv=>whnf
      refine⟨_,Jf6 Jc rfl rfl rfl rfl rfl hx7,?_⟩
      conv=>whnf
      refine Qc (enc:=iA) (l:=row2) hd2 rfl (fun m6 hm6 hx6=> ?_)
      conv=>whnf
      refine Z6 (enc:=iA) (l:=row2) (x':=best) (i:=tg) hm6 hx6 rfl (Wl rfl) rfl ?_
      conv=>whnf
      exact ZU [0,1,2,3,4] [] [] [(4,m7,5)] rfl rfl (.ni _ rfl) ⟨.inr (Jy rfl rfl rfl ⟨Zx (id:=4) rfl rfl,tv⟩),.inr bN,.inr bN,.inr (Jy rfl rfl rfl ⟨Q4 (c:=[.ptr 0 0,.ptr 1 0,.ptr 2 0,.ptr 3 0]) rfl rfl ⟨JN (id:=0) rfl rfl,JN (id:=1) rfl rfl,JN (id:=2) rfl rfl,JN (id:=3) rfl rfl,tv⟩,tv⟩),.inr (Jeg hm7 rfl rfl rfl rfl),tv⟩
  .
   obtain rfl:=(si hbr).symm
   replace hbm:=cf rfl hbm
   conv=>whnf
   refine xB hbm (fun hb3 hbm=> ?_) fun hb3 hbm=> ?_
   .
    conv=>whnf
    obtain⟨e,he,hbm⟩:=bs' hbm
    obtain rfl:=si hbm
    try dsimp only at hrow2 hd2
    refine JZ (enc:=Jb) (l:=ly.Nodes) he rfl (fun m5 hm5 hx5=> ?_)
    conv=>whnf
    obtain rfl:row2=row:=by rw [hrow] at hrow2;exact(si hrow2).symm
    refine⟨_,JeB Jc rfl rfl rfl rfl rfl rfl hm1 hx1,?_⟩
    conv=>whnf
    refine⟨_,JhP Jc rfl rfl rfl rfl rfl hx1,?_⟩
    conv=>whnf
    refine Qc (enc:=iA) (l:=row2) hd2 rfl (fun m6 hm6 hx6=> ?_)
    conv=>whnf
    refine Z6 (enc:=iA) (l:=row2) (x':=e.Length) (i:=tg) hm6 hx6 rfl (Wl rfl) rfl ?_
    conv=>whnf
    exact ZU [0,1,2,3,4] [] [] [(4,m1,5)] rfl rfl (.ni _ rfl) ⟨.inr (Jy rfl rfl rfl ⟨Zx (id:=4) rfl rfl,tv⟩),.inr bN,.inr bN,.inr (Jy rfl rfl rfl ⟨Q4 (c:=[.ptr 0 0,.ptr 1 0,.ptr 2 0,.ptr 3 0]) rfl rfl ⟨JN (id:=0) rfl rfl,JN (id:=1) rfl rfl,JN (id:=2) rfl rfl,JN (id:=3) rfl rfl,tv⟩,tv⟩),.inr (Jeg hm1 rfl rfl rfl rfl),tv⟩
   .
    conv=>whnf
    obtain⟨e,he,hbm⟩:=bs' hbm
    refine JZ (enc:=Jb) (l:=ly.Nodes) he rfl (fun m5 hm5 hx5=> ?_)
    conv=>whnf
    refine Jm (enc:=iA) (l:=e.Exits) rfl ?_
    conv=>whnf
    refine J1 33 (v:= .lst 1 (e.Exits.map iA)) (by(conv=>lhs;whnf)<;>rfl) (fun hbv=> ?_)
    have hlen:e.Exits.length<=9223372036854775807:=Jz (enc:=iA) hbv
    refine Jo Jc Ja (fun y:Nat×Int×List (List Int)=>y.1<=e.Exits.length∧Jcp (Ys ly broken n) ly fr tg (e.Exits.drop y.1) y.2.1 y.2.2=some bm) (fun y=>⟨eL [(0,.int .i64 fr),(1,.int .i64 tg),(2,.ptr 0 0),(3,.ptr 1 0),(4,.ptr 2 0),(5,.ptr 3 0),(8,.int .i64 0),(9,.int .i64 y.2.1),(33,.lst 1 (e.Exits.map iA)),(34,.int .i64 (e.Exits.length:Int)),(35,.int .i64 (y.1:Int))],hL [(0,.box [.osl 4]),(1,.box [.lst 1 (broken.map bA)]),(2,.box (JC ly)),(3,.box [.fn 196 [.ptr 0 0,.ptr 1 0,.ptr 2 0,.ptr 3 0]]),(4,.nest (y.2.2.map NE.hid))],5⟩) (fun y=>e.Exits.length - y.1) (0, -1,mm) ⟨Nat.zero_le _,hbm⟩ (Ye [0,1,2,3,4] [] [] [(4,m1,5)] rfl rfl ⟨aq,aq,(aP 0),(aP 1),(aP 2),(aP 3),aq,aq,aq,aq,aq,tv⟩ ⟨Jy rfl rfl rfl ⟨Zx (id:=4) rfl rfl,tv⟩,bN,bN,Jy rfl rfl rfl ⟨Q4 (c:=[.ptr 0 0,.ptr 1 0,.ptr 2 0,.ptr 3 0]) rfl rfl ⟨JN (id:=0) rfl rfl,JN (id:=1) rfl rfl,JN (id:=2) rfl rfl,JN (id:=3) rfl rfl,tv⟩,tv⟩,JgR hx1 rfl rfl rfl rfl,tv⟩) ?_
    rintro⟨k,best,mk⟩ ⟨hk,hG⟩
    try dsimp only at hk hG
    show awp _ _ _ _ _ _ ⟨eL [(0,.int .i64 fr),(1,.int .i64 tg),(2,.ptr 0 0),(3,.ptr 1 0),(4,.ptr 2 0),(5,.ptr 3 0),(8,.int .i64 0),(9,.int .i64 best),(33,.lst 1 (e.Exits.map iA)),(34,.int .i64 (e.Exits.length:Int)),(35,.int .i64 (k:Int))],hL [(0,.box [.osl 4]),(1,.box [.lst 1 (broken.map bA)]),(2,.box (JC ly)),(3,.box [.fn 196 [.ptr 0 0,.ptr 1 0,.ptr 2 0,.ptr 3 0]]),(4,.nest (mk.map NE.hid))],5⟩
    conv=>whnf
    refine⟨fun hb5=> ?_,fun hb5=> ?_⟩
    .
     have hlt:k<e.Exits.length:=by have h:=Wt hb5;omega
     obtain⟨x,hx⟩:=ge hlt
     rw [Jl hx] at hG
     unfold Jcp at hG
     conv=>whnf
     refine⟨k,_,rfl,Jv hx,?_⟩
     conv=>whnf
     obtain⟨bb,hbb,hG⟩:=bs' hG
     refine cE (d0 0 Tryz.func165 (Jd3 ly fr x tg bb hbb)) ?_
     conv=>whnf
     refine xB hG (fun hb6 hG=> ?_) fun hb6 hG=> ?_
     .
      conv=>whnf
      refine⟨((k+1:Nat):Int),wE,?_⟩
      conv=>whnf
      exact⟨(k+1,best,mk),[0,1,2,3,4],[],[],⟨hlt,hG⟩,sl hlt,Ye [0,1,2,3,4] [] [] [] rfl rfl ⟨aq,aq,(aP 0),(aP 1),(aP 2),(aP 3),aq,aq,aq,aq,aq,tv⟩ ⟨Jy rfl rfl rfl ⟨Zx (id:=4) rfl rfl,tv⟩,bN,bN,Jy rfl rfl rfl ⟨Q4 (c:=[.ptr 0 0,.ptr 1 0,.ptr 2 0,.ptr 3 0]) rfl rfl ⟨JN (id:=0) rfl rfl,JN (id:=1) rfl rfl,JN (id:=2) rfl rfl,JN (id:=3) rfl rfl,tv⟩,tv⟩,Qy rfl rfl,tv⟩⟩
     .
      conv=>whnf
      obtain⟨dd,hdd,hG⟩:=bs' hG
      obtain⟨t,ht,hG⟩:=bs' hG
      refine cE (dY false (Jod ly broken dd.2) [0,1,2,3,4] [] 0 Tryz.func196 (ih x tg mk dd hdd) ⟨rfl,rfl,rfl,rfl,(grN rfl),tv⟩ Qd ⟨rfl,rfl,rfl,rfl,Jgk,tv⟩) ?_
      conv=>whnf
      refine xB ht (fun h1 ht=> ?_) fun h1 ht=> ?_
      .
       conv=>whnf
       refine⟨fun h2=> ?_,fun h2=> ?_⟩
       .
        replace ht:=cf h2 ht
        conv=>whnf
        obtain⟨e2,he2,ht⟩:=bs' ht
        obtain rfl:=(si ht).symm
        refine JZ (enc:=Jb) (l:=ly.Nodes) he2 rfl (fun m8 hm8 hx8=> ?_)
        conv=>whnf
        refine⟨w64 (dd.1+e2.Length),rfl,?_⟩
        conv=>whnf
        refine xB hG (fun hb7 hG=> ?_) fun hb7 hG=> ?_
        .
         obtain⟨e3,he3,hG⟩:=bs' hG
         conv=>whnf
         refine JZ (enc:=Jb) (l:=ly.Nodes) he3 rfl (fun m9 hm9 hx9=> ?_)
         conv=>whnf
         refine⟨w64 (dd.1+e3.Length),rfl,?_⟩
         conv=>whnf
         refine⟨((k+1:Nat):Int),wE,?_⟩
         conv=>whnf
         exact⟨(k+1,w64 (dd.1+e3.Length),dd.2),[0,1,2,3,4],[],[],⟨hlt,hG⟩,sl hlt,Ye [0,1,2,3,4] [] [] [] rfl rfl ⟨aq,aq,(aP 0),(aP 1),(aP 2),(aP 3),aq,aq,aq,aq,aq,tv⟩ ⟨Jy rfl rfl rfl ⟨Zx (id:=4) rfl rfl,tv⟩,bN,bN,Jy rfl rfl rfl ⟨Q4 (c:=[.ptr 0 0,.ptr 1 0,.ptr 2 0,.ptr 3 0]) rfl rfl ⟨JN (id:=0) rfl rfl,JN (id:=1) rfl rfl,JN (id:=2) rfl rfl,JN (id:=3) rfl rfl,tv⟩,tv⟩,Qy rfl rfl,tv⟩⟩
        .
         conv=>whnf
         refine⟨((k+1:Nat):Int),wE,?_⟩
         conv=>whnf
         exact⟨(k+1,best,dd.2),[0,1,2,3,4],[],[],⟨hlt,hG⟩,sl hlt,Ye [0,1,2,3,4] [] [] [] rfl rfl ⟨aq,aq,(aP 0),(aP 1),(aP 2),(aP 3),aq,aq,aq,aq,aq,tv⟩ ⟨Jy rfl rfl rfl ⟨Zx (id:=4) rfl rfl,tv⟩,bN,bN,Jy rfl rfl rfl ⟨Q4 (c:=[.ptr 0 0,.ptr 1 0,.ptr 2 0,.ptr 3 0]) rfl rfl ⟨JN (id:=0) rfl rfl,JN (id:=1) rfl rfl,JN (id:=2) rfl rfl,JN (id:=3) rfl rfl,tv⟩,tv⟩,Qy rfl rfl,tv⟩⟩
       .
        replace ht:=ct h2 ht
        obtain rfl:=(si ht).symm
        replace hG:=ct rfl hG
        obtain⟨e3,he3,hG⟩:=bs' hG
        conv=>whnf
        refine JZ (enc:=Jb) (l:=ly.Nodes) he3 rfl (fun m9 hm9 hx9=> ?_)
        conv=>whnf
        refine⟨w64 (dd.1+e3.Length),rfl,?_⟩
        conv=>whnf
        refine⟨((k+1:Nat):Int),wE,?_⟩
        conv=>whnf
        exact⟨(k+1,w64 (dd.1+e3.Length),dd.2),[0,1,2,3,4],[],[],⟨hlt,hG⟩,sl hlt,Ye [0,1,2,3,4] [] [] [] rfl rfl ⟨aq,aq,(aP 0),(aP 1),(aP 2),(aP 3),aq,aq,aq,aq,aq,tv⟩ ⟨Jy rfl rfl rfl ⟨Zx (id:=4) rfl rfl,tv⟩,bN,bN,Jy rfl rfl rfl ⟨Q4 (c:=[.ptr 0 0,.ptr 1 0,.ptr 2 0,.ptr 3 0]) rfl rfl ⟨JN (id:=0) rfl rfl,JN (id:=1) rfl rfl,JN (id:=2) rfl rfl,JN (id:=3) rfl rfl,tv⟩,tv⟩,Qy rfl rfl,tv⟩⟩
      .
       obtain rfl:=(si ht).symm
       replace hG:=cf rfl hG
       conv=>whnf
       refine⟨((k+1:Nat):Int),wE,?_⟩
       conv=>whnf
       exact⟨(k+1,best,dd.2),[0,1,2,3,4],[],[],⟨hlt,hG⟩,sl hlt,Ye [0,1,2,3,4] [] [] [] rfl rfl ⟨aq,aq,(aP 0),(aP 1),(aP 2),(aP 3),aq,aq,aq,aq,aq,tv⟩ ⟨Jy rfl rfl rfl ⟨Zx (id:=4) rfl rfl,tv⟩,bN,bN,Jy rfl rfl rfl ⟨Q4 (c:=[.ptr 0 0,.ptr 1 0,.ptr 2 0,.ptr 3 0]) rfl rfl ⟨JN (id:=0) rfl rfl,JN (id:=1) rfl rfl,JN (id:=2) rfl rfl,JN (id:=3) rfl rfl,tv⟩,tv⟩,Qy rfl rfl,tv⟩⟩
    .
     rw [Jq (show e.Exits.length<=k by have h:=Wf hb5;omega)] at hG
     unfold Jcp at hG
     obtain rfl:=si hG
     try dsimp only at hrow2 hd2
     conv=>whnf
     obtain⟨m7,hm7,hx7⟩:=Jau hrow2
     refine⟨_,Jd5 Jc rfl rfl rfl rfl rfl rfl hm7 hx7,?_⟩
     conv=>whnf
     refine⟨_,Jf6 Jc rfl rfl rfl rfl rfl hx7,?_⟩
     conv=>whnf
     refine Qc (enc:=iA) (l:=row2) hd2 rfl (fun m6 hm6 hx6=> ?_)
     conv=>whnf
     refine Z6 (enc:=iA) (l:=row2) (x':=best) (i:=tg) hm6 hx6 rfl (Wl rfl) rfl ?_
     conv=>whnf
     exact ZU [0,1,2,3,4] [] [] [(4,m7,5)] rfl rfl (.ni _ rfl) ⟨.inr (Jy rfl rfl rfl ⟨Zx (id:=4) rfl rfl,tv⟩),.inr bN,.inr bN,.inr (Jy rfl rfl rfl ⟨Q4 (c:=[.ptr 0 0,.ptr 1 0,.ptr 2 0,.ptr 3 0]) rfl rfl ⟨JN (id:=0) rfl rfl,JN (id:=1) rfl rfl,JN (id:=2) rfl rfl,JN (id:=3) rfl rfl,tv⟩,tv⟩),.inr (Jeg hm7 rfl rfl rfl rfl),tv⟩
theorem JsH {P:Program} {tab:Tab} (hT:J0 P tab) {g:Nat} {o:Oper} {σ:ASt} {x:Operand} {t:TypeId} {ti:TI} {id m:Nat} {u:AV} {l:List NE}
  (ho:o.op= .load t x) (ht:tab t=some ti) (hg:ti.agg=false) (hx0:ev σ.env x= .eptr id 1 m 0) (hH0:σ.H id=some (.nest l)) (hm:l[m]? =some (.raw u)):
  YD P g o σ ⟨u,[],[id],σ.n⟩:=by
 refine JB (v:=u) (ids:=[id]) ?_
 intro w F β a hx hK
 have h1:=hx x (by simp [ho,Op.operands])
 rw [hx0] at h1
 obtain⟨h,q1,r1,r2,r3,r4,r5,r6,r7,r8,r9⟩:=hK id (by simp) _ hH0
 have hml:=(List.getElem?_eq_some_iff.1 hm).1
 obtain⟨kx,hkx⟩:∃kx,h.kids[m]? =some kx:=⟨_,Wg (by rw [r5];exact hml)⟩
 generalize hpv:a.eval x=pv at h1
 cases h1 with
 |eptr _ _ _ _ b h' f1 f2=>
 rw [q1] at f1
 cases f1
 obtain⟨arr,ty,s1,s2,s3⟩:=r9 b f2
 obtain⟨v,w1,w2⟩:=s3 m _ _ hm hkx
 have hv:RV w F β u v:=w2.2
 obtain⟨ii,dd,z,g1,g2,_,g3,g4,_,_⟩:=JP (hT t ti ht)
 refine⟨v,?_,hv⟩
 simp only [Nat.mul_one,Nat.add_zero] at hpv
 have hl:(loadVar t ⟨b,m,none⟩).run P w= .ok v w:=by
  simp [loadVar,Jdg w g2,<-g3,hg,load,Sem.run,World.cell?,s1,w1]
 simp [execOp,ho,hpv,Instr.loadAt,Instr.sureAddr,hl]
theorem Jsr {L:List (List Int)} {m:Nat} {r:List Int} {q:NE} (h:L[m]? =some r):((L.map NE.hid).set m q)[m]? =some q:=by
 rw [List.getElem?_set_self (by rw [List.length_map];exact(List.getElem?_eq_some_iff.1 h).1)]
theorem JiW (ly:Layout) (broken:List Bool) (r:List (List Int)) (hF:Jdu ly=some r):
  AC Tryz.prog 164 [.agg (JC ly),.lst 1 (broken.map bA)] [] (.fn 196 [.ptr 0 0,.ptr 1 0,.ptr 2 0,.ptr 3 0]) (Jod ly broken r):=by
 unfold Jdu at hF
 obtain⟨mm0,hmm,hF⟩:=bs' hF
 obtain⟨row0,hrow,hF⟩:=bs' hF
 obtain rfl:=si hF
 refine Ju Jc Ja Tryz.func164 rfl Tryz.ntmps164 rfl ?_
 conv=>whnf
 refine Jm (enc:=Jb) (l:=ly.Nodes) rfl ?_
 conv=>whnf
 refine⟨_,JuM Jc rfl rfl rfl rfl rfl hmm (by decide),?_⟩
 conv=>whnf
 refine⟨_,JsG Jc rfl rfl rfl rfl rfl,?_⟩
 conv=>whnf
 refine Jo Jc Ja (fun y:Nat×List (List Int)=>y.1<=mm0.length∧y.2.length=mm0.length∧JjU row0 (mm0.length - y.1) y.1 y.2=JjU row0 mm0.length 0 mm0) (fun y=>⟨eL [(2,.ptr 2 0),(3,.ptr 1 0),(5,.int .i64 (ly.Nodes.length:Int)),(6,.ptr 0 0),(16,.int .i64 (mm0.length:Int)),(17,.int .i64 (y.1:Int))],hL [(0,.box [.osl 3]),(1,.box [.lst 1 (broken.map bA)]),(2,.box (JC ly)),(3,.nest (y.2.map NE.hid))],4⟩) (fun y=>mm0.length - y.1) (0,mm0) ⟨Nat.zero_le _,rfl,rfl⟩ (Ye [3,1,0,2] [] [] [] rfl rfl ⟨(aP 0),(aP 1),aq,(aP 3),aq,aq,tv⟩ ⟨Jy rfl rfl rfl ⟨Zx (id:=2) rfl rfl,tv⟩,bN,bN,Qy rfl rfl,tv⟩) ?_
 rintro⟨i,mk⟩ ⟨hk,hlen,hG⟩
 try dsimp only at hk hlen hG
 show awp _ _ _ _ _ _ ⟨eL [(2,.ptr 2 0),(3,.ptr 1 0),(5,.int .i64 (ly.Nodes.length:Int)),(6,.ptr 0 0),(16,.int .i64 (mm0.length:Int)),(17,.int .i64 (i:Int))],hL [(0,.box [.osl 3]),(1,.box [.lst 1 (broken.map bA)]),(2,.box (JC ly)),(3,.nest (mk.map NE.hid))],4⟩
 conv=>whnf
 refine⟨fun hb=> ?_,fun hb=> ?_⟩
 .
  have hlt:i<mm0.length:=by have h:=Wt hb;omega
  obtain⟨old,hold⟩:∃y,mk[i]? =some y:=⟨_,Wg (by omega)⟩
  conv=>whnf
  refine JuP (enc:=iA) hrow rfl (by decide) ?_
  conv=>whnf
  refine⟨_,Jd5 Jc rfl rfl rfl rfl rfl rfl (m:=i) rfl hold,?_⟩
  conv=>whnf
  refine⟨_,JmG Jc rfl rfl rfl rfl rfl rfl hold,?_⟩
  conv=>whnf
  refine⟨by kernel_rfl,?_⟩
  conv=>whnf
  refine⟨_,JeB Jc rfl rfl rfl rfl rfl rfl (m:=i) rfl hold,?_⟩
  conv=>whnf
  refine⟨_,JsH Jc rfl rfl rfl rfl rfl (Jsr hold),?_⟩
  conv=>whnf
  refine Jm (enc:=iA) (l:=row0) rfl ?_
  conv=>whnf
  refine Jo Jc Ja (fun y:Nat×List Int×List (List Int)=>y.1<=row0.length∧y.2.1.length=row0.length∧y.2.2=mk.set i y.2.1∧Jmn (row0.length - y.1) y.1 y.2.1=Jmn row0.length 0 row0) (fun y=>⟨eL [(2,.ptr 2 0),(3,.ptr 1 0),(5,.int .i64 (ly.Nodes.length:Int)),(6,.ptr 0 0),(16,.int .i64 (mm0.length:Int)),(17,.int .i64 (i:Int)),(7,.int .i64 (i:Int)),(29,.int .i64 (row0.length:Int)),(30,.int .i64 (y.1:Int))],hL [(0,.box [.osl 3]),(1,.box [.lst 1 (broken.map bA)]),(2,.box (JC ly)),(3,.nest (y.2.2.map NE.hid))],4⟩) (fun y=>row0.length - y.1) (0,row0,mk.set i row0) ⟨Nat.zero_le _,rfl,rfl,rfl⟩ (Ye [0,1,2,3] [] [] [(3,i,4)] rfl rfl ⟨(aP 2),(aP 1),aq,(aP 0),aq,aq,aq,aq,aq,tv⟩ ⟨Jy rfl rfl rfl ⟨Zx (id:=3) rfl rfl,tv⟩,bN,bN,Jef rfl rfl rfl (.inr ⟨rfl,Wl rfl⟩) rfl,tv⟩) ?_
  rintro⟨j,row,M⟩ ⟨hj,hrl,hM,hI⟩
  try dsimp only at hj hrl hM hI
  show awp _ _ _ _ _ _ ⟨eL [(2,.ptr 2 0),(3,.ptr 1 0),(5,.int .i64 (ly.Nodes.length:Int)),(6,.ptr 0 0),(16,.int .i64 (mm0.length:Int)),(17,.int .i64 (i:Int)),(7,.int .i64 (i:Int)),(29,.int .i64 (row0.length:Int)),(30,.int .i64 (j:Int))],hL [(0,.box [.osl 3]),(1,.box [.lst 1 (broken.map bA)]),(2,.box (JC ly)),(3,.nest (M.map NE.hid))],4⟩
  conv=>whnf
  refine⟨fun hb2=> ?_,fun hb2=> ?_⟩
  .
   have hlt2:j<row0.length:=by have h:=Wt hb2;omega
   obtain⟨v,hv⟩:∃y,row[j]? =some y:=⟨_,Wg (by omega)⟩
   have hx:M[i]? =some row:=by rw [hM,List.getElem?_set_self (by omega)]
   conv=>whnf
   refine⟨_,Jd5 Jc rfl rfl rfl rfl rfl rfl (m:=i) rfl hx,?_⟩
   conv=>whnf
   refine⟨_,Jf6 Jc rfl rfl rfl rfl rfl hx,?_⟩
   conv=>whnf
   refine⟨j,rfl,by rw [List.length_map];omega,?_⟩
   conv=>whnf
   refine Z6 (enc:=iA) (l:=row) (x':=(-2:Int)) (i:=(j:Int)) rfl hv rfl (Wl rfl) rfl ?_
   conv=>whnf
   refine⟨((j+1:Nat):Int),JkU (by omega) (by omega) (by simp only [mkL] at hrow;split at hrow;(· cases hrow;simp at hlt2;omega);(· cases hrow)),?_⟩
   conv=>whnf
   exact⟨(j+1,row.set j (-2),M.set i (row.set j (-2))),[0,1,2,3],[],[],⟨hlt2,by simpa using hrl,by rw [hM,List.set_set],by rw [<-hI,show row0.length - j=(row0.length - (j+1))+1 by omega];rfl⟩,by show row0.length - (j+1)<row0.length - j;omega,Ye [0,1,2,3] [] [] [(3,i,4)] rfl rfl ⟨(aP 2),(aP 1),aq,(aP 0),aq,aq,aq,aq,aq,tv⟩ ⟨Jy rfl rfl rfl ⟨Zx (id:=3) rfl rfl,tv⟩,bN,bN,Jef rfl rfl rfl (.inl rfl) rfl,tv⟩⟩
  .
   have hje:row0.length - j=0:=by have h:=Wf hb2;omega
   rw [hje] at hI
   have hrow':row=Jmn row0.length 0 row0:=hI
   conv=>whnf
   refine⟨((i+1:Nat):Int),JkU (by omega) (by omega) (by simp only [mkL] at hmm;split at hmm;(· cases hmm;simp at hlt;omega);(· cases hmm)),?_⟩
   conv=>whnf
   exact⟨(i+1,M),[0,1,2,3],[],[],⟨hlt,by rw [hM];simpa using hlen,by rw [<-hG,hM,hrow',show mm0.length - i=(mm0.length - (i+1))+1 by omega];rfl⟩,by show mm0.length - (i+1)<mm0.length - i;omega,Ye [0,1,2,3] [] [] [] rfl rfl ⟨(aP 2),(aP 1),aq,(aP 0),aq,aq,tv⟩ ⟨Jy rfl rfl rfl ⟨Zx (id:=3) rfl rfl,tv⟩,bN,bN,Qy rfl rfl,tv⟩⟩
 .
  have hie:mm0.length - i=0:=by have h:=Wf hb;omega
  rw [hie] at hG
  have hmk:mk=JjU row0 mm0.length 0 mm0:=hG
  subst hmk
  conv=>whnf
  exact ZU [0,1,2,4,3] [] [] [] rfl rfl (Q4 (c:=[.ptr 0 0,.ptr 1 0,.ptr 2 0,.ptr 4 0]) rfl rfl ⟨JN (id:=0) rfl rfl,JN (id:=1) rfl rfl,JN (id:=2) rfl rfl,JN (id:=4) rfl rfl,tv⟩) ⟨.inr (Jy rfl rfl rfl ⟨Zx (id:=3) rfl rfl,tv⟩),.inr bN,.inr bN,.inr (Jy rfl rfl rfl ⟨Q4 (c:=[.ptr 0 0,.ptr 1 0,.ptr 2 0,.ptr 4 0]) rfl rfl ⟨JN (id:=0) rfl rfl,JN (id:=1) rfl rfl,JN (id:=2) rfl rfl,JN (id:=4) rfl rfl,tv⟩,tv⟩),.inr (Qy rfl rfl),tv⟩
theorem JfP (ly:Layout) (broken:List Bool) (fr tg:Int) (r:Int) (hF:Jbt ly broken fr tg=some r):
  AC Tryz.prog 117 [.agg (JC ly),.lst 1 (broken.map bA),.int .i64 fr,.int .i64 tg] [] (.int .i64 r) []:=by
 unfold Jbt at hF
 obtain⟨ak,hak,hF⟩:=bs' hF
 refine Ju Jc Ja Tryz.func117 rfl Tryz.ntmps117 rfl ?_
 conv=>whnf
 refine cE (d0 0 Tryz.func163 (Jh5 ly fr tg ak hak)) ?_
 conv=>whnf
 refine⟨fun h1=> ?_,fun h1=> ?_⟩
 .
  replace hF:=cf h1 hF
  conv=>whnf
  refine xB hF (fun h2 hF=> ?_) fun h2 hF=> ?_
  .
   obtain rfl:=si hF
   conv=>whnf
   exact Jk [] [] [] rfl (.ni _ rfl) trivial
  .
   conv=>whnf
   obtain⟨m0,hm0,hF⟩:=bs' hF
   obtain⟨b0,hb0,hF⟩:=bs' hF
   obtain⟨e,he,hF⟩:=bs' hF
   refine cE (dY false [.box [.osl 6],.box [.lst 1 (broken.map bA)],.box (JC ly),.box [.fn 196 [.ptr 2 0,.ptr 3 0,.ptr 4 0,.ptr 5 0]],.nest (m0.map NE.hid)] [] [] 5 Tryz.func164 (JiW ly broken m0 hm0) trivial Qd ⟨rfl,rfl,rfl,rfl,Jgk,tv⟩) ?_
   conv=>whnf
   refine cE (dY false [.box [.osl 6],.box [.lst 1 (broken.map bA)],.box (JC ly),.box [.fn 196 [.ptr 2 0,.ptr 3 0,.ptr 4 0,.ptr 5 0]],.nest (b0.2.map NE.hid)] [2,3,4,5,6] [] 0 Tryz.func196 (Jed ly broken (ly.Nodes.length+1) fr tg m0 b0 hb0) ⟨rfl,rfl,rfl,rfl,(grN rfl),tv⟩ Qd ⟨rfl,rfl,rfl,rfl,Jgk,tv⟩) ?_
   conv=>whnf
   refine JZ (enc:=Jb) (l:=ly.Nodes) he rfl (fun m5 hm5 hx5=> ?_)
   conv=>whnf
   refine Jm (enc:=iA) (l:=e.Exits) rfl ?_
   conv=>whnf
   refine J1 36 (v:= .lst 1 (e.Exits.map iA)) (by(conv=>lhs;whnf)<;>rfl) (fun hbv=> ?_)
   have hlen:e.Exits.length<=9223372036854775807:=Jz (enc:=iA) hbv
   refine Jo Jc Ja (fun y:Nat×List (List Int)=>y.1<=e.Exits.length∧JeF ly broken fr tg b0.1 (e.Exits.drop y.1) y.1 y.2=some r) (fun y=>⟨eL [(2,.int .i64 fr),(3,.int .i64 tg),(4,.ptr 5 0),(8,.int .i64 0),(9,.fn 196 [.ptr 0 0,.ptr 1 0,.ptr 2 0,.ptr 3 0]),(10,.int .i64 b0.1),(36,.lst 1 (e.Exits.map iA)),(37,.int .i64 (e.Exits.length:Int)),(38,.int .i64 (y.1:Int))],hL [(0,.box [.osl 4]),(1,.box [.lst 1 (broken.map bA)]),(2,.box (JC ly)),(3,.box [.fn 196 [.ptr 0 0,.ptr 1 0,.ptr 2 0,.ptr 3 0]]),(4,.nest (y.2.map NE.hid)),(5,.box (JC ly))],6⟩) (fun y=>e.Exits.length - y.1) (0,b0.2) ⟨Nat.zero_le _,hF⟩ (Ye [2,3,4,5,6,0] [] [] [] rfl rfl ⟨aq,aq,(aP 0),aq,(Q4 (c:=[.ptr 2 0,.ptr 3 0,.ptr 4 0,.ptr 5 0]) (by(conv=>lhs;whnf)<;>rfl) rfl ⟨JN (id:=2) rfl rfl,JN (id:=3) rfl rfl,JN (id:=4) rfl rfl,JN (id:=5) rfl rfl,tv⟩),aq,aq,aq,aq,tv⟩ ⟨Jy rfl rfl rfl ⟨Zx (id:=6) rfl rfl,tv⟩,bN,bN,Jy rfl rfl rfl ⟨Q4 (c:=[.ptr 2 0,.ptr 3 0,.ptr 4 0,.ptr 5 0]) rfl rfl ⟨JN (id:=2) rfl rfl,JN (id:=3) rfl rfl,JN (id:=4) rfl rfl,JN (id:=5) rfl rfl,tv⟩,tv⟩,Qy rfl rfl,bN,tv⟩) ?_
   rintro⟨k,mk⟩ ⟨hk,hG⟩
   try dsimp only at hk hG
   show awp _ _ _ _ _ _ ⟨eL [(2,.int .i64 fr),(3,.int .i64 tg),(4,.ptr 5 0),(8,.int .i64 0),(9,.fn 196 [.ptr 0 0,.ptr 1 0,.ptr 2 0,.ptr 3 0]),(10,.int .i64 b0.1),(36,.lst 1 (e.Exits.map iA)),(37,.int .i64 (e.Exits.length:Int)),(38,.int .i64 (k:Int))],hL [(0,.box [.osl 4]),(1,.box [.lst 1 (broken.map bA)]),(2,.box (JC ly)),(3,.box [.fn 196 [.ptr 0 0,.ptr 1 0,.ptr 2 0,.ptr 3 0]]),(4,.nest (mk.map NE.hid)),(5,.box (JC ly))],6⟩
   conv=>whnf
   refine⟨fun hb5=> ?_,fun hb5=> ?_⟩
   .
    have hlt:k<e.Exits.length:=by have h:=Wt hb5;omega
    obtain⟨x,hx⟩:=ge hlt
    rw [Jl hx] at hG
    unfold JeF at hG
    conv=>whnf
    refine⟨k,_,rfl,Jv hx,?_⟩
    conv=>whnf
    refine⟨fun h3=> ?_,fun h3=> ?_⟩
    .
     replace hG:=cf h3 hG
     conv=>whnf
     obtain⟨bb,hbb,hG⟩:=bs' hG
     refine cE (d0 0 Tryz.func165 (Jd3 ly fr x tg bb hbb)) ?_
     conv=>whnf
     refine xB hG (fun hb6 hG=> ?_) fun hb6 hG=> ?_
     .
      conv=>whnf
      refine⟨((k+1:Nat):Int),wE,?_⟩
      conv=>whnf
      exact⟨(k+1,mk),[0,1,2,3,4,5],[],[],⟨hlt,hG⟩,sl hlt,Ye [0,1,2,3,4,5] [] [] [] rfl rfl ⟨aq,aq,(aP 5),aq,(Q4 (c:=[.ptr 0 0,.ptr 1 0,.ptr 2 0,.ptr 3 0]) (by(conv=>lhs;whnf)<;>rfl) rfl ⟨JN (id:=0) rfl rfl,JN (id:=1) rfl rfl,JN (id:=2) rfl rfl,JN (id:=3) rfl rfl,tv⟩),aq,aq,aq,aq,tv⟩ ⟨Jy rfl rfl rfl ⟨Zx (id:=4) rfl rfl,tv⟩,bN,bN,Jy rfl rfl rfl ⟨Q4 (c:=[.ptr 0 0,.ptr 1 0,.ptr 2 0,.ptr 3 0]) rfl rfl ⟨JN (id:=0) rfl rfl,JN (id:=1) rfl rfl,JN (id:=2) rfl rfl,JN (id:=3) rfl rfl,tv⟩,tv⟩,Qy rfl rfl,bN,tv⟩⟩
     .
      conv=>whnf
      obtain⟨dd,hdd,hG⟩:=bs' hG
      obtain⟨t,ht,hG⟩:=bs' hG
      refine cE (dY false (Jod ly broken dd.2) [0,1,2,3,4] [] 0 Tryz.func196 (Jed ly broken (ly.Nodes.length+1) x tg mk dd hdd) ⟨rfl,rfl,rfl,rfl,(grN rfl),tv⟩ Qd ⟨rfl,rfl,rfl,rfl,Jgk,tv⟩) ?_
      conv=>whnf
      refine xB ht (fun h2 ht=> ?_) fun h2 ht=> ?_
      .
       conv=>whnf
       obtain⟨e2,he2,ht⟩:=bs' ht
       obtain rfl:=(si ht).symm
       refine JZ (enc:=Jb) (l:=ly.Nodes) he2 rfl (fun m8 hm8 hx8=> ?_)
       conv=>whnf
       refine⟨w64 (dd.1+e2.Length),rfl,?_⟩
       conv=>whnf
       refine xB hG (fun hb7 hG=> ?_) fun hb7 hG=> ?_
       .
        obtain rfl:=si hG
        conv=>whnf
        exact Jk [] [] [] rfl (.ni _ rfl) trivial
       .
        conv=>whnf
        refine⟨((k+1:Nat):Int),wE,?_⟩
        conv=>whnf
        exact⟨(k+1,dd.2),[0,1,2,3,4,5],[],[],⟨hlt,hG⟩,sl hlt,Ye [0,1,2,3,4,5] [] [] [] rfl rfl ⟨aq,aq,(aP 5),aq,(Q4 (c:=[.ptr 0 0,.ptr 1 0,.ptr 2 0,.ptr 3 0]) (by(conv=>lhs;whnf)<;>rfl) rfl ⟨JN (id:=0) rfl rfl,JN (id:=1) rfl rfl,JN (id:=2) rfl rfl,JN (id:=3) rfl rfl,tv⟩),aq,aq,aq,aq,tv⟩ ⟨Jy rfl rfl rfl ⟨Zx (id:=4) rfl rfl,tv⟩,bN,bN,Jy rfl rfl rfl ⟨Q4 (c:=[.ptr 0 0,.ptr 1 0,.ptr 2 0,.ptr 3 0]) rfl rfl ⟨JN (id:=0) rfl rfl,JN (id:=1) rfl rfl,JN (id:=2) rfl rfl,JN (id:=3) rfl rfl,tv⟩,tv⟩,Qy rfl rfl,bN,tv⟩⟩
      .
       obtain rfl:=(si ht).symm
       replace hG:=cf rfl hG
       conv=>whnf
       refine⟨((k+1:Nat):Int),wE,?_⟩
       conv=>whnf
       exact⟨(k+1,dd.2),[0,1,2,3,4,5],[],[],⟨hlt,hG⟩,sl hlt,Ye [0,1,2,3,4,5] [] [] [] rfl rfl ⟨aq,aq,(aP 5),aq,(Q4 (c:=[.ptr 0 0,.ptr 1 0,.ptr 2 0,.ptr 3 0]) (by(conv=>lhs;whnf)<;>rfl) rfl ⟨JN (id:=0) rfl rfl,JN (id:=1) rfl rfl,JN (id:=2) rfl rfl,JN (id:=3) rfl rfl,tv⟩),aq,aq,aq,aq,tv⟩ ⟨Jy rfl rfl rfl ⟨Zx (id:=4) rfl rfl,tv⟩,bN,bN,Jy rfl rfl rfl ⟨Q4 (c:=[.ptr 0 0,.ptr 1 0,.ptr 2 0,.ptr 3 0]) rfl rfl ⟨JN (id:=0) rfl rfl,JN (id:=1) rfl rfl,JN (id:=2) rfl rfl,JN (id:=3) rfl rfl,tv⟩,tv⟩,Qy rfl rfl,bN,tv⟩⟩
    .
     replace hG:=ct h3 hG
     conv=>whnf
     refine⟨((k+1:Nat):Int),wE,?_⟩
     conv=>whnf
     exact⟨(k+1,mk),[0,1,2,3,4,5],[],[],⟨hlt,hG⟩,sl hlt,Ye [0,1,2,3,4,5] [] [] [] rfl rfl ⟨aq,aq,(aP 5),aq,(Q4 (c:=[.ptr 0 0,.ptr 1 0,.ptr 2 0,.ptr 3 0]) (by(conv=>lhs;whnf)<;>rfl) rfl ⟨JN (id:=0) rfl rfl,JN (id:=1) rfl rfl,JN (id:=2) rfl rfl,JN (id:=3) rfl rfl,tv⟩),aq,aq,aq,aq,tv⟩ ⟨Jy rfl rfl rfl ⟨Zx (id:=4) rfl rfl,tv⟩,bN,bN,Jy rfl rfl rfl ⟨Q4 (c:=[.ptr 0 0,.ptr 1 0,.ptr 2 0,.ptr 3 0]) rfl rfl ⟨JN (id:=0) rfl rfl,JN (id:=1) rfl rfl,JN (id:=2) rfl rfl,JN (id:=3) rfl rfl,tv⟩,tv⟩,Qy rfl rfl,bN,tv⟩⟩
   .
    rw [Jq (show e.Exits.length<=k by have h:=Wf hb5;omega)] at hG
    unfold JeF at hG
    obtain rfl:=si hG
    conv=>whnf
    exact Jk [] [] [] rfl (.ni _ rfl) trivial
 .
  replace hF:=ct h1 hF
  obtain rfl:=si hF
  conv=>whnf
  exact Jk [] [] [] rfl (.ni _ rfl) trivial
theorem Jhc (x0:Layout) (x1:Int) (x2:Int) (x3:(List Int)) (x4:(List Bool)) (x5:(List Bool)) (r:Bool) (hF:YU x0 x1 x2 x3 x4 x5=some r):AC Tryz.prog 78 [.agg (JC x0),.int .i64 x1,.int .i64 x2,.lst 1 (x3.map iA),.lst 1 (x4.map bA),.lst 1 (x5.map bA)] [] (.bool r) ([]):=by
 refine Ju Jc Ja Tryz.func78 rfl Tryz.ntmps78 rfl ?_
 unfold YU at hF
 conv=>whnf
 obtain⟨e1,he1,hF⟩:=bs' hF
 refine JZ (enc:=Jb) (l:=x0.Nodes) he1 rfl (fun m_e_1 hm_e_1 hx_e_1=> ?_)
 conv=>whnf
 refine xB hF (fun b7 hF=> ?_) fun b7 hF=> ?_
 conv=>whnf
 obtain⟨r_2,hr2,hF⟩:=bs' hF
 refine cE (d0 0 Tryz.func80 (JfW x4 x2 r_2 hr2)) ?_
 conv=>whnf
 refine⟨fun b8=> ?_,fun b8=> ?_⟩
 replace hF:=cf b8 hF
 conv=>whnf
 refine⟨fun b9=> ?_,fun b9=> ?_⟩
 replace hF:=cf b9 hF
 conv=>whnf
 refine Jm (enc:=iA) (l:=x3) rfl ?_
 conv=>whnf
 refine xB hF (fun b10 hF=> ?_) fun b10 hF=> ?_
 conv=>whnf
 obtain rfl:=si hF
 exact rZ
 conv=>whnf
 refine⟨_,rfl,?_⟩
 conv=>whnf
 obtain⟨e3,he3,hF⟩:=bs' hF
 refine JZ (enc:=iA) (l:=x3) he3 rfl (fun m_e_3 hm_e_3 hx_e_3=> ?_)
 conv=>whnf
 obtain⟨r_4,hr4,hF⟩:=bs' hF
 refine cE (d0 0 Tryz.func117 (JfP x0 x5 x1 e3 r_4 hr4)) ?_
 conv=>whnf
 refine⟨by kernel_rfl,?_⟩
 conv=>whnf
 obtain rfl:=si hF
 exact rZ
 replace hF:=ct b9 hF
 conv=>whnf
 obtain rfl:=si hF
 exact rZ
 replace hF:=ct b8 hF
 conv=>whnf
 obtain rfl:=si hF
 exact rZ
 conv=>whnf
 refine⟨fun b11=> ?_,fun b11=> ?_⟩
 replace hF:=cf b11 hF
 conv=>whnf
 refine Jm (enc:=iA) (l:=x3) rfl ?_
 conv=>whnf
 refine xB hF (fun b12 hF=> ?_) fun b12 hF=> ?_
 conv=>whnf
 obtain rfl:=si hF
 exact rZ
 conv=>whnf
 refine⟨_,rfl,?_⟩
 conv=>whnf
 obtain⟨e5,he5,hF⟩:=bs' hF
 refine JZ (enc:=iA) (l:=x3) he5 rfl (fun m_e_5 hm_e_5 hx_e_5=> ?_)
 conv=>whnf
 obtain⟨r_6,hr6,hF⟩:=bs' hF
 refine cE (d0 0 Tryz.func117 (JfP x0 x5 x1 e5 r_6 hr6)) ?_
 conv=>whnf
 refine⟨by kernel_rfl,?_⟩
 conv=>whnf
 obtain rfl:=si hF
 exact rZ
 replace hF:=ct b11 hF
 conv=>whnf
 obtain rfl:=si hF
 exact rZ
theorem JeW (x0:Int) (x1:Layout) (x2:Int) (x3:(List Int)) (x4:(List Bool)) (x5:(List Bool)) (r:Bool) (hF:Zp x0 x1 x2 x3 x4 x5=some r):AC Tryz.prog 77 [.int .i64 x0,.iptr [.lst 5 (x1.Nodes.map Jb),.lst 3 (x1.Devices.map Jd)],.iptr [.int .i64 x2],.iptr [.lst 1 (x3.map iA)],.iptr [.lst 1 (x4.map bA)],.iptr [.lst 1 (x5.map bA)]] [] (.bool r) ([]):=by
 refine Ju Jc Ja Tryz.func77 rfl Tryz.ntmps77 rfl ?_
 unfold Zp at hF
 conv=>whnf
 obtain⟨r_1,hr1,hF⟩:=bs' hF
 refine cE (d0 0 Tryz.func78 (Jhc x1 x2 x0 x3 x4 x5 r_1 hr1)) ?_
 conv=>whnf
 obtain rfl:=si hF
 exact rZ
theorem Jdq (x0:(List Int)) (x1:Layout) (x2:Int) (x3:(List Int)) (x4:(List Bool)) (x5:(List Bool)) (r:Int) (hF:ZE x0 x1 x2 x3 x4 x5=some r):AC Tryz.prog 115 [.lst 1 (x0.map iA),.fn 77 [.iptr [.lst 5 (x1.Nodes.map Jb),.lst 3 (x1.Devices.map Jd)],.iptr [.int .i64 x2],.iptr [.lst 1 (x3.map iA)],.iptr [.lst 1 (x4.map bA)],.iptr [.lst 1 (x5.map bA)]]] [] (.int .i64 r) ([]):=by
 refine Ju Jc Ja Tryz.func115 rfl Tryz.ntmps115 rfl ?_
 unfold ZE at hF
 conv=>whnf
 refine Jm (enc:=iA) (l:=x0) rfl ?_
 conv=>whnf
 obtain⟨c1,hc_1,hF⟩:=Jr hF
 refine J1 0 (v:= .lst 1 (x0.map iA)) (by(conv=>lhs;whnf)<;>rfl) (fun hb=> ?_)
 have hbd_k_2:x0.length<=9223372036854775807:=Jz (enc:=iA) (hb)
 refine Jo Jc Ja (fun y:Nat=>y<=x0.length∧Qa x1 x2 x3 x4 x5 (x0.drop y) y=some c1) (fun y=>⟨eL [(0,.lst 1 (x0.map iA)),(1,.fn 77 [.iptr [.lst 5 (x1.Nodes.map Jb),.lst 3 (x1.Devices.map Jd)],.iptr [.int .i64 x2],.iptr [.lst 1 (x3.map iA)],.iptr [.lst 1 (x4.map bA)],.iptr [.lst 1 (x5.map bA)]]),(7,.int .i64 (x0.length:Int)),(8,.int .i64 (y:Int))],hL [],0⟩) (fun y=>x0.length - y) 0 ⟨Nat.zero_le _,hc_1⟩ (wK [] [] []) ?_
 rintro k2 ⟨hk_k_2,hL1⟩
 try dsimp only at hk_k_2 hL1
 show awp _ _ _ _ _ _ ⟨eL [(0,.lst 1 (x0.map iA)),(1,.fn 77 [.iptr [.lst 5 (x1.Nodes.map Jb),.lst 3 (x1.Devices.map Jd)],.iptr [.int .i64 x2],.iptr [.lst 1 (x3.map iA)],.iptr [.lst 1 (x4.map bA)],.iptr [.lst 1 (x5.map bA)]]),(7,.int .i64 (x0.length:Int)),(8,.int .i64 (k2:Int))],hL [],0⟩
 conv=>whnf
 refine⟨fun h=> ?_,fun h=> ?_⟩
 have lk2:k2<x0.length:=by have h:=Wt h;omega
 obtain⟨e3,he3⟩:=ge lk2
 rw [Jl he3,Qa.eq_2] at hL1
 conv=>whnf
 refine⟨k2,_,rfl,Jv he3,?_⟩
 conv=>whnf
 obtain⟨r_4,hr4,hL1⟩:=bs' hL1
 refine cE (d0 0 Tryz.func77 (JeW e3 x1 x2 x3 x4 x5 r_4 hr4)) ?_
 conv=>whnf
 refine xB hL1 (fun b7 hL1=> ?_) fun b7 hL1=> ?_
 conv=>whnf
 obtain rfl:=si hL1
 replace hF:=Jn hF
 obtain rfl:=si hF
 exact rZ
 conv=>whnf
 refine⟨((k2+1:Nat):Int),wE,?_⟩
 conv=>whnf
 exact⟨k2+1,_,_,_,⟨lk2,hL1⟩,sl lk2,wK [] [] []⟩
 rw [Jq (nl h),Qa.eq_1] at hL1
 conv=>whnf
 obtain rfl:=si hL1
 replace hF:=Jw hF
 try dsimp only at hF
 obtain rfl:=si hF
 exact rZ
theorem Jab (x0:(List Int)) (x1:Layout) (x2:Int) (x3:(List Int)) (x4:(List Bool)) (x5:(List Bool)) (r:Bool) (hF:Qs x0 x1 x2 x3 x4 x5=some r):AC Tryz.prog 76 [.lst 1 (x0.map iA),.fn 77 [.iptr [.lst 5 (x1.Nodes.map Jb),.lst 3 (x1.Devices.map Jd)],.iptr [.int .i64 x2],.iptr [.lst 1 (x3.map iA)],.iptr [.lst 1 (x4.map bA)],.iptr [.lst 1 (x5.map bA)]]] [] (.bool r) ([]):=by
 refine Ju Jc Ja Tryz.func76 rfl Tryz.ntmps76 rfl ?_
 unfold Qs at hF
 conv=>whnf
 obtain⟨r_1,hr1,hF⟩:=bs' hF
 refine cE (d0 0 Tryz.func115 (Jdq x0 x1 x2 x3 x4 x5 r_1 hr1)) ?_
 conv=>whnf
 obtain rfl:=si hF
 exact rZ
theorem JeV (x0:Int) (x1:(List Bool)) (r:Bool) (hF:Zo x0 x1=some r):AC Tryz.prog 79 [.int .i64 x0,.iptr [.lst 1 (x1.map bA)]] [] (.bool r) ([]):=by
 refine Ju Jc Ja Tryz.func79 rfl Tryz.ntmps79 rfl ?_
 unfold Zo at hF
 conv=>whnf
 obtain⟨r_1,hr1,hF⟩:=bs' hF
 refine cE (d0 0 Tryz.func80 (JfW x1 x0 r_1 hr1)) ?_
 conv=>whnf
 obtain rfl:=si hF
 exact rZ
theorem Jdp (x0:(List Int)) (x1:(List Bool)) (r:Int) (hF:ZD x0 x1=some r):AC Tryz.prog 115 [.lst 1 (x0.map iA),.fn 79 [.iptr [.lst 1 (x1.map bA)]]] [] (.int .i64 r) ([]):=by
 refine Ju Jc Ja Tryz.func115 rfl Tryz.ntmps115 rfl ?_
 unfold ZD at hF
 conv=>whnf
 refine Jm (enc:=iA) (l:=x0) rfl ?_
 conv=>whnf
 obtain⟨c1,hc_1,hF⟩:=Jr hF
 refine J1 0 (v:= .lst 1 (x0.map iA)) (by(conv=>lhs;whnf)<;>rfl) (fun hb=> ?_)
 have hbd_k_2:x0.length<=9223372036854775807:=Jz (enc:=iA) (hb)
 refine Jo Jc Ja (fun y:Nat=>y<=x0.length∧J9 x1 (x0.drop y) y=some c1) (fun y=>⟨eL [(0,.lst 1 (x0.map iA)),(1,.fn 79 [.iptr [.lst 1 (x1.map bA)]]),(7,.int .i64 (x0.length:Int)),(8,.int .i64 (y:Int))],hL [],0⟩) (fun y=>x0.length - y) 0 ⟨Nat.zero_le _,hc_1⟩ (wK [] [] []) ?_
 rintro k2 ⟨hk_k_2,hL1⟩
 try dsimp only at hk_k_2 hL1
 show awp _ _ _ _ _ _ ⟨eL [(0,.lst 1 (x0.map iA)),(1,.fn 79 [.iptr [.lst 1 (x1.map bA)]]),(7,.int .i64 (x0.length:Int)),(8,.int .i64 (k2:Int))],hL [],0⟩
 conv=>whnf
 refine⟨fun h=> ?_,fun h=> ?_⟩
 have lk2:k2<x0.length:=by have h:=Wt h;omega
 obtain⟨e3,he3⟩:=ge lk2
 rw [Jl he3,J9.eq_2] at hL1
 conv=>whnf
 refine⟨k2,_,rfl,Jv he3,?_⟩
 conv=>whnf
 obtain⟨r4,hr4,hL1⟩:=bs' hL1
 refine cE (d0 0 Tryz.func79 (JeV e3 x1 r4 hr4)) ?_
 conv=>whnf
 refine xB hL1 (fun b7 hL1=> ?_) fun b7 hL1=> ?_
 conv=>whnf
 obtain rfl:=si hL1
 replace hF:=Jn hF
 obtain rfl:=si hF
 exact rZ
 conv=>whnf
 refine⟨((k2+1:Nat):Int),wE,?_⟩
 conv=>whnf
 exact⟨k2+1,_,_,_,⟨lk2,hL1⟩,sl lk2,wK [] [] []⟩
 rw [Jq (nl h),J9.eq_1] at hL1
 conv=>whnf
 obtain rfl:=si hL1
 replace hF:=Jw hF
 try dsimp only at hF
 obtain rfl:=si hF
 exact rZ
theorem JcE (x0:(List Int)) (x1:(List Bool)) (r:Bool) (hF:Q5 x0 x1=some r):AC Tryz.prog 76 [.lst 1 (x0.map iA),.fn 79 [.iptr [.lst 1 (x1.map bA)]]] [] (.bool r) ([]):=by
 refine Ju Jc Ja Tryz.func76 rfl Tryz.ntmps76 rfl ?_
 unfold Q5 at hF
 conv=>whnf
 obtain⟨r1,hr1,hF⟩:=bs' hF
 refine cE (d0 0 Tryz.func115 (Jdp x0 x1 r1 hr1)) ?_
 conv=>whnf
 obtain rfl:=si hF
 exact rZ
theorem Jgd (x0:Layout) (x1:Belief) (x2:Int) (x3:(List Int)) (x4:(List Bool)) (x5:(List Bool)) (x6:(List Bool)) (r:Int) (hF:JaQ x0 x1 x2 x3 x4 x5 x6=some r):AC Tryz.prog 37 [.agg (JC x0),.agg (Yp x1),.int .i64 x2,.lst 1 (x3.map iA),.lst 1 (x4.map bA),.lst 1 (x5.map bA),.lst 1 (x6.map bA)] [] (.int .i64 r) ([]):=by
 refine Ju Jc Ja Tryz.func37 rfl Tryz.ntmps37 rfl ?_
 unfold JaQ at hF
 conv=>whnf
 obtain⟨r1,hr1,hF⟩:=bs' hF
 refine cE (d0 1 Tryz.func74 (JlS x1 x2 r1 hr1) ⟨rR,tv⟩) ?_
 conv=>whnf
 obtain⟨r2,hr2,hF⟩:=bs' hF
 refine cE (dY false [.dead,.row 1 (r2.map iA)] [7] [] 1 Tryz.func73 (Jd1 r1 r2 hr2) ⟨gR,tv⟩ Qd ⟨rfl,rR,tv⟩) ?_
 conv=>whnf
 obtain⟨e3,he3,hF⟩:=bs' hF
 refine JZ (enc:=Jb) (l:=x0.Nodes) he3 rfl (fun m_e_3 hm_e_3 hx_e_3=> ?_)
 conv=>whnf
 refine xB hF (fun b12 hF=> ?_) fun b12 hF=> ?_
 conv=>whnf
 refine Jm (enc:=iA) (l:=r2) rfl ?_
 conv=>whnf
 refine xB hF (fun b13 hF=> ?_) fun b13 hF=> ?_
 conv=>whnf
 obtain⟨r4,hr4,hF⟩:=bs' hF
 refine cE (cX false [] [0,2,3,4,6,9] 0 Tryz.func76 (Jab r2 x0 x2 x3 x4 x6 r4 hr4) ⟨(aL 9),(Q4 (c:=[.ptr 0 0,.ptr 2 0,.ptr 3 0,.ptr 4 0,.ptr 6 0]) (by(conv=>lhs;whnf)<;>rfl) rfl ⟨(YT 0 _ rfl rfl rfl rfl rfl),(YT 2 _ rfl rfl rfl rfl rfl),(YT 3 _ rfl rfl rfl rfl rfl),(YT 4 _ rfl rfl rfl rfl rfl),(YT 6 _ rfl rfl rfl rfl rfl),tv⟩),tv⟩ trivial (YJ rfl trivial) trivial) ?_
 conv=>whnf
 refine xB hF (fun b14 hF=> ?_) fun b14 hF=> ?_
 conv=>whnf
 obtain rfl:=si hF
 exact rZ
 conv=>whnf
 obtain rfl:=si hF
 exact rZ
 conv=>whnf
 obtain rfl:=si hF
 exact rZ
 conv=>whnf
 refine xB hF (fun b15 hF=> ?_) fun b15 hF=> ?_
 conv=>whnf
 refine⟨fun h=> ?_,fun h=> ?_⟩
 conv=>whnf
 refine Jm (enc:=iA) (l:=r2) rfl ?_
 conv=>whnf
 refine xB hF (fun b16 hF=> ?_) fun b16 hF=> ?_
 conv=>whnf
 obtain⟨r5,hr5,hF⟩:=bs' hF
 refine cE (cX false [] [0,2,3,4,6,9] 0 Tryz.func76 (Jab r2 x0 x2 x3 x4 x6 r5 hr5) ⟨(aL 9),(Q4 (c:=[.ptr 0 0,.ptr 2 0,.ptr 3 0,.ptr 4 0,.ptr 6 0]) (by(conv=>lhs;whnf)<;>rfl) rfl ⟨(YT 0 _ rfl rfl rfl rfl rfl),(YT 2 _ rfl rfl rfl rfl rfl),(YT 3 _ rfl rfl rfl rfl rfl),(YT 4 _ rfl rfl rfl rfl rfl),(YT 6 _ rfl rfl rfl rfl rfl),tv⟩),tv⟩ trivial (YJ rfl trivial) trivial) ?_
 conv=>whnf
 refine xB hF (fun b17 hF=> ?_) fun b17 hF=> ?_
 conv=>whnf
 obtain rfl:=si hF
 exact rZ
 conv=>whnf
 obtain rfl:=si hF
 exact rZ
 conv=>whnf
 obtain rfl:=si hF
 exact rZ
 cases (b15).symm.trans h
 conv=>whnf
 refine xB hF (fun b18 hF=> ?_) fun b18 hF=> ?_
 conv=>whnf
 refine Jm (enc:=iA) (l:=r2) rfl ?_
 conv=>whnf
 refine xB hF (fun b19 hF=> ?_) fun b19 hF=> ?_
 conv=>whnf
 obtain⟨r6,hr6,hF⟩:=bs' hF
 refine cE (cX false [] [0,2,3,4,6,9] 0 Tryz.func76 (Jab r2 x0 x2 x3 x4 x6 r6 hr6) ⟨(aL 9),(Q4 (c:=[.ptr 0 0,.ptr 2 0,.ptr 3 0,.ptr 4 0,.ptr 6 0]) (by(conv=>lhs;whnf)<;>rfl) rfl ⟨(YT 0 _ rfl rfl rfl rfl rfl),(YT 2 _ rfl rfl rfl rfl rfl),(YT 3 _ rfl rfl rfl rfl rfl),(YT 4 _ rfl rfl rfl rfl rfl),(YT 6 _ rfl rfl rfl rfl rfl),tv⟩),tv⟩ trivial (YJ rfl trivial) trivial) ?_
 conv=>whnf
 refine xB hF (fun b20 hF=> ?_) fun b20 hF=> ?_
 conv=>whnf
 obtain rfl:=si hF
 exact rZ
 conv=>whnf
 obtain rfl:=si hF
 exact rZ
 conv=>whnf
 obtain rfl:=si hF
 exact rZ
 conv=>whnf
 refine xB hF (fun b21 hF=> ?_) fun b21 hF=> ?_
 conv=>whnf
 obtain⟨r7,hr7,hF⟩:=bs' hF
 refine cE (cX false [] [5,9] 0 Tryz.func76 (JcE r2 x5 r7 hr7) ⟨(aL 9),(Q4 (c:=[.ptr 5 0]) (by(conv=>lhs;whnf)<;>rfl) rfl ⟨(YT 5 _ rfl rfl rfl rfl rfl),tv⟩),tv⟩ trivial (YJ rfl trivial) trivial) ?_
 conv=>whnf
 refine xB hF (fun b22 hF=> ?_) fun b22 hF=> ?_
 conv=>whnf
 obtain rfl:=si hF
 exact rZ
 conv=>whnf
 obtain rfl:=si hF
 exact rZ
 conv=>whnf
 obtain rfl:=si hF
 exact rZ
theorem JdY (x0:Layout) (x1:Belief) (x2:(List Int)) (x3:(List Bool)) (x4:(List Bool)) (x5:(List Bool)) (r:(List Int)) (hF:Jan x0 x1 x2 x3 x4 x5=some r):AC Tryz.prog 15 [.agg (JC x0),.agg (Yp x1),.lst 1 (x2.map iA),.lst 1 (x3.map bA),.lst 1 (x4.map bA),.lst 1 (x5.map bA)] [] (.lst 1 (r.map iA)) ([]):=by
 refine Ju Jc Ja Tryz.func15 rfl Tryz.ntmps15 rfl ?_
 unfold Jan at hF
 conv=>whnf
 obtain⟨r1,hr1,hF⟩:=bs' hF
 refine cE (d0 0 Tryz.func30 (Jah x0 r1 hr1)) ?_
 conv=>whnf
 refine xB hF (fun b4 hF=> ?_) fun b4 hF=> ?_
 conv=>whnf
 obtain rfl:=si hF
 exact rZ
 conv=>whnf
 refine Jm (enc:=Jb) (l:=x0.Nodes) rfl ?_
 conv=>whnf
 obtain⟨c1,hc_1,hF⟩:=Jr hF
 refine J1 0 (v:= .agg [.lst 5 (x0.Nodes.map Jb),.lst 3 (x0.Devices.map Jd)]) (by(conv=>lhs;whnf)<;>rfl) (fun hb=> ?_)
 have hbd_k_4:x0.Nodes.length<=9223372036854775807:=Jz (enc:=Jb) ((YC hb.cell 0 rfl))
 refine Jo Jc Ja (fun y:Nat×(List Int)=>y.1<=x0.Nodes.length∧Yo x0 x1 x2 x3 x4 x5 (x0.Nodes.drop y.1) y.1 y.2=some c1) (fun y=>⟨eL [(2,.lst 1 (x2.map iA)),(3,.lst 1 (x3.map bA)),(4,.lst 1 (x4.map bA)),(5,.lst 1 (x5.map bA)),(6,.ptr 0 0),(7,.ptr 1 0),(13,.osl 2),(20,.int .i64 (x0.Nodes.length:Int)),(21,.int .i64 (y.1:Int))],hL [(0,.box [.lst 5 (x0.Nodes.map Jb),.lst 3 (x0.Devices.map Jd)]),(1,.box [.int .i64 x1.Budget,.lst 3 (x1.L.map Jg)]),(2,.row 1 (y.2.map iA))],3⟩) (fun y=>x0.Nodes.length - y.1) (0,([]:List Int)) ⟨Nat.zero_le _,hc_1⟩ (wK [0,1] [2] [] ⟨bN,bN,Jci rfl,tv⟩) ?_
 rintro⟨k4,a2⟩ ⟨hk_k_4,hL1⟩
 try dsimp only at hk_k_4 hL1
 show awp _ _ _ _ _ _ ⟨eL [(2,.lst 1 (x2.map iA)),(3,.lst 1 (x3.map bA)),(4,.lst 1 (x4.map bA)),(5,.lst 1 (x5.map bA)),(6,.ptr 0 0),(7,.ptr 1 0),(13,.osl 2),(20,.int .i64 (x0.Nodes.length:Int)),(21,.int .i64 (k4:Int))],hL [(0,.box [.lst 5 (x0.Nodes.map Jb),.lst 3 (x0.Devices.map Jd)]),(1,.box [.int .i64 x1.Budget,.lst 3 (x1.L.map Jg)]),(2,.row 1 (a2.map iA))],3⟩
 conv=>whnf
 refine⟨fun h=> ?_,fun h=> ?_⟩
 have lk4:k4<x0.Nodes.length:=by have h:=Wt h;omega
 obtain⟨e5,he5⟩:=ge lk4
 rw [Jl he5,Yo.eq_2] at hL1
 conv=>whnf
 obtain⟨r6,hr6,hL1⟩:=bs' hL1
 refine cE (d0 0 Tryz.func37 (Jgd x0 x1 (k4:Int) x2 x3 x4 x5 r6 hr6)) ?_
 conv=>whnf
 obtain⟨l7,hl7,hL1⟩:=bs' hL1
 refine ZV (enc:=iA) (l:=a2) (y:=([r6]:List Int)) hl7 rfl rfl (by decide) ?_
 conv=>whnf
 refine⟨((k4+1:Nat):Int),wE,?_⟩
 conv=>whnf
 exact⟨(k4+1,l7),_,_,_,⟨lk4,hL1⟩,sl lk4,wK [0,1,5] [] []⟩
 rw [Jq (nl h),Yo.eq_1] at hL1
 conv=>whnf
 obtain rfl:=si hL1
 replace hF:=Jw hF
 try dsimp only at hF
 obtain rfl:=si hF
 exact Jk [] [] [2] rfl (aL 2) trivial
theorem JdS (x0:Src) (x1:Layout) (x2:Int) (r:(List Fault)×Src) (hF:Jak x0 x1 x2=some r):AC Tryz.prog 17 [.ptr 0 0,.agg (JC x1),.int .i64 x2] [.box (ZP x0)] (.lst 3 (r.1.map Je)) ([.box (ZP r.2)]):=by
 refine Ju Jc Ja Tryz.func17 rfl Tryz.ntmps17 rfl ?_
 unfold Jak at hF
 conv=>whnf
 obtain⟨c1,hc_1,hF⟩:=Jr hF
 refine Jo Jc Ja (fun y:Nat×(List Int)×Int×Int×(List Fault)=>Q2 x1 x2 y.1 y.2.1 y.2.2.1 y.2.2.2.1 y.2.2.2.2=some c1) (fun y=>⟨eL [(0,.ptr 0 0),(2,.int .i64 x2),(4,.ptr 1 0),(7,.osl 2),(8,.int .i64 y.2.2.2.1)],hL [(0,.box [.lst 1 (y.2.1.map iA),.int .i64 y.2.2.1]),(1,.box [.lst 5 (x1.Nodes.map Jb),.lst 3 (x1.Devices.map Jd)]),(2,.row 3 (y.2.2.2.2.map Je))],3⟩) (fun y=>y.1) (9223372036854775807,x0.L,x0.At,0,([]:List Fault)) hc_1 (wK [0,1] [2] [] ⟨bN,bN,Jci rfl,tv⟩) ?_
 rintro⟨q17,a1,i2,i4,a3⟩ hL1
 try dsimp only at hL1
 rcases q17 with _ |q17
 rw [Q2.eq_1] at hL1
 cases hL1
 rw [Q2.eq_2] at hL1
 show awp _ _ _ _ _ _ ⟨eL [(0,.ptr 0 0),(2,.int .i64 x2),(4,.ptr 1 0),(7,.osl 2),(8,.int .i64 i4)],hL [(0,.box [.lst 1 (a1.map iA),.int .i64 i2]),(1,.box [.lst 5 (x1.Nodes.map Jb),.lst 3 (x1.Devices.map Jd)]),(2,.row 3 (a3.map Je))],3⟩
 conv=>whnf
 refine xB hL1 (fun b34 hL1=> ?_) fun b34 hL1=> ?_
 conv=>whnf
 refine Jm (enc:=Jb) (l:=x1.Nodes) rfl ?_
 conv=>whnf
 obtain⟨r5,hr5,hL1⟩:=bs' hL1
 refine cE (dX false [0] [] 0 Tryz.func6 (JD (⟨a1,i2⟩:Src) (x1.Nodes.length:Int) r5 hr5) ⟨rfl,tv⟩ Qd ⟨rfl,tv⟩) ?_
 conv=>whnf
 obtain⟨e6,he6,hL1⟩:=bs' hL1
 refine JZ (enc:=Jb) (l:=x1.Nodes) he6 rfl (fun m_e_6 hm_e_6 hx_e_6=> ?_)
 conv=>whnf
 refine xB hL1 (fun b35 hL1=> ?_) fun b35 hL1=> ?_
 conv=>whnf
 refine⟨_,rfl,?_⟩
 conv=>whnf
 exact⟨(q17,r5.2.L,r5.2.At,(w64 (i4+1)),a3),_,_,_,hL1,Wn _,wK [0,1,2] [] []⟩
 conv=>whnf
 obtain⟨r7,hr7,hL1⟩:=bs' hL1
 refine cE (dX false [0] [] 0 Tryz.func24 (ZG r5.2 1 2 r7 hr7) ⟨rfl,tv⟩ Qd ⟨rfl,tv⟩) ?_
 conv=>whnf
 obtain⟨e8,he8,hL1⟩:=bs' hL1
 refine JZ (enc:=Jb) (l:=x1.Nodes) he8 rfl (fun m_e_8 hm_e_8 hx_e_8=> ?_)
 conv=>whnf
 obtain⟨r9,hr9,hL1⟩:=bs' hL1
 refine cE (dX false [0] [] 0 Tryz.func6 (JD r7.2 e8.Length r9 hr9) ⟨rfl,tv⟩ Qd ⟨rfl,tv⟩) ?_
 conv=>whnf
 refine⟨by kernel_rfl,?_⟩
 conv=>whnf
 obtain⟨c2,hc_2,hL1⟩:=YF hL1
 refine Jk4 2 (sz:=3) (xs:=a3.map Je) (by(conv=>lhs;whnf)<;>rfl) (fun hb=> ?_)
 have hbd_k_12:a3.length<=9223372036854775807:=Jz (enc:=Je) (hb)
 refine Jo Jc Ja (fun y:Nat×Bool=>y.1<=a3.length∧Q1 r5 r9 (a3.drop y.1) y.1 y.2=some c2) (fun y=>⟨eL [(0,.ptr 0 0),(2,.int .i64 x2),(4,.ptr 1 0),(7,.osl 2),(8,.int .i64 i4),(10,.ptr 3 0),(11,.bool y.2),(12,.int .i64 (y.1:Int))],hL [(0,.box [.lst 1 (r9.2.L.map iA),.int .i64 r9.2.At]),(1,.box [.lst 5 (x1.Nodes.map Jb),.lst 3 (x1.Devices.map Jd)]),(2,.row 3 (a3.map Je)),(3,.box [.int .i64 r7.1,.int .i64 r5.1,.int .i64 r9.1])],4⟩) (fun y=>a3.length - y.1) (0,false) ⟨Nat.zero_le _,hc_2⟩ (wK [0,1,2,6] [] []) ?_
 rintro⟨k12,b_10⟩ ⟨hk_k_12,hL2⟩
 try dsimp only at hk_k_12 hL2
 show awp _ _ _ _ _ _ ⟨eL [(0,.ptr 0 0),(2,.int .i64 x2),(4,.ptr 1 0),(7,.osl 2),(8,.int .i64 i4),(10,.ptr 3 0),(11,.bool b_10),(12,.int .i64 (k12:Int))],hL [(0,.box [.lst 1 (r9.2.L.map iA),.int .i64 r9.2.At]),(1,.box [.lst 5 (x1.Nodes.map Jb),.lst 3 (x1.Devices.map Jd)]),(2,.row 3 (a3.map Je)),(3,.box [.int .i64 r7.1,.int .i64 r5.1,.int .i64 r9.1])],4⟩
 conv=>whnf
 refine Jm (enc:=Je) (l:=a3) rfl ?_
 conv=>whnf
 refine⟨fun h=> ?_,fun h=> ?_⟩
 have lk12:k12<a3.length:=by have h:=Wt h;omega
 obtain⟨e13,he13⟩:=ge lk12
 rw [Jl he13,Q1.eq_2] at hL2
 conv=>whnf
 refine⟨fun b36=> ?_,fun b36=> ?_⟩
 replace hL2:=cf b36 hL2
 conv=>whnf
 refine⟨k12,rfl,by rw [List.length_map];exact lk12,?_⟩
 conv=>whnf
 refine⟨_,Jv (enc:=Je) he13,?_⟩
 conv=>whnf
 refine xB hL2 (fun b37 hL2=> ?_) fun b37 hL2=> ?_
 conv=>whnf
 refine⟨k12,rfl,by rw [List.length_map];exact lk12,?_⟩
 conv=>whnf
 refine⟨_,Jv (enc:=Je) he13,?_⟩
 conv=>whnf
 refine⟨by kernel_rfl,?_⟩
 conv=>whnf
 refine⟨((k12+1:Nat):Int),wE,?_⟩
 conv=>whnf
 exact⟨(k12+1,(e13.Window==r9.1)),_,_,_,⟨lk12,hL2⟩,sl lk12,wK [0,1,2,3] [] []⟩
 conv=>whnf
 refine⟨by kernel_rfl,?_⟩
 conv=>whnf
 refine⟨((k12+1:Nat):Int),wE,?_⟩
 conv=>whnf
 exact⟨(k12+1,false),_,_,_,⟨lk12,hL2⟩,sl lk12,wK [0,1,2,3] [] []⟩
 replace hL2:=ct b36 hL2
 conv=>whnf
 refine⟨by kernel_rfl,?_⟩
 conv=>whnf
 refine⟨((k12+1:Nat):Int),wE,?_⟩
 conv=>whnf
 exact⟨(k12+1,true),_,_,_,⟨lk12,hL2⟩,sl lk12,wK [0,1,2,3] [] []⟩
 rw [Jq (nl h),Q1.eq_1] at hL2
 conv=>whnf
 obtain rfl:=si hL2
 replace hL1:=Zz hL1
 try dsimp only at hL1
 refine xB hL1 (fun b38 hL1=> ?_) fun b38 hL1=> ?_
 conv=>whnf
 obtain⟨l16,hl16,hL1⟩:=bs' hL1
 refine ZV (enc:=Je) (l:=a3) (y:=([(⟨r7.1,r5.1,r9.1⟩:Fault)]:List Fault)) hl16 rfl rfl (by decide) ?_
 conv=>whnf
 refine⟨_,rfl,?_⟩
 conv=>whnf
 exact⟨(q17,r9.2.L,r9.2.At,(w64 (i4+1)),l16),_,_,_,hL1,Wn _,wK [0,1,5] [] []⟩
 conv=>whnf
 refine⟨_,rfl,?_⟩
 conv=>whnf
 exact⟨(q17,r9.2.L,r9.2.At,(w64 (i4+1)),a3),_,_,_,hL1,Wn _,wK [0,1,2] [] []⟩
 conv=>whnf
 obtain rfl:=si hL1
 replace hF:=Jw hF
 try dsimp only at hF
 obtain rfl:=si hF
 exact Jk [0] [] [2] rfl (aL 2) ⟨bN,tv⟩
theorem Jhz (x0:Layout) (r:(List Int)) (hF:Jda x0=some r):AC Tryz.prog 81 [.agg (JC x0)] [] (.lst 1 (r.map iA)) ([]):=by
 refine Ju Jc Ja Tryz.func81 rfl Tryz.ntmps81 rfl ?_
 unfold Jda at hF
 conv=>whnf
 obtain⟨r1,hr1,hF⟩:=bs' hF
 refine cE (d0 0 Tryz.func30 (Jah x0 r1 hr1)) ?_
 conv=>whnf
 refine xB hF (fun b2 hF=> ?_) fun b2 hF=> ?_
 conv=>whnf
 obtain rfl:=si hF
 exact rZ
 conv=>whnf
 obtain⟨r2,hr2,hF⟩:=bs' hF
 refine cE (d0 0 Tryz.func63 (Jej x0 r2 hr2)) ?_
 conv=>whnf
 obtain rfl:=si hF
 exact rZ
theorem JaU (x0:Layout) (r:(Option Plan)×Bool) (hF:JbC x0=some r):AC Tryz.prog 38 [.agg (JC x0)] [] (.tup [Jv0 r.1 0,.bool r.2]) (JvZ JnP r.1):=by
 refine Ju Jc Ja Tryz.func38 rfl Tryz.ntmps38 rfl ?_
 unfold JbC at hF
 conv=>whnf
 obtain⟨r1,hr1,hF⟩:=bs' hF
 refine cE (d0 0 Tryz.func30 (Jah x0 r1 hr1)) ?_
 conv=>whnf
 refine xB hF (fun b2 hF=> ?_) fun b2 hF=> ?_
 conv=>whnf
 obtain rfl:=si hF
 exact Jk [] [] [] rfl (Qh rfl ⟨aq,aF,tv⟩) trivial
 conv=>whnf
 obtain⟨r2,hr2,hF⟩:=bs' hF
 refine cE (d0 0 Tryz.func81 (Jhz x0 r2 hr2)) ?_
 conv=>whnf
 refine⟨by kernel_rfl,?_⟩
 conv=>whnf
 obtain rfl:=si hF
 exact Jk [3] [] [] rfl (Qh rfl ⟨(aP 3),aT,tv⟩) ⟨bN,tv⟩
theorem Jbk (x0:Plan) (x1:Plant) (r:Bool) (hF:YP x0 x1=some r):AC Tryz.prog 39 [.iptr [.lst 5 (x0.L.Nodes.map Jb),.lst 3 (x0.L.Devices.map Jd),.lst 1 (x0.order.map iA)],.agg (Qi x1)] [] (.bool r) ([]):=by
 refine Ju Jc Ja Tryz.func39 rfl Tryz.ntmps39 rfl ?_
 unfold YP at hF
 conv=>whnf
 refine Jm (enc:=(lA 1 iA)) (l:=x1.Slots) rfl ?_
 conv=>whnf
 refine Jm (enc:=Jb) (l:=x0.L.Nodes) rfl ?_
 conv=>whnf
 refine⟨fun b9=> ?_,fun b9=> ?_⟩
 replace hF:=cf b9 hF
 conv=>whnf
 refine Jm (enc:=(lA 1 iA)) (l:=x1.Bins) rfl ?_
 conv=>whnf
 refine Jm (enc:=Jb) (l:=x0.L.Nodes) rfl ?_
 conv=>whnf
 refine⟨by kernel_rfl,?_⟩
 conv=>whnf
 refine xB hF (fun b10 hF=> ?_) fun b10 hF=> ?_
 conv=>whnf
 obtain rfl:=si hF
 exact rZ
 conv=>whnf
 refine Jm (enc:=Jb) (l:=x0.L.Nodes) rfl ?_
 conv=>whnf
 obtain⟨c1,hc_1,hF⟩:=Jr hF
 refine J1 0 (v:= .iptr [.lst 5 (x0.L.Nodes.map Jb),.lst 3 (x0.L.Devices.map Jd),.lst 1 (x0.order.map iA)]) (by(conv=>lhs;whnf)<;>rfl) (fun hb=> ?_)
 have hbd_k_2:x0.L.Nodes.length<=9223372036854775807:=Jz (enc:=Jb) ((YC hb.icell 0 rfl))
 refine Jo Jc Ja (fun y:Nat=>y<=x0.L.Nodes.length∧Yl x1 (x0.L.Nodes.drop y) y=some c1) (fun y=>⟨eL [(3,.ptr 0 0),(33,.lst 5 (x0.L.Nodes.map Jb)),(34,.int .i64 (x0.L.Nodes.length:Int)),(35,.int .i64 (y:Int))],hL [(0,.box [.lst 1 (x1.Slots.map (lA 1 iA)),.lst 1 (x1.Bins.map (lA 1 iA))])],1⟩) (fun y=>x0.L.Nodes.length - y) 0 ⟨Nat.zero_le _,hc_1⟩ (wK [0] [] []) ?_
 rintro k2 ⟨hk_k_2,hL1⟩
 try dsimp only at hk_k_2 hL1
 show awp _ _ _ _ _ _ ⟨eL [(3,.ptr 0 0),(33,.lst 5 (x0.L.Nodes.map Jb)),(34,.int .i64 (x0.L.Nodes.length:Int)),(35,.int .i64 (k2:Int))],hL [(0,.box [.lst 1 (x1.Slots.map (lA 1 iA)),.lst 1 (x1.Bins.map (lA 1 iA))])],1⟩
 conv=>whnf
 refine⟨fun h=> ?_,fun h=> ?_⟩
 have lk2:k2<x0.L.Nodes.length:=by have h:=Wt h;omega
 obtain⟨e3,he3⟩:=ge lk2
 rw [Jl he3,Yl.eq_2] at hL1
 conv=>whnf
 refine⟨k2,_,rfl,Jv he3,?_⟩
 conv=>whnf
 obtain⟨e4,he4,hL1⟩:=bs' hL1
 refine JZ (enc:=(lA 1 iA)) (l:=x1.Slots) he4 rfl (fun m_e_4 hm_e_4 hx_e_4=> ?_)
 conv=>whnf
 refine Jm (enc:=iA) (l:=e4) rfl ?_
 conv=>whnf
 refine⟨by kernel_rfl,?_⟩
 conv=>whnf
 refine xB hL1 (fun b11 hL1=> ?_) fun b11 hL1=> ?_
 conv=>whnf
 obtain rfl:=si hL1
 replace hF:=Jn hF
 obtain rfl:=si hF
 exact rZ
 conv=>whnf
 refine⟨((k2+1:Nat):Int),wE,?_⟩
 conv=>whnf
 exact⟨k2+1,_,_,_,⟨lk2,hL1⟩,sl lk2,wK [0] [] []⟩
 rw [Jq (nl h),Yl.eq_1] at hL1
 conv=>whnf
 obtain rfl:=si hL1
 replace hF:=Jw hF
 try dsimp only at hF
 obtain rfl:=si hF
 exact rZ
 replace hF:=ct b9 hF
 conv=>whnf
 refine⟨by kernel_rfl,?_⟩
 conv=>whnf
 obtain rfl:=si hF
 exact rZ
end Go.Proofs.YtehhohbnhcogkaaGreatDoor.Ex
