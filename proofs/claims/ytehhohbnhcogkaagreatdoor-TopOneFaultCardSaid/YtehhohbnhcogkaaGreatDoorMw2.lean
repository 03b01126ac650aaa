/- The walks of the proof: that the program computes it. -/
import Derived.Test.YtehhohbnhcogkaaGreatDoorM4
import Derived.Test.YtehhohbnhcogkaaGreatDoorMw1
import Derived.Test.YtehhohbnhcogkaaGreatDoorM5
import Derived.Test.YtehhohbnhcogkaaGreatDoorM3
set_option linter.unusedVariables false
set_option linter.unusedSimpArgs false
namespace Go.Proofs.YtehhohbnhcogkaaGreatDoor.Ex
open Go.RowKit Go.Proofs.YtehhohbnhcogkaaGreatDoor.Ax
set_option maxRecDepth 100000
set_option maxHeartbeats 40000000
theorem JhE (x0:Node) (x1:Int) (r:Bool) (hF:Jcb x0 x1=some r):AC Tryz.prog 82 [.agg (Jb x0),.int .i64 x1] [] (.bool r) ([]):=by
 refine Ju Jc Ja Tryz.func82 rfl Tryz.ntmps82 rfl ?_
 unfold Jcb at hF
 conv=>whnf
 obtain⟨r1,hr1,hF⟩:=bs' hF
 refine cE (d0 0 Tryz.func85 (Qv x0.Kind r1 hr1)) ?_
 conv=>whnf
 refine xB hF (fun b8 hF=> ?_) fun b8 hF=> ?_
 conv=>whnf
 refine xB hF (fun b9 hF=> ?_) fun b9 hF=> ?_
 conv=>whnf
 refine Jm (enc:=iA) (l:=x0.Exits) rfl ?_
 conv=>whnf
 refine⟨fun b10=> ?_,fun b10=> ?_⟩
 replace hF:=cf b10 hF
 conv=>whnf
 refine xB hF (fun b11 hF=> ?_) fun b11 hF=> ?_
 conv=>whnf
 obtain rfl:=si hF
 exact rZ
 conv=>whnf
 obtain rfl:=si hF
 exact rZ
 replace hF:=ct b10 hF
 conv=>whnf
 obtain rfl:=si hF
 exact rZ
 conv=>whnf
 refine xB hF (fun b12 hF=> ?_) fun b12 hF=> ?_
 conv=>whnf
 obtain rfl:=si hF
 exact rZ
 conv=>whnf
 obtain rfl:=si hF
 exact rZ
 conv=>whnf
 refine xB hF (fun b13 hF=> ?_) fun b13 hF=> ?_
 conv=>whnf
 refine xB hF (fun b14 hF=> ?_) fun b14 hF=> ?_
 conv=>whnf
 obtain rfl:=si hF
 exact rZ
 conv=>whnf
 obtain rfl:=si hF
 exact rZ
 conv=>whnf
 obtain rfl:=si hF
 exact rZ
theorem JdK (x0:Fault) (x1:Fault) (r:Bool) (hF:Y6 x0 x1=some r):AC Tryz.prog 83 [.agg (Je x0),.iptr [.int .i64 x1.Kind,.int .i64 x1.Node,.int .i64 x1.Window]] [] (.bool r) ([]):=by
 refine Ju Jc Ja Tryz.func83 rfl Tryz.ntmps83 rfl ?_
 unfold Y6 at hF
 conv=>whnf
 refine xB hF (fun b2 hF=> ?_) fun b2 hF=> ?_
 conv=>whnf
 obtain rfl:=si hF
 exact rZ
 conv=>whnf
 obtain rfl:=si hF
 exact rZ
theorem JdI (x0:(List Fault)) (x1:Fault) (r:Int) (hF:ZS x0 x1=some r):AC Tryz.prog 94 [.lst 3 (x0.map Je),.fn 83 [.iptr [.int .i64 x1.Kind,.int .i64 x1.Node,.int .i64 x1.Window]]] [] (.int .i64 r) ([]):=by
 refine Ju Jc Ja Tryz.func94 rfl Tryz.ntmps94 rfl ?_
 unfold ZS at hF
 conv=>whnf
 refine Jm (enc:=Je) (l:=x0) rfl ?_
 conv=>whnf
 obtain⟨c1,hc_1,hF⟩:=Jr hF
 refine J1 0 (v:= .lst 3 (x0.map Je)) (by(conv=>lhs;whnf)<;>rfl) (fun hb=> ?_)
 have hbd_k_2:x0.length<=9223372036854775807:=Jz (enc:=Je) (hb)
 refine Jo Jc Ja (fun y:Nat=>y<=x0.length∧Qg x1 (x0.drop y) y=some c1) (fun y=>⟨eL [(0,.lst 3 (x0.map Je)),(1,.fn 83 [.iptr [.int .i64 x1.Kind,.int .i64 x1.Node,.int .i64 x1.Window]]),(7,.int .i64 (x0.length:Int)),(8,.int .i64 (y:Int))],hL [],0⟩) (fun y=>x0.length - y) 0 ⟨Nat.zero_le _,hc_1⟩ (wK [] [] []) ?_
 rintro k2 ⟨hk_k_2,hL1⟩
 try dsimp only at hk_k_2 hL1
 show awp _ _ _ _ _ _ ⟨eL [(0,.lst 3 (x0.map Je)),(1,.fn 83 [.iptr [.int .i64 x1.Kind,.int .i64 x1.Node,.int .i64 x1.Window]]),(7,.int .i64 (x0.length:Int)),(8,.int .i64 (k2:Int))],hL [],0⟩
 conv=>whnf
 refine⟨fun h=> ?_,fun h=> ?_⟩
 have lk2:k2<x0.length:=by have h:=Wt h;omega
 obtain⟨e3,he3⟩:=ge lk2
 rw [Jl he3,Qg.eq_2] at hL1
 conv=>whnf
 refine⟨k2,_,rfl,Jv he3,?_⟩
 conv=>whnf
 obtain⟨r4,hr4,hL1⟩:=bs' hL1
 refine cE (d0 0 Tryz.func83 (JdK e3 x1 r4 hr4)) ?_
 conv=>whnf
 refine xB hL1 (fun b7 hL1=> ?_) fun b7 hL1=> ?_
 conv=>whnf
 obtain rfl:=si hL1
 replace hF:=Jn hF
 obtain rfl:=si hF
 exact rZ
 conv=>whnf
 refine⟨((k2+1:Nat):Int),wE,?_⟩
 conv=>whnf
 exact⟨k2+1,_,_,_,⟨lk2,hL1⟩,sl lk2,wK [] [] []⟩
 rw [Jq (nl h),Qg.eq_1] at hL1
 conv=>whnf
 obtain rfl:=si hL1
 replace hF:=Jw hF
 try dsimp only at hF
 obtain rfl:=si hF
 exact rZ
theorem JcP (x0:(List Fault)) (x1:Fault) (r:Bool) (hF:Yc x0 x1=some r):AC Tryz.prog 48 [.lst 3 (x0.map Je),.fn 83 [.iptr [.int .i64 x1.Kind,.int .i64 x1.Node,.int .i64 x1.Window]]] [] (.bool r) ([]):=by
 refine Ju Jc Ja Tryz.func48 rfl Tryz.ntmps48 rfl ?_
 unfold Yc at hF
 conv=>whnf
 obtain⟨r1,hr1,hF⟩:=bs' hF
 refine cE (d0 0 Tryz.func94 (JdI x0 x1 r1 hr1)) ?_
 conv=>whnf
 obtain rfl:=si hF
 exact rZ
theorem Jce (x0:Plan) (x1:(List Int)) (x2:(List Fault)) (r:Int) (hF:Za x0 x1 x2=some r):AC Tryz.prog 40 [.iptr [.lst 5 (x0.L.Nodes.map Jb),.lst 3 (x0.L.Devices.map Jd),.lst 1 (x0.order.map iA)],.lst 1 (x1.map iA),.lst 3 (x2.map Je)] [] (.int .i64 r) ([]):=by
 refine Ju Jc Ja Tryz.func40 rfl Tryz.ntmps40 rfl ?_
 unfold Za at hF
 conv=>whnf
 refine Jm (enc:=iA) (l:=x1) rfl ?_
 conv=>whnf
 refine Jm (enc:=Jb) (l:=x0.L.Nodes) rfl ?_
 conv=>whnf
 refine xB hF (fun b57 hF=> ?_) fun b57 hF=> ?_
 conv=>whnf
 obtain rfl:=si hF
 exact rZ
 conv=>whnf
 refine Jm (enc:=iA) (l:=x1) rfl ?_
 conv=>whnf
 obtain⟨c1,hc_1,hF⟩:=Jr hF
 refine J1 1 (v:= .lst 1 (x1.map iA)) (by(conv=>lhs;whnf)<;>rfl) (fun hb=> ?_)
 have hbd_k_2:x1.length<=9223372036854775807:=Jz (enc:=iA) (hb)
 refine Jo Jc Ja (fun y:Nat=>y<=x1.length∧QN x0 (x1.drop y) y=some c1) (fun y=>⟨eL [(0,.iptr [.lst 5 (x0.L.Nodes.map Jb),.lst 3 (x0.L.Devices.map Jd),.lst 1 (x0.order.map iA)]),(2,.lst 3 (x2.map Je)),(22,.lst 1 (x1.map iA)),(23,.int .i64 (x1.length:Int)),(24,.int .i64 (y:Int))],hL [],0⟩) (fun y=>x1.length - y) 0 ⟨Nat.zero_le _,hc_1⟩ (wK [] [] []) ?_
 rintro k2 ⟨hk_k_2,hL1⟩
 try dsimp only at hk_k_2 hL1
 show awp _ _ _ _ _ _ ⟨eL [(0,.iptr [.lst 5 (x0.L.Nodes.map Jb),.lst 3 (x0.L.Devices.map Jd),.lst 1 (x0.order.map iA)]),(2,.lst 3 (x2.map Je)),(22,.lst 1 (x1.map iA)),(23,.int .i64 (x1.length:Int)),(24,.int .i64 (k2:Int))],hL [],0⟩
 conv=>whnf
 refine⟨fun h=> ?_,fun h=> ?_⟩
 have lk2:k2<x1.length:=by have h:=Wt h;omega
 obtain⟨e3,he3⟩:=ge lk2
 rw [Jl he3,QN.eq_2] at hL1
 conv=>whnf
 refine⟨k2,_,rfl,Jv he3,?_⟩
 conv=>whnf
 obtain⟨e4,he4,hL1⟩:=bs' hL1
 refine JZ (enc:=Jb) (l:=x0.L.Nodes) he4 rfl (fun m_e_4 hm_e_4 hx_e_4=> ?_)
 conv=>whnf
 obtain⟨r5,hr5,hL1⟩:=bs' hL1
 refine cE (d0 0 Tryz.func82 (JhE e4 e3 r5 hr5)) ?_
 conv=>whnf
 refine xB hL1 (fun b58 hL1=> ?_) fun b58 hL1=> ?_
 conv=>whnf
 obtain rfl:=si hL1
 replace hF:=Jn hF
 obtain rfl:=si hF
 exact rZ
 conv=>whnf
 refine⟨((k2+1:Nat):Int),wE,?_⟩
 conv=>whnf
 exact⟨k2+1,_,_,_,⟨lk2,hL1⟩,sl lk2,wK [] [] []⟩
 rw [Jq (nl h),QN.eq_1] at hL1
 conv=>whnf
 obtain rfl:=si hL1
 replace hF:=Jw hF
 try dsimp only at hF
 refine Jm (enc:=Je) (l:=x2) rfl ?_
 conv=>whnf
 refine xB hF (fun b59 hF=> ?_) fun b59 hF=> ?_
 conv=>whnf
 obtain rfl:=si hF
 exact rZ
 conv=>whnf
 refine Jm (enc:=Je) (l:=x2) rfl ?_
 conv=>whnf
 obtain⟨c2,hc_2,hF⟩:=Jr hF
 refine J1 2 (v:= .lst 3 (x2.map Je)) (by(conv=>lhs;whnf)<;>rfl) (fun hb=> ?_)
 have hbd_k_9:x2.length<=9223372036854775807:=Jz (enc:=Je) (hb)
 refine Jo Jc Ja (fun y:Nat=>y<=x2.length∧QB x0 (x2.drop y) y=some c2) (fun y=>⟨eL [(0,.iptr [.lst 5 (x0.L.Nodes.map Jb),.lst 3 (x0.L.Devices.map Jd),.lst 1 (x0.order.map iA)]),(2,.lst 3 (x2.map Je)),(44,.lst 3 (x2.map Je)),(45,.int .i64 (x2.length:Int)),(46,.int .i64 (y:Int))],hL [],0⟩) (fun y=>x2.length - y) 0 ⟨Nat.zero_le _,hc_2⟩ (wK [] [] []) ?_
 rintro k9 ⟨hk_k_9,hL1⟩
 try dsimp only at hk_k_9 hL1
 show awp _ _ _ _ _ _ ⟨eL [(0,.iptr [.lst 5 (x0.L.Nodes.map Jb),.lst 3 (x0.L.Devices.map Jd),.lst 1 (x0.order.map iA)]),(2,.lst 3 (x2.map Je)),(44,.lst 3 (x2.map Je)),(45,.int .i64 (x2.length:Int)),(46,.int .i64 (k9:Int))],hL [],0⟩
 conv=>whnf
 refine⟨fun h=> ?_,fun h=> ?_⟩
 have lk9:k9<x2.length:=by have h:=Wt h;omega
 obtain⟨e10,he10⟩:=ge lk9
 rw [Jl he10,QB.eq_2] at hL1
 conv=>whnf
 refine⟨k9,_,rfl,Jv he10,?_⟩
 conv=>whnf
 refine xB hL1 (fun b60 hL1=> ?_) fun b60 hL1=> ?_
 conv=>whnf
 refine xB hL1 (fun b61 hL1=> ?_) fun b61 hL1=> ?_
 conv=>whnf
 obtain rfl:=si hL1
 replace hF:=Jn hF
 obtain rfl:=si hF
 exact rZ
 conv=>whnf
 refine⟨fun b62=> ?_,fun b62=> ?_⟩
 replace hL1:=cf b62 hL1
 conv=>whnf
 refine Jm (enc:=Jb) (l:=x0.L.Nodes) rfl ?_
 conv=>whnf
 refine⟨fun b63=> ?_,fun b63=> ?_⟩
 replace hL1:=cf b63 hL1
 conv=>whnf
 refine⟨fun b64=> ?_,fun b64=> ?_⟩
 replace hL1:=cf b64 hL1
 conv=>whnf
 obtain⟨e11,he11,hL1⟩:=bs' hL1
 refine JZ (enc:=Jb) (l:=x0.L.Nodes) he11 rfl (fun m_e_11 hm_e_11 hx_e_11=> ?_)
 conv=>whnf
 refine⟨by kernel_rfl,?_⟩
 conv=>whnf
 refine xB hL1 (fun b65 hL1=> ?_) fun b65 hL1=> ?_
 conv=>whnf
 obtain rfl:=si hL1
 replace hF:=Jn hF
 obtain rfl:=si hF
 exact rZ
 conv=>whnf
 refine⟨((k9+1:Nat):Int),wE,?_⟩
 conv=>whnf
 exact⟨k9+1,_,_,_,⟨lk9,hL1⟩,sl lk9,wK [] [] []⟩
 replace hL1:=ct b64 hL1
 conv=>whnf
 refine⟨by kernel_rfl,?_⟩
 conv=>whnf
 obtain rfl:=si hL1
 replace hF:=Jn hF
 obtain rfl:=si hF
 exact rZ
 replace hL1:=ct b63 hL1
 conv=>whnf
 refine⟨by kernel_rfl,?_⟩
 conv=>whnf
 obtain rfl:=si hL1
 replace hF:=Jn hF
 obtain rfl:=si hF
 exact rZ
 replace hL1:=ct b62 hL1
 conv=>whnf
 refine⟨by kernel_rfl,?_⟩
 conv=>whnf
 obtain rfl:=si hL1
 replace hF:=Jn hF
 obtain rfl:=si hF
 exact rZ
 conv=>whnf
 refine⟨fun b66=> ?_,fun b66=> ?_⟩
 replace hL1:=cf b66 hL1
 conv=>whnf
 refine Jm (enc:=Jb) (l:=x0.L.Nodes) rfl ?_
 conv=>whnf
 refine⟨fun b67=> ?_,fun b67=> ?_⟩
 replace hL1:=cf b67 hL1
 conv=>whnf
 refine⟨fun b68=> ?_,fun b68=> ?_⟩
 replace hL1:=cf b68 hL1
 conv=>whnf
 obtain⟨e12,he12,hL1⟩:=bs' hL1
 refine JZ (enc:=Jb) (l:=x0.L.Nodes) he12 rfl (fun m_e_12 hm_e_12 hx_e_12=> ?_)
 conv=>whnf
 refine⟨by kernel_rfl,?_⟩
 conv=>whnf
 refine xB hL1 (fun b69 hL1=> ?_) fun b69 hL1=> ?_
 conv=>whnf
 obtain rfl:=si hL1
 replace hF:=Jn hF
 obtain rfl:=si hF
 exact rZ
 conv=>whnf
 refine⟨((k9+1:Nat):Int),wE,?_⟩
 conv=>whnf
 exact⟨k9+1,_,_,_,⟨lk9,hL1⟩,sl lk9,wK [] [] []⟩
 replace hL1:=ct b68 hL1
 conv=>whnf
 refine⟨by kernel_rfl,?_⟩
 conv=>whnf
 obtain rfl:=si hL1
 replace hF:=Jn hF
 obtain rfl:=si hF
 exact rZ
 replace hL1:=ct b67 hL1
 conv=>whnf
 refine⟨by kernel_rfl,?_⟩
 conv=>whnf
 obtain rfl:=si hL1
 replace hF:=Jn hF
 obtain rfl:=si hF
 exact rZ
 replace hL1:=ct b66 hL1
 conv=>whnf
 refine⟨by kernel_rfl,?_⟩
 conv=>whnf
 obtain rfl:=si hL1
 replace hF:=Jn hF
 obtain rfl:=si hF
 exact rZ
 rw [Jq (nl h),QB.eq_1] at hL1
 conv=>whnf
 obtain rfl:=si hL1
 replace hF:=Jw hF
 try dsimp only at hF
 refine Jm (enc:=Je) (l:=x2) rfl ?_
 conv=>whnf
 obtain⟨c3,hc_3,hF⟩:=Jr hF
 refine J1 2 (v:= .lst 3 (x2.map Je)) (by(conv=>lhs;whnf)<;>rfl) (fun hb=> ?_)
 have hbd_k_16:x2.length<=9223372036854775807:=Jz (enc:=Je) (hb)
 refine Jo Jc Ja (fun y:Nat=>y<=x2.length∧QM x2 (x2.drop y) y=some c3) (fun y=>⟨eL [(2,.lst 3 (x2.map Je)),(95,.lst 3 (x2.map Je)),(96,.int .i64 (x2.length:Int)),(97,.int .i64 (y:Int))],hL [],0⟩) (fun y=>x2.length - y) 0 ⟨Nat.zero_le _,hc_3⟩ (wK [] [] []) ?_
 rintro k16 ⟨hk_k_16,hL1⟩
 try dsimp only at hk_k_16 hL1
 show awp _ _ _ _ _ _ ⟨eL [(2,.lst 3 (x2.map Je)),(95,.lst 3 (x2.map Je)),(96,.int .i64 (x2.length:Int)),(97,.int .i64 (k16:Int))],hL [],0⟩
 conv=>whnf
 refine⟨fun h=> ?_,fun h=> ?_⟩
 have lk16:k16<x2.length:=by have h:=Wt h;omega
 obtain⟨e17,he17⟩:=ge lk16
 rw [Jl he17,QM.eq_2] at hL1
 conv=>whnf
 refine⟨k16,_,rfl,Jv he17,?_⟩
 conv=>whnf
 obtain⟨l18,hl18,hL1⟩:=bs' hL1
 refine Jjj (enc:=Je) (l:=x2) hl18 rfl ?_
 conv=>whnf
 obtain⟨r19,hr19,hL1⟩:=bs' hL1
 refine cE (cX false [] [0] 0 Tryz.func48 (JcP l18 e17 r19 hr19) ⟨aq,(Q4 (c:=[.ptr 0 0]) (by(conv=>lhs;whnf)<;>rfl) rfl ⟨(YT 0 _ rfl rfl rfl rfl rfl),tv⟩),tv⟩ trivial (YJ rfl trivial) trivial) ?_
 conv=>whnf
 refine xB hL1 (fun b70 hL1=> ?_) fun b70 hL1=> ?_
 conv=>whnf
 obtain rfl:=si hL1
 replace hF:=Jn hF
 obtain rfl:=si hF
 exact rZ
 conv=>whnf
 refine⟨((k16+1:Nat):Int),wE,?_⟩
 conv=>whnf
 exact⟨k16+1,_,_,_,⟨lk16,hL1⟩,sl lk16,wK [] [] []⟩
 rw [Jq (nl h),QM.eq_1] at hL1
 conv=>whnf
 obtain rfl:=si hL1
 replace hF:=Jw hF
 try dsimp only at hF
 obtain rfl:=si hF
 exact rZ
theorem JeN (x0:(List Fault)) (x1:Fault) (r:Int) (hF:JaI x0 x1=some r):AC Tryz.prog 197 [.lst 3 (x0.map Je),.agg (Je x1)] [] (.int .i64 r) ([]):=by
 refine Ju Jc Ja Tryz.func197 rfl Tryz.ntmps197 rfl ?_
 unfold JaI at hF
 conv=>whnf
 refine Jm (enc:=Je) (l:=x0) rfl ?_
 conv=>whnf
 obtain⟨c1,hc_1,hF⟩:=Jr hF
 refine J1 0 (v:= .lst 3 (x0.map Je)) (by(conv=>lhs;whnf)<;>rfl) (fun hb=> ?_)
 have hbd_k_2:x0.length<=9223372036854775807:=Jz (enc:=Je) (hb)
 refine Jo Jc Ja (fun y:Nat=>y<=x0.length∧QE x1 (x0.drop y) y=some c1) (fun y=>⟨eL [(0,.lst 3 (x0.map Je)),(3,.ptr 0 0),(7,.int .i64 (x0.length:Int)),(8,.int .i64 (y:Int))],hL [(0,.box [.int .i64 x1.Kind,.int .i64 x1.Node,.int .i64 x1.Window])],1⟩) (fun y=>x0.length - y) 0 ⟨Nat.zero_le _,hc_1⟩ (wK [0] [] []) ?_
 rintro k2 ⟨hk_k_2,hL1⟩
 try dsimp only at hk_k_2 hL1
 show awp _ _ _ _ _ _ ⟨eL [(0,.lst 3 (x0.map Je)),(3,.ptr 0 0),(7,.int .i64 (x0.length:Int)),(8,.int .i64 (k2:Int))],hL [(0,.box [.int .i64 x1.Kind,.int .i64 x1.Node,.int .i64 x1.Window])],1⟩
 conv=>whnf
 refine⟨fun h=> ?_,fun h=> ?_⟩
 have lk2:k2<x0.length:=by have h:=Wt h;omega
 obtain⟨e3,he3⟩:=ge lk2
 rw [Jl he3,QE.eq_2] at hL1
 conv=>whnf
 refine⟨k2,_,rfl,Jv he3,?_⟩
 conv=>whnf
 refine⟨by kernel_rfl,?_⟩
 conv=>whnf
 refine xB hL1 (fun b7 hL1=> ?_) fun b7 hL1=> ?_
 conv=>whnf
 obtain rfl:=si hL1
 replace hF:=Jn hF
 obtain rfl:=si hF
 exact rZ
 conv=>whnf
 refine⟨((k2+1:Nat):Int),wE,?_⟩
 conv=>whnf
 exact⟨k2+1,_,_,_,⟨lk2,hL1⟩,sl lk2,wK [0] [] []⟩
 rw [Jq (nl h),QE.eq_1] at hL1
 conv=>whnf
 obtain rfl:=si hL1
 replace hF:=Jw hF
 try dsimp only at hF
 obtain rfl:=si hF
 exact rZ
theorem Jd2 (x0:(List Fault)) (x1:Fault) (r:Bool) (hF:Zh x0 x1=some r):AC Tryz.prog 166 [.lst 3 (x0.map Je),.agg (Je x1)] [] (.bool r) ([]):=by
 refine Ju Jc Ja Tryz.func166 rfl Tryz.ntmps166 rfl ?_
 unfold Zh at hF
 conv=>whnf
 obtain⟨r1,hr1,hF⟩:=bs' hF
 refine cE (d0 0 Tryz.func197 (JeN x0 x1 r1 hr1)) ?_
 conv=>whnf
 obtain rfl:=si hF
 exact rZ
theorem JeU (x0:Plan) (x1:Plant) (x2:Int) (x3:Int) (x4:(List Fault)) (r:Int) (hF:Jal x0 x1 x2 x3 x4=some r):AC Tryz.prog 118 [.iptr [.lst 5 (x0.L.Nodes.map Jb),.lst 3 (x0.L.Devices.map Jd),.lst 1 (x0.order.map iA)],.agg (Qi x1),.int .i64 x2,.int .i64 x3,.lst 3 (x4.map Je)] [] (.int .i64 r) ([]):=by
 refine Ju Jc Ja Tryz.func118 rfl Tryz.ntmps118 rfl ?_
 unfold Jal at hF
 conv=>whnf
 obtain⟨e1,he1,hF⟩:=bs' hF
 refine JZ (enc:=Jb) (l:=x0.L.Nodes) he1 rfl (fun m_e_1 hm_e_1 hx_e_1=> ?_)
 conv=>whnf
 refine xB hF (fun b6 hF=> ?_) fun b6 hF=> ?_
 conv=>whnf
 obtain⟨e2,he2,hF⟩:=bs' hF
 refine JZ (enc:=(lA 1 iA)) (l:=x1.Bins) he2 rfl (fun m_e_2 hm_e_2 hx_e_2=> ?_)
 conv=>whnf
 obtain⟨r3,hr3,hF⟩:=bs' hF
 refine cE (d0 0 Tryz.func68 (ZT e2 x3 r3 hr3)) ?_
 conv=>whnf
 refine xB hF (fun b7 hF=> ?_) fun b7 hF=> ?_
 conv=>whnf
 obtain rfl:=si hF
 exact rZ
 conv=>whnf
 obtain rfl:=si hF
 exact rZ
 conv=>whnf
 obtain⟨r4,hr4,hF⟩:=bs' hF
 refine cE (d0 0 Tryz.func85 (Qv e1.Kind r4 hr4)) ?_
 conv=>whnf
 refine xB hF (fun b8 hF=> ?_) fun b8 hF=> ?_
 conv=>whnf
 obtain rfl:=si hF
 exact rZ
 conv=>whnf
 refine⟨_,rfl,?_⟩
 conv=>whnf
 obtain⟨e5,he5,hF⟩:=bs' hF
 refine JZ (enc:=(lA 1 iA)) (l:=x1.Slots) he5 rfl (fun m_e_5 hm_e_5 hx_e_5=> ?_)
 conv=>whnf
 obtain⟨e6,he6,hF⟩:=bs' hF
 refine JZ (enc:=iA) (l:=e5) he6 rfl (fun m_e_6 hm_e_6 hx_e_6=> ?_)
 conv=>whnf
 refine⟨fun b9=> ?_,fun b9=> ?_⟩
 replace hF:=cf b9 hF
 conv=>whnf
 obtain⟨r7,hr7,hF⟩:=bs' hF
 refine cE (d0 0 Tryz.func166 (Jd2 x4 (⟨1,x2,(w64 (e1.Length - 1))⟩:Fault) r7 hr7)) ?_
 conv=>whnf
 refine xB hF (fun b10 hF=> ?_) fun b10 hF=> ?_
 conv=>whnf
 obtain rfl:=si hF
 exact rZ
 conv=>whnf
 obtain rfl:=si hF
 exact rZ
 replace hF:=ct b9 hF
 conv=>whnf
 obtain rfl:=si hF
 exact rZ
theorem Jez (x0:(List Int)) (r:(List Int)) (hF:JaB x0=some r):AC Tryz.prog 119 [.lst 1 (x0.map iA)] [] (.fn 167 [.ptr 0 0]) ([.box ([.lst 1 (r.map iA)])]):=by
 refine Ju Jc Ja Tryz.func119 rfl Tryz.ntmps119 rfl ?_
 unfold JaB at hF
 conv=>whnf
 obtain rfl:=si hF
 exact Jk [0] [] [] rfl (Q4 (c:=[.ptr 0 0]) (by(conv=>lhs;whnf)<;>rfl) rfl ⟨(.ptr 0 0 0 rfl),tv⟩) ⟨bN,tv⟩
theorem Zi (x0:Plan) (x1:(List Int)) (x2:Int) (r:Int) (hF:QC x0 x1 x2=some r):AC Tryz.prog 120 [.iptr [.lst 5 (x0.L.Nodes.map Jb),.lst 3 (x0.L.Devices.map Jd),.lst 1 (x0.order.map iA)],.lst 1 (x1.map iA),.int .i64 x2] [] (.int .u64 r) ([]):=by
 refine Ju Jc Ja Tryz.func120 rfl Tryz.ntmps120 rfl ?_
 unfold QC at hF
 conv=>whnf
 refine Jm (enc:=iA) (l:=x1) rfl ?_
 conv=>whnf
 obtain⟨c1,hc_1,hF⟩:=Jr hF
 refine J1 1 (v:= .lst 1 (x1.map iA)) (by(conv=>lhs;whnf)<;>rfl) (fun hb=> ?_)
 have hbd_k_3:x1.length<=9223372036854775807:=Jz (enc:=iA) (hb)
 refine Jo Jc Ja (fun y:Nat×Int=>y.1<=x1.length∧Qf x0 x2 (x1.drop y.1) y.1 y.2=some c1) (fun y=>⟨eL [(0,.iptr [.lst 5 (x0.L.Nodes.map Jb),.lst 3 (x0.L.Devices.map Jd),.lst 1 (x0.order.map iA)]),(2,.int .i64 x2),(7,.int .u64 y.2),(10,.lst 1 (x1.map iA)),(11,.int .i64 (x1.length:Int)),(12,.int .i64 (y.1:Int))],hL [],0⟩) (fun y=>x1.length - y.1) (0,0) ⟨Nat.zero_le _,hc_1⟩ (wK [] [] []) ?_
 rintro⟨k3,i1⟩ ⟨hk_k_3,hL1⟩
 try dsimp only at hk_k_3 hL1
 show awp _ _ _ _ _ _ ⟨eL [(0,.iptr [.lst 5 (x0.L.Nodes.map Jb),.lst 3 (x0.L.Devices.map Jd),.lst 1 (x0.order.map iA)]),(2,.int .i64 x2),(7,.int .u64 i1),(10,.lst 1 (x1.map iA)),(11,.int .i64 (x1.length:Int)),(12,.int .i64 (k3:Int))],hL [],0⟩
 conv=>whnf
 refine⟨fun h=> ?_,fun h=> ?_⟩
 have lk3:k3<x1.length:=by have h:=Wt h;omega
 obtain⟨e4,he4⟩:=ge lk3
 rw [Jl he4,Qf.eq_2] at hL1
 conv=>whnf
 refine⟨k3,_,rfl,Jv he4,?_⟩
 conv=>whnf
 refine xB hL1 (fun b15 hL1=> ?_) fun b15 hL1=> ?_
 conv=>whnf
 refine xB hL1 (fun b16 hL1=> ?_) fun b16 hL1=> ?_
 conv=>whnf
 obtain⟨e5,he5,hL1⟩:=bs' hL1
 refine JZ (enc:=Jb) (l:=x0.L.Nodes) he5 rfl (fun m_e_5 hm_e_5 hx_e_5=> ?_)
 conv=>whnf
 obtain⟨e6,he6,hL1⟩:=bs' hL1
 refine JZ (enc:=iA) (l:=e5.Exits) he6 rfl (fun m_e_6 hm_e_6 hx_e_6=> ?_)
 conv=>whnf
 refine xB hL1 (fun b17 hL1=> ?_) fun b17 hL1=> ?_
 conv=>whnf
 obtain⟨u7,hu7,hL1⟩:=bs' hL1
 refine⟨_,JvV (JsJ hu7),?_⟩
 conv=>whnf
 refine⟨_,Jwb,?_⟩
 conv=>whnf
 refine⟨((k3+1:Nat):Int),wE,?_⟩
 conv=>whnf
 exact⟨(k3+1,(orF .u64 i1 (Jmv .u64 1 (k3:Int)))),_,_,_,⟨lk3,hL1⟩,sl lk3,wK [] [] []⟩
 conv=>whnf
 refine⟨((k3+1:Nat):Int),wE,?_⟩
 conv=>whnf
 exact⟨(k3+1,i1),_,_,_,⟨lk3,hL1⟩,sl lk3,wK [] [] []⟩
 conv=>whnf
 refine⟨((k3+1:Nat):Int),wE,?_⟩
 conv=>whnf
 exact⟨(k3+1,i1),_,_,_,⟨lk3,hL1⟩,sl lk3,wK [] [] []⟩
 conv=>whnf
 refine⟨((k3+1:Nat):Int),wE,?_⟩
 conv=>whnf
 exact⟨(k3+1,i1),_,_,_,⟨lk3,hL1⟩,sl lk3,wK [] [] []⟩
 rw [Jq (nl h),Qf.eq_1] at hL1
 conv=>whnf
 obtain rfl:=si hL1
 replace hF:=Jw hF
 try dsimp only at hF
 obtain rfl:=si hF
 exact rZ
theorem Qq (x0:Int) (r:Int) (hF:bits_TrailingZeros x0=some r):AC Tryz.prog 121 [.int .u64 x0] [] (.int .i64 r) ([]):=by
 exact Jve x0 r hF
theorem JiM (x0:(List Int)) (r:Int) (hF:Jew x0=some r):AC Tryz.prog 170 [.lst 1 (x0.map iA)] [] (.int .i64 r) ([]):=by
 refine Ju Jc Ja Tryz.func170 rfl Tryz.ntmps170 rfl ?_
 unfold Jew at hF
 conv=>whnf
 refine Jm (enc:=iA) (l:=x0) rfl ?_
 conv=>whnf
 obtain⟨c1,hc_1,hF⟩:=Jr hF
 refine J1 0 (v:= .lst 1 (x0.map iA)) (by(conv=>lhs;whnf)<;>rfl) (fun hb=> ?_)
 have hbd_k_3:x0.length<=9223372036854775807:=Jz (enc:=iA) (hb)
 refine Jo Jc Ja (fun y:Nat×Int=>y.1<=x0.length∧ZY (x0.drop y.1) y.1 y.2=some c1) (fun y=>⟨eL [(3,.int .i64 y.2),(6,.lst 1 (x0.map iA)),(7,.int .i64 (x0.length:Int)),(8,.int .i64 (y.1:Int))],hL [],0⟩) (fun y=>x0.length - y.1) (0,0) ⟨Nat.zero_le _,hc_1⟩ (wK [] [] []) ?_
 rintro⟨k3,i1⟩ ⟨hk_k_3,hL1⟩
 try dsimp only at hk_k_3 hL1
 show awp _ _ _ _ _ _ ⟨eL [(3,.int .i64 i1),(6,.lst 1 (x0.map iA)),(7,.int .i64 (x0.length:Int)),(8,.int .i64 (k3:Int))],hL [],0⟩
 conv=>whnf
 refine⟨fun h=> ?_,fun h=> ?_⟩
 have lk3:k3<x0.length:=by have h:=Wt h;omega
 obtain⟨e4,he4⟩:=ge lk3
 rw [Jl he4,ZY.eq_2] at hL1
 conv=>whnf
 refine⟨k3,_,rfl,Jv he4,?_⟩
 conv=>whnf
 refine xB hL1 (fun b7 hL1=> ?_) fun b7 hL1=> ?_
 conv=>whnf
 refine⟨_,rfl,?_⟩
 conv=>whnf
 refine⟨((k3+1:Nat):Int),wE,?_⟩
 conv=>whnf
 exact⟨(k3+1,(w64 (i1+1))),_,_,_,⟨lk3,hL1⟩,sl lk3,wK [] [] []⟩
 conv=>whnf
 refine⟨((k3+1:Nat):Int),wE,?_⟩
 conv=>whnf
 exact⟨(k3+1,i1),_,_,_,⟨lk3,hL1⟩,sl lk3,wK [] [] []⟩
 rw [Jq (nl h),ZY.eq_1] at hL1
 conv=>whnf
 obtain rfl:=si hL1
 replace hF:=Jw hF
 try dsimp only at hF
 obtain rfl:=si hF
 exact rZ
theorem ZQ (x0:Plan) (x1:Plant) (x2:Int) (r:Bool) (hF:QT x0 x1 x2=some r):AC Tryz.prog 122 [.iptr [.lst 5 (x0.L.Nodes.map Jb),.lst 3 (x0.L.Devices.map Jd),.lst 1 (x0.order.map iA)],.agg (Qi x1),.int .i64 x2] [] (.bool r) ([]):=by
 refine Ju Jc Ja Tryz.func122 rfl Tryz.ntmps122 rfl ?_
 unfold QT at hF
 conv=>whnf
 obtain⟨e1,he1,hF⟩:=bs' hF
 refine JZ (enc:=Jb) (l:=x0.L.Nodes) he1 rfl (fun m_e_1 hm_e_1 hx_e_1=> ?_)
 conv=>whnf
 obtain⟨r2,hr2,hF⟩:=bs' hF
 refine cE (d0 0 Tryz.func85 (Qv e1.Kind r2 hr2)) ?_
 conv=>whnf
 refine xB hF (fun b4 hF=> ?_) fun b4 hF=> ?_
 conv=>whnf
 obtain rfl:=si hF
 exact rZ
 conv=>whnf
 obtain⟨e3,he3,hF⟩:=bs' hF
 refine JZ (enc:=Jb) (l:=x0.L.Nodes) he3 rfl (fun m_e_3 hm_e_3 hx_e_3=> ?_)
 conv=>whnf
 refine xB hF (fun b5 hF=> ?_) fun b5 hF=> ?_
 conv=>whnf
 obtain⟨e4,he4,hF⟩:=bs' hF
 refine JZ (enc:=(lA 1 iA)) (l:=x1.Slots) he4 rfl (fun m_e_4 hm_e_4 hx_e_4=> ?_)
 conv=>whnf
 obtain⟨r5,hr5,hF⟩:=bs' hF
 refine cE (d0 0 Tryz.func170 (JiM e4 r5 hr5)) ?_
 conv=>whnf
 refine xB hF (fun b6 hF=> ?_) fun b6 hF=> ?_
 conv=>whnf
 obtain rfl:=si hF
 exact rZ
 conv=>whnf
 obtain⟨e6,he6,hF⟩:=bs' hF
 refine JZ (enc:=(lA 1 iA)) (l:=x1.Slots) he6 rfl (fun m_e_6 hm_e_6 hx_e_6=> ?_)
 conv=>whnf
 obtain⟨e7,he7,hF⟩:=bs' hF
 refine JZ (enc:=iA) (l:=e6) he7 rfl (fun m_e_7 hm_e_7 hx_e_7=> ?_)
 conv=>whnf
 obtain rfl:=si hF
 exact rZ
 conv=>whnf
 obtain⟨e8,he8,hF⟩:=bs' hF
 refine JZ (enc:=(lA 1 iA)) (l:=x1.Slots) he8 rfl (fun m_e_8 hm_e_8 hx_e_8=> ?_)
 conv=>whnf
 obtain⟨e9,he9,hF⟩:=bs' hF
 refine JZ (enc:=iA) (l:=e8) he9 rfl (fun m_e_9 hm_e_9 hx_e_9=> ?_)
 conv=>whnf
 obtain rfl:=si hF
 exact rZ
theorem Jfr (x0:Plan) (x1:Plant) (x2:(List Int)) (x3:(List Fault)) (r:Flow) (hF:Yn x0 x1 x2 x3=some r):AC Tryz.prog 84 [.iptr [.lst 5 (x0.L.Nodes.map Jb),.lst 3 (x0.L.Devices.map Jd),.lst 1 (x0.order.map iA)],.agg (Qi x1),.lst 1 (x2.map iA),.lst 3 (x3.map Je)] [] (.agg (Js3 r)) ([]):=by
 refine Ju Jc Ja Tryz.func84 rfl Tryz.ntmps84 rfl ?_
 unfold Yn at hF
 conv=>whnf
 refine Jm (enc:=Jb) (l:=x0.L.Nodes) rfl ?_
 conv=>whnf
 obtain⟨c1,hc_1,hF⟩:=Jr hF
 refine J1 0 (v:= .iptr [.lst 5 (x0.L.Nodes.map Jb),.lst 3 (x0.L.Devices.map Jd),.lst 1 (x0.order.map iA)]) (by(conv=>lhs;whnf)<;>rfl) (fun hb=> ?_)
 have hbd_k_5:x0.L.Nodes.length<=9223372036854775807:=Jz (enc:=Jb) ((YC hb.icell 0 rfl))
 refine Jo Jc Ja (fun y:Nat×(List Int)×(List Int)×(List Int)=>y.1<=x0.L.Nodes.length∧QK x0 x1 x2 x3 (x0.L.Nodes.drop y.1) y.1 y.2.1 y.2.2.1 y.2.2.2=some c1) (fun y=>⟨eL [(2,.lst 1 (x2.map iA)),(3,.lst 3 (x3.map Je)),(4,.ptr 0 0),(5,.ptr 1 0),(8,.ptr 2 0),(9,.ptr 3 0),(10,.ptr 4 0),(23,.int .i64 (x0.L.Nodes.length:Int)),(24,.int .i64 (y.1:Int))],hL [(0,.box [.iptr [.lst 5 (x0.L.Nodes.map Jb),.lst 3 (x0.L.Devices.map Jd),.lst 1 (x0.order.map iA)]]),(1,.box [.lst 1 (x1.Slots.map (lA 1 iA)),.lst 1 (x1.Bins.map (lA 1 iA))]),(2,.box [.nils,.nils]),(3,.box [.osl 5,.osl 6]),(4,.box [.osl 7]),(5,.row 1 (y.2.1.map iA)),(6,.row 1 (y.2.2.1.map iA)),(7,.row 1 (y.2.2.2.map iA))],8⟩) (fun y=>x0.L.Nodes.length - y.1) (0,([]:List Int),([]:List Int),([]:List Int)) ⟨Nat.zero_le _,hc_1⟩ (wK [0,1,2,3,4] [5,6,7] [] ⟨bN,bN,bN,Jy rfl rfl rfl ⟨(.nilz 5 (by simp)),(.nilz 6 (by simp)),tv⟩,Jy rfl rfl rfl ⟨(.nilz 7 (by simp)),tv⟩,Jci rfl,Jci rfl,Jci rfl,tv⟩) ?_
 rintro⟨k5,a1,a2,a3⟩ ⟨hk_k_5,hL1⟩
 try dsimp only at hk_k_5 hL1
 show awp _ _ _ _ _ _ ⟨eL [(2,.lst 1 (x2.map iA)),(3,.lst 3 (x3.map Je)),(4,.ptr 0 0),(5,.ptr 1 0),(8,.ptr 2 0),(9,.ptr 3 0),(10,.ptr 4 0),(23,.int .i64 (x0.L.Nodes.length:Int)),(24,.int .i64 (k5:Int))],hL [(0,.box [.iptr [.lst 5 (x0.L.Nodes.map Jb),.lst 3 (x0.L.Devices.map Jd),.lst 1 (x0.order.map iA)]]),(1,.box [.lst 1 (x1.Slots.map (lA 1 iA)),.lst 1 (x1.Bins.map (lA 1 iA))]),(2,.box [.nils,.nils]),(3,.box [.osl 5,.osl 6]),(4,.box [.osl 7]),(5,.row 1 (a1.map iA)),(6,.row 1 (a2.map iA)),(7,.row 1 (a3.map iA))],8⟩
 conv=>whnf
 refine⟨fun h=> ?_,fun h=> ?_⟩
 have lk5:k5<x0.L.Nodes.length:=by have h:=Wt h;omega
 obtain⟨e6,he6⟩:=ge lk5
 rw [Jl he6,QK.eq_2] at hL1
 conv=>whnf
 obtain⟨l7,hl7,hL1⟩:=bs' hL1
 refine ZV (enc:=iA) (l:=a1) (y:=([(-1:Int)]:List Int)) hl7 rfl rfl (by decide) ?_
 conv=>whnf
 obtain⟨l8,hl8,hL1⟩:=bs' hL1
 refine ZV (enc:=iA) (l:=a2) (y:=([(-1:Int)]:List Int)) hl8 rfl rfl (by decide) ?_
 conv=>whnf
 refine⟨by kernel_rfl,?_⟩
 conv=>whnf
 obtain⟨e9,he9,hL1⟩:=bs' hL1
 refine JZ (enc:=iA) (l:=x2) he9 rfl (fun m_e_9 hm_e_9 hx_e_9=> ?_)
 conv=>whnf
 obtain⟨r10,hr10,hL1⟩:=bs' hL1
 refine cE (d0 0 Tryz.func118 (JeU x0 x1 (k5:Int) e9 x3 r10 hr10)) ?_
 conv=>whnf
 obtain⟨l11,hl11,hL1⟩:=bs' hL1
 refine ZV (enc:=iA) (l:=a3) (y:=([r10]:List Int)) hl11 rfl rfl (by decide) ?_
 conv=>whnf
 refine⟨by kernel_rfl,?_⟩
 conv=>whnf
 refine⟨((k5+1:Nat):Int),wE,?_⟩
 conv=>whnf
 exact⟨(k5+1,l7,l8,l11),_,_,_,⟨lk5,hL1⟩,sl lk5,wK [0,1,2,3,4,9,11,14] [] [] ⟨bN,bN,bN,Jy rfl rfl rfl ⟨(.oslg 9 5 rfl),(.oslg 11 6 rfl),tv⟩,Jy rfl rfl rfl ⟨(.oslg 14 7 rfl),tv⟩,bR,bR,bR,tv⟩⟩
 rw [Jq (nl h),QK.eq_1] at hL1
 conv=>whnf
 obtain rfl:=si hL1
 replace hF:=Jw hF
 try dsimp only at hF
 obtain⟨r14,hr14,hF⟩:=bs' hF
 refine cE (d0 1 Tryz.func119 (Jez x0.order r14 hr14) ⟨rfl,tv⟩) ?_
 conv=>whnf
 obtain⟨c2,hc_2,hF⟩:=Jr hF
 refine Jk3 Jc Ja (eL [(4,.ptr 0 0),(5,.ptr 1 0),(8,.ptr 2 0),(9,.ptr 3 0),(10,.ptr 6 0),(54,.fn 167 [.iptr [.lst 1 (r14.map iA)]])]) 8 (fun y:(List Int)×(List Int)=>hL [(0,.box [.iptr [.lst 5 (x0.L.Nodes.map Jb),.lst 3 (x0.L.Devices.map Jd),.lst 1 (x0.order.map iA)]]),(1,.box [.lst 1 (x1.Slots.map (lA 1 iA)),.lst 1 (x1.Bins.map (lA 1 iA))]),(2,.box [.nils,.nils]),(3,.box [.osl 4,.osl 5]),(4,.row 1 (y.1.map iA)),(5,.row 1 (y.2.map iA)),(6,.box [.osl 7]),(7,.row 1 (a3.map iA))]) (fun k_ y=>k_<=(r14.reverse).length∧Jj x0 x1 (a1,a2,a3) ((r14.reverse).drop k_) k_ y.1 y.2=some c2) (a1,a2) ⟨Nat.zero_le _,hc_2⟩ (JoZ [0,1,2,3,5,6,4,7] [] [8] rfl ⟨aP 0,aP 1,aP 2,aP 3,aP 4,Q4 (c:=[.ptr 8 0]) (by(conv=>lhs;whnf)<;>rfl) rfl ⟨(YT 8 _ rfl rfl rfl rfl rfl),tv⟩,tv⟩ ⟨bN,bN,bN,Jy rfl rfl rfl ⟨(.oslg 5 4 rfl),(.oslg 6 5 rfl),tv⟩,bR,bR,Jy rfl rfl rfl ⟨(.oslg 7 7 rfl),tv⟩,bR,tv⟩) rfl rfl (JoC r14) (enters_of Tryz.func167 (by kernel_rfl) rfl) rfl rfl (by decide) JoU (fun y id h_=>JnG (by rfl) id h_) ?_ ?_
 rintro k18 ⟨a15,a16⟩ args_ ⟨hk_k_18,hL1⟩ hargs_
 try dsimp only at hL1
 obtain⟨e17,he_e_17,hz_e_17⟩:=Jn1 hargs_
 subst hz_e_17
 rw [Jl he_e_17,Jj.eq_2] at hL1
 show awp _ _ _ _ _ _ ⟨_,hL [(0,.box [.iptr [.lst 5 (x0.L.Nodes.map Jb),.lst 3 (x0.L.Devices.map Jd),.lst 1 (x0.order.map iA)]]),(1,.box [.lst 1 (x1.Slots.map (lA 1 iA)),.lst 1 (x1.Bins.map (lA 1 iA))]),(2,.box [.nils,.nils]),(3,.box [.osl 4,.osl 5]),(4,.row 1 (a15.map iA)),(5,.row 1 (a16.map iA)),(6,.box [.osl 7]),(7,.row 1 (a3.map iA))],8⟩
 conv=>whnf
 obtain⟨e21,he21,hL1⟩:=bs' hL1
 refine JZ (enc:=Jb) (l:=x0.L.Nodes) he21 rfl (fun m_e_21 hm_e_21 hx_e_21=> ?_)
 conv=>whnf
 refine xB hL1 (fun b120 hL1=> ?_) fun b120 hL1=> ?_
 conv=>whnf
 obtain⟨e22,he22,hL1⟩:=bs' hL1
 refine Qc (enc:=iA) (l:=a3) he22 rfl (fun m_e_22 hm_e_22 hx_e_22=> ?_)
 conv=>whnf
 refine⟨_,Jv (enc:=iA) hx_e_22,?_⟩
 conv=>whnf
 refine xB hL1 (fun b121 hL1=> ?_) fun b121 hL1=> ?_
 conv=>whnf
 obtain⟨e23,he23,hL1⟩:=bs' hL1
 refine Qc (enc:=iA) (l:=a15) he23 rfl (fun m_e_23 hm_e_23 hx_e_23=> ?_)
 conv=>whnf
 refine⟨_,Jv (enc:=iA) hx_e_23,?_⟩
 conv=>whnf
 refine xB hL1 (fun b122 hL1=> ?_) fun b122 hL1=> ?_
 conv=>whnf
 obtain⟨e24,he24,hL1⟩:=bs' hL1
 refine JZ (enc:=(lA 1 iA)) (l:=x1.Slots) he24 rfl (fun m_e_24 hm_e_24 hx_e_24=> ?_)
 conv=>whnf
 obtain⟨e25,he25,hL1⟩:=bs' hL1
 refine JZ (enc:=iA) (l:=e24) he25 rfl (fun m_e_25 hm_e_25 hx_e_25=> ?_)
 conv=>whnf
 refine xB hL1 (fun b123 hL1=> ?_) fun b123 hL1=> ?_
 conv=>whnf
 obtain⟨e26,he26,hL1⟩:=bs' hL1
 refine Qc (enc:=iA) (l:=a15) he26 rfl (fun m_e_26 hm_e_26 hx_e_26=> ?_)
 conv=>whnf
 refine Z6 (enc:=iA) (l:=a15) (x':=0) (i:=e17) hm_e_26 hx_e_26 rfl (Wl rfl) rfl ?_
 conv=>whnf
 obtain⟨r27,hr27,hL1⟩:=bs' hL1
 refine cE (dX false [] [7] 0 Tryz.func120 (Zi x0 a3 e17 r27 hr27) trivial (YJ rfl trivial) trivial) ?_
 conv=>whnf
 obtain⟨e28,he28,hL1⟩:=bs' hL1
 refine JZ (enc:=Jb) (l:=x0.L.Nodes) he28 rfl (fun m_e_28 hm_e_28 hx_e_28=> ?_)
 conv=>whnf
 obtain⟨r29,hr29,hL1⟩:=bs' hL1
 refine cE (d0 0 Tryz.func85 (Qv e28.Kind r29 hr29)) ?_
 conv=>whnf
 refine xB hL1 (fun b124 hL1=> ?_) fun b124 hL1=> ?_
 conv=>whnf
 obtain⟨c3,hc_3,hL1⟩:=YF hL1
 refine Jo Jc Ja (fun y:Nat×(List Int)×Int=>Js (a1,a2,a3) y.1 y.2.1 y.2.2=some c3) (fun y=>⟨eL [(9,.ptr 3 0),(10,.ptr 6 0),(15,.int .u64 y.2.2)],hL [(0,.box [.iptr [.lst 5 (x0.L.Nodes.map Jb),.lst 3 (x0.L.Devices.map Jd),.lst 1 (x0.order.map iA)]]),(1,.box [.lst 1 (x1.Slots.map (lA 1 iA)),.lst 1 (x1.Bins.map (lA 1 iA))]),(2,.box [.nils,.nils]),(3,.box [.osl 4,.osl 5]),(4,.row 1 (y.2.1.map iA)),(5,.row 1 (a16.map iA)),(6,.box [.osl 7]),(7,.row 1 (a3.map iA))],8⟩) (fun y=>y.1) (9223372036854775807,(a15.set e17.toNat 0),r27) hc_3 (wK [0,1,2,3,4,5,6,7] [] [] ⟨bN,bN,bN,Jy rfl rfl rfl ⟨(.oslg 4 4 rfl),(.oslg 5 5 rfl),tv⟩,bR,bR,Jy rfl rfl rfl ⟨(.oslg 7 7 rfl),tv⟩,bR,tv⟩) ?_
 rintro⟨q35,a30,i31⟩ hL2
 try dsimp only at hL2
 rcases q35 with _ |q35
 rw [Js.eq_1] at hL2
 cases hL2
 rw [Js.eq_2] at hL2
 show awp _ _ _ _ _ _ ⟨eL [(9,.ptr 3 0),(10,.ptr 6 0),(15,.int .u64 i31)],hL [(0,.box [.iptr [.lst 5 (x0.L.Nodes.map Jb),.lst 3 (x0.L.Devices.map Jd),.lst 1 (x0.order.map iA)]]),(1,.box [.lst 1 (x1.Slots.map (lA 1 iA)),.lst 1 (x1.Bins.map (lA 1 iA))]),(2,.box [.nils,.nils]),(3,.box [.osl 4,.osl 5]),(4,.row 1 (a30.map iA)),(5,.row 1 (a16.map iA)),(6,.box [.osl 7]),(7,.row 1 (a3.map iA))],8⟩
 conv=>whnf
 refine xB hL2 (fun b125 hL2=> ?_) fun b125 hL2=> ?_
 conv=>whnf
 obtain⟨r32,hr32,hL2⟩:=bs' hL2
 refine cE (d0 0 Tryz.func121 (Qq i31 r32 hr32)) ?_
 conv=>whnf
 obtain⟨e33,he33,hL2⟩:=bs' hL2
 refine Qc (enc:=iA) (l:=a3) he33 rfl (fun m_e_33 hm_e_33 hx_e_33=> ?_)
 conv=>whnf
 refine⟨_,Jv (enc:=iA) hx_e_33,?_⟩
 conv=>whnf
 obtain⟨e34,he34,hL2⟩:=bs' hL2
 refine Qc (enc:=iA) (l:=a30) he34 rfl (fun m_e_34 hm_e_34 hx_e_34=> ?_)
 conv=>whnf
 refine Z6 (enc:=iA) (l:=a30) (x':=e33) (i:=r32) hm_e_34 hx_e_34 rfl (Wl rfl) rfl ?_
 conv=>whnf
 refine⟨by kernel_rfl,?_⟩
 conv=>whnf
 refine⟨_,rfl,?_⟩
 conv=>whnf
 refine⟨_,Jma,?_⟩
 conv=>whnf
 exact⟨(q35,(a30.set r32.toNat e33),(Ji5 .u64 i31 (IntKind.u64.wrap (i31 - 1)))),_,_,_,hL2,Wn _,wK [0,1,2,3,4,5,6,7] [] [] ⟨bN,bN,bN,Jy rfl rfl rfl ⟨(.oslg 4 4 rfl),(.oslg 5 5 rfl),tv⟩,bR,bR,Jy rfl rfl rfl ⟨(.oslg 7 7 rfl),tv⟩,bR,tv⟩⟩
 conv=>whnf
 obtain rfl:=si hL2
 replace hL1:=Zz hL1
 try dsimp only at hL1
 exact⟨(a30,a16),_,_,_,⟨Yt he_e_17,hL1⟩,wK [0,1,2,3,4,5,6,7] [] [] ⟨bN,bN,bN,Jy rfl rfl rfl ⟨(.oslg 4 4 rfl),(.oslg 5 5 rfl),tv⟩,bR,bR,Jy rfl rfl rfl ⟨(.oslg 7 7 rfl),tv⟩,bR,tv⟩⟩
 conv=>whnf
 refine xB hL1 (fun b126 hL1=> ?_) fun b126 hL1=> ?_
 conv=>whnf
 obtain⟨r37,hr37,hL1⟩:=bs' hL1
 refine cE (d0 0 Tryz.func122 (ZQ x0 x1 e17 r37 hr37)) ?_
 conv=>whnf
 refine xB hL1 (fun b127 hL1=> ?_) fun b127 hL1=> ?_
 conv=>whnf
 refine⟨fun h=> ?_,fun h=> ?_⟩
 cases (Jj8 (b123)).symm.trans h
 conv=>whnf
 exact⟨((a15.set e17.toNat 0),a16),_,_,_,⟨Yt he_e_17,hL1⟩,wK [0,1,2,3,4,5,6,7] [] [] ⟨bN,bN,bN,Jy rfl rfl rfl ⟨(.oslg 4 4 rfl),(.oslg 5 5 rfl),tv⟩,bR,bR,Jy rfl rfl rfl ⟨(.oslg 7 7 rfl),tv⟩,bR,tv⟩⟩
 conv=>whnf
 exact⟨((a15.set e17.toNat 0),a16),_,_,_,⟨Yt he_e_17,hL1⟩,wK [0,1,2,3,4,5,6,7] [] [] ⟨bN,bN,bN,Jy rfl rfl rfl ⟨(.oslg 4 4 rfl),(.oslg 5 5 rfl),tv⟩,bR,bR,Jy rfl rfl rfl ⟨(.oslg 7 7 rfl),tv⟩,bR,tv⟩⟩
 conv=>whnf
 exact⟨((a15.set e17.toNat 0),a16),_,_,_,⟨Yt he_e_17,hL1⟩,wK [0,1,2,3,4,5,6,7] [] [] ⟨bN,bN,bN,Jy rfl rfl rfl ⟨(.oslg 4 4 rfl),(.oslg 5 5 rfl),tv⟩,bR,bR,Jy rfl rfl rfl ⟨(.oslg 7 7 rfl),tv⟩,bR,tv⟩⟩
 conv=>whnf
 obtain⟨r38,hr38,hL1⟩:=bs' hL1
 refine cE (dX false [] [7] 0 Tryz.func120 (Zi x0 a3 e17 r38 hr38) trivial (YJ rfl trivial) trivial) ?_
 conv=>whnf
 obtain⟨e39,he39,hL1⟩:=bs' hL1
 refine JZ (enc:=Jb) (l:=x0.L.Nodes) he39 rfl (fun m_e_39 hm_e_39 hx_e_39=> ?_)
 conv=>whnf
 obtain⟨r40,hr40,hL1⟩:=bs' hL1
 refine cE (d0 0 Tryz.func85 (Qv e39.Kind r40 hr40)) ?_
 conv=>whnf
 refine xB hL1 (fun b128 hL1=> ?_) fun b128 hL1=> ?_
 conv=>whnf
 obtain⟨c3,hc_3,hL1⟩:=YF hL1
 refine Jo Jc Ja (fun y:Nat×(List Int)×Int=>Js (a1,a2,a3) y.1 y.2.1 y.2.2=some c3) (fun y=>⟨eL [(9,.ptr 3 0),(10,.ptr 6 0),(15,.int .u64 y.2.2)],hL [(0,.box [.iptr [.lst 5 (x0.L.Nodes.map Jb),.lst 3 (x0.L.Devices.map Jd),.lst 1 (x0.order.map iA)]]),(1,.box [.lst 1 (x1.Slots.map (lA 1 iA)),.lst 1 (x1.Bins.map (lA 1 iA))]),(2,.box [.nils,.nils]),(3,.box [.osl 4,.osl 5]),(4,.row 1 (y.2.1.map iA)),(5,.row 1 (a16.map iA)),(6,.box [.osl 7]),(7,.row 1 (a3.map iA))],8⟩) (fun y=>y.1) (9223372036854775807,a15,r38) hc_3 (wK [0,1,2,3,4,5,6,7] [] [] ⟨bN,bN,bN,Jy rfl rfl rfl ⟨(.oslg 4 4 rfl),(.oslg 5 5 rfl),tv⟩,bR,bR,Jy rfl rfl rfl ⟨(.oslg 7 7 rfl),tv⟩,bR,tv⟩) ?_
 rintro⟨q46,a41,i42⟩ hL2
 try dsimp only at hL2
 rcases q46 with _ |q46
 rw [Js.eq_1] at hL2
 cases hL2
 rw [Js.eq_2] at hL2
 show awp _ _ _ _ _ _ ⟨eL [(9,.ptr 3 0),(10,.ptr 6 0),(15,.int .u64 i42)],hL [(0,.box [.iptr [.lst 5 (x0.L.Nodes.map Jb),.lst 3 (x0.L.Devices.map Jd),.lst 1 (x0.order.map iA)]]),(1,.box [.lst 1 (x1.Slots.map (lA 1 iA)),.lst 1 (x1.Bins.map (lA 1 iA))]),(2,.box [.nils,.nils]),(3,.box [.osl 4,.osl 5]),(4,.row 1 (a41.map iA)),(5,.row 1 (a16.map iA)),(6,.box [.osl 7]),(7,.row 1 (a3.map iA))],8⟩
 conv=>whnf
 refine xB hL2 (fun b129 hL2=> ?_) fun b129 hL2=> ?_
 conv=>whnf
 obtain⟨r43,hr43,hL2⟩:=bs' hL2
 refine cE (d0 0 Tryz.func121 (Qq i42 r43 hr43)) ?_
 conv=>whnf
 obtain⟨e44,he44,hL2⟩:=bs' hL2
 refine Qc (enc:=iA) (l:=a3) he44 rfl (fun m_e_44 hm_e_44 hx_e_44=> ?_)
 conv=>whnf
 refine⟨_,Jv (enc:=iA) hx_e_44,?_⟩
 conv=>whnf
 obtain⟨e45,he45,hL2⟩:=bs' hL2
 refine Qc (enc:=iA) (l:=a41) he45 rfl (fun m_e_45 hm_e_45 hx_e_45=> ?_)
 conv=>whnf
 refine Z6 (enc:=iA) (l:=a41) (x':=e44) (i:=r43) hm_e_45 hx_e_45 rfl (Wl rfl) rfl ?_
 conv=>whnf
 refine⟨by kernel_rfl,?_⟩
 conv=>whnf
 refine⟨_,rfl,?_⟩
 conv=>whnf
 refine⟨_,Jma,?_⟩
 conv=>whnf
 exact⟨(q46,(a41.set r43.toNat e44),(Ji5 .u64 i42 (IntKind.u64.wrap (i42 - 1)))),_,_,_,hL2,Wn _,wK [0,1,2,3,4,5,6,7] [] [] ⟨bN,bN,bN,Jy rfl rfl rfl ⟨(.oslg 4 4 rfl),(.oslg 5 5 rfl),tv⟩,bR,bR,Jy rfl rfl rfl ⟨(.oslg 7 7 rfl),tv⟩,bR,tv⟩⟩
 conv=>whnf
 obtain rfl:=si hL2
 replace hL1:=Zz hL1
 try dsimp only at hL1
 exact⟨(a41,a16),_,_,_,⟨Yt he_e_17,hL1⟩,wK [0,1,2,3,4,5,6,7] [] [] ⟨bN,bN,bN,Jy rfl rfl rfl ⟨(.oslg 4 4 rfl),(.oslg 5 5 rfl),tv⟩,bR,bR,Jy rfl rfl rfl ⟨(.oslg 7 7 rfl),tv⟩,bR,tv⟩⟩
 conv=>whnf
 refine xB hL1 (fun b130 hL1=> ?_) fun b130 hL1=> ?_
 conv=>whnf
 obtain⟨r48,hr48,hL1⟩:=bs' hL1
 refine cE (d0 0 Tryz.func122 (ZQ x0 x1 e17 r48 hr48)) ?_
 conv=>whnf
 refine xB hL1 (fun b131 hL1=> ?_) fun b131 hL1=> ?_
 conv=>whnf
 refine⟨fun h=> ?_,fun h=> ?_⟩
 conv=>whnf
 obtain⟨r49,hr49,hL1⟩:=bs' hL1
 refine cE (d0 0 Tryz.func121 (Qq r38 r49 hr49)) ?_
 conv=>whnf
 obtain⟨e50,he50,hL1⟩:=bs' hL1
 refine Qc (enc:=iA) (l:=a3) he50 rfl (fun m_e_50 hm_e_50 hx_e_50=> ?_)
 conv=>whnf
 refine⟨_,Jv (enc:=iA) hx_e_50,?_⟩
 conv=>whnf
 obtain⟨e51,he51,hL1⟩:=bs' hL1
 refine Qc (enc:=iA) (l:=a15) he51 rfl (fun m_e_51 hm_e_51 hx_e_51=> ?_)
 conv=>whnf
 refine Z6 (enc:=iA) (l:=a15) (x':=e50) (i:=r49) hm_e_51 hx_e_51 rfl (Wl rfl) rfl ?_
 conv=>whnf
 obtain⟨e52,he52,hL1⟩:=bs' hL1
 refine Qc (enc:=iA) (l:=a16) he52 rfl (fun m_e_52 hm_e_52 hx_e_52=> ?_)
 conv=>whnf
 refine Z6 (enc:=iA) (l:=a16) (x':=r49) (i:=e17) hm_e_52 hx_e_52 rfl (Wl rfl) rfl ?_
 conv=>whnf
 refine⟨by kernel_rfl,?_⟩
 conv=>whnf
 exact⟨((a15.set r49.toNat e50),(a16.set e17.toNat r49)),_,_,_,⟨Yt he_e_17,hL1⟩,wK [0,1,2,3,4,5,6,7] [] [] ⟨bN,bN,bN,Jy rfl rfl rfl ⟨(.oslg 4 4 rfl),(.oslg 5 5 rfl),tv⟩,bR,bR,Jy rfl rfl rfl ⟨(.oslg 7 7 rfl),tv⟩,bR,tv⟩⟩
 cases (Jj8 (b123)).symm.trans h
 conv=>whnf
 exact⟨(a15,a16),_,_,_,⟨Yt he_e_17,hL1⟩,wK [0,1,2,3,4,5,6,7] [] [] ⟨bN,bN,bN,Jy rfl rfl rfl ⟨(.oslg 4 4 rfl),(.oslg 5 5 rfl),tv⟩,bR,bR,Jy rfl rfl rfl ⟨(.oslg 7 7 rfl),tv⟩,bR,tv⟩⟩
 conv=>whnf
 exact⟨(a15,a16),_,_,_,⟨Yt he_e_17,hL1⟩,wK [0,1,2,3,4,5,6,7] [] [] ⟨bN,bN,bN,Jy rfl rfl rfl ⟨(.oslg 4 4 rfl),(.oslg 5 5 rfl),tv⟩,bR,bR,Jy rfl rfl rfl ⟨(.oslg 7 7 rfl),tv⟩,bR,tv⟩⟩
 conv=>whnf
 obtain⟨r53,hr53,hL1⟩:=bs' hL1
 refine cE (dX false [] [7] 0 Tryz.func120 (Zi x0 a3 e17 r53 hr53) trivial (YJ rfl trivial) trivial) ?_
 conv=>whnf
 obtain⟨e54,he54,hL1⟩:=bs' hL1
 refine JZ (enc:=Jb) (l:=x0.L.Nodes) he54 rfl (fun m_e_54 hm_e_54 hx_e_54=> ?_)
 conv=>whnf
 obtain⟨r55,hr55,hL1⟩:=bs' hL1
 refine cE (d0 0 Tryz.func85 (Qv e54.Kind r55 hr55)) ?_
 conv=>whnf
 refine xB hL1 (fun b132 hL1=> ?_) fun b132 hL1=> ?_
 conv=>whnf
 obtain⟨c3,hc_3,hL1⟩:=YF hL1
 refine Jo Jc Ja (fun y:Nat×(List Int)×Int=>Js (a1,a2,a3) y.1 y.2.1 y.2.2=some c3) (fun y=>⟨eL [(9,.ptr 3 0),(10,.ptr 6 0),(15,.int .u64 y.2.2)],hL [(0,.box [.iptr [.lst 5 (x0.L.Nodes.map Jb),.lst 3 (x0.L.Devices.map Jd),.lst 1 (x0.order.map iA)]]),(1,.box [.lst 1 (x1.Slots.map (lA 1 iA)),.lst 1 (x1.Bins.map (lA 1 iA))]),(2,.box [.nils,.nils]),(3,.box [.osl 4,.osl 5]),(4,.row 1 (y.2.1.map iA)),(5,.row 1 (a16.map iA)),(6,.box [.osl 7]),(7,.row 1 (a3.map iA))],8⟩) (fun y=>y.1) (9223372036854775807,a15,r53) hc_3 (wK [0,1,2,3,4,5,6,7] [] [] ⟨bN,bN,bN,Jy rfl rfl rfl ⟨(.oslg 4 4 rfl),(.oslg 5 5 rfl),tv⟩,bR,bR,Jy rfl rfl rfl ⟨(.oslg 7 7 rfl),tv⟩,bR,tv⟩) ?_
 rintro⟨q61,a56,i57⟩ hL2
 try dsimp only at hL2
 rcases q61 with _ |q61
 rw [Js.eq_1] at hL2
 cases hL2
 rw [Js.eq_2] at hL2
 show awp _ _ _ _ _ _ ⟨eL [(9,.ptr 3 0),(10,.ptr 6 0),(15,.int .u64 i57)],hL [(0,.box [.iptr [.lst 5 (x0.L.Nodes.map Jb),.lst 3 (x0.L.Devices.map Jd),.lst 1 (x0.order.map iA)]]),(1,.box [.lst 1 (x1.Slots.map (lA 1 iA)),.lst 1 (x1.Bins.map (lA 1 iA))]),(2,.box [.nils,.nils]),(3,.box [.osl 4,.osl 5]),(4,.row 1 (a56.map iA)),(5,.row 1 (a16.map iA)),(6,.box [.osl 7]),(7,.row 1 (a3.map iA))],8⟩
 conv=>whnf
 refine xB hL2 (fun b133 hL2=> ?_) fun b133 hL2=> ?_
 conv=>whnf
 obtain⟨r58,hr58,hL2⟩:=bs' hL2
 refine cE (d0 0 Tryz.func121 (Qq i57 r58 hr58)) ?_
 conv=>whnf
 obtain⟨e59,he59,hL2⟩:=bs' hL2
 refine Qc (enc:=iA) (l:=a3) he59 rfl (fun m_e_59 hm_e_59 hx_e_59=> ?_)
 conv=>whnf
 refine⟨_,Jv (enc:=iA) hx_e_59,?_⟩
 conv=>whnf
 obtain⟨e60,he60,hL2⟩:=bs' hL2
 refine Qc (enc:=iA) (l:=a56) he60 rfl (fun m_e_60 hm_e_60 hx_e_60=> ?_)
 conv=>whnf
 refine Z6 (enc:=iA) (l:=a56) (x':=e59) (i:=r58) hm_e_60 hx_e_60 rfl (Wl rfl) rfl ?_
 conv=>whnf
 refine⟨by kernel_rfl,?_⟩
 conv=>whnf
 refine⟨_,rfl,?_⟩
 conv=>whnf
 refine⟨_,Jma,?_⟩
 conv=>whnf
 exact⟨(q61,(a56.set r58.toNat e59),(Ji5 .u64 i57 (IntKind.u64.wrap (i57 - 1)))),_,_,_,hL2,Wn _,wK [0,1,2,3,4,5,6,7] [] [] ⟨bN,bN,bN,Jy rfl rfl rfl ⟨(.oslg 4 4 rfl),(.oslg 5 5 rfl),tv⟩,bR,bR,Jy rfl rfl rfl ⟨(.oslg 7 7 rfl),tv⟩,bR,tv⟩⟩
 conv=>whnf
 obtain rfl:=si hL2
 replace hL1:=Zz hL1
 try dsimp only at hL1
 exact⟨(a56,a16),_,_,_,⟨Yt he_e_17,hL1⟩,wK [0,1,2,3,4,5,6,7] [] [] ⟨bN,bN,bN,Jy rfl rfl rfl ⟨(.oslg 4 4 rfl),(.oslg 5 5 rfl),tv⟩,bR,bR,Jy rfl rfl rfl ⟨(.oslg 7 7 rfl),tv⟩,bR,tv⟩⟩
 conv=>whnf
 refine xB hL1 (fun b134 hL1=> ?_) fun b134 hL1=> ?_
 conv=>whnf
 obtain⟨r63,hr63,hL1⟩:=bs' hL1
 refine cE (d0 0 Tryz.func122 (ZQ x0 x1 e17 r63 hr63)) ?_
 conv=>whnf
 refine xB hL1 (fun b135 hL1=> ?_) fun b135 hL1=> ?_
 conv=>whnf
 obtain⟨r64,hr64,hL1⟩:=bs' hL1
 refine cE (d0 0 Tryz.func121 (Qq r53 r64 hr64)) ?_
 conv=>whnf
 obtain⟨e65,he65,hL1⟩:=bs' hL1
 refine Qc (enc:=iA) (l:=a3) he65 rfl (fun m_e_65 hm_e_65 hx_e_65=> ?_)
 conv=>whnf
 refine⟨_,Jv (enc:=iA) hx_e_65,?_⟩
 conv=>whnf
 obtain⟨e66,he66,hL1⟩:=bs' hL1
 refine Qc (enc:=iA) (l:=a15) he66 rfl (fun m_e_66 hm_e_66 hx_e_66=> ?_)
 conv=>whnf
 refine Z6 (enc:=iA) (l:=a15) (x':=e65) (i:=r64) hm_e_66 hx_e_66 rfl (Wl rfl) rfl ?_
 conv=>whnf
 obtain⟨e67,he67,hL1⟩:=bs' hL1
 refine Qc (enc:=iA) (l:=a16) he67 rfl (fun m_e_67 hm_e_67 hx_e_67=> ?_)
 conv=>whnf
 refine Z6 (enc:=iA) (l:=a16) (x':=r64) (i:=e17) hm_e_67 hx_e_67 rfl (Wl rfl) rfl ?_
 conv=>whnf
 refine⟨by kernel_rfl,?_⟩
 conv=>whnf
 exact⟨((a15.set r64.toNat e65),(a16.set e17.toNat r64)),_,_,_,⟨Yt he_e_17,hL1⟩,wK [0,1,2,3,4,5,6,7] [] [] ⟨bN,bN,bN,Jy rfl rfl rfl ⟨(.oslg 4 4 rfl),(.oslg 5 5 rfl),tv⟩,bR,bR,Jy rfl rfl rfl ⟨(.oslg 7 7 rfl),tv⟩,bR,tv⟩⟩
 conv=>whnf
 exact⟨(a15,a16),_,_,_,⟨Yt he_e_17,hL1⟩,wK [0,1,2,3,4,5,6,7] [] [] ⟨bN,bN,bN,Jy rfl rfl rfl ⟨(.oslg 4 4 rfl),(.oslg 5 5 rfl),tv⟩,bR,bR,Jy rfl rfl rfl ⟨(.oslg 7 7 rfl),tv⟩,bR,tv⟩⟩
 conv=>whnf
 exact⟨(a15,a16),_,_,_,⟨Yt he_e_17,hL1⟩,wK [0,1,2,3,4,5,6,7] [] [] ⟨bN,bN,bN,Jy rfl rfl rfl ⟨(.oslg 4 4 rfl),(.oslg 5 5 rfl),tv⟩,bR,bR,Jy rfl rfl rfl ⟨(.oslg 7 7 rfl),tv⟩,bR,tv⟩⟩
 conv=>whnf
 obtain⟨r68,hr68,hL1⟩:=bs' hL1
 refine cE (dX false [] [7] 0 Tryz.func120 (Zi x0 a3 e17 r68 hr68) trivial (YJ rfl trivial) trivial) ?_
 conv=>whnf
 obtain⟨e69,he69,hL1⟩:=bs' hL1
 refine JZ (enc:=Jb) (l:=x0.L.Nodes) he69 rfl (fun m_e_69 hm_e_69 hx_e_69=> ?_)
 conv=>whnf
 obtain⟨r70,hr70,hL1⟩:=bs' hL1
 refine cE (d0 0 Tryz.func85 (Qv e69.Kind r70 hr70)) ?_
 conv=>whnf
 refine xB hL1 (fun b136 hL1=> ?_) fun b136 hL1=> ?_
 conv=>whnf
 obtain⟨c3,hc_3,hL1⟩:=YF hL1
 refine Jo Jc Ja (fun y:Nat×(List Int)×Int=>Js (a1,a2,a3) y.1 y.2.1 y.2.2=some c3) (fun y=>⟨eL [(9,.ptr 3 0),(10,.ptr 6 0),(15,.int .u64 y.2.2)],hL [(0,.box [.iptr [.lst 5 (x0.L.Nodes.map Jb),.lst 3 (x0.L.Devices.map Jd),.lst 1 (x0.order.map iA)]]),(1,.box [.lst 1 (x1.Slots.map (lA 1 iA)),.lst 1 (x1.Bins.map (lA 1 iA))]),(2,.box [.nils,.nils]),(3,.box [.osl 4,.osl 5]),(4,.row 1 (y.2.1.map iA)),(5,.row 1 (a16.map iA)),(6,.box [.osl 7]),(7,.row 1 (a3.map iA))],8⟩) (fun y=>y.1) (9223372036854775807,a15,r68) hc_3 (wK [0,1,2,3,4,5,6,7] [] [] ⟨bN,bN,bN,Jy rfl rfl rfl ⟨(.oslg 4 4 rfl),(.oslg 5 5 rfl),tv⟩,bR,bR,Jy rfl rfl rfl ⟨(.oslg 7 7 rfl),tv⟩,bR,tv⟩) ?_
 rintro⟨q76,a71,i72⟩ hL2
 try dsimp only at hL2
 rcases q76 with _ |q76
 rw [Js.eq_1] at hL2
 cases hL2
 rw [Js.eq_2] at hL2
 show awp _ _ _ _ _ _ ⟨eL [(9,.ptr 3 0),(10,.ptr 6 0),(15,.int .u64 i72)],hL [(0,.box [.iptr [.lst 5 (x0.L.Nodes.map Jb),.lst 3 (x0.L.Devices.map Jd),.lst 1 (x0.order.map iA)]]),(1,.box [.lst 1 (x1.Slots.map (lA 1 iA)),.lst 1 (x1.Bins.map (lA 1 iA))]),(2,.box [.nils,.nils]),(3,.box [.osl 4,.osl 5]),(4,.row 1 (a71.map iA)),(5,.row 1 (a16.map iA)),(6,.box [.osl 7]),(7,.row 1 (a3.map iA))],8⟩
 conv=>whnf
 refine xB hL2 (fun b137 hL2=> ?_) fun b137 hL2=> ?_
 conv=>whnf
 obtain⟨r73,hr73,hL2⟩:=bs' hL2
 refine cE (d0 0 Tryz.func121 (Qq i72 r73 hr73)) ?_
 conv=>whnf
 obtain⟨e74,he74,hL2⟩:=bs' hL2
 refine Qc (enc:=iA) (l:=a3) he74 rfl (fun m_e_74 hm_e_74 hx_e_74=> ?_)
 conv=>whnf
 refine⟨_,Jv (enc:=iA) hx_e_74,?_⟩
 conv=>whnf
 obtain⟨e75,he75,hL2⟩:=bs' hL2
 refine Qc (enc:=iA) (l:=a71) he75 rfl (fun m_e_75 hm_e_75 hx_e_75=> ?_)
 conv=>whnf
 refine Z6 (enc:=iA) (l:=a71) (x':=e74) (i:=r73) hm_e_75 hx_e_75 rfl (Wl rfl) rfl ?_
 conv=>whnf
 refine⟨by kernel_rfl,?_⟩
 conv=>whnf
 refine⟨_,rfl,?_⟩
 conv=>whnf
 refine⟨_,Jma,?_⟩
 conv=>whnf
 exact⟨(q76,(a71.set r73.toNat e74),(Ji5 .u64 i72 (IntKind.u64.wrap (i72 - 1)))),_,_,_,hL2,Wn _,wK [0,1,2,3,4,5,6,7] [] [] ⟨bN,bN,bN,Jy rfl rfl rfl ⟨(.oslg 4 4 rfl),(.oslg 5 5 rfl),tv⟩,bR,bR,Jy rfl rfl rfl ⟨(.oslg 7 7 rfl),tv⟩,bR,tv⟩⟩
 conv=>whnf
 obtain rfl:=si hL2
 replace hL1:=Zz hL1
 try dsimp only at hL1
 exact⟨(a71,a16),_,_,_,⟨Yt he_e_17,hL1⟩,wK [0,1,2,3,4,5,6,7] [] [] ⟨bN,bN,bN,Jy rfl rfl rfl ⟨(.oslg 4 4 rfl),(.oslg 5 5 rfl),tv⟩,bR,bR,Jy rfl rfl rfl ⟨(.oslg 7 7 rfl),tv⟩,bR,tv⟩⟩
 conv=>whnf
 refine xB hL1 (fun b138 hL1=> ?_) fun b138 hL1=> ?_
 conv=>whnf
 obtain⟨r78,hr78,hL1⟩:=bs' hL1
 refine cE (d0 0 Tryz.func122 (ZQ x0 x1 e17 r78 hr78)) ?_
 conv=>whnf
 refine xB hL1 (fun b139 hL1=> ?_) fun b139 hL1=> ?_
 conv=>whnf
 obtain⟨r79,hr79,hL1⟩:=bs' hL1
 refine cE (d0 0 Tryz.func121 (Qq r68 r79 hr79)) ?_
 conv=>whnf
 obtain⟨e80,he80,hL1⟩:=bs' hL1
 refine Qc (enc:=iA) (l:=a3) he80 rfl (fun m_e_80 hm_e_80 hx_e_80=> ?_)
 conv=>whnf
 refine⟨_,Jv (enc:=iA) hx_e_80,?_⟩
 conv=>whnf
 obtain⟨e81,he81,hL1⟩:=bs' hL1
 refine Qc (enc:=iA) (l:=a15) he81 rfl (fun m_e_81 hm_e_81 hx_e_81=> ?_)
 conv=>whnf
 refine Z6 (enc:=iA) (l:=a15) (x':=e80) (i:=r79) hm_e_81 hx_e_81 rfl (Wl rfl) rfl ?_
 conv=>whnf
 obtain⟨e82,he82,hL1⟩:=bs' hL1
 refine Qc (enc:=iA) (l:=a16) he82 rfl (fun m_e_82 hm_e_82 hx_e_82=> ?_)
 conv=>whnf
 refine Z6 (enc:=iA) (l:=a16) (x':=r79) (i:=e17) hm_e_82 hx_e_82 rfl (Wl rfl) rfl ?_
 conv=>whnf
 refine⟨by kernel_rfl,?_⟩
 conv=>whnf
 exact⟨((a15.set r79.toNat e80),(a16.set e17.toNat r79)),_,_,_,⟨Yt he_e_17,hL1⟩,wK [0,1,2,3,4,5,6,7] [] [] ⟨bN,bN,bN,Jy rfl rfl rfl ⟨(.oslg 4 4 rfl),(.oslg 5 5 rfl),tv⟩,bR,bR,Jy rfl rfl rfl ⟨(.oslg 7 7 rfl),tv⟩,bR,tv⟩⟩
 conv=>whnf
 exact⟨(a15,a16),_,_,_,⟨Yt he_e_17,hL1⟩,wK [0,1,2,3,4,5,6,7] [] [] ⟨bN,bN,bN,Jy rfl rfl rfl ⟨(.oslg 4 4 rfl),(.oslg 5 5 rfl),tv⟩,bR,bR,Jy rfl rfl rfl ⟨(.oslg 7 7 rfl),tv⟩,bR,tv⟩⟩
 conv=>whnf
 exact⟨(a15,a16),_,_,_,⟨Yt he_e_17,hL1⟩,wK [0,1,2,3,4,5,6,7] [] [] ⟨bN,bN,bN,Jy rfl rfl rfl ⟨(.oslg 4 4 rfl),(.oslg 5 5 rfl),tv⟩,bR,bR,Jy rfl rfl rfl ⟨(.oslg 7 7 rfl),tv⟩,bR,tv⟩⟩
 conv=>whnf
 obtain⟨r83,hr83,hL1⟩:=bs' hL1
 refine cE (dX false [] [7] 0 Tryz.func120 (Zi x0 a3 e17 r83 hr83) trivial (YJ rfl trivial) trivial) ?_
 conv=>whnf
 obtain⟨e84,he84,hL1⟩:=bs' hL1
 refine JZ (enc:=Jb) (l:=x0.L.Nodes) he84 rfl (fun m_e_84 hm_e_84 hx_e_84=> ?_)
 conv=>whnf
 obtain⟨r85,hr85,hL1⟩:=bs' hL1
 refine cE (d0 0 Tryz.func85 (Qv e84.Kind r85 hr85)) ?_
 conv=>whnf
 refine xB hL1 (fun b140 hL1=> ?_) fun b140 hL1=> ?_
 conv=>whnf
 obtain⟨c3,hc_3,hL1⟩:=YF hL1
 refine Jo Jc Ja (fun y:Nat×(List Int)×Int=>Js (a1,a2,a3) y.1 y.2.1 y.2.2=some c3) (fun y=>⟨eL [(9,.ptr 3 0),(10,.ptr 6 0),(15,.int .u64 y.2.2)],hL [(0,.box [.iptr [.lst 5 (x0.L.Nodes.map Jb),.lst 3 (x0.L.Devices.map Jd),.lst 1 (x0.order.map iA)]]),(1,.box [.lst 1 (x1.Slots.map (lA 1 iA)),.lst 1 (x1.Bins.map (lA 1 iA))]),(2,.box [.nils,.nils]),(3,.box [.osl 4,.osl 5]),(4,.row 1 (y.2.1.map iA)),(5,.row 1 (a16.map iA)),(6,.box [.osl 7]),(7,.row 1 (a3.map iA))],8⟩) (fun y=>y.1) (9223372036854775807,a15,r83) hc_3 (wK [0,1,2,3,4,5,6,7] [] [] ⟨bN,bN,bN,Jy rfl rfl rfl ⟨(.oslg 4 4 rfl),(.oslg 5 5 rfl),tv⟩,bR,bR,Jy rfl rfl rfl ⟨(.oslg 7 7 rfl),tv⟩,bR,tv⟩) ?_
 rintro⟨q91,a86,i87⟩ hL2
 try dsimp only at hL2
 rcases q91 with _ |q91
 rw [Js.eq_1] at hL2
 cases hL2
 rw [Js.eq_2] at hL2
 show awp _ _ _ _ _ _ ⟨eL [(9,.ptr 3 0),(10,.ptr 6 0),(15,.int .u64 i87)],hL [(0,.box [.iptr [.lst 5 (x0.L.Nodes.map Jb),.lst 3 (x0.L.Devices.map Jd),.lst 1 (x0.order.map iA)]]),(1,.box [.lst 1 (x1.Slots.map (lA 1 iA)),.lst 1 (x1.Bins.map (lA 1 iA))]),(2,.box [.nils,.nils]),(3,.box [.osl 4,.osl 5]),(4,.row 1 (a86.map iA)),(5,.row 1 (a16.map iA)),(6,.box [.osl 7]),(7,.row 1 (a3.map iA))],8⟩
 conv=>whnf
 refine xB hL2 (fun b141 hL2=> ?_) fun b141 hL2=> ?_
 conv=>whnf
 obtain⟨r88,hr88,hL2⟩:=bs' hL2
 refine cE (d0 0 Tryz.func121 (Qq i87 r88 hr88)) ?_
 conv=>whnf
 obtain⟨e89,he89,hL2⟩:=bs' hL2
 refine Qc (enc:=iA) (l:=a3) he89 rfl (fun m_e_89 hm_e_89 hx_e_89=> ?_)
 conv=>whnf
 refine⟨_,Jv (enc:=iA) hx_e_89,?_⟩
 conv=>whnf
 obtain⟨e90,he90,hL2⟩:=bs' hL2
 refine Qc (enc:=iA) (l:=a86) he90 rfl (fun m_e_90 hm_e_90 hx_e_90=> ?_)
 conv=>whnf
 refine Z6 (enc:=iA) (l:=a86) (x':=e89) (i:=r88) hm_e_90 hx_e_90 rfl (Wl rfl) rfl ?_
 conv=>whnf
 refine⟨by kernel_rfl,?_⟩
 conv=>whnf
 refine⟨_,rfl,?_⟩
 conv=>whnf
 refine⟨_,Jma,?_⟩
 conv=>whnf
 exact⟨(q91,(a86.set r88.toNat e89),(Ji5 .u64 i87 (IntKind.u64.wrap (i87 - 1)))),_,_,_,hL2,Wn _,wK [0,1,2,3,4,5,6,7] [] [] ⟨bN,bN,bN,Jy rfl rfl rfl ⟨(.oslg 4 4 rfl),(.oslg 5 5 rfl),tv⟩,bR,bR,Jy rfl rfl rfl ⟨(.oslg 7 7 rfl),tv⟩,bR,tv⟩⟩
 conv=>whnf
 obtain rfl:=si hL2
 replace hL1:=Zz hL1
 try dsimp only at hL1
 exact⟨(a86,a16),_,_,_,⟨Yt he_e_17,hL1⟩,wK [0,1,2,3,4,5,6,7] [] [] ⟨bN,bN,bN,Jy rfl rfl rfl ⟨(.oslg 4 4 rfl),(.oslg 5 5 rfl),tv⟩,bR,bR,Jy rfl rfl rfl ⟨(.oslg 7 7 rfl),tv⟩,bR,tv⟩⟩
 conv=>whnf
 refine xB hL1 (fun b142 hL1=> ?_) fun b142 hL1=> ?_
 conv=>whnf
 obtain⟨r93,hr93,hL1⟩:=bs' hL1
 refine cE (d0 0 Tryz.func122 (ZQ x0 x1 e17 r93 hr93)) ?_
 conv=>whnf
 refine xB hL1 (fun b143 hL1=> ?_) fun b143 hL1=> ?_
 conv=>whnf
 obtain⟨r94,hr94,hL1⟩:=bs' hL1
 refine cE (d0 0 Tryz.func121 (Qq r83 r94 hr94)) ?_
 conv=>whnf
 obtain⟨e95,he95,hL1⟩:=bs' hL1
 refine Qc (enc:=iA) (l:=a3) he95 rfl (fun m_e_95 hm_e_95 hx_e_95=> ?_)
 conv=>whnf
 refine⟨_,Jv (enc:=iA) hx_e_95,?_⟩
 conv=>whnf
 obtain⟨e96,he96,hL1⟩:=bs' hL1
 refine Qc (enc:=iA) (l:=a15) he96 rfl (fun m_e_96 hm_e_96 hx_e_96=> ?_)
 conv=>whnf
 refine Z6 (enc:=iA) (l:=a15) (x':=e95) (i:=r94) hm_e_96 hx_e_96 rfl (Wl rfl) rfl ?_
 conv=>whnf
 obtain⟨e97,he97,hL1⟩:=bs' hL1
 refine Qc (enc:=iA) (l:=a16) he97 rfl (fun m_e_97 hm_e_97 hx_e_97=> ?_)
 conv=>whnf
 refine Z6 (enc:=iA) (l:=a16) (x':=r94) (i:=e17) hm_e_97 hx_e_97 rfl (Wl rfl) rfl ?_
 conv=>whnf
 refine⟨by kernel_rfl,?_⟩
 conv=>whnf
 exact⟨((a15.set r94.toNat e95),(a16.set e17.toNat r94)),_,_,_,⟨Yt he_e_17,hL1⟩,wK [0,1,2,3,4,5,6,7] [] [] ⟨bN,bN,bN,Jy rfl rfl rfl ⟨(.oslg 4 4 rfl),(.oslg 5 5 rfl),tv⟩,bR,bR,Jy rfl rfl rfl ⟨(.oslg 7 7 rfl),tv⟩,bR,tv⟩⟩
 conv=>whnf
 exact⟨(a15,a16),_,_,_,⟨Yt he_e_17,hL1⟩,wK [0,1,2,3,4,5,6,7] [] [] ⟨bN,bN,bN,Jy rfl rfl rfl ⟨(.oslg 4 4 rfl),(.oslg 5 5 rfl),tv⟩,bR,bR,Jy rfl rfl rfl ⟨(.oslg 7 7 rfl),tv⟩,bR,tv⟩⟩
 conv=>whnf
 exact⟨(a15,a16),_,_,_,⟨Yt he_e_17,hL1⟩,wK [0,1,2,3,4,5,6,7] [] [] ⟨bN,bN,bN,Jy rfl rfl rfl ⟨(.oslg 4 4 rfl),(.oslg 5 5 rfl),tv⟩,bR,bR,Jy rfl rfl rfl ⟨(.oslg 7 7 rfl),tv⟩,bR,tv⟩⟩
 rintro z20 ⟨_,hL1⟩
 rw [Jq (Nat.le_of_eq (JjO r14).symm),Jj.eq_1] at hL1
 obtain rfl:=si hL1
 replace hF:=Jw hF
 try dsimp only at hF
 conv=>whnf
 obtain rfl:=si hF
 exact Jk [] [] [4,5] rfl (aA [.osl 4,.osl 5] ⟨(.osl 4 1 _ (by simp) rfl (QI (fun _=>⟨rfl,rfl⟩) _)),(.osl 5 1 _ (by simp) rfl (QI (fun _=>⟨rfl,rfl⟩) _)),tv⟩) trivial
theorem Jhh (x0:(List Int)) (x1:Int) (r:Int) (hF:Jea x0 x1=some r):AC Tryz.prog 172 [.lst 1 (x0.map iA),.int .i64 x1] [] (.int .i64 r) ([]):=by
 refine Ju Jc Ja Tryz.func172 rfl Tryz.ntmps172 rfl ?_
 unfold Jea at hF
 conv=>whnf
 refine Jm (enc:=iA) (l:=x0) rfl ?_
 conv=>whnf
 refine xB hF (fun b2 hF=> ?_) fun b2 hF=> ?_
 conv=>whnf
 obtain rfl:=si hF
 exact rZ
 conv=>whnf
 obtain⟨e1,he1,hF⟩:=bs' hF
 refine JZ (enc:=iA) (l:=x0) he1 rfl (fun m_e_1 hm_e_1 hx_e_1=> ?_)
 conv=>whnf
 obtain rfl:=si hF
 exact rZ
theorem Jhr (x0:(List Int)) (x1:Int) (x2:Int) (r:Int) (hF:JbS x0 x1 x2=some r):AC Tryz.prog 171 [.lst 1 (x0.map iA),.int .i64 x1,.int .i64 x2] [] (.int .i64 r) ([]):=by
 refine Ju Jc Ja Tryz.func171 rfl Tryz.ntmps171 rfl ?_
 unfold JbS at hF
 conv=>whnf
 refine⟨fun b6=> ?_,fun b6=> ?_⟩
 replace hF:=cf b6 hF
 conv=>whnf
 refine⟨_,rfl,?_⟩
 conv=>whnf
 obtain⟨e1,he1,hF⟩:=bs' hF
 refine JZ (enc:=iA) (l:=x0) he1 rfl (fun m_e_1 hm_e_1 hx_e_1=> ?_)
 conv=>whnf
 refine xB hF (fun b7 hF=> ?_) fun b7 hF=> ?_
 conv=>whnf
 obtain rfl:=si hF
 exact rZ
 conv=>whnf
 refine xB hF (fun b8 hF=> ?_) fun b8 hF=> ?_
 conv=>whnf
 refine⟨_,rfl,?_⟩
 conv=>whnf
 refine Jm (enc:=iA) (l:=x0) rfl ?_
 conv=>whnf
 refine xB hF (fun b9 hF=> ?_) fun b9 hF=> ?_
 conv=>whnf
 refine⟨_,rfl,?_⟩
 conv=>whnf
 obtain⟨e2,he2,hF⟩:=bs' hF
 refine JZ (enc:=iA) (l:=x0) he2 rfl (fun m_e_2 hm_e_2 hx_e_2=> ?_)
 conv=>whnf
 refine xB hF (fun b10 hF=> ?_) fun b10 hF=> ?_
 conv=>whnf
 refine⟨_,rfl,?_⟩
 conv=>whnf
 obtain rfl:=si hF
 exact rZ
 conv=>whnf
 refine⟨_,rfl,?_⟩
 conv=>whnf
 obtain rfl:=si hF
 exact rZ
 conv=>whnf
 refine⟨_,rfl,?_⟩
 conv=>whnf
 obtain rfl:=si hF
 exact rZ
 conv=>whnf
 refine⟨_,rfl,?_⟩
 conv=>whnf
 obtain rfl:=si hF
 exact rZ
 replace hF:=ct b6 hF
 conv=>whnf
 obtain rfl:=si hF
 exact rZ
theorem JgM (x0:(List Int)) (x1:(List Int)) (x2:Bool) (r:(List Int)×Int) (hF:Yq x0 x1 x2=some r):AC Tryz.prog 123 [.lst 1 (x0.map iA),.lst 1 (x1.map iA),.bool x2] [] (.tup [.osl 0,.int .i64 r.2]) ([.row 1 (r.1.map iA)]):=by
 refine Ju Jc Ja Tryz.func123 rfl Tryz.ntmps123 rfl ?_
 unfold Yq at hF
 conv=>whnf
 obtain⟨r1,hr1,hF⟩:=bs' hF
 refine cE (d0 1 Tryz.func69 (JcW x0 r1 hr1) ⟨rR,tv⟩) ?_
 conv=>whnf
 refine Jm (enc:=iA) (l:=x0) rfl ?_
 conv=>whnf
 refine⟨_,rfl,?_⟩
 conv=>whnf
 obtain⟨c1,hc_1,hF⟩:=Jr hF
 refine Jo Jc Ja (fun y:Nat×Int×(List Int)×Int=>JO x0 x1 x2 y.1 y.2.1 y.2.2.1 y.2.2.2=some c1) (fun y=>⟨eL [(0,.lst 1 (x0.map iA)),(1,.lst 1 (x1.map iA)),(2,.bool x2),(8,.osl 0),(9,.int .i64 y.2.2.2),(10,.int .i64 y.2.1)],hL [(0,.row 1 (y.2.2.1.map iA))],1⟩) (fun y=>y.1) (9223372036854775807,(w64 ((x0.length:Int) - 1)),r1,0) hc_1 (wK [0] [] []) ?_
 rintro⟨q15,i4,a2,i3⟩ hL1
 try dsimp only at hL1
 rcases q15 with _ |q15
 rw [JO.eq_1] at hL1
 cases hL1
 rw [JO.eq_2] at hL1
 show awp _ _ _ _ _ _ ⟨eL [(0,.lst 1 (x0.map iA)),(1,.lst 1 (x1.map iA)),(2,.bool x2),(8,.osl 0),(9,.int .i64 i3),(10,.int .i64 i4)],hL [(0,.row 1 (a2.map iA))],1⟩
 conv=>whnf
 refine xB hL1 (fun b21 hL1=> ?_) fun b21 hL1=> ?_
 conv=>whnf
 obtain⟨e5,he5,hL1⟩:=bs' hL1
 refine JZ (enc:=iA) (l:=x0) he5 rfl (fun m_e_5 hm_e_5 hx_e_5=> ?_)
 conv=>whnf
 refine xB hL1 (fun b22 hL1=> ?_) fun b22 hL1=> ?_
 conv=>whnf
 refine⟨_,rfl,?_⟩
 conv=>whnf
 exact⟨(q15,(w64 (i4 - 1)),a2,i3),_,_,_,hL1,Wn _,wK [0] [] []⟩
 conv=>whnf
 refine Jm (enc:=iA) (l:=x0) rfl ?_
 conv=>whnf
 refine⟨_,rfl,?_⟩
 conv=>whnf
 refine xB hL1 (fun b23 hL1=> ?_) fun b23 hL1=> ?_
 conv=>whnf
 obtain⟨r6,hr6,hL1⟩:=bs' hL1
 refine cE (d0 0 Tryz.func172 (Jhh x1 i4 r6 hr6)) ?_
 conv=>whnf
 obtain⟨r7,hr7,hL1⟩:=bs' hL1
 refine cE (d0 0 Tryz.func171 (Jhr x0 i4 r6 r7 hr7)) ?_
 conv=>whnf
 obtain⟨e8,he8,hL1⟩:=bs' hL1
 refine Qc (enc:=iA) (l:=a2) he8 rfl (fun m_e_8 hm_e_8 hx_e_8=> ?_)
 conv=>whnf
 refine⟨_,Jv (enc:=iA) hx_e_8,?_⟩
 conv=>whnf
 obtain⟨e9,he9,hL1⟩:=bs' hL1
 refine Qc (enc:=iA) (l:=a2) he9 rfl (fun m_e_9 hm_e_9 hx_e_9=> ?_)
 conv=>whnf
 refine⟨_,Jv (enc:=iA) hx_e_9,?_⟩
 conv=>whnf
 obtain⟨e10,he10,hL1⟩:=bs' hL1
 refine Qc (enc:=iA) (l:=a2) he10 rfl (fun m_e_10 hm_e_10 hx_e_10=> ?_)
 conv=>whnf
 refine Z6 (enc:=iA) (l:=a2) (x':=e8) (i:=i4) hm_e_10 hx_e_10 rfl (Wl rfl) rfl ?_
 conv=>whnf
 obtain⟨e11,he11,hL1⟩:=bs' hL1
 refine Qc (enc:=iA) (l:=(a2.set i4.toNat e8)) he11 rfl (fun m_e_11 hm_e_11 hx_e_11=> ?_)
 conv=>whnf
 refine Z6 (enc:=iA) (l:=(a2.set i4.toNat e8)) (x':=e9) (i:=r7) hm_e_11 hx_e_11 rfl (Wl rfl) rfl ?_
 conv=>whnf
 refine⟨by kernel_rfl,?_⟩
 conv=>whnf
 refine⟨_,rfl,?_⟩
 conv=>whnf
 exact⟨(q15,(w64 (i4 - 1)),((a2.set i4.toNat e8).set r7.toNat e9),i3),_,_,_,hL1,Wn _,wK [0] [] []⟩
 conv=>whnf
 refine xB hL1 (fun b24 hL1=> ?_) fun b24 hL1=> ?_
 conv=>whnf
 obtain⟨r12,hr12,hL1⟩:=bs' hL1
 refine cE (d0 0 Tryz.func172 (Jhh x1 i4 r12 hr12)) ?_
 conv=>whnf
 refine xB hL1 (fun b25 hL1=> ?_) fun b25 hL1=> ?_
 conv=>whnf
 obtain⟨e13,he13,hL1⟩:=bs' hL1
 refine JZ (enc:=iA) (l:=x0) he13 rfl (fun m_e_13 hm_e_13 hx_e_13=> ?_)
 conv=>whnf
 obtain⟨e14,he14,hL1⟩:=bs' hL1
 refine Qc (enc:=iA) (l:=a2) he14 rfl (fun m_e_14 hm_e_14 hx_e_14=> ?_)
 conv=>whnf
 refine Z6 (enc:=iA) (l:=a2) (x':=0) (i:=i4) hm_e_14 hx_e_14 rfl (Wl rfl) rfl ?_
 conv=>whnf
 refine⟨_,rfl,?_⟩
 conv=>whnf
 exact⟨(q15,(w64 (i4 - 1)),(a2.set i4.toNat 0),e13),_,_,_,hL1,Wn _,wK [0] [] []⟩
 conv=>whnf
 refine⟨_,rfl,?_⟩
 conv=>whnf
 exact⟨(q15,(w64 (i4 - 1)),a2,i3),_,_,_,hL1,Wn _,wK [0] [] []⟩
 conv=>whnf
 refine⟨_,rfl,?_⟩
 conv=>whnf
 exact⟨(q15,(w64 (i4 - 1)),a2,i3),_,_,_,hL1,Wn _,wK [0] [] []⟩
 conv=>whnf
 obtain rfl:=si hL1
 replace hF:=Jw hF
 try dsimp only at hF
 obtain rfl:=si hF
 exact Jk [0] [] [] rfl (Qh rfl ⟨(aO 0),aq,tv⟩) ⟨bR,tv⟩
theorem JeH (x0:Plan) (x1:Plant) (x2:Int) (x3:(List Fault)) (x4:Bool) (r:(List Int)×Int) (hF:Yk x0 x1 x2 x3 x4=some r):AC Tryz.prog 86 [.iptr [.lst 5 (x0.L.Nodes.map Jb),.lst 3 (x0.L.Devices.map Jd),.lst 1 (x0.order.map iA)],.agg (Qi x1),.int .i64 x2,.lst 3 (x3.map Je),.bool x4] [] (.tup [.osl 0,.int .i64 r.2]) ([.row 1 (r.1.map iA)]):=by
 refine Ju Jc Ja Tryz.func86 rfl Tryz.ntmps86 rfl ?_
 unfold Yk at hF
 conv=>whnf
 obtain⟨e1,he1,hF⟩:=bs' hF
 refine JZ (enc:=Jb) (l:=x0.L.Nodes) he1 rfl (fun m_e_1 hm_e_1 hx_e_1=> ?_)
 conv=>whnf
 obtain⟨l2,hl2,hF⟩:=bs' hF
 refine JuP (enc:=iA) hl2 rfl (by decide) ?_
 conv=>whnf
 refine Jm (enc:=Je) (l:=x3) rfl ?_
 conv=>whnf
 obtain⟨c1,hc_1,hF⟩:=Jr hF
 refine J1 3 (v:= .lst 3 (x3.map Je)) (by(conv=>lhs;whnf)<;>rfl) (fun hb=> ?_)
 have hbd_k_5:x3.length<=9223372036854775807:=Jz (enc:=Je) (hb)
 refine Jo Jc Ja (fun y:Nat×(List Int)=>y.1<=x3.length∧QA x2 (x3.drop y.1) y.1 y.2=some c1) (fun y=>⟨eL [(2,.int .i64 x2),(4,.bool x4),(6,.ptr 0 0),(12,.osl 1),(25,.lst 3 (x3.map Je)),(26,.int .i64 (x3.length:Int)),(27,.int .i64 (y.1:Int))],hL [(0,.box [.lst 1 (x1.Slots.map (lA 1 iA)),.lst 1 (x1.Bins.map (lA 1 iA))]),(1,.row 1 (y.2.map iA))],2⟩) (fun y=>x3.length - y.1) (0,l2) ⟨Nat.zero_le _,hc_1⟩ (wK [0,1] [] []) ?_
 rintro⟨k5,a3⟩ ⟨hk_k_5,hL1⟩
 try dsimp only at hk_k_5 hL1
 show awp _ _ _ _ _ _ ⟨eL [(2,.int .i64 x2),(4,.bool x4),(6,.ptr 0 0),(12,.osl 1),(25,.lst 3 (x3.map Je)),(26,.int .i64 (x3.length:Int)),(27,.int .i64 (k5:Int))],hL [(0,.box [.lst 1 (x1.Slots.map (lA 1 iA)),.lst 1 (x1.Bins.map (lA 1 iA))]),(1,.row 1 (a3.map iA))],2⟩
 conv=>whnf
 refine⟨fun h=> ?_,fun h=> ?_⟩
 have lk5:k5<x3.length:=by have h:=Wt h;omega
 obtain⟨e6,he6⟩:=ge lk5
 rw [Jl he6,QA.eq_2] at hL1
 conv=>whnf
 refine⟨k5,_,rfl,Jv he6,?_⟩
 conv=>whnf
 refine xB hL1 (fun b7 hL1=> ?_) fun b7 hL1=> ?_
 conv=>whnf
 obtain⟨e7,he7,hL1⟩:=bs' hL1
 refine Qc (enc:=iA) (l:=a3) he7 rfl (fun m_e_7 hm_e_7 hx_e_7=> ?_)
 conv=>whnf
 refine Z6 (enc:=iA) (l:=a3) (x':=e6.Kind) (i:=e6.Window) hm_e_7 hx_e_7 rfl (Wl rfl) rfl ?_
 conv=>whnf
 refine⟨((k5+1:Nat):Int),wE,?_⟩
 conv=>whnf
 exact⟨(k5+1,(a3.set e6.Window.toNat e6.Kind)),_,_,_,⟨lk5,hL1⟩,sl lk5,wK [0,1] [] []⟩
 conv=>whnf
 refine⟨((k5+1:Nat):Int),wE,?_⟩
 conv=>whnf
 exact⟨(k5+1,a3),_,_,_,⟨lk5,hL1⟩,sl lk5,wK [0,1] [] []⟩
 rw [Jq (nl h),QA.eq_1] at hL1
 conv=>whnf
 obtain rfl:=si hL1
 replace hF:=Jw hF
 try dsimp only at hF
 obtain⟨e10,he10,hF⟩:=bs' hF
 refine JZ (enc:=(lA 1 iA)) (l:=x1.Slots) he10 rfl (fun m_e_10 hm_e_10 hx_e_10=> ?_)
 conv=>whnf
 obtain⟨r11,hr11,hF⟩:=bs' hF
 refine cE (dX false [] [1] 1 Tryz.func123 (JgM e10 a3 x4 r11 hr11) trivial (YJ rfl ⟨fR,tv⟩) ⟨rR,tv⟩) ?_
 conv=>whnf
 obtain rfl:=si hF
 exact Jk [2] [] [] rfl (Qh rfl ⟨(aO 2),aq,tv⟩) ⟨bR,tv⟩
theorem Jcd (x0:Int) (x1:Int) (r:Bool) (hF:Y9 x0 x1=some r):AC Tryz.prog 87 [.int .i64 x0,.iptr [.int .i64 x1]] [] (.bool r) ([]):=by
 refine Ju Jc Ja Tryz.func87 rfl Tryz.ntmps87 rfl ?_
 unfold Y9 at hF
 conv=>whnf
 obtain rfl:=si hF
 exact rZ
theorem Jdo (x0:(List Int)) (x1:Int) (r:Int) (hF:ZC x0 x1=some r):AC Tryz.prog 115 [.lst 1 (x0.map iA),.fn 87 [.iptr [.int .i64 x1]]] [] (.int .i64 r) ([]):=by
 refine Ju Jc Ja Tryz.func115 rfl Tryz.ntmps115 rfl ?_
 unfold ZC at hF
 conv=>whnf
 refine Jm (enc:=iA) (l:=x0) rfl ?_
 conv=>whnf
 obtain⟨c1,hc_1,hF⟩:=Jr hF
 refine J1 0 (v:= .lst 1 (x0.map iA)) (by(conv=>lhs;whnf)<;>rfl) (fun hb=> ?_)
 have hbd_k_2:x0.length<=9223372036854775807:=Jz (enc:=iA) (hb)
 refine Jo Jc Ja (fun y:Nat=>y<=x0.length∧J8 x1 (x0.drop y) y=some c1) (fun y=>⟨eL [(0,.lst 1 (x0.map iA)),(1,.fn 87 [.iptr [.int .i64 x1]]),(7,.int .i64 (x0.length:Int)),(8,.int .i64 (y:Int))],hL [],0⟩) (fun y=>x0.length - y) 0 ⟨Nat.zero_le _,hc_1⟩ (wK [] [] []) ?_
 rintro k2 ⟨hk_k_2,hL1⟩
 try dsimp only at hk_k_2 hL1
 show awp _ _ _ _ _ _ ⟨eL [(0,.lst 1 (x0.map iA)),(1,.fn 87 [.iptr [.int .i64 x1]]),(7,.int .i64 (x0.length:Int)),(8,.int .i64 (k2:Int))],hL [],0⟩
 conv=>whnf
 refine⟨fun h=> ?_,fun h=> ?_⟩
 have lk2:k2<x0.length:=by have h:=Wt h;omega
 obtain⟨e3,he3⟩:=ge lk2
 rw [Jl he3,J8.eq_2] at hL1
 conv=>whnf
 refine⟨k2,_,rfl,Jv he3,?_⟩
 conv=>whnf
 obtain⟨r4,hr4,hL1⟩:=bs' hL1
 refine cE (d0 0 Tryz.func87 (Jcd e3 x1 r4 hr4)) ?_
 conv=>whnf
 refine xB hL1 (fun b7 hL1=> ?_) fun b7 hL1=> ?_
 conv=>whnf
 obtain rfl:=si hL1
 replace hF:=Jn hF
 obtain rfl:=si hF
 exact rZ
 conv=>whnf
 refine⟨((k2+1:Nat):Int),wE,?_⟩
 conv=>whnf
 exact⟨k2+1,_,_,_,⟨lk2,hL1⟩,sl lk2,wK [] [] []⟩
 rw [Jq (nl h),J8.eq_1] at hL1
 conv=>whnf
 obtain rfl:=si hL1
 replace hF:=Jw hF
 try dsimp only at hF
 obtain rfl:=si hF
 exact rZ
theorem Jc4 (x0:(List Int)) (x1:Int) (r:(List Int)) (hF:Yr x0 x1=some r):AC Tryz.prog 73 [.osl 0,.fn 87 [.iptr [.int .i64 x1]]] [.row 1 (x0.map iA)] (.osl 1) ([.dead,.row 1 (r.map iA)]):=by
 refine Ju Jc Ja Tryz.func73 rfl Tryz.ntmps73 rfl ?_
 unfold Yr at hF
 conv=>whnf
 obtain⟨r1,hr1,hF⟩:=bs' hF
 refine cE (dX false [] [0] 0 Tryz.func115 (Jdo x0 x1 r1 hr1) trivial (YJ rfl trivial) trivial) ?_
 conv=>whnf
 refine xB hF (fun b10 hF=> ?_) fun b10 hF=> ?_
 conv=>whnf
 obtain rfl:=si hF
 exact Jk [0,0] [] [] rfl (aO 0) ⟨trivial,bR,tv⟩
 conv=>whnf
 refine⟨_,rfl,?_⟩
 conv=>whnf
 obtain⟨c1,hc_1,hF⟩:=Jr hF
 refine Jo Jc Ja (fun y:Nat×(List Int)×Int×Int=>J4 x1 y.1 y.2.1 y.2.2.1 y.2.2.2=some c1) (fun y=>⟨eL [(0,.osl 1),(1,.fn 87 [.iptr [.int .i64 x1]]),(5,.int .i64 y.2.2.1),(6,.int .i64 y.2.2.2)],hL [(1,.row 1 (y.2.1.map iA))],2⟩) (fun y=>y.1) (9223372036854775807,x0,r1,(w64 (r1+1))) hc_1 (wK [0,0] [] []) ?_
 rintro⟨q8,a2,i3,i4⟩ hL1
 try dsimp only at hL1
 rcases q8 with _ |q8
 rw [J4.eq_1] at hL1
 cases hL1
 rw [J4.eq_2] at hL1
 show awp _ _ _ _ _ _ ⟨eL [(0,.osl 1),(1,.fn 87 [.iptr [.int .i64 x1]]),(5,.int .i64 i3),(6,.int .i64 i4)],hL [(1,.row 1 (a2.map iA))],2⟩
 conv=>whnf
 refine Jm (enc:=iA) (l:=a2) rfl ?_
 conv=>whnf
 refine xB hL1 (fun b11 hL1=> ?_) fun b11 hL1=> ?_
 conv=>whnf
 obtain⟨e5,he5,hL1⟩:=bs' hL1
 refine Qc (enc:=iA) (l:=a2) he5 rfl (fun m_e_5 hm_e_5 hx_e_5=> ?_)
 conv=>whnf
 refine⟨_,Jv (enc:=iA) hx_e_5,?_⟩
 conv=>whnf
 obtain⟨r6,hr6,hL1⟩:=bs' hL1
 refine cE (d0 0 Tryz.func87 (Jcd e5 x1 r6 hr6)) ?_
 conv=>whnf
 refine xB hL1 (fun b12 hL1=> ?_) fun b12 hL1=> ?_
 conv=>whnf
 obtain⟨e7,he7,hL1⟩:=bs' hL1
 refine Qc (enc:=iA) (l:=a2) he7 rfl (fun m_e_7 hm_e_7 hx_e_7=> ?_)
 conv=>whnf
 refine Z6 (enc:=iA) (l:=a2) (x':=e5) (i:=i3) hm_e_7 hx_e_7 rfl (Wl rfl) rfl ?_
 conv=>whnf
 refine⟨_,rfl,?_⟩
 conv=>whnf
 refine⟨_,rfl,?_⟩
 conv=>whnf
 exact⟨(q8,(a2.set i3.toNat e5),(w64 (i3+1)),(w64 (i4+1))),_,_,_,hL1,Wn _,wK [0,1] [] []⟩
 conv=>whnf
 refine⟨_,rfl,?_⟩
 conv=>whnf
 exact⟨(q8,a2,i3,(w64 (i4+1))),_,_,_,hL1,Wn _,wK [0,1] [] []⟩
 conv=>whnf
 obtain rfl:=si hL1
 replace hF:=Jw hF
 try dsimp only at hF
 obtain⟨l10,hl10,hF⟩:=bs' hF
 refine JjW (enc:=iA) (l:=a2) hl10 rfl (fun n_l_10 f_l_10=> ?_)
 conv=>whnf
 refine⟨_,Jid Jc rfl rfl rfl rfl rfl rfl rfl (Jmq f_l_10) rfl (Jrj (enc:=iA) (x:=0) f_l_10 rfl),?_⟩
 conv=>whnf
 obtain⟨l11,hl11,hF⟩:=bs' hF
 refine JjX (enc:=iA) (l:=(clT a2 l10 0)) hl11 rfl (fun m_l_11 f_l_11=> ?_)
 conv=>whnf
 obtain rfl:=si hF
 exact JhM (hi:=m_l_11) rfl (Jmr f_l_11) (JhZ f_l_11) (.inl (by(conv=>lhs;whnf)<;>rfl)) [0,2] [] [] rfl (aO 2) ⟨trivial,bR,tv⟩
theorem JhG (x0:Int) (x1:Int) (r:Bool) (hF:Jcg x0 x1=some r):AC Tryz.prog 149 [.int .i64 x0,.int .i64 x1] [] (.bool r) ([]):=by
 refine Ju Jc Ja Tryz.func149 rfl Tryz.ntmps149 rfl ?_
 unfold Jcg at hF
 conv=>whnf
 obtain⟨r1,hr1,hF⟩:=bs' hF
 refine cE (d0 0 Tryz.func184 (Jbh x0 r1 hr1)) ?_
 conv=>whnf
 refine xB hF (fun b3 hF=> ?_) fun b3 hF=> ?_
 conv=>whnf
 obtain⟨r2,hr2,hF⟩:=bs' hF
 refine cE (d0 0 Tryz.func184 (Jbh x1 r2 hr2)) ?_
 conv=>whnf
 refine⟨fun b4=> ?_,fun b4=> ?_⟩
 replace hF:=cf b4 hF
 conv=>whnf
 obtain rfl:=si hF
 exact rZ
 replace hF:=ct b4 hF
 conv=>whnf
 obtain rfl:=si hF
 exact rZ
 conv=>whnf
 obtain rfl:=si hF
 exact rZ
theorem JcU (x0:Int) (r:Bool) (hF:JaE x0=some r):AC Tryz.prog 173 [.int .i64 x0] [] (.bool r) ([]):=by
 refine Ju Jc Ja Tryz.func173 rfl Tryz.ntmps173 rfl ?_
 unfold JaE at hF
 conv=>whnf
 obtain rfl:=si hF
 exact rZ
theorem Jdr (x0:(List Int)) (x1:Int) (r:Int×Bool) (hF:YG x0 x1=some r):AC Tryz.prog 124 [.lst 1 (x0.map iA),.int .i64 x1] [] (.tup [.int .i64 r.1,.bool r.2]) ([]):=by
 refine Ju Jc Ja Tryz.func124 rfl Tryz.ntmps124 rfl ?_
 unfold YG at hF
 conv=>whnf
 refine Jm (enc:=iA) (l:=x0) rfl ?_
 conv=>whnf
 obtain⟨c1,hc_1,hF⟩:=Jr hF
 refine Jo Jc Ja (fun y:Nat×Int×Int=>Qb x0 x1 y.1 y.2.1 y.2.2=some c1) (fun y=>⟨eL [(0,.lst 1 (x0.map iA)),(1,.int .i64 x1),(6,.int .i64 (x0.length:Int)),(7,.int .i64 y.2.1),(8,.int .i64 y.2.2)],hL [],0⟩) (fun y=>y.1) (9223372036854775807,0,(x0.length:Int)) hc_1 (wK [] [] []) ?_
 rintro⟨q5,i1,i2⟩ hL1
 try dsimp only at hL1
 rcases q5 with _ |q5
 rw [Qb.eq_1] at hL1
 cases hL1
 rw [Qb.eq_2] at hL1
 show awp _ _ _ _ _ _ ⟨eL [(0,.lst 1 (x0.map iA)),(1,.int .i64 x1),(6,.int .i64 (x0.length:Int)),(7,.int .i64 i1),(8,.int .i64 i2)],hL [],0⟩
 conv=>whnf
 refine xB hL1 (fun b12 hL1=> ?_) fun b12 hL1=> ?_
 conv=>whnf
 refine⟨_,rfl,?_⟩
 conv=>whnf
 refine⟨_,rfl,?_⟩
 conv=>whnf
 refine⟨_,JvU (by decide),?_⟩
 conv=>whnf
 refine⟨_,rfl,?_⟩
 conv=>whnf
 obtain⟨e3,he3,hL1⟩:=bs' hL1
 refine JZ (enc:=iA) (l:=x0) he3 rfl (fun m_e_3 hm_e_3 hx_e_3=> ?_)
 conv=>whnf
 obtain⟨r4,hr4,hL1⟩:=bs' hL1
 refine cE (d0 0 Tryz.func149 (JhG e3 x1 r4 hr4)) ?_
 conv=>whnf
 refine xB hL1 (fun b13 hL1=> ?_) fun b13 hL1=> ?_
 conv=>whnf
 refine⟨_,rfl,?_⟩
 conv=>whnf
 exact⟨(q5,(w64 ((IntKind.i64.wrap (JjY .u64 (IntKind.u64.wrap (w64 (i1+i2))) 1))+1)),i2),_,_,_,hL1,Wn _,wK [] [] []⟩
 conv=>whnf
 exact⟨(q5,i1,(IntKind.i64.wrap (JjY .u64 (IntKind.u64.wrap (w64 (i1+i2))) 1))),_,_,_,hL1,Wn _,wK [] [] []⟩
 conv=>whnf
 obtain rfl:=si hL1
 replace hF:=Jw hF
 try dsimp only at hF
 refine xB hF (fun b14 hF=> ?_) fun b14 hF=> ?_
 conv=>whnf
 obtain⟨e7,he7,hF⟩:=bs' hF
 refine JZ (enc:=iA) (l:=x0) he7 rfl (fun m_e_7 hm_e_7 hx_e_7=> ?_)
 conv=>whnf
 refine⟨fun b15=> ?_,fun b15=> ?_⟩
 replace hF:=cf b15 hF
 conv=>whnf
 obtain⟨e8,he8,hF⟩:=bs' hF
 refine JZ (enc:=iA) (l:=x0) he8 rfl (fun m_e_8 hm_e_8 hx_e_8=> ?_)
 conv=>whnf
 obtain⟨r9,hr9,hF⟩:=bs' hF
 refine cE (d0 0 Tryz.func173 (JcU e8 r9 hr9)) ?_
 conv=>whnf
 refine xB hF (fun b16 hF=> ?_) fun b16 hF=> ?_
 conv=>whnf
 obtain⟨r10,hr10,hF⟩:=bs' hF
 refine cE (d0 0 Tryz.func173 (JcU x1 r10 hr10)) ?_
 conv=>whnf
 obtain rfl:=si hF
 exact Jk [] [] [] rfl (Qh rfl ⟨aq,aq,tv⟩) trivial
 conv=>whnf
 obtain rfl:=si hF
 exact Jk [] [] [] rfl (Qh rfl ⟨aq,aF,tv⟩) trivial
 replace hF:=ct b15 hF
 conv=>whnf
 obtain rfl:=si hF
 exact Jk [] [] [] rfl (Qh rfl ⟨aq,aT,tv⟩) trivial
 conv=>whnf
 obtain rfl:=si hF
 exact Jk [] [] [] rfl (Qh rfl ⟨aq,aF,tv⟩) trivial
theorem Je1 (x0:(List Int)) (x1:Int) (x2:(List Int)) (r:(List Int)) (hF:JbT x0 x1 x2=some r):AC Tryz.prog 125 [.osl 0,.int .i64 x1,.osl 1] [.row 1 (x0.map iA),.row 1 (x2.map iA)] (.osl 2) ([.dead,.dead,.row 1 (r.map iA)]):=by
 exact Insint.insert_ac iA x0 x2 x1 r hF
theorem Ji3 (x0:(List Int)) (x1:Int) (r:(List Int)) (hF:JdE x0 x1=some r):AC Tryz.prog 88 [.osl 0,.int .i64 x1] [.row 1 (x0.map iA)] (.osl 1) ([.dead,.row 1 (r.map iA)]):=by
 refine Ju Jc Ja Tryz.func88 rfl Tryz.ntmps88 rfl ?_
 unfold JdE at hF
 conv=>whnf
 obtain⟨r1,hr1,hF⟩:=bs' hF
 refine cE (dX false [] [0] 0 Tryz.func124 (Jdr x0 x1 r1 hr1) trivial (YJ rfl trivial) trivial) ?_
 conv=>whnf
 obtain⟨r2,hr2,hF⟩:=bs' hF
 refine cE (dY false [.dead,.dead,.row 1 (r2.map iA)] [0,2] [] 1 Tryz.func125 (Je1 x0 r1.1 ([x1]:List Int) r2 hr2) ⟨gR,gR,tv⟩ Qd ⟨rfl,rfl,rR,tv⟩) ?_
 conv=>whnf
 obtain rfl:=si hF
 exact Jk [0,3] [] [] rfl (aO 3) ⟨trivial,bR,tv⟩
theorem Jcc (x0:Passage) (r:Bool) (hF:Y8 x0=some r):AC Tryz.prog 90 [.agg (JH x0)] [] (.bool r) ([]):=by
 refine Ju Jc Ja Tryz.func90 rfl Tryz.ntmps90 rfl ?_
 unfold Y8 at hF
 conv=>whnf
 obtain rfl:=si hF
 exact rZ
theorem Jc2 (x0:(List Passage)) (r:Int) (hF:Zs x0=some r):AC Tryz.prog 126 [.lst 3 (x0.map JH),.fn 90 []] [] (.int .i64 r) ([]):=by
 refine Ju Jc Ja Tryz.func126 rfl Tryz.ntmps126 rfl ?_
 unfold Zs at hF
 conv=>whnf
 refine Jm (enc:=JH) (l:=x0) rfl ?_
 conv=>whnf
 obtain⟨c1,hc_1,hF⟩:=Jr hF
 refine J1 0 (v:= .lst 3 (x0.map JH)) (by(conv=>lhs;whnf)<;>rfl) (fun hb=> ?_)
 have hbd_k_2:x0.length<=9223372036854775807:=Jz (enc:=JH) (hb)
 refine Jo Jc Ja (fun y:Nat=>y<=x0.length∧J2 (x0.drop y) y=some c1) (fun y=>⟨eL [(0,.lst 3 (x0.map JH)),(1,.fn 90 []),(7,.int .i64 (x0.length:Int)),(8,.int .i64 (y:Int))],hL [],0⟩) (fun y=>x0.length - y) 0 ⟨Nat.zero_le _,hc_1⟩ (wK [] [] []) ?_
 rintro k2 ⟨hk_k_2,hL1⟩
 try dsimp only at hk_k_2 hL1
 show awp _ _ _ _ _ _ ⟨eL [(0,.lst 3 (x0.map JH)),(1,.fn 90 []),(7,.int .i64 (x0.length:Int)),(8,.int .i64 (k2:Int))],hL [],0⟩
 conv=>whnf
 refine⟨fun h=> ?_,fun h=> ?_⟩
 have lk2:k2<x0.length:=by have h:=Wt h;omega
 obtain⟨e3,he3⟩:=ge lk2
 rw [Jl he3,J2.eq_2] at hL1
 conv=>whnf
 refine⟨k2,_,rfl,Jv he3,?_⟩
 conv=>whnf
 obtain⟨r4,hr4,hL1⟩:=bs' hL1
 refine cE (d0 0 Tryz.func90 (Jcc e3 r4 hr4)) ?_
 conv=>whnf
 refine xB hL1 (fun b7 hL1=> ?_) fun b7 hL1=> ?_
 conv=>whnf
 obtain rfl:=si hL1
 replace hF:=Jn hF
 obtain rfl:=si hF
 exact rZ
 conv=>whnf
 refine⟨((k2+1:Nat):Int),wE,?_⟩
 conv=>whnf
 exact⟨k2+1,_,_,_,⟨lk2,hL1⟩,sl lk2,wK [] [] []⟩
 rw [Jq (nl h),J2.eq_1] at hL1
 conv=>whnf
 obtain rfl:=si hL1
 replace hF:=Jw hF
 try dsimp only at hF
 obtain rfl:=si hF
 exact rZ
theorem JcO (x0:(List Passage)) (r:(List Passage)) (hF:Yb x0=some r):AC Tryz.prog 89 [.osl 0,.fn 90 []] [.row 3 (x0.map JH)] (.osl 1) ([.dead,.row 3 (r.map JH)]):=by
 refine Ju Jc Ja Tryz.func89 rfl Tryz.ntmps89 rfl ?_
 unfold Yb at hF
 conv=>whnf
 obtain⟨r1,hr1,hF⟩:=bs' hF
 refine cE (dX false [] [0] 0 Tryz.func126 (Jc2 x0 r1 hr1) trivial (YJ rfl trivial) trivial) ?_
 conv=>whnf
 refine xB hF (fun b10 hF=> ?_) fun b10 hF=> ?_
 conv=>whnf
 obtain rfl:=si hF
 exact Jk [0,0] [] [] rfl (aO 0) ⟨trivial,bR,tv⟩
 conv=>whnf
 refine⟨_,rfl,?_⟩
 conv=>whnf
 obtain⟨c1,hc_1,hF⟩:=Jr hF
 refine Jo Jc Ja (fun y:Nat×(List Passage)×Int×Int=>JY y.1 y.2.1 y.2.2.1 y.2.2.2=some c1) (fun y=>⟨eL [(0,.osl 1),(1,.fn 90 []),(5,.int .i64 y.2.2.1),(6,.int .i64 y.2.2.2)],hL [(1,.row 3 (y.2.1.map JH))],2⟩) (fun y=>y.1) (9223372036854775807,x0,r1,(w64 (r1+1))) hc_1 (wK [0,0] [] []) ?_
 rintro⟨q8,a2,i3,i4⟩ hL1
 try dsimp only at hL1
 rcases q8 with _ |q8
 rw [JY.eq_1] at hL1
 cases hL1
 rw [JY.eq_2] at hL1
 show awp _ _ _ _ _ _ ⟨eL [(0,.osl 1),(1,.fn 90 []),(5,.int .i64 i3),(6,.int .i64 i4)],hL [(1,.row 3 (a2.map JH))],2⟩
 conv=>whnf
 refine Jm (enc:=JH) (l:=a2) rfl ?_
 conv=>whnf
 refine xB hL1 (fun b11 hL1=> ?_) fun b11 hL1=> ?_
 conv=>whnf
 obtain⟨e5,he5,hL1⟩:=bs' hL1
 refine Qc (enc:=JH) (l:=a2) he5 rfl (fun m_e_5 hm_e_5 hx_e_5=> ?_)
 conv=>whnf
 refine⟨_,Jv (enc:=JH) hx_e_5,?_⟩
 conv=>whnf
 obtain⟨r6,hr6,hL1⟩:=bs' hL1
 refine cE (d0 0 Tryz.func90 (Jcc e5 r6 hr6)) ?_
 conv=>whnf
 refine xB hL1 (fun b12 hL1=> ?_) fun b12 hL1=> ?_
 conv=>whnf
 obtain⟨e7,he7,hL1⟩:=bs' hL1
 refine Qc (enc:=JH) (l:=a2) he7 rfl (fun m_e_7 hm_e_7 hx_e_7=> ?_)
 conv=>whnf
 refine Z6 (enc:=JH) (l:=a2) (x':=e5) (i:=i3) hm_e_7 hx_e_7 rfl (Wl rfl) rfl ?_
 conv=>whnf
 refine⟨_,rfl,?_⟩
 conv=>whnf
 refine⟨_,rfl,?_⟩
 conv=>whnf
 exact⟨(q8,(a2.set i3.toNat e5),(w64 (i3+1)),(w64 (i4+1))),_,_,_,hL1,Wn _,wK [0,1] [] []⟩
 conv=>whnf
 refine⟨_,rfl,?_⟩
 conv=>whnf
 exact⟨(q8,a2,i3,(w64 (i4+1))),_,_,_,hL1,Wn _,wK [0,1] [] []⟩
 conv=>whnf
 obtain rfl:=si hL1
 replace hF:=Jw hF
 try dsimp only at hF
 obtain⟨l10,hl10,hF⟩:=bs' hF
 refine JjW (enc:=JH) (l:=a2) hl10 rfl (fun n_l_10 f_l_10=> ?_)
 conv=>whnf
 refine⟨_,Jid Jc rfl rfl rfl rfl rfl rfl rfl (Jmq f_l_10) rfl (Jrj (enc:=JH) (x:=(⟨0,0,0⟩:Passage)) f_l_10 rfl),?_⟩
 conv=>whnf
 obtain⟨l11,hl11,hF⟩:=bs' hF
 refine JjX (enc:=JH) (l:=(clT a2 l10 (⟨0,0,0⟩:Passage))) hl11 rfl (fun m_l_11 f_l_11=> ?_)
 conv=>whnf
 obtain rfl:=si hF
 exact JhM (hi:=m_l_11) rfl (Jmr f_l_11) (JhZ f_l_11) (.inl (by(conv=>lhs;whnf)<;>rfl)) [0,2] [] [] rfl (aO 2) ⟨trivial,bR,tv⟩
theorem Jc0 (x0:Plan) (x1:Plant) (x2:(List Int)) (x3:(List Fault)) (r:Plant×(List Passage)) (hF:J6 x0 x1 x2 x3=some r):AC Tryz.prog 41 [.iptr [.lst 5 (x0.L.Nodes.map Jb),.lst 3 (x0.L.Devices.map Jd),.lst 1 (x0.order.map iA)],.agg (Qi x1),.lst 1 (x2.map iA),.lst 3 (x3.map Je)] [] (.tup [.agg [.osl 0,.osl 1],.osl 2]) ([.nest (r.1.Slots.map NE.hid),.nest (r.1.Bins.map NE.hid),.row 3 (r.2.map JH)]):=by
 refine Ju Jc Ja Tryz.func41 rfl Tryz.ntmps41 rfl ?_
 unfold J6 at hF
 conv=>whnf
 obtain⟨r1,hr1,hF⟩:=bs' hF
 refine cE (d0 0 Tryz.func84 (Jfr x0 x1 x2 x3 r1 hr1)) ?_
 conv=>whnf
 obtain⟨r2,hr2,hF⟩:=bs' hF
 refine cE (d0 2 Tryz.func33 (JeM x1 r2 hr2) ⟨Jgk,Jgk,tv⟩) ?_
 conv=>whnf
 refine Jm (enc:=Jb) (l:=x0.L.Nodes) rfl ?_
 conv=>whnf
 obtain⟨c1,hc_1,hF⟩:=Jr hF
 refine J1 0 (v:= .iptr [.lst 5 (x0.L.Nodes.map Jb),.lst 3 (x0.L.Devices.map Jd),.lst 1 (x0.order.map iA)]) (by(conv=>lhs;whnf)<;>rfl) (fun hb=> ?_)
 have hbd_k_7:x0.L.Nodes.length<=9223372036854775807:=Jz (enc:=Jb) ((YC hb.icell 0 rfl))
 refine Jo Jc Ja (fun y:Nat×(List (List Int))×(List Passage)×(List (List Int))=>y.1<=x0.L.Nodes.length∧JK x0 x1 x2 x3 r1 (x0.L.Nodes.drop y.1) y.1 y.2.1 y.2.2.1 y.2.2.2=some c1) (fun y=>⟨eL [(0,.iptr [.lst 5 (x0.L.Nodes.map Jb),.lst 3 (x0.L.Devices.map Jd),.lst 1 (x0.order.map iA)]),(2,.lst 1 (x2.map iA)),(3,.lst 3 (x3.map Je)),(5,.ptr 0 0),(8,.ptr 1 0),(10,.ptr 2 0),(11,.ptr 3 0),(12,.osl 6),(30,.lst 5 (x0.L.Nodes.map Jb)),(31,.int .i64 (x0.L.Nodes.length:Int)),(32,.int .i64 (y.1:Int))],hL [(0,.box [.lst 1 (x1.Slots.map (lA 1 iA)),.lst 1 (x1.Bins.map (lA 1 iA))]),(1,.box [.nils,.nils]),(2,.box [.lst 1 (r1.Leave.map iA),.lst 1 (r1.Enter.map iA)]),(3,.box [.osl 4,.osl 5]),(4,.nest (y.2.1.map NE.hid)),(5,.nest (y.2.2.2.map NE.hid)),(6,.row 3 (y.2.2.1.map JH))],7⟩) (fun y=>x0.L.Nodes.length - y.1) (0,r2.Slots,([]:List Passage),r2.Bins) ⟨Nat.zero_le _,hc_1⟩ (Ye [0,1,3,7,4,5] [6] [] [] rfl rfl ⟨aq,aq,aq,aP 0,aP 1,aP 3,aP 7,aZ,aq,aq,aq,tv⟩ ⟨bN,bN,bN,Jy rfl rfl rfl ⟨(.oslg 4 4 rfl),(.oslg 5 5 rfl),tv⟩,Qy rfl rfl,Qy rfl rfl,Jci rfl,tv⟩) ?_
 rintro⟨k7,a3,a5,a4⟩ ⟨hk_k_7,hL1⟩
 try dsimp only at hk_k_7 hL1
 show awp _ _ _ _ _ _ ⟨eL [(0,.iptr [.lst 5 (x0.L.Nodes.map Jb),.lst 3 (x0.L.Devices.map Jd),.lst 1 (x0.order.map iA)]),(2,.lst 1 (x2.map iA)),(3,.lst 3 (x3.map Je)),(5,.ptr 0 0),(8,.ptr 1 0),(10,.ptr 2 0),(11,.ptr 3 0),(12,.osl 6),(30,.lst 5 (x0.L.Nodes.map Jb)),(31,.int .i64 (x0.L.Nodes.length:Int)),(32,.int .i64 (k7:Int))],hL [(0,.box [.lst 1 (x1.Slots.map (lA 1 iA)),.lst 1 (x1.Bins.map (lA 1 iA))]),(1,.box [.nils,.nils]),(2,.box [.lst 1 (r1.Leave.map iA),.lst 1 (r1.Enter.map iA)]),(3,.box [.osl 4,.osl 5]),(4,.nest (a3.map NE.hid)),(5,.nest (a4.map NE.hid)),(6,.row 3 (a5.map JH))],7⟩
 conv=>whnf
 refine⟨fun h=> ?_,fun h=> ?_⟩
 have lk7:k7<x0.L.Nodes.length:=by have h:=Wt h;omega
 obtain⟨e8,he8⟩:=ge lk7
 rw [Jl he8,JK.eq_2] at hL1
 conv=>whnf
 refine⟨k7,_,rfl,Jv he8,?_⟩
 conv=>whnf
 obtain⟨e9,he9,hL1⟩:=bs' hL1
 refine JZ (enc:=iA) (l:=x2) he9 rfl (fun m_e_9 hm_e_9 hx_e_9=> ?_)
 conv=>whnf
 obtain⟨e10,he10,hL1⟩:=bs' hL1
 refine JZ (enc:=iA) (l:=r1.Leave) he10 rfl (fun m_e_10 hm_e_10 hx_e_10=> ?_)
 conv=>whnf
 refine⟨by kernel_rfl,?_⟩
 conv=>whnf
 obtain⟨r11,hr11,hL1⟩:=bs' hL1
 refine cE (d0 0 Tryz.func85 (Qv e8.Kind r11 hr11)) ?_
 conv=>whnf
 refine xB hL1 (fun b21 hL1=> ?_) fun b21 hL1=> ?_
 conv=>whnf
 obtain⟨r12,hr12,hL1⟩:=bs' hL1
 refine cE (d0 1 Tryz.func86 (JeH x0 x1 (k7:Int) x3 (decide (0<=e10)) r12 hr12) ⟨rR,tv⟩) ?_
 conv=>whnf
 obtain⟨e13,he13,hL1⟩:=bs' hL1
 obtain⟨m_e_13,hm_e_13,hx_e_13⟩:=Jau he13
 refine⟨_,Jd5 Jc rfl rfl rfl rfl rfl rfl hm_e_13 hx_e_13,?_⟩
 conv=>whnf
 refine⟨_,JmG Jc rfl rfl rfl rfl rfl rfl hx_e_13,?_⟩
 conv=>whnf
 refine⟨by kernel_rfl,?_⟩
 conv=>whnf
 refine xB hL1 (fun b22 hL1=> ?_) fun b22 hL1=> ?_
 conv=>whnf
 obtain⟨e14,he14,hL1⟩:=bs' hL1
 refine JZ (enc:=iA) (l:=r1.Leave) he14 rfl (fun m_e_14 hm_e_14 hx_e_14=> ?_)
 conv=>whnf
 obtain⟨e15,he15,hL1⟩:=bs' hL1
 refine JZ (enc:=iA) (l:=e8.Exits) he15 rfl (fun m_e_15 hm_e_15 hx_e_15=> ?_)
 conv=>whnf
 obtain⟨l16,hl16,hL1⟩:=bs' hL1
 refine ZV (enc:=JH) (l:=a5) (y:=([(⟨r12.2,(k7:Int),e15⟩:Passage)]:List Passage)) hl16 rfl rfl (by decide) ?_
 conv=>whnf
 refine⟨by kernel_rfl,?_⟩
 conv=>whnf
 refine⟨((k7+1:Nat):Int),wE,?_⟩
 conv=>whnf
 exact⟨(k7+1,(a3.set (k7:Int).toNat r12.1),l16,a4),[0,1,2,3,4,5,13],[],[],⟨lk7,hL1⟩,sl lk7,Ye [0,1,2,3,4,5,13] [] [] [(4,m_e_13,10)] rfl rfl ⟨aq,aq,aq,aP 0,aP 1,aP 2,aP 3,aO 13,aq,aq,aq,tv⟩ ⟨bN,bN,bN,Jy rfl rfl rfl ⟨(.oslg 4 4 rfl),(.oslg 5 5 rfl),tv⟩,Jfa hm_e_13 rfl rfl rfl (Wl rfl) rfl,Qy rfl rfl,bR,tv⟩⟩
 conv=>whnf
 refine⟨((k7+1:Nat):Int),wE,?_⟩
 conv=>whnf
 exact⟨(k7+1,(a3.set (k7:Int).toNat r12.1),a5,a4),[0,1,2,3,4,5,6],[],[],⟨lk7,hL1⟩,sl lk7,Ye [0,1,2,3,4,5,6] [] [] [(4,m_e_13,10)] rfl rfl ⟨aq,aq,aq,aP 0,aP 1,aP 2,aP 3,aO 6,aq,aq,aq,tv⟩ ⟨bN,bN,bN,Jy rfl rfl rfl ⟨(.oslg 4 4 rfl),(.oslg 5 5 rfl),tv⟩,Jfa hm_e_13 rfl rfl rfl (Wl rfl) rfl,Qy rfl rfl,bR,tv⟩⟩
 conv=>whnf
 refine xB hL1 (fun b23 hL1=> ?_) fun b23 hL1=> ?_
 conv=>whnf
 obtain⟨e17,he17,hL1⟩:=bs' hL1
 obtain⟨m_e_17,hm_e_17,hx_e_17⟩:=Jau he17
 refine⟨_,Jd5 Jc rfl rfl rfl rfl rfl rfl hm_e_17 hx_e_17,?_⟩
 conv=>whnf
 refine⟨_,Jf6 Jc rfl rfl rfl rfl rfl hx_e_17,?_⟩
 conv=>whnf
 obtain⟨r18,hr18,hL1⟩:=bs' hL1
 refine cE (cY false [.dead,.row 1 (r18.map iA)] [10] [8] 1 Tryz.func73 (Jc4 e17 e9 r18 hr18) ⟨(aO 10),(Q4 (c:=[.ptr 8 0]) (by(conv=>lhs;whnf)<;>rfl) rfl ⟨(YT 8 _ rfl rfl rfl rfl rfl),tv⟩),tv⟩ ⟨gR,tv⟩ (YJ rfl ⟨trivial,fR,tv⟩) ⟨rfl,rR,tv⟩) ?_
 conv=>whnf
 refine⟨_,JeB Jc rfl rfl rfl rfl rfl rfl hm_e_17 hx_e_17,?_⟩
 conv=>whnf
 refine⟨_,Jnq Jc rfl rfl rfl rfl rfl rfl hx_e_17,?_⟩
 conv=>whnf
 refine⟨by kernel_rfl,?_⟩
 conv=>whnf
 refine⟨fun h=> ?_,fun h=> ?_⟩
 conv=>whnf
 obtain⟨e19,he19,hL1⟩:=bs' hL1
 refine JZ (enc:=iA) (l:=r1.Leave) he19 rfl (fun m_e_19 hm_e_19 hx_e_19=> ?_)
 conv=>whnf
 obtain⟨e20,he20,hL1⟩:=bs' hL1
 refine JZ (enc:=iA) (l:=e8.Exits) he20 rfl (fun m_e_20 hm_e_20 hx_e_20=> ?_)
 conv=>whnf
 obtain⟨l21,hl21,hL1⟩:=bs' hL1
 refine ZV (enc:=JH) (l:=a5) (y:=([(⟨e9,(k7:Int),e20⟩:Passage)]:List Passage)) hl21 rfl rfl (by decide) ?_
 conv=>whnf
 refine⟨by kernel_rfl,?_⟩
 conv=>whnf
 refine⟨((k7+1:Nat):Int),wE,?_⟩
 conv=>whnf
 exact⟨(k7+1,a3,l21,(a4.set (k7:Int).toNat r18)),[0,1,2,3,4,5,14],[],[],⟨lk7,hL1⟩,sl lk7,Ye [0,1,2,3,4,5,14] [] [] [(5,m_e_17,11)] rfl rfl ⟨aq,aq,aq,aP 0,aP 1,aP 2,aP 3,aO 14,aq,aq,aq,tv⟩ ⟨bN,bN,bN,Jy rfl rfl rfl ⟨(.oslg 4 4 rfl),(.oslg 5 5 rfl),tv⟩,Qy rfl rfl,Jfa hm_e_17 rfl rfl rfl (Wl rfl) rfl,bR,tv⟩⟩
 cases (b23).symm.trans h
 conv=>whnf
 refine⟨fun h=> ?_,fun h=> ?_⟩
 cases (b23).symm.trans h
 conv=>whnf
 refine⟨((k7+1:Nat):Int),wE,?_⟩
 conv=>whnf
 exact⟨(k7+1,a3,a5,a4),[0,1,2,3,4,5,6],[],[],⟨lk7,hL1⟩,sl lk7,Ye [0,1,2,3,4,5,6] [] [] [] rfl rfl ⟨aq,aq,aq,aP 0,aP 1,aP 2,aP 3,aO 6,aq,aq,aq,tv⟩ ⟨bN,bN,bN,Jy rfl rfl rfl ⟨(.oslg 4 4 rfl),(.oslg 5 5 rfl),tv⟩,Qy rfl rfl,Qy rfl rfl,bR,tv⟩⟩
 rw [Jq (nl h),JK.eq_1] at hL1
 conv=>whnf
 obtain rfl:=si hL1
 replace hF:=Jw hF
 try dsimp only at hF
 refine Jm (enc:=JH) (l:=a5) rfl ?_
 conv=>whnf
 obtain⟨c2,hc_2,hF⟩:=Jr hF
 refine Jk4 6 (sz:=3) (xs:=a5.map JH) (by(conv=>lhs;whnf)<;>rfl) (fun hb=> ?_)
 have hbd_k_27:a5.length<=9223372036854775807:=Jz (enc:=JH) (hb)
 refine Jo Jc Ja (fun y:Nat×(List (List Int))×(List (List Int))=>y.1<=a5.length∧QX x0 (a5.drop y.1) y.1 y.2.1 y.2.2=some c2) (fun y=>⟨eL [(0,.iptr [.lst 5 (x0.L.Nodes.map Jb),.lst 3 (x0.L.Devices.map Jd),.lst 1 (x0.order.map iA)]),(8,.ptr 0 0),(11,.ptr 1 0),(12,.osl 4),(92,.osl 4),(93,.int .i64 (a5.length:Int)),(94,.int .i64 (y.1:Int))],hL [(0,.box [.nils,.nils]),(1,.box [.osl 2,.osl 3]),(2,.nest (y.2.1.map NE.hid)),(3,.nest (y.2.2.map NE.hid)),(4,.row 3 (a5.map JH))],5⟩) (fun y=>a5.length - y.1) (0,a3,a4) ⟨Nat.zero_le _,hc_2⟩ (Ye [1,3,4,5,6] [] [] [] rfl rfl ⟨aq,aP 1,aP 3,aO 6,aO 6,aq,aq,tv⟩ ⟨bN,Jy rfl rfl rfl ⟨(.oslg 4 2 rfl),(.oslg 5 3 rfl),tv⟩,Qy rfl rfl,Qy rfl rfl,bR,tv⟩) ?_
 rintro⟨k27,a24,a25⟩ ⟨hk_k_27,hL1⟩
 try dsimp only at hk_k_27 hL1
 show awp _ _ _ _ _ _ ⟨eL [(0,.iptr [.lst 5 (x0.L.Nodes.map Jb),.lst 3 (x0.L.Devices.map Jd),.lst 1 (x0.order.map iA)]),(8,.ptr 0 0),(11,.ptr 1 0),(12,.osl 4),(92,.osl 4),(93,.int .i64 (a5.length:Int)),(94,.int .i64 (k27:Int))],hL [(0,.box [.nils,.nils]),(1,.box [.osl 2,.osl 3]),(2,.nest (a24.map NE.hid)),(3,.nest (a25.map NE.hid)),(4,.row 3 (a5.map JH))],5⟩
 conv=>whnf
 refine⟨fun h=> ?_,fun h=> ?_⟩
 have lk27:k27<a5.length:=by have h:=Wt h;omega
 obtain⟨e28,he28⟩:=ge lk27
 rw [Jl he28,QX.eq_2] at hL1
 conv=>whnf
 refine⟨k27,rfl,by rw [List.length_map];exact lk27,?_⟩
 conv=>whnf
 refine⟨_,Jv (enc:=JH) he28,?_⟩
 conv=>whnf
 obtain⟨e29,he29,hL1⟩:=bs' hL1
 refine JZ (enc:=Jb) (l:=x0.L.Nodes) he29 rfl (fun m_e_29 hm_e_29 hx_e_29=> ?_)
 conv=>whnf
 obtain⟨r30,hr30,hL1⟩:=bs' hL1
 refine cE (d0 0 Tryz.func85 (Qv e29.Kind r30 hr30)) ?_
 conv=>whnf
 refine⟨by kernel_rfl,?_⟩
 conv=>whnf
 refine xB hL1 (fun b24 hL1=> ?_) fun b24 hL1=> ?_
 conv=>whnf
 obtain⟨e31,he31,hL1⟩:=bs' hL1
 obtain⟨m_e_31,hm_e_31,hx_e_31⟩:=Jau he31
 refine⟨_,Jd5 Jc rfl rfl rfl rfl rfl rfl hm_e_31 hx_e_31,?_⟩
 conv=>whnf
 refine⟨_,Jf6 Jc rfl rfl rfl rfl rfl hx_e_31,?_⟩
 conv=>whnf
 obtain⟨e32,he32,hL1⟩:=bs' hL1
 refine Qc (enc:=iA) (l:=e31) he32 rfl (fun m_e_32 hm_e_32 hx_e_32=> ?_)
 conv=>whnf
 refine Z6 (enc:=iA) (l:=e31) (x':=e28.Bag) (i:=0) hm_e_32 hx_e_32 rfl (Wl rfl) rfl ?_
 conv=>whnf
 refine⟨by kernel_rfl,?_⟩
 conv=>whnf
 refine⟨((k27+1:Nat):Int),wE,?_⟩
 conv=>whnf
 exact⟨(k27+1,(a24.set e28.To.toNat (e31.set (0:Int).toNat e28.Bag)),a25),[0,1,2,3,4],[],[],⟨lk27,hL1⟩,sl lk27,Ye [0,1,2,3,4] [] [] [(2,m_e_31,7)] rfl rfl ⟨aq,aP 0,aP 1,aO 4,aO 4,aq,aq,tv⟩ ⟨bN,Jy rfl rfl rfl ⟨(.oslg 2 2 rfl),(.oslg 3 3 rfl),tv⟩,Jeg hm_e_31 rfl rfl rfl rfl,Qy rfl rfl,bR,tv⟩⟩
 conv=>whnf
 obtain⟨e33,he33,hL1⟩:=bs' hL1
 obtain⟨m_e_33,hm_e_33,hx_e_33⟩:=Jau he33
 refine⟨_,Jd5 Jc rfl rfl rfl rfl rfl rfl hm_e_33 hx_e_33,?_⟩
 conv=>whnf
 refine⟨_,Jf6 Jc rfl rfl rfl rfl rfl hx_e_33,?_⟩
 conv=>whnf
 obtain⟨r34,hr34,hL1⟩:=bs' hL1
 refine cE (dY false [.dead,.row 1 (r34.map iA)] [7] [] 1 Tryz.func88 (Ji3 e33 e28.Bag r34 hr34) ⟨gR,tv⟩ Qd ⟨rfl,rR,tv⟩) ?_
 conv=>whnf
 refine⟨_,JeB Jc rfl rfl rfl rfl rfl rfl hm_e_33 hx_e_33,?_⟩
 conv=>whnf
 refine⟨_,Jnq Jc rfl rfl rfl rfl rfl rfl hx_e_33,?_⟩
 conv=>whnf
 refine⟨by kernel_rfl,?_⟩
 conv=>whnf
 refine⟨((k27+1:Nat):Int),wE,?_⟩
 conv=>whnf
 exact⟨(k27+1,a24,(a25.set e28.To.toNat r34)),[0,1,2,3,4],[],[],⟨lk27,hL1⟩,sl lk27,Ye [0,1,2,3,4] [] [] [(3,m_e_33,8)] rfl rfl ⟨aq,aP 0,aP 1,aO 4,aO 4,aq,aq,tv⟩ ⟨bN,Jy rfl rfl rfl ⟨(.oslg 2 2 rfl),(.oslg 3 3 rfl),tv⟩,Qy rfl rfl,Jfa hm_e_33 rfl rfl rfl (Wl rfl) rfl,bR,tv⟩⟩
 rw [Jq (nl h),QX.eq_1] at hL1
 conv=>whnf
 obtain rfl:=si hL1
 replace hF:=Jw hF
 try dsimp only at hF
 obtain⟨r37,hr37,hF⟩:=bs' hF
 refine cE (dY false [.dead,.row 3 (r37.map JH)] [4] [] 1 Tryz.func89 (JcO a5 r37 hr37) ⟨gR,tv⟩ Qd ⟨rfl,rR,tv⟩) ?_
 conv=>whnf
 refine⟨by kernel_rfl,?_⟩
 conv=>whnf
 obtain rfl:=si hF
 exact ZU [2,3,5] [] [] [] rfl rfl (Qh rfl ⟨(aA [.osl 2,.osl 3] ⟨(.oslg 2 0 rfl),(.oslg 3 1 rfl),tv⟩),(aO 5),tv⟩) ⟨(.inr (Qy rfl rfl)),(.inr (Qy rfl rfl)),(.inr bR),tv⟩
theorem Jdn (x0:(List Passage)) (r:(List Passage)) (hF:ZB x0=some r):AC Tryz.prog 42 [.osl 0,.fn 43 []] [.row 3 (x0.map JH)] (.tup []) ([.row 3 (r.map JH)]):=by
 exact JiN x0 r hF
theorem JfQ (x0:Layout) (x1:Plant) (x2:(List Int)) (x3:(List Fault)) (r:Plant×(List Passage)×Int) (hF:Jbu x0 x1 x2 x3=some r):AC Tryz.prog 18 [.agg (JC x0),.agg (Qi x1),.lst 1 (x2.map iA),.lst 3 (x3.map Je)] [] (.tup [.agg (Qi r.1),.lst 3 (r.2.1.map JH),.int .i64 r.2.2]) ([]):=by
 refine Ju Jc Ja Tryz.func18 rfl Tryz.ntmps18 rfl ?_
 unfold Jbu at hF
 conv=>whnf
 obtain⟨r1,hr1,hF⟩:=bs' hF
 rcases r1 with⟨_ |v3,b2⟩
 replace hF:=Jj3 hF
 refine cE (d0 0 Tryz.func38 (JaU x0 _ hr1)) ?_
 conv=>whnf
 refine⟨fun b5=> ?_,fun b5=> ?_⟩
 replace hF:=cf b5 hF
 conv=>whnf
 cases hF
 replace hF:=ct b5 hF
 conv=>whnf
 obtain rfl:=si hF
 exact Jk [] [] [] rfl (Qh rfl ⟨(aA [.nils,.nils] ⟨(.nils _),(.nils _),tv⟩),aN,aq,tv⟩) trivial
 replace hF:=Jj2 hF
 refine cE (d0 1 Tryz.func38 (JaU x0 _ hr1) ⟨rfl,tv⟩) ?_
 conv=>whnf
 refine⟨fun b6=> ?_,fun b6=> ?_⟩
 replace hF:=cf b6 hF
 conv=>whnf
 obtain⟨r4,hr4,hF⟩:=bs' hF
 refine cE (cX false [] [3] 0 Tryz.func39 (Jbk v3 x1 r4 hr4) ⟨(YT 3 _ (by(conv=>lhs;whnf)<;>rfl) rfl rfl rfl rfl),aq,tv⟩ trivial (YJ rfl trivial) trivial) ?_
 conv=>whnf
 refine xB hF (fun b7 hF=> ?_) fun b7 hF=> ?_
 conv=>whnf
 obtain rfl:=si hF
 exact Jk [] [] [] rfl (Qh rfl ⟨(aA [.nils,.nils] ⟨(.nils _),(.nils _),tv⟩),aN,aq,tv⟩) trivial
 conv=>whnf
 obtain⟨r5,hr5,hF⟩:=bs' hF
 refine cE (cX false [] [3] 0 Tryz.func40 (Jce v3 x2 x3 r5 hr5) ⟨(YT 3 _ (by(conv=>lhs;whnf)<;>rfl) rfl rfl rfl rfl),aq,aq,tv⟩ trivial (YJ rfl trivial) trivial) ?_
 conv=>whnf
 refine xB hF (fun b8 hF=> ?_) fun b8 hF=> ?_
 conv=>whnf
 obtain rfl:=si hF
 exact Jk [] [] [] rfl (Qh rfl ⟨(aA [.nils,.nils] ⟨(.nils _),(.nils _),tv⟩),aN,aq,tv⟩) trivial
 conv=>whnf
 obtain⟨r6,hr6,hF⟩:=bs' hF
 refine cE (cX false [] [3] 3 Tryz.func41 (Jc0 v3 x1 x2 x3 r6 hr6) ⟨(YT 3 _ (by(conv=>lhs;whnf)<;>rfl) rfl rfl rfl rfl),aq,aq,aq,tv⟩ trivial (YJ rfl ⟨flN,flN,fR,tv⟩) ⟨Jgk,Jgk,rR,tv⟩) ?_
 conv=>whnf
 obtain⟨r7,hr7,hF⟩:=bs' hF
 refine cE (dX false [9] [] 0 Tryz.func42 (Jdn r6.2 r7 hr7) ⟨gR,tv⟩ Qd ⟨rR,tv⟩) ?_
 conv=>whnf
 obtain rfl:=si hF
 exact Jk [] [] [7,8,9] rfl (Qh rfl ⟨(aA [.osl 7,.osl 8] ⟨(.nest 7 _ (by simp) rfl),(.nest 8 _ (by simp) rfl),tv⟩),(aL 9),aq,tv⟩) trivial
 replace hF:=ct b6 hF
 conv=>whnf
 obtain rfl:=si hF
 exact Jk [] [] [] rfl (Qh rfl ⟨(aA [.nils,.nils] ⟨(.nils _),(.nils _),tv⟩),aN,aq,tv⟩) trivial
theorem JcJ (x0:Src) (x1:Layout) (x2:Plant) (x3:Int) (r:(List Fault)×Src) (hF:Y5 x0 x1 x2 x3=some r):AC Tryz.prog 19 [.ptr 0 0,.agg (JC x1),.agg (Qi x2),.int .i64 x3] [.box (ZP x0)] (.lst 3 (r.1.map Je)) ([.box (ZP r.2)]):=by
 refine Ju Jc Ja Tryz.func19 rfl Tryz.ntmps19 rfl ?_
 unfold Y5 at hF
 conv=>whnf
 obtain⟨c1,hc_1,hF⟩:=Jr hF
 refine Jo Jc Ja (fun y:Nat×(List Int)×Int×(List Fault)×Int=>JE x1 x2 x3 y.1 y.2.1 y.2.2.1 y.2.2.2.1 y.2.2.2.2=some c1) (fun y=>⟨eL [(0,.ptr 0 0),(3,.int .i64 x3),(5,.ptr 1 0),(6,.ptr 2 0),(9,.osl 3),(10,.int .i64 y.2.2.2.2)],hL [(0,.box [.lst 1 (y.2.1.map iA),.int .i64 y.2.2.1]),(1,.box [.lst 5 (x1.Nodes.map Jb),.lst 3 (x1.Devices.map Jd)]),(2,.box [.lst 1 (x2.Slots.map (lA 1 iA)),.lst 1 (x2.Bins.map (lA 1 iA))]),(3,.row 3 (y.2.2.2.1.map Je))],4⟩) (fun y=>y.1) (9223372036854775807,x0.L,x0.At,([]:List Fault),0) hc_1 (wK [0,1,2] [3] [] ⟨bN,bN,bN,Jci rfl,tv⟩) ?_
 rintro⟨q21,a1,i2,a3,i4⟩ hL1
 try dsimp only at hL1
 rcases q21 with _ |q21
 rw [JE.eq_1] at hL1
 cases hL1
 rw [JE.eq_2] at hL1
 show awp _ _ _ _ _ _ ⟨eL [(0,.ptr 0 0),(3,.int .i64 x3),(5,.ptr 1 0),(6,.ptr 2 0),(9,.osl 3),(10,.int .i64 i4)],hL [(0,.box [.lst 1 (a1.map iA),.int .i64 i2]),(1,.box [.lst 5 (x1.Nodes.map Jb),.lst 3 (x1.Devices.map Jd)]),(2,.box [.lst 1 (x2.Slots.map (lA 1 iA)),.lst 1 (x2.Bins.map (lA 1 iA))]),(3,.row 3 (a3.map Je))],4⟩
 conv=>whnf
 refine xB hL1 (fun b49 hL1=> ?_) fun b49 hL1=> ?_
 conv=>whnf
 refine Jm (enc:=Jd) (l:=x1.Devices) rfl ?_
 conv=>whnf
 refine xB hL1 (fun b50 hL1=> ?_) fun b50 hL1=> ?_
 conv=>whnf
 refine Jm (enc:=Jd) (l:=x1.Devices) rfl ?_
 conv=>whnf
 obtain⟨r5,hr5,hL1⟩:=bs' hL1
 refine cE (dX false [0] [] 0 Tryz.func6 (JD (⟨a1,i2⟩:Src) (x1.Devices.length:Int) r5 hr5) ⟨rfl,tv⟩ Qd ⟨rfl,tv⟩) ?_
 conv=>whnf
 obtain⟨e6,he6,hL1⟩:=bs' hL1
 refine JZ (enc:=Jd) (l:=x1.Devices) he6 rfl (fun m_e_6 hm_e_6 hx_e_6=> ?_)
 conv=>whnf
 obtain⟨c2,hc_2,hL1⟩:=YF hL1
 refine Jk4 3 (sz:=3) (xs:=a3.map Je) (by(conv=>lhs;whnf)<;>rfl) (fun hb=> ?_)
 have hbd_k_9:a3.length<=9223372036854775807:=Jz (enc:=Je) (hb)
 refine Jo Jc Ja (fun y:Nat×Bool=>y.1<=a3.length∧QJ r5 (a3.drop y.1) y.1 y.2=some c2) (fun y=>⟨eL [(0,.ptr 0 0),(3,.int .i64 x3),(5,.ptr 1 0),(6,.ptr 2 0),(9,.osl 3),(10,.int .i64 i4),(11,.int .i64 r5.1),(12,.ptr 4 0),(13,.ptr 5 0),(14,.bool y.2),(15,.int .i64 (y.1:Int))],hL [(0,.box [.lst 1 (r5.2.L.map iA),.int .i64 r5.2.At]),(1,.box [.lst 5 (x1.Nodes.map Jb),.lst 3 (x1.Devices.map Jd)]),(2,.box [.lst 1 (x2.Slots.map (lA 1 iA)),.lst 1 (x2.Bins.map (lA 1 iA))]),(3,.row 3 (a3.map Je)),(4,.box [.int .i64 e6.Kind,.int .i64 e6.Node,.int .i64 e6.Window]),(5,.box [.int .i64 4,.int .i64 r5.1,.int .i64 0])],6⟩) (fun y=>a3.length - y.1) (0,false) ⟨Nat.zero_le _,hc_2⟩ (wK [0,1,2,3,5,6] [] []) ?_
 rintro⟨k9,b_7⟩ ⟨hk_k_9,hL2⟩
 try dsimp only at hk_k_9 hL2
 show awp _ _ _ _ _ _ ⟨eL [(0,.ptr 0 0),(3,.int .i64 x3),(5,.ptr 1 0),(6,.ptr 2 0),(9,.osl 3),(10,.int .i64 i4),(11,.int .i64 r5.1),(12,.ptr 4 0),(13,.ptr 5 0),(14,.bool b_7),(15,.int .i64 (k9:Int))],hL [(0,.box [.lst 1 (r5.2.L.map iA),.int .i64 r5.2.At]),(1,.box [.lst 5 (x1.Nodes.map Jb),.lst 3 (x1.Devices.map Jd)]),(2,.box [.lst 1 (x2.Slots.map (lA 1 iA)),.lst 1 (x2.Bins.map (lA 1 iA))]),(3,.row 3 (a3.map Je)),(4,.box [.int .i64 e6.Kind,.int .i64 e6.Node,.int .i64 e6.Window]),(5,.box [.int .i64 4,.int .i64 r5.1,.int .i64 0])],6⟩
 conv=>whnf
 refine Jm (enc:=Je) (l:=a3) rfl ?_
 conv=>whnf
 refine⟨fun h=> ?_,fun h=> ?_⟩
 have lk9:k9<a3.length:=by have h:=Wt h;omega
 obtain⟨e10,he10⟩:=ge lk9
 rw [Jl he10,QJ.eq_2] at hL2
 conv=>whnf
 refine⟨fun b51=> ?_,fun b51=> ?_⟩
 replace hL2:=cf b51 hL2
 conv=>whnf
 refine⟨k9,rfl,by rw [List.length_map];exact lk9,?_⟩
 conv=>whnf
 refine⟨_,Jv (enc:=Je) he10,?_⟩
 conv=>whnf
 refine⟨((k9+1:Nat):Int),wE,?_⟩
 conv=>whnf
 exact⟨(k9+1,(e10.Node==r5.1)),_,_,_,⟨lk9,hL2⟩,sl lk9,wK [0,1,2,3,4,5] [] []⟩
 replace hL2:=ct b51 hL2
 conv=>whnf
 refine⟨((k9+1:Nat):Int),wE,?_⟩
 conv=>whnf
 exact⟨(k9+1,true),_,_,_,⟨lk9,hL2⟩,sl lk9,wK [0,1,2,3,4,5] [] []⟩
 rw [Jq (nl h),QJ.eq_1] at hL2
 conv=>whnf
 obtain rfl:=si hL2
 replace hL1:=Zz hL1
 try dsimp only at hL1
 obtain⟨e13,he13,hL1⟩:=bs' hL1
 refine JZ (enc:=(lA 1 iA)) (l:=x2.Slots) he13 rfl (fun m_e_13 hm_e_13 hx_e_13=> ?_)
 conv=>whnf
 obtain⟨e14,he14,hL1⟩:=bs' hL1
 refine JZ (enc:=iA) (l:=e13) he14 rfl (fun m_e_14 hm_e_14 hx_e_14=> ?_)
 conv=>whnf
 refine⟨by kernel_rfl,?_⟩
 conv=>whnf
 refine xB hL1 (fun b52 hL1=> ?_) fun b52 hL1=> ?_
 conv=>whnf
 refine xB hL1 (fun b53 hL1=> ?_) fun b53 hL1=> ?_
 conv=>whnf
 obtain⟨r15,hr15,hL1⟩:=bs' hL1
 refine cE (dX true [0] [6] 0 Tryz.func44 (Jcv r5.2 ([3,5,6,6]:List Int) r15 hr15) ⟨rfl,tv⟩ JdU ⟨rfl,tv⟩) ?_
 conv=>whnf
 refine xB hL1 (fun b54 hL1=> ?_) fun b54 hL1=> ?_
 conv=>whnf
 obtain⟨r16,hr16,hL1⟩:=bs' hL1
 refine cE (dX true [0] [8] 0 Tryz.func44 (Jcv r15.2 ([9,8,0,5]:List Int) r16 hr16) ⟨rfl,tv⟩ JdU ⟨rfl,tv⟩) ?_
 conv=>whnf
 refine xB hL1 (fun b55 hL1=> ?_) fun b55 hL1=> ?_
 conv=>whnf
 obtain⟨l17,hl17,hL1⟩:=bs' hL1
 refine ZV (enc:=Je) (l:=a3) (y:=([(⟨r15.1,r5.1,r16.1⟩:Fault)]:List Fault)) hl17 rfl rfl (by decide) ?_
 conv=>whnf
 refine⟨_,rfl,?_⟩
 conv=>whnf
 exact⟨(q21,r16.2.L,r16.2.At,l17,(w64 (i4+1))),_,_,_,hL1,Wn _,wK [0,1,2,11] [] []⟩
 conv=>whnf
 refine⟨_,rfl,?_⟩
 conv=>whnf
 exact⟨(q21,r16.2.L,r16.2.At,a3,(w64 (i4+1))),_,_,_,hL1,Wn _,wK [0,1,2,3] [] []⟩
 conv=>whnf
 refine xB hL1 (fun b56 hL1=> ?_) fun b56 hL1=> ?_
 conv=>whnf
 obtain⟨l18,hl18,hL1⟩:=bs' hL1
 refine ZV (enc:=Je) (l:=a3) (y:=([(⟨r15.1,r5.1,0⟩:Fault)]:List Fault)) hl18 rfl rfl (by decide) ?_
 conv=>whnf
 refine⟨_,rfl,?_⟩
 conv=>whnf
 exact⟨(q21,r15.2.L,r15.2.At,l18,(w64 (i4+1))),_,_,_,hL1,Wn _,wK [0,1,2,9] [] []⟩
 conv=>whnf
 refine⟨_,rfl,?_⟩
 conv=>whnf
 exact⟨(q21,r15.2.L,r15.2.At,a3,(w64 (i4+1))),_,_,_,hL1,Wn _,wK [0,1,2,3] [] []⟩
 conv=>whnf
 refine⟨fun h=> ?_,fun h=> ?_⟩
 conv=>whnf
 refine xB hL1 (fun b57 hL1=> ?_) fun b57 hL1=> ?_
 conv=>whnf
 obtain⟨l19,hl19,hL1⟩:=bs' hL1
 refine ZV (enc:=Je) (l:=a3) (y:=([(⟨3,r5.1,0⟩:Fault)]:List Fault)) hl19 rfl rfl (by decide) ?_
 conv=>whnf
 refine⟨_,rfl,?_⟩
 conv=>whnf
 exact⟨(q21,r5.2.L,r5.2.At,l19,(w64 (i4+1))),_,_,_,hL1,Wn _,wK [0,1,2,7] [] []⟩
 conv=>whnf
 refine⟨_,rfl,?_⟩
 conv=>whnf
 exact⟨(q21,r5.2.L,r5.2.At,a3,(w64 (i4+1))),_,_,_,hL1,Wn _,wK [0,1,2,3] [] []⟩
 cases (b52).symm.trans h
 conv=>whnf
 refine⟨fun h=> ?_,fun h=> ?_⟩
 cases (b52).symm.trans h
 conv=>whnf
 refine xB hL1 (fun b58 hL1=> ?_) fun b58 hL1=> ?_
 conv=>whnf
 refine⟨_,rfl,?_⟩
 conv=>whnf
 exact⟨(q21,r5.2.L,r5.2.At,a3,(w64 (i4+1))),_,_,_,hL1,Wn _,wK [0,1,2,3] [] []⟩
 conv=>whnf
 refine xB hL1 (fun b59 hL1=> ?_) fun b59 hL1=> ?_
 conv=>whnf
 obtain⟨l20,hl20,hL1⟩:=bs' hL1
 refine ZV (enc:=Je) (l:=a3) (y:=([(⟨4,r5.1,0⟩:Fault)]:List Fault)) hl20 rfl rfl (by decide) ?_
 conv=>whnf
 refine⟨_,rfl,?_⟩
 conv=>whnf
 exact⟨(q21,r5.2.L,r5.2.At,l20,(w64 (i4+1))),_,_,_,hL1,Wn _,wK [0,1,2,7] [] []⟩
 conv=>whnf
 refine⟨_,rfl,?_⟩
 conv=>whnf
 exact⟨(q21,r5.2.L,r5.2.At,a3,(w64 (i4+1))),_,_,_,hL1,Wn _,wK [0,1,2,3] [] []⟩
 conv=>whnf
 obtain rfl:=si hL1
 replace hF:=Jw hF
 try dsimp only at hF
 obtain rfl:=si hF
 exact Jk [0] [] [3] rfl (aL 3) ⟨bN,tv⟩
 conv=>whnf
 obtain rfl:=si hL1
 replace hF:=Jw hF
 try dsimp only at hF
 obtain rfl:=si hF
 exact Jk [0] [] [3] rfl (aL 3) ⟨bN,tv⟩
theorem Je6 (x0:Int) (r:Int) (hF:JbG x0=some r):AC Tryz.prog 45 [.int .i64 x0] [] (.int .i64 r) ([]):=by
 refine Ju Jc Ja Tryz.func45 rfl Tryz.ntmps45 rfl ?_
 unfold JbG at hF
 conv=>whnf
 refine⟨fun b3=> ?_,fun b3=> ?_⟩
 replace hF:=cf b3 hF
 conv=>whnf
 refine xB hF (fun b4 hF=> ?_) fun b4 hF=> ?_
 conv=>whnf
 obtain rfl:=si hF
 exact rZ
 conv=>whnf
 obtain rfl:=si hF
 exact rZ
 replace hF:=ct b3 hF
 conv=>whnf
 obtain rfl:=si hF
 exact rZ
theorem Jh9 (x0:Plate) (r:Bool) (hF:JbI x0=some r):AC Tryz.prog 137 [.agg (JJ x0)] [] (.bool r) ([]):=by
 refine Ju Jc Ja Tryz.func137 rfl Tryz.ntmps137 rfl ?_
 unfold JbI at hF
 conv=>whnf
 refine xB hF (fun b6 hF=> ?_) fun b6 hF=> ?_
 conv=>whnf
 refine xB hF (fun b7 hF=> ?_) fun b7 hF=> ?_
 conv=>whnf
 refine xB hF (fun b8 hF=> ?_) fun b8 hF=> ?_
 conv=>whnf
 refine xB hF (fun b9 hF=> ?_) fun b9 hF=> ?_
 conv=>whnf
 refine xB hF (fun b10 hF=> ?_) fun b10 hF=> ?_
 conv=>whnf
 obtain rfl:=si hF
 exact rZ
 conv=>whnf
 obtain rfl:=si hF
 exact rZ
 conv=>whnf
 obtain rfl:=si hF
 exact rZ
 conv=>whnf
 obtain rfl:=si hF
 exact rZ
 conv=>whnf
 obtain rfl:=si hF
 exact rZ
 conv=>whnf
 obtain rfl:=si hF
 exact rZ
theorem Jhs (x0:Plate) (r:Int) (hF:Jc8 x0=some r):AC Tryz.prog 138 [.agg (JJ x0)] [] (.int .i64 r) ([]):=by
 refine Ju Jc Ja Tryz.func138 rfl Tryz.ntmps138 rfl ?_
 unfold Jc8 at hF
 conv=>whnf
 refine⟨_,rfl,?_⟩
 conv=>whnf
 refine⟨_,rfl,?_⟩
 conv=>whnf
 refine⟨_,rfl,?_⟩
 conv=>whnf
 refine⟨_,rfl,?_⟩
 conv=>whnf
 obtain rfl:=si hF
 exact rZ
theorem Jht (x0:Plate) (r:ByteArray) (hF:JaL x0=some r):AC Tryz.prog 93 [.agg (JJ x0)] [] (.str r) ([]):=by
 refine Ju Jc Ja Tryz.func93 rfl Tryz.ntmps93 rfl ?_
 unfold JaL at hF
 conv=>whnf
 obtain⟨r1,hr1,hF⟩:=bs' hF
 refine cE (d0 0 Tryz.func137 (Jh9 x0 r1 hr1)) ?_
 conv=>whnf
 refine xB hF (fun b5 hF=> ?_) fun b5 hF=> ?_
 conv=>whnf
 obtain rfl:=si hF
 exact rZ
 conv=>whnf
 obtain⟨l2,hl2,hF⟩:=bs' hF
 refine .inl (Jwj (enc:=(kA .u8)) hl2 rfl rfl (by decide) (Wl rfl) (by kernel_rfl) ?_)
 conv=>whnf
 obtain⟨r3,hr3,hF⟩:=bs' hF
 refine cE (d0 0 Tryz.func138 (Jhs x0 r3 hr3)) ?_
 conv=>whnf
 obtain⟨c1,hc_1,hF⟩:=Jr hF
 refine Jo Jc Ja (fun y:Nat×(List Int)×Int×Int=>ZK y.1 y.2.1 y.2.2.1 y.2.2.2=some c1) (fun y=>⟨eL [(3,.ptr 0 0),(4,.int .i64 y.2.2.1),(11,.int .i64 y.2.2.2)],hL [(0,.row 1 (y.2.1.map (kA .u8)))],1⟩) (fun y=>y.1) (9223372036854775807,l2,r3,0) hc_1 (wK [2] [] []) ?_
 rintro⟨q9,a4,i5,i6⟩ hL1
 try dsimp only at hL1
 rcases q9 with _ |q9
 rw [ZK.eq_1] at hL1
 cases hL1
 rw [ZK.eq_2] at hL1
 show awp _ _ _ _ _ _ ⟨eL [(3,.ptr 0 0),(4,.int .i64 i5),(11,.int .i64 i6)],hL [(0,.row 1 (a4.map (kA .u8)))],1⟩
 conv=>whnf
 refine xB hL1 (fun b6 hL1=> ?_) fun b6 hL1=> ?_
 conv=>whnf
 refine⟨_,rfl,?_⟩
 conv=>whnf
 refine⟨by decide,_,rfl,?_⟩
 conv=>whnf
 refine⟨_,rfl,?_⟩
 conv=>whnf
 refine⟨_,rfl,?_⟩
 conv=>whnf
 obtain⟨u7,hu7,hL1⟩:=bs' hL1
 refine Jv3 1 hu7 rfl (fun m_u_7 hm_u_7=> ?_)
 conv=>whnf
 obtain⟨v8,hv8,hL1⟩:=bs' hL1
 refine Z6 (enc:=(kA .u8)) (l:=a4) (x':=(IntKind.u8.wrap (48+(IntKind.u8.wrap (i5.tmod 10))))) (i:=(w64 (9 - i6))) (Jv2 hm_u_7) (JuV hv8 (Jv2 hm_u_7)) rfl (Wl rfl) rfl ?_
 conv=>whnf
 refine⟨by decide,_,rfl,?_⟩
 conv=>whnf
 refine⟨_,rfl,?_⟩
 conv=>whnf
 exact⟨(q9,(a4.set (w64 (9 - i6)).toNat (IntKind.u8.wrap (48+(IntKind.u8.wrap (i5.tmod 10))))),(w64 (i5.tdiv 10)),(w64 (i6+1))),_,_,_,hL1,Wn _,wK [0] [] []⟩
 conv=>whnf
 obtain rfl:=si hL1
 replace hF:=Jw hF
 try dsimp only at hF
 refine⟨_,Jlp Jc 1 rfl rfl rfl rfl,?_⟩
 conv=>whnf
 obtain⟨u11,hu11,hF⟩:=bs' hF
 refine⟨Nat.zero_le _,Jtf hu11,(fun m e=>by cases e;exact Nat.le_refl _),a4,Jtg hu11,?_⟩
 conv=>whnf
 obtain rfl:=si hF
 exact rZ
theorem JbU (x0:Layout) (x1:Plant) (x2:(List Plate)) (x3:Int) (r:View) (hF:JaH x0 x1 x2 x3=some r):AC Tryz.prog 46 [.agg (JC x0),.agg (Qi x1),.lst 3 (x2.map JJ),.int .i64 x3] [] (.agg (JaC r)) ([]):=by
 refine Ju Jc Ja Tryz.func46 rfl Tryz.ntmps46 rfl ?_
 unfold JaH at hF
 conv=>whnf
 obtain⟨e1,he1,hF⟩:=bs' hF
 refine JZ (enc:=Jd) (l:=x0.Devices) he1 rfl (fun m_e_1 hm_e_1 hx_e_1=> ?_)
 conv=>whnf
 obtain⟨e2,he2,hF⟩:=bs' hF
 refine JZ (enc:=(lA 1 iA)) (l:=x1.Slots) he2 rfl (fun m_e_2 hm_e_2 hx_e_2=> ?_)
 conv=>whnf
 obtain⟨e3,he3,hF⟩:=bs' hF
 refine JZ (enc:=iA) (l:=e2) he3 rfl (fun m_e_3 hm_e_3 hx_e_3=> ?_)
 conv=>whnf
 refine⟨by kernel_rfl,?_⟩
 conv=>whnf
 refine xB hF (fun b3 hF=> ?_) fun b3 hF=> ?_
 conv=>whnf
 refine Jm (enc:=JJ) (l:=x2) rfl ?_
 conv=>whnf
 refine xB hF (fun b4 hF=> ?_) fun b4 hF=> ?_
 conv=>whnf
 refine⟨_,rfl,?_⟩
 conv=>whnf
 obtain⟨e4,he4,hF⟩:=bs' hF
 refine JZ (enc:=JJ) (l:=x2) he4 rfl (fun m_e_4 hm_e_4 hx_e_4=> ?_)
 conv=>whnf
 obtain⟨r5,hr5,hF⟩:=bs' hF
 refine cE (d0 0 Tryz.func93 (Jht e4 r5 hr5)) ?_
 conv=>whnf
 obtain rfl:=si hF
 exact rZ
 conv=>whnf
 obtain rfl:=si hF
 exact rZ
 conv=>whnf
 obtain rfl:=si hF
 exact rZ
theorem Jds (x0:View) (x1:Int) (r:Bool) (hF:ZJ x0 x1=some r):AC Tryz.prog 47 [.agg (JaC x0),.int .i64 x1] [] (.bool r) ([]):=by
 refine Ju Jc Ja Tryz.func47 rfl Tryz.ntmps47 rfl ?_
 unfold ZJ at hF
 conv=>whnf
 refine xB hF (fun b6 hF=> ?_) fun b6 hF=> ?_
 conv=>whnf
 obtain rfl:=si hF
 exact rZ
 conv=>whnf
 refine xB hF (fun b7 hF=> ?_) fun b7 hF=> ?_
 conv=>whnf
 refine xB hF (fun b8 hF=> ?_) fun b8 hF=> ?_
 conv=>whnf
 obtain rfl:=si hF
 exact rZ
 conv=>whnf
 obtain rfl:=si hF
 exact rZ
 conv=>whnf
 refine xB hF (fun b9 hF=> ?_) fun b9 hF=> ?_
 conv=>whnf
 refine xB hF (fun b10 hF=> ?_) fun b10 hF=> ?_
 conv=>whnf
 obtain rfl:=si hF
 exact rZ
 conv=>whnf
 obtain rfl:=si hF
 exact rZ
 conv=>whnf
 obtain rfl:=si hF
 exact rZ
theorem Je7 (x0:Fault) (x1:Fault) (r:Bool) (hF:Ja0 x0 x1=some r):AC Tryz.prog 49 [.agg (Je x0),.iptr [.int .i64 x1.Kind,.int .i64 x1.Node,.int .i64 x1.Window]] [] (.bool r) ([]):=by
 refine Ju Jc Ja Tryz.func49 rfl Tryz.ntmps49 rfl ?_
 unfold Ja0 at hF
 conv=>whnf
 obtain rfl:=si hF
 exact rZ
theorem JcN (x0:(List Fault)) (x1:Fault) (r:Int) (hF:Zf x0 x1=some r):AC Tryz.prog 94 [.lst 3 (x0.map Je),.fn 49 [.iptr [.int .i64 x1.Kind,.int .i64 x1.Node,.int .i64 x1.Window]]] [] (.int .i64 r) ([]):=by
 refine Ju Jc Ja Tryz.func94 rfl Tryz.ntmps94 rfl ?_
 unfold Zf at hF
 conv=>whnf
 refine Jm (enc:=Je) (l:=x0) rfl ?_
 conv=>whnf
 obtain⟨c1,hc_1,hF⟩:=Jr hF
 refine J1 0 (v:= .lst 3 (x0.map Je)) (by(conv=>lhs;whnf)<;>rfl) (fun hb=> ?_)
 have hbd_k_2:x0.length<=9223372036854775807:=Jz (enc:=Je) (hb)
 refine Jo Jc Ja (fun y:Nat=>y<=x0.length∧JX x1 (x0.drop y) y=some c1) (fun y=>⟨eL [(0,.lst 3 (x0.map Je)),(1,.fn 49 [.iptr [.int .i64 x1.Kind,.int .i64 x1.Node,.int .i64 x1.Window]]),(7,.int .i64 (x0.length:Int)),(8,.int .i64 (y:Int))],hL [],0⟩) (fun y=>x0.length - y) 0 ⟨Nat.zero_le _,hc_1⟩ (wK [] [] []) ?_
 rintro k2 ⟨hk_k_2,hL1⟩
 try dsimp only at hk_k_2 hL1
 show awp _ _ _ _ _ _ ⟨eL [(0,.lst 3 (x0.map Je)),(1,.fn 49 [.iptr [.int .i64 x1.Kind,.int .i64 x1.Node,.int .i64 x1.Window]]),(7,.int .i64 (x0.length:Int)),(8,.int .i64 (k2:Int))],hL [],0⟩
 conv=>whnf
 refine⟨fun h=> ?_,fun h=> ?_⟩
 have lk2:k2<x0.length:=by have h:=Wt h;omega
 obtain⟨e3,he3⟩:=ge lk2
 rw [Jl he3,JX.eq_2] at hL1
 conv=>whnf
 refine⟨k2,_,rfl,Jv he3,?_⟩
 conv=>whnf
 obtain⟨r4,hr4,hL1⟩:=bs' hL1
 refine cE (d0 0 Tryz.func49 (Je7 e3 x1 r4 hr4)) ?_
 conv=>whnf
 refine xB hL1 (fun b7 hL1=> ?_) fun b7 hL1=> ?_
 conv=>whnf
 obtain rfl:=si hL1
 replace hF:=Jn hF
 obtain rfl:=si hF
 exact rZ
 conv=>whnf
 refine⟨((k2+1:Nat):Int),wE,?_⟩
 conv=>whnf
 exact⟨k2+1,_,_,_,⟨lk2,hL1⟩,sl lk2,wK [] [] []⟩
 rw [Jq (nl h),JX.eq_1] at hL1
 conv=>whnf
 obtain rfl:=si hL1
 replace hF:=Jw hF
 try dsimp only at hF
 obtain rfl:=si hF
 exact rZ
theorem Jcl (x0:(List Fault)) (x1:Fault) (r:Bool) (hF:QP x0 x1=some r):AC Tryz.prog 48 [.lst 3 (x0.map Je),.fn 49 [.iptr [.int .i64 x1.Kind,.int .i64 x1.Node,.int .i64 x1.Window]]] [] (.bool r) ([]):=by
 refine Ju Jc Ja Tryz.func48 rfl Tryz.ntmps48 rfl ?_
 unfold QP at hF
 conv=>whnf
 obtain⟨r1,hr1,hF⟩:=bs' hF
 refine cE (d0 0 Tryz.func94 (JcN x0 x1 r1 hr1)) ?_
 conv=>whnf
 obtain rfl:=si hF
 exact rZ
theorem Ja4 (x0:View) (r:Report) (hF:YX x0=some r):AC Tryz.prog 50 [.agg (JaC x0)] [] (.agg (JS r)) ([]):=by
 refine Ju Jc Ja Tryz.func50 rfl Tryz.ntmps50 rfl ?_
 unfold YX at hF
 conv=>whnf
 refine xB hF (fun b3 hF=> ?_) fun b3 hF=> ?_
 conv=>whnf
 refine xB hF (fun b4 hF=> ?_) fun b4 hF=> ?_
 conv=>whnf
 obtain rfl:=si hF
 exact rZ
 conv=>whnf
 obtain rfl:=si hF
 exact rZ
 conv=>whnf
 obtain rfl:=si hF
 exact rZ
theorem JcX (x0:View) (x1:Int) (x2:Int) (r:Report) (hF:Qu x0 x1 x2=some r):AC Tryz.prog 51 [.agg (JaC x0),.int .i64 x1,.int .i64 x2] [] (.agg (JS r)) ([]):=by
 refine Ju Jc Ja Tryz.func51 rfl Tryz.ntmps51 rfl ?_
 unfold Qu at hF
 conv=>whnf
 obtain⟨r1,hr1,hF⟩:=bs' hF
 refine cE (d0 0 Tryz.func50 (Ja4 x0 r1 hr1)) ?_
 conv=>whnf
 refine xB hF (fun b4 hF=> ?_) fun b4 hF=> ?_
 conv=>whnf
 obtain rfl:=si hF
 exact Jk [] [] [] rfl (aA [.int .i64 x0.device,.fls,.str (⟨#[]⟩:ByteArray)] ⟨(.ni _ rfl),.fls,(.ni _ rfl),tv⟩) trivial
 conv=>whnf
 refine xB hF (fun b5 hF=> ?_) fun b5 hF=> ?_
 conv=>whnf
 obtain rfl:=si hF
 exact Jk [] [] [] rfl (aA [.int .i64 r1.Device,.tru,.str r1.Read] ⟨(.ni _ rfl),.tru,(.ni _ rfl),tv⟩) trivial
 conv=>whnf
 refine⟨_,Jmz rfl Tryz.underlying9 Tryz.underlying73 Tryz.underlying5 rfl,?_⟩
 conv=>whnf
 refine xB hF (fun b6 hF=> ?_) fun b6 hF=> ?_
 conv=>whnf
 obtain⟨e2,he2,hF⟩:=bs' hF
 obtain⟨m_e_2,hm_e_2,hx_e_2⟩:=Jau he2
 refine⟨_,Jm1 Jc rfl rfl rfl rfl rfl rfl hm_e_2 hx_e_2 (by simp [JdG]),?_⟩
 conv=>whnf
 refine⟨_,Jrm Jc rfl rfl rfl rfl rfl rfl hm_e_2 hx_e_2,?_⟩
 conv=>whnf
 refine⟨_,Jjp rfl Tryz.underlying73 Tryz.underlying9 Tryz.underlying5 rfl rfl (by simp [JdG]),?_⟩
 conv=>whnf
 obtain rfl:=si hF
 exact rZ
 conv=>whnf
 obtain⟨e3,he3,hF⟩:=bs' hF
 obtain⟨m_e_3,hm_e_3,hx_e_3⟩:=Jau he3
 refine⟨_,Jm1 Jc rfl rfl rfl rfl rfl rfl hm_e_3 hx_e_3 (by simp [JdG]),?_⟩
 conv=>whnf
 refine⟨_,Jqc Jc rfl rfl rfl rfl rfl hx_e_3,?_⟩
 conv=>whnf
 refine⟨_,rfl,?_⟩
 conv=>whnf
 refine⟨_,rfl,?_⟩
 conv=>whnf
 refine⟨by decide,_,rfl,?_⟩
 conv=>whnf
 refine⟨_,rfl,?_⟩
 conv=>whnf
 obtain⟨e4,he4,hF⟩:=bs' hF
 obtain⟨m_e_4,hm_e_4,hx_e_4⟩:=Jau he4
 refine⟨_,Jm1 Jc rfl rfl rfl rfl rfl rfl hm_e_4 hx_e_4 (by simp [JdG]),?_⟩
 conv=>whnf
 refine⟨_,Jrm Jc rfl rfl rfl rfl rfl rfl hm_e_4 hx_e_4,?_⟩
 conv=>whnf
 refine⟨_,Jjp rfl Tryz.underlying73 Tryz.underlying9 Tryz.underlying5 rfl rfl (by simp [JdG]),?_⟩
 conv=>whnf
 obtain rfl:=si hF
 exact rZ
theorem JdN (x0:Layout) (x1:Plant) (x2:(List Plate)) (x3:(List Fault)) (r:(List Report)×Int) (hF:Jad x0 x1 x2 x3=some r):AC Tryz.prog 20 [.agg (JC x0),.agg (Qi x1),.lst 3 (x2.map JJ),.lst 3 (x3.map Je)] [] (.tup [.lst 3 (r.1.map JS),.int .i64 r.2]) ([]):=by
 refine Ju Jc Ja Tryz.func20 rfl Tryz.ntmps20 rfl ?_
 unfold Jad at hF
 conv=>whnf
 obtain⟨r1,hr1,hF⟩:=bs' hF
 rcases r1 with⟨_ |v3,b_2⟩
 replace hF:=Jj3 hF
 refine cE (d0 0 Tryz.func38 (JaU x0 _ hr1)) ?_
 conv=>whnf
 refine⟨fun b45=> ?_,fun b45=> ?_⟩
 replace hF:=cf b45 hF
 conv=>whnf
 cases hF
 replace hF:=ct b45 hF
 conv=>whnf
 obtain rfl:=si hF
 exact Jk [] [] [] rfl (Qh rfl ⟨aN,aq,tv⟩) trivial
 replace hF:=Jj2 hF
 refine cE (d0 1 Tryz.func38 (JaU x0 _ hr1) ⟨rfl,tv⟩) ?_
 conv=>whnf
 refine⟨fun b46=> ?_,fun b46=> ?_⟩
 replace hF:=cf b46 hF
 conv=>whnf
 obtain⟨r4,hr4,hF⟩:=bs' hF
 refine cE (cX false [] [2] 0 Tryz.func39 (Jbk v3 x1 r4 hr4) ⟨(YT 2 _ (by(conv=>lhs;whnf)<;>rfl) rfl rfl rfl rfl),aq,tv⟩ trivial (YJ rfl trivial) trivial) ?_
 conv=>whnf
 refine xB hF (fun b47 hF=> ?_) fun b47 hF=> ?_
 conv=>whnf
 obtain rfl:=si hF
 exact Jk [] [] [] rfl (Qh rfl ⟨aN,aq,tv⟩) trivial
 conv=>whnf
 refine Jm (enc:=Je) (l:=x3) rfl ?_
 conv=>whnf
 refine xB hF (fun b48 hF=> ?_) fun b48 hF=> ?_
 conv=>whnf
 obtain rfl:=si hF
 exact Jk [] [] [] rfl (Qh rfl ⟨aN,aq,tv⟩) trivial
 conv=>whnf
 refine Jm (enc:=Je) (l:=x3) rfl ?_
 conv=>whnf
 obtain⟨c1,hc_1,hF⟩:=Jr hF
 refine J1 3 (v:= .lst 3 (x3.map Je)) (by(conv=>lhs;whnf)<;>rfl) (fun hb=> ?_)
 have hbd_k_6:x3.length<=9223372036854775807:=Jz (enc:=Je) (hb)
 refine Jo Jc Ja (fun y:Nat=>y<=x3.length∧Y0 x0 x1 x2 (x3.drop y) y=some c1) (fun y=>⟨eL [(2,.lst 3 (x2.map JJ)),(3,.lst 3 (x3.map Je)),(4,.ptr 0 0),(5,.ptr 1 0),(38,.lst 3 (x3.map Je)),(39,.int .i64 (x3.length:Int)),(40,.int .i64 (y:Int))],hL [(0,.box [.lst 5 (x0.Nodes.map Jb),.lst 3 (x0.Devices.map Jd)]),(1,.box [.lst 1 (x1.Slots.map (lA 1 iA)),.lst 1 (x1.Bins.map (lA 1 iA))])],2⟩) (fun y=>x3.length - y) 0 ⟨Nat.zero_le _,hc_1⟩ (wK [0,1] [] []) ?_
 rintro k6 ⟨hk_k_6,hL1⟩
 try dsimp only at hk_k_6 hL1
 show awp _ _ _ _ _ _ ⟨eL [(2,.lst 3 (x2.map JJ)),(3,.lst 3 (x3.map Je)),(4,.ptr 0 0),(5,.ptr 1 0),(38,.lst 3 (x3.map Je)),(39,.int .i64 (x3.length:Int)),(40,.int .i64 (k6:Int))],hL [(0,.box [.lst 5 (x0.Nodes.map Jb),.lst 3 (x0.Devices.map Jd)]),(1,.box [.lst 1 (x1.Slots.map (lA 1 iA)),.lst 1 (x1.Bins.map (lA 1 iA))])],2⟩
 conv=>whnf
 refine⟨fun h=> ?_,fun h=> ?_⟩
 have lk6:k6<x3.length:=by have h:=Wt h;omega
 obtain⟨e7,he7⟩:=ge lk6
 rw [Jl he7,Y0.eq_2] at hL1
 conv=>whnf
 refine⟨k6,_,rfl,Jv he7,?_⟩
 conv=>whnf
 refine⟨fun b49=> ?_,fun b49=> ?_⟩
 replace hL1:=cf b49 hL1
 conv=>whnf
 refine xB hL1 (fun b50 hL1=> ?_) fun b50 hL1=> ?_
 conv=>whnf
 obtain rfl:=si hL1
 replace hF:=Jn hF
 obtain rfl:=si hF
 exact Jk [] [] [] rfl (Qh rfl ⟨aN,aq,tv⟩) trivial
 conv=>whnf
 refine⟨fun b51=> ?_,fun b51=> ?_⟩
 replace hL1:=cf b51 hL1
 conv=>whnf
 refine Jm (enc:=Jd) (l:=x0.Devices) rfl ?_
 conv=>whnf
 refine⟨fun b52=> ?_,fun b52=> ?_⟩
 replace hL1:=cf b52 hL1
 conv=>whnf
 refine⟨fun b53=> ?_,fun b53=> ?_⟩
 replace hL1:=cf b53 hL1
 conv=>whnf
 obtain⟨r8,hr8,hL1⟩:=bs' hL1
 refine cE (d0 0 Tryz.func45 (Je6 e7.Kind r8 hr8)) ?_
 conv=>whnf
 refine⟨by kernel_rfl,?_⟩
 conv=>whnf
 refine xB hL1 (fun b54 hL1=> ?_) fun b54 hL1=> ?_
 conv=>whnf
 obtain rfl:=si hL1
 replace hF:=Jn hF
 obtain rfl:=si hF
 exact Jk [] [] [] rfl (Qh rfl ⟨aN,aq,tv⟩) trivial
 conv=>whnf
 obtain⟨r9,hr9,hL1⟩:=bs' hL1
 refine cE (d0 0 Tryz.func46 (JbU x0 x1 x2 e7.Node r9 hr9)) ?_
 conv=>whnf
 obtain⟨r10,hr10,hL1⟩:=bs' hL1
 refine cE (d0 0 Tryz.func47 (Jds r9 e7.Kind r10 hr10)) ?_
 conv=>whnf
 refine⟨by kernel_rfl,?_⟩
 conv=>whnf
 refine xB hL1 (fun b55 hL1=> ?_) fun b55 hL1=> ?_
 conv=>whnf
 obtain rfl:=si hL1
 replace hF:=Jn hF
 obtain rfl:=si hF
 exact Jk [] [] [] rfl (Qh rfl ⟨aN,aq,tv⟩) trivial
 conv=>whnf
 refine⟨((k6+1:Nat):Int),wE,?_⟩
 conv=>whnf
 exact⟨k6+1,_,_,_,⟨lk6,hL1⟩,sl lk6,wK [0,1] [] []⟩
 replace hL1:=ct b53 hL1
 conv=>whnf
 refine⟨by kernel_rfl,?_⟩
 conv=>whnf
 obtain rfl:=si hL1
 replace hF:=Jn hF
 obtain rfl:=si hF
 exact Jk [] [] [] rfl (Qh rfl ⟨aN,aq,tv⟩) trivial
 replace hL1:=ct b52 hL1
 conv=>whnf
 refine⟨by kernel_rfl,?_⟩
 conv=>whnf
 obtain rfl:=si hL1
 replace hF:=Jn hF
 obtain rfl:=si hF
 exact Jk [] [] [] rfl (Qh rfl ⟨aN,aq,tv⟩) trivial
 replace hL1:=ct b51 hL1
 conv=>whnf
 refine⟨by kernel_rfl,?_⟩
 conv=>whnf
 obtain rfl:=si hL1
 replace hF:=Jn hF
 obtain rfl:=si hF
 exact Jk [] [] [] rfl (Qh rfl ⟨aN,aq,tv⟩) trivial
 replace hL1:=ct b49 hL1
 conv=>whnf
 obtain rfl:=si hL1
 replace hF:=Jn hF
 obtain rfl:=si hF
 exact Jk [] [] [] rfl (Qh rfl ⟨aN,aq,tv⟩) trivial
 rw [Jq (nl h),Y0.eq_1] at hL1
 conv=>whnf
 obtain rfl:=si hL1
 replace hF:=Jw hF
 try dsimp only at hF
 refine Jm (enc:=Je) (l:=x3) rfl ?_
 conv=>whnf
 obtain⟨c2,hc_2,hF⟩:=Jr hF
 refine J1 3 (v:= .lst 3 (x3.map Je)) (by(conv=>lhs;whnf)<;>rfl) (fun hb=> ?_)
 have hbd_k_14:x3.length<=9223372036854775807:=Jz (enc:=Je) (hb)
 refine Jo Jc Ja (fun y:Nat=>y<=x3.length∧YZ x3 (x3.drop y) y=some c2) (fun y=>⟨eL [(2,.lst 3 (x2.map JJ)),(3,.lst 3 (x3.map Je)),(4,.ptr 0 0),(5,.ptr 1 0),(90,.lst 3 (x3.map Je)),(91,.int .i64 (x3.length:Int)),(92,.int .i64 (y:Int))],hL [(0,.box [.lst 5 (x0.Nodes.map Jb),.lst 3 (x0.Devices.map Jd)]),(1,.box [.lst 1 (x1.Slots.map (lA 1 iA)),.lst 1 (x1.Bins.map (lA 1 iA))])],2⟩) (fun y=>x3.length - y) 0 ⟨Nat.zero_le _,hc_2⟩ (wK [0,1] [] []) ?_
 rintro k14 ⟨hk_k_14,hL1⟩
 try dsimp only at hk_k_14 hL1
 show awp _ _ _ _ _ _ ⟨eL [(2,.lst 3 (x2.map JJ)),(3,.lst 3 (x3.map Je)),(4,.ptr 0 0),(5,.ptr 1 0),(90,.lst 3 (x3.map Je)),(91,.int .i64 (x3.length:Int)),(92,.int .i64 (k14:Int))],hL [(0,.box [.lst 5 (x0.Nodes.map Jb),.lst 3 (x0.Devices.map Jd)]),(1,.box [.lst 1 (x1.Slots.map (lA 1 iA)),.lst 1 (x1.Bins.map (lA 1 iA))])],2⟩
 conv=>whnf
 refine⟨fun h=> ?_,fun h=> ?_⟩
 have lk14:k14<x3.length:=by have h:=Wt h;omega
 obtain⟨e15,he15⟩:=ge lk14
 rw [Jl he15,YZ.eq_2] at hL1
 conv=>whnf
 refine⟨k14,_,rfl,Jv he15,?_⟩
 conv=>whnf
 obtain⟨l16,hl16,hL1⟩:=bs' hL1
 refine Jjj (enc:=Je) (l:=x3) hl16 rfl ?_
 conv=>whnf
 obtain⟨r17,hr17,hL1⟩:=bs' hL1
 refine cE (cX false [] [2] 0 Tryz.func48 (Jcl l16 e15 r17 hr17) ⟨aq,(Q4 (c:=[.ptr 2 0]) (by(conv=>lhs;whnf)<;>rfl) rfl ⟨(YT 2 _ rfl rfl rfl rfl rfl),tv⟩),tv⟩ trivial (YJ rfl trivial) trivial) ?_
 conv=>whnf
 refine xB hL1 (fun b56 hL1=> ?_) fun b56 hL1=> ?_
 conv=>whnf
 obtain rfl:=si hL1
 replace hF:=Jn hF
 obtain rfl:=si hF
 exact Jk [] [] [] rfl (Qh rfl ⟨aN,aq,tv⟩) trivial
 conv=>whnf
 refine⟨((k14+1:Nat):Int),wE,?_⟩
 conv=>whnf
 exact⟨k14+1,_,_,_,⟨lk14,hL1⟩,sl lk14,wK [0,1] [] []⟩
 rw [Jq (nl h),YZ.eq_1] at hL1
 conv=>whnf
 obtain rfl:=si hL1
 replace hF:=Jw hF
 try dsimp only at hF
 refine Jm (enc:=Jd) (l:=x0.Devices) rfl ?_
 conv=>whnf
 obtain⟨c3,hc_3,hF⟩:=Jr hF
 refine J1 104 (v:= .lst 3 (x0.Devices.map Jd)) (by(conv=>lhs;whnf)<;>rfl) (fun hb=> ?_)
 have hbd_k_22:x0.Devices.length<=9223372036854775807:=Jz (enc:=Jd) (hb)
 refine Jo Jc Ja (fun y:Nat×(List Report)=>y.1<=x0.Devices.length∧YY x0 x1 x2 (x0.Devices.drop y.1) y.1 y.2=some c3) (fun y=>⟨eL [(2,.lst 3 (x2.map JJ)),(3,.lst 3 (x3.map Je)),(4,.ptr 0 0),(5,.ptr 1 0),(16,.osl 2),(105,.int .i64 (x0.Devices.length:Int)),(106,.int .i64 (y.1:Int))],hL [(0,.box [.lst 5 (x0.Nodes.map Jb),.lst 3 (x0.Devices.map Jd)]),(1,.box [.lst 1 (x1.Slots.map (lA 1 iA)),.lst 1 (x1.Bins.map (lA 1 iA))]),(2,.row 3 (y.2.map JS))],3⟩) (fun y=>x0.Devices.length - y.1) (0,([]:List Report)) ⟨Nat.zero_le _,hc_3⟩ (wK [0,1] [2] [] ⟨bN,bN,Jci rfl,tv⟩) ?_
 rintro⟨k22,a20⟩ ⟨hk_k_22,hL1⟩
 try dsimp only at hk_k_22 hL1
 show awp _ _ _ _ _ _ ⟨eL [(2,.lst 3 (x2.map JJ)),(3,.lst 3 (x3.map Je)),(4,.ptr 0 0),(5,.ptr 1 0),(16,.osl 2),(105,.int .i64 (x0.Devices.length:Int)),(106,.int .i64 (k22:Int))],hL [(0,.box [.lst 5 (x0.Nodes.map Jb),.lst 3 (x0.Devices.map Jd)]),(1,.box [.lst 1 (x1.Slots.map (lA 1 iA)),.lst 1 (x1.Bins.map (lA 1 iA))]),(2,.row 3 (a20.map JS))],3⟩
 conv=>whnf
 refine⟨fun h=> ?_,fun h=> ?_⟩
 have lk22:k22<x0.Devices.length:=by have h:=Wt h;omega
 obtain⟨e23,he23⟩:=ge lk22
 rw [Jl he23,YY.eq_2] at hL1
 conv=>whnf
 obtain⟨r24,hr24,hL1⟩:=bs' hL1
 refine cE (d0 0 Tryz.func46 (JbU x0 x1 x2 (k22:Int) r24 hr24)) ?_
 conv=>whnf
 obtain⟨r25,hr25,hL1⟩:=bs' hL1
 refine cE (d0 0 Tryz.func50 (Ja4 r24 r25 hr25)) ?_
 conv=>whnf
 obtain⟨l26,hl26,hL1⟩:=bs' hL1
 refine ZV (enc:=JS) (l:=a20) (y:=([r25]:List Report)) hl26 rfl rfl (by decide) ?_
 conv=>whnf
 refine⟨((k22+1:Nat):Int),wE,?_⟩
 conv=>whnf
 exact⟨(k22+1,l26),_,_,_,⟨lk22,hL1⟩,sl lk22,wK [0,1,6] [] []⟩
 rw [Jq (nl h),YY.eq_1] at hL1
 conv=>whnf
 obtain rfl:=si hL1
 replace hF:=Jw hF
 try dsimp only at hF
 refine Jm (enc:=Je) (l:=x3) rfl ?_
 conv=>whnf
 obtain⟨c4,hc_4,hF⟩:=Jr hF
 refine J1 3 (v:= .lst 3 (x3.map Je)) (by(conv=>lhs;whnf)<;>rfl) (fun hb=> ?_)
 have hbd_k_31:x3.length<=9223372036854775807:=Jz (enc:=Je) (hb)
 refine Jo Jc Ja (fun y:Nat×(List Report)=>y.1<=x3.length∧ZF x0 x1 x2 (x3.drop y.1) y.1 y.2=some c4) (fun y=>⟨eL [(2,.lst 3 (x2.map JJ)),(4,.ptr 0 0),(5,.ptr 1 0),(16,.osl 2),(119,.lst 3 (x3.map Je)),(120,.int .i64 (x3.length:Int)),(121,.int .i64 (y.1:Int))],hL [(0,.box [.lst 5 (x0.Nodes.map Jb),.lst 3 (x0.Devices.map Jd)]),(1,.box [.lst 1 (x1.Slots.map (lA 1 iA)),.lst 1 (x1.Bins.map (lA 1 iA))]),(2,.row 3 (y.2.map JS))],3⟩) (fun y=>x3.length - y.1) (0,a20) ⟨Nat.zero_le _,hc_4⟩ (wK [0,1,2] [] []) ?_
 rintro⟨k31,a29⟩ ⟨hk_k_31,hL1⟩
 try dsimp only at hk_k_31 hL1
 show awp _ _ _ _ _ _ ⟨eL [(2,.lst 3 (x2.map JJ)),(4,.ptr 0 0),(5,.ptr 1 0),(16,.osl 2),(119,.lst 3 (x3.map Je)),(120,.int .i64 (x3.length:Int)),(121,.int .i64 (k31:Int))],hL [(0,.box [.lst 5 (x0.Nodes.map Jb),.lst 3 (x0.Devices.map Jd)]),(1,.box [.lst 1 (x1.Slots.map (lA 1 iA)),.lst 1 (x1.Bins.map (lA 1 iA))]),(2,.row 3 (a29.map JS))],3⟩
 conv=>whnf
 refine⟨fun h=> ?_,fun h=> ?_⟩
 have lk31:k31<x3.length:=by have h:=Wt h;omega
 obtain⟨e32,he32⟩:=ge lk31
 rw [Jl he32,ZF.eq_2] at hL1
 conv=>whnf
 refine⟨k31,_,rfl,Jv he32,?_⟩
 conv=>whnf
 obtain⟨r33,hr33,hL1⟩:=bs' hL1
 refine cE (d0 0 Tryz.func46 (JbU x0 x1 x2 e32.Node r33 hr33)) ?_
 conv=>whnf
 obtain⟨r34,hr34,hL1⟩:=bs' hL1
 refine cE (d0 0 Tryz.func51 (JcX r33 e32.Kind e32.Window r34 hr34)) ?_
 conv=>whnf
 obtain⟨e35,he35,hL1⟩:=bs' hL1
 refine Qc (enc:=JS) (l:=a29) he35 rfl (fun m_e_35 hm_e_35 hx_e_35=> ?_)
 conv=>whnf
 refine Z6 (enc:=JS) (l:=a29) (x':=r34) (i:=e32.Node) hm_e_35 hx_e_35 rfl (Wl rfl) rfl ?_
 conv=>whnf
 refine⟨by kernel_rfl,?_⟩
 conv=>whnf
 refine⟨((k31+1:Nat):Int),wE,?_⟩
 conv=>whnf
 exact⟨(k31+1,(a29.set e32.Node.toNat r34)),_,_,_,⟨lk31,hL1⟩,sl lk31,wK [0,1,2] [] []⟩
 rw [Jq (nl h),ZF.eq_1] at hL1
 conv=>whnf
 obtain rfl:=si hL1
 replace hF:=Jw hF
 try dsimp only at hF
 obtain rfl:=si hF
 exact Jk [] [] [2] rfl (Qh rfl ⟨(aL 2),aq,tv⟩) trivial
 replace hF:=ct b46 hF
 conv=>whnf
 obtain rfl:=si hF
 exact Jk [] [] [] rfl (Qh rfl ⟨aN,aq,tv⟩) trivial
theorem Jg2 (x0:Hypothesis) (x1:Plan) (r:Bool) (hF:JaT x0 x1=some r):AC Tryz.prog 96 [.agg (Jg x0),.iptr [.iptr [.lst 5 (x1.L.Nodes.map Jb),.lst 3 (x1.L.Devices.map Jd),.lst 1 (x1.order.map iA)]]] [] (.bool r) ([]):=by
 refine Ju Jc Ja Tryz.func96 rfl Tryz.ntmps96 rfl ?_
 unfold JaT at hF
 conv=>whnf
 obtain⟨r1,hr1,hF⟩:=bs' hF
 refine cE (d0 0 Tryz.func39 (Jbk x1 x0.Plant r1 hr1)) ?_
 conv=>whnf
 obtain rfl:=si hF
 exact rZ
theorem Jcq (x0:(List Hypothesis)) (x1:Plan) (r:Int) (hF:YQ x0 x1=some r):AC Tryz.prog 139 [.lst 3 (x0.map Jg),.fn 96 [.iptr [.iptr [.lst 5 (x1.L.Nodes.map Jb),.lst 3 (x1.L.Devices.map Jd),.lst 1 (x1.order.map iA)]]]] [] (.int .i64 r) ([]):=by
 refine Ju Jc Ja Tryz.func139 rfl Tryz.ntmps139 rfl ?_
 unfold YQ at hF
 conv=>whnf
 refine Jm (enc:=Jg) (l:=x0) rfl ?_
 conv=>whnf
 obtain⟨c1,hc_1,hF⟩:=Jr hF
 refine J1 0 (v:= .lst 3 (x0.map Jg)) (by(conv=>lhs;whnf)<;>rfl) (fun hb=> ?_)
 have hbd_k_2:x0.length<=9223372036854775807:=Jz (enc:=Jg) (hb)
 refine Jo Jc Ja (fun y:Nat=>y<=x0.length∧JR x1 (x0.drop y) y=some c1) (fun y=>⟨eL [(0,.lst 3 (x0.map Jg)),(1,.fn 96 [.iptr [.iptr [.lst 5 (x1.L.Nodes.map Jb),.lst 3 (x1.L.Devices.map Jd),.lst 1 (x1.order.map iA)]]]),(7,.int .i64 (x0.length:Int)),(8,.int .i64 (y:Int))],hL [],0⟩) (fun y=>x0.length - y) 0 ⟨Nat.zero_le _,hc_1⟩ (wK [] [] []) ?_
 rintro k2 ⟨hk_k_2,hL1⟩
 try dsimp only at hk_k_2 hL1
 show awp _ _ _ _ _ _ ⟨eL [(0,.lst 3 (x0.map Jg)),(1,.fn 96 [.iptr [.iptr [.lst 5 (x1.L.Nodes.map Jb),.lst 3 (x1.L.Devices.map Jd),.lst 1 (x1.order.map iA)]]]),(7,.int .i64 (x0.length:Int)),(8,.int .i64 (k2:Int))],hL [],0⟩
 conv=>whnf
 refine⟨fun h=> ?_,fun h=> ?_⟩
 have lk2:k2<x0.length:=by have h:=Wt h;omega
 obtain⟨e3,he3⟩:=ge lk2
 rw [Jl he3,JR.eq_2] at hL1
 conv=>whnf
 refine⟨k2,_,rfl,Jv he3,?_⟩
 conv=>whnf
 obtain⟨r4,hr4,hL1⟩:=bs' hL1
 refine cE (d0 0 Tryz.func96 (Jg2 e3 x1 r4 hr4)) ?_
 conv=>whnf
 refine xB hL1 (fun b7 hL1=> ?_) fun b7 hL1=> ?_
 conv=>whnf
 obtain rfl:=si hL1
 replace hF:=Jn hF
 obtain rfl:=si hF
 exact rZ
 conv=>whnf
 refine⟨((k2+1:Nat):Int),wE,?_⟩
 conv=>whnf
 exact⟨k2+1,_,_,_,⟨lk2,hL1⟩,sl lk2,wK [] [] []⟩
 rw [Jq (nl h),JR.eq_1] at hL1
 conv=>whnf
 obtain rfl:=si hL1
 replace hF:=Jw hF
 try dsimp only at hF
 obtain rfl:=si hF
 exact rZ
theorem JbO (x0:(List Hypothesis)) (x1:Plan) (r:Bool) (hF:Qn x0 x1=some r):AC Tryz.prog 95 [.lst 3 (x0.map Jg),.fn 96 [.iptr [.iptr [.lst 5 (x1.L.Nodes.map Jb),.lst 3 (x1.L.Devices.map Jd),.lst 1 (x1.order.map iA)]]]] [] (.bool r) ([]):=by
 refine Ju Jc Ja Tryz.func95 rfl Tryz.ntmps95 rfl ?_
 unfold Qn at hF
 conv=>whnf
 obtain⟨r1,hr1,hF⟩:=bs' hF
 refine cE (d0 0 Tryz.func139 (Jcq x0 x1 r1 hr1)) ?_
 conv=>whnf
 obtain rfl:=si hF
 exact rZ
theorem JfR (x0:Layout) (x1:Belief) (r:(Option Plan)×Bool) (hF:JeD x0 x1=some r):AC Tryz.prog 52 [.agg (JC x0),.agg (Yp x1)] [] (.tup [Jv0 r.1 0,.bool r.2]) (JvZ JnP r.1):=by
 refine Ju Jc Ja Tryz.func52 rfl Tryz.ntmps52 rfl ?_
 unfold JeD at hF
 conv=>whnf
 obtain⟨r1,hr1,hF⟩:=bs' hF
 rcases r1 with⟨_ |v3,b_2⟩
 replace hF:=Jj3 hF
 refine cE (d0 0 Tryz.func38 (JaU x0 _ hr1)) ?_
 conv=>whnf
 refine⟨fun b4=> ?_,fun b4=> ?_⟩
 replace hF:=cf b4 hF
 conv=>whnf
 cases hF
 replace hF:=ct b4 hF
 conv=>whnf
 obtain rfl:=si hF
 exact Jk [] [] [] rfl (Qh rfl ⟨aq,aF,tv⟩) trivial
 replace hF:=Jj2 hF
 refine cE (d0 1 Tryz.func38 (JaU x0 _ hr1) ⟨rfl,tv⟩) ?_
 conv=>whnf
 refine⟨fun b5=> ?_,fun b5=> ?_⟩
 replace hF:=cf b5 hF
 conv=>whnf
 obtain⟨r4,hr4,hF⟩:=bs' hF
 refine cE (cX false [] [4,2] 0 Tryz.func95 (JbO x1.L v3 r4 hr4) ⟨aq,(Q4 (c:=[.ptr 4 0]) (by(conv=>lhs;whnf)<;>rfl) rfl ⟨(Jv8 4 [.ptr 2 0] [.iptr [.lst 5 (v3.L.Nodes.map Jb),.lst 3 (v3.L.Devices.map Jd),.lst 1 (v3.order.map iA)]] rfl rfl rfl rfl rfl rfl ⟨(YT 2 _ rfl rfl rfl rfl rfl),tv⟩),tv⟩),tv⟩ trivial (YJ rfl trivial) trivial) ?_
 conv=>whnf
 refine xB hF (fun b6 hF=> ?_) fun b6 hF=> ?_
 conv=>whnf
 obtain rfl:=si hF
 exact Jk [] [] [] rfl (Qh rfl ⟨aq,aF,tv⟩) trivial
 conv=>whnf
 obtain rfl:=si hF
 exact Jk [2] [] [] rfl (Qh rfl ⟨(aP 2),aT,tv⟩) ⟨bN,tv⟩
 replace hF:=ct b5 hF
 conv=>whnf
 obtain rfl:=si hF
 exact Jk [] [] [] rfl (Qh rfl ⟨aq,aF,tv⟩) trivial
theorem Jem (x0:Fault) (x1:Fault) (r:Bool) (hF:Zu x0 x1=some r):AC Tryz.prog 140 [.agg (Je x0),.iptr [.int .i64 x1.Kind,.int .i64 x1.Node,.int .i64 x1.Window]] [] (.bool r) ([]):=by
 refine Ju Jc Ja Tryz.func140 rfl Tryz.ntmps140 rfl ?_
 unfold Zu at hF
 conv=>whnf
 refine xB hF (fun b2 hF=> ?_) fun b2 hF=> ?_
 conv=>whnf
 obtain rfl:=si hF
 exact rZ
 conv=>whnf
 obtain rfl:=si hF
 exact rZ
theorem JcM (x0:(List Fault)) (x1:Fault) (r:Int) (hF:Ze x0 x1=some r):AC Tryz.prog 94 [.lst 3 (x0.map Je),.fn 140 [.iptr [.int .i64 x1.Kind,.int .i64 x1.Node,.int .i64 x1.Window]]] [] (.int .i64 r) ([]):=by
 refine Ju Jc Ja Tryz.func94 rfl Tryz.ntmps94 rfl ?_
 unfold Ze at hF
 conv=>whnf
 refine Jm (enc:=Je) (l:=x0) rfl ?_
 conv=>whnf
 obtain⟨c1,hc_1,hF⟩:=Jr hF
 refine J1 0 (v:= .lst 3 (x0.map Je)) (by(conv=>lhs;whnf)<;>rfl) (fun hb=> ?_)
 have hbd_k_2:x0.length<=9223372036854775807:=Jz (enc:=Je) (hb)
 refine Jo Jc Ja (fun y:Nat=>y<=x0.length∧JW x1 (x0.drop y) y=some c1) (fun y=>⟨eL [(0,.lst 3 (x0.map Je)),(1,.fn 140 [.iptr [.int .i64 x1.Kind,.int .i64 x1.Node,.int .i64 x1.Window]]),(7,.int .i64 (x0.length:Int)),(8,.int .i64 (y:Int))],hL [],0⟩) (fun y=>x0.length - y) 0 ⟨Nat.zero_le _,hc_1⟩ (wK [] [] []) ?_
 rintro k2 ⟨hk_k_2,hL1⟩
 try dsimp only at hk_k_2 hL1
 show awp _ _ _ _ _ _ ⟨eL [(0,.lst 3 (x0.map Je)),(1,.fn 140 [.iptr [.int .i64 x1.Kind,.int .i64 x1.Node,.int .i64 x1.Window]]),(7,.int .i64 (x0.length:Int)),(8,.int .i64 (k2:Int))],hL [],0⟩
 conv=>whnf
 refine⟨fun h=> ?_,fun h=> ?_⟩
 have lk2:k2<x0.length:=by have h:=Wt h;omega
 obtain⟨e3,he3⟩:=ge lk2
 rw [Jl he3,JW.eq_2] at hL1
 conv=>whnf
 refine⟨k2,_,rfl,Jv he3,?_⟩
 conv=>whnf
 obtain⟨r4,hr4,hL1⟩:=bs' hL1
 refine cE (d0 0 Tryz.func140 (Jem e3 x1 r4 hr4)) ?_
 conv=>whnf
 refine xB hL1 (fun b7 hL1=> ?_) fun b7 hL1=> ?_
 conv=>whnf
 obtain rfl:=si hL1
 replace hF:=Jn hF
 obtain rfl:=si hF
 exact rZ
 conv=>whnf
 refine⟨((k2+1:Nat):Int),wE,?_⟩
 conv=>whnf
 exact⟨k2+1,_,_,_,⟨lk2,hL1⟩,sl lk2,wK [] [] []⟩
 rw [Jq (nl h),JW.eq_1] at hL1
 conv=>whnf
 obtain rfl:=si hL1
 replace hF:=Jw hF
 try dsimp only at hF
 obtain rfl:=si hF
 exact rZ
theorem Zd (x0:(List Fault)) (x1:Fault) (r:Bool) (hF:QO x0 x1=some r):AC Tryz.prog 48 [.lst 3 (x0.map Je),.fn 140 [.iptr [.int .i64 x1.Kind,.int .i64 x1.Node,.int .i64 x1.Window]]] [] (.bool r) ([]):=by
 refine Ju Jc Ja Tryz.func48 rfl Tryz.ntmps48 rfl ?_
 unfold QO at hF
 conv=>whnf
 obtain⟨r1,hr1,hF⟩:=bs' hF
 refine cE (d0 0 Tryz.func94 (JcM x0 x1 r1 hr1)) ?_
 conv=>whnf
 obtain rfl:=si hF
 exact rZ
theorem JaV (x0:(List Fault)) (r:(List Fault)) (hF:JaJ x0=some r):AC Tryz.prog 141 [.lst 3 (x0.map Je)] [] (.osl 0) ([.row 3 (r.map Je)]):=by
 refine Ju Jc Ja Tryz.func141 rfl Tryz.ntmps141 rfl ?_
 unfold JaJ at hF
 conv=>whnf
 intro b hb
 conv=>whnf
 refine⟨fun h=> ?_,fun h=> ?_⟩
 have hx:x0=[]:=List.map_eq_nil_iff.1 (hb h)
 subst hx
 obtain⟨h1,rfl⟩:=Jbr hF
 conv=>whnf
 exact Jk [] [0] [] rfl aZ ⟨Jci rfl,tv⟩
 conv=>whnf
 refine ZV (enc:=Je) (l:=([]:List Fault)) (y:=x0) hF rfl rfl (by decide) ?_
 conv=>whnf
 exact Jk [1] [] [] rfl (aO 1) ⟨bR,tv⟩
theorem JeQ (x0:View) (r:View) (hF:JaK x0=some r):AC Tryz.prog 99 [.agg (JaC x0)] [] (.fn 142 [.ptr 0 0]) ([.box (JaC r)]):=by
 refine Ju Jc Ja Tryz.func99 rfl Tryz.ntmps99 rfl ?_
 unfold JaK at hF
 conv=>whnf
 obtain rfl:=si hF
 exact Jk [0] [] [] rfl (Q4 (c:=[.ptr 0 0]) (by(conv=>lhs;whnf)<;>rfl) rfl ⟨(.ptr 0 0 0 rfl),tv⟩) ⟨bN,tv⟩
theorem Jg9 (v:View):∀(n:Nat) (kind w:Int) (acc z:List Report),Jfo v n kind w acc=some z->∃t,z=acc++t
 |0,kind,w,acc,z,h=>by simp [Jfo] at h
 |n+1,kind,w,acc,z,h=>by
  unfold Jfo at h
  obtain⟨m,hm,h⟩:=bs' h
  cases h1:decide (w<=m) with
  |false=>rw [h1] at h;exact⟨[],by cases h;simp⟩
  |true=>
   rw [h1] at h
   obtain⟨b,hb,h⟩:=bs' h
   cases b with
   |false=>exact⟨[],by cases h;simp⟩
   |true=>
    obtain⟨r,hr,h⟩:=bs' h
    obtain⟨t,rfl⟩:=Jg9 v n _ _ _ _ h
    exact⟨r::t,by simp⟩
theorem Jiw (v:View):∀(n:Nat) (kind:Int) (acc z:List Report),JdD v n kind acc=some z->∃t,z=acc++t
 |0,kind,acc,z,h=>by simp [JdD] at h
 |n+1,kind,acc,z,h=>by
  unfold JdD at h
  cases h1:decide (kind<=6) with
  |false=>rw [h1] at h;exact⟨[],by cases h;simp⟩
  |true=>
   rw [h1] at h
   obtain⟨a,ha,h⟩:=bs' h
   obtain⟨t,rfl⟩:=Jg9 v _ _ _ _ _ ha
   obtain⟨s,rfl⟩:=Jiw v n _ _ _ h
   exact⟨t++s,by simp⟩
def faL (ys:List Report):List (List AV):=ys.map fun r=>[.agg (JS r)]
theorem Juo {ys:List Report} {k:Nat} {args:List AV} (h:(faL ys)[k]? =some args):∃e,ys[k]? =some e∧args=[.agg (JS e)]:=by
 unfold faL at h
 rw [Wp] at h
 cases he:ys[k]? with
 |none=>rw [he] at h;cases h
 |some e=>rw [he] at h;exact⟨e,rfl,(si h).symm⟩
theorem Jq2 (ys:List Report):(faL ys).length=ys.length:=List.length_map _
theorem Js1 {ys:List Report}:∀args∈faL ys,args.length=1:=fun args h=>by
 obtain⟨k,hk⟩:=List.getElem?_of_mem h
 obtain⟨e,_,rfl⟩:=Juo hk
 rfl
theorem Jp3 {w:World} {F:Nat->Prop} {r:Report} {v:Value} (h:RV w F noB (.agg (JS r)) v):RV w (fun _=>False) noB (.agg (JS r)) v:=by
 cases h with
 |agg c cs hl hc=>
  refine .agg _ _ hl fun j u v hu hv=> ?_
  have:=hc j u v hu hv
  match j,hu with
  |0,hu=>cases hu;cases this;exact .int _ _
  |1,hu=>cases hu;cases this;exact .bool _
  |2,hu=>cases hu;cases this;exact .str _
def JcL (l:Nat) (v:View):List (Nat×AV):=[(0,.val (.func (.yield l) #[] #[])),(1,.iptr (JaC v))]
def Jwc (v:View) (ys:List Report) (l:Nat) (J:Nat->(Nat->Prop)->World->Prop) (n:Nat) (a:Act) (w:World):Prop:=∃kind acc F S,IV 27 (eL ((3,.int .i64 kind)::JcL l v)) F a w∧J acc.length S w∧(∀b,F b->¬S b)∧JdD v n kind acc=some ys
def fIn (v:View) (ys:List Report) (l:Nat) (J:Nat->(Nat->Prop)->World->Prop) (N n:Nat) (a:Act) (w:World):Prop:=∃kind q acc z F S,IV 27 (eL ((3,.int .i64 kind)::(4,.int .i64 q)::JcL l v)) F a w∧J acc.length S w∧(∀b,F b->¬S b)∧Jfo v n kind q acc=some z∧JdD v N (w64 (kind+1)) z=some ys
set_option maxRecDepth 100000 in
set_option maxHeartbeats 4000000 in
theorem JlO (v:View) (ys:List Report) (hys:Jap v=some ys):JrF Tryz.prog 142 [.iptr (JaC v)] (faL ys):=by
 intro l m cs J Jx hJ hJx hS hY W S F hJ0 hcs hgl hF
 obtain⟨c0,rfl⟩:∃c0,cs= #[c0]:=by
  have hs:cs.size=1:=hcs.1.symm
  exact⟨cs[0],by apply Array.ext;simp [hs];intro i h1 h2;simp at h2;subst h2;simp⟩
 have hc:=hcs.2 0 _ c0 rfl rfl
 refine calls_of_wp Tryz.func142 rfl ?_
 refine(wpIn_wide (n:=m+1)).1 ?_
 obtain⟨T0,hT0⟩:∃T0,T0=(#[Value.func (.yield l) #[] #[]]++ #[c0])++Array.replicate (27 - (#[Value.func (.yield l) #[] #[]]++ #[c0]).size) undef:=⟨_,rfl⟩
 have hs0:T0.size=27:=by rw [hT0];simp
 have g0:T0.getD 0 undef= .func (.yield l) #[] #[]:=by rw [hT0];simp
 have g1:T0.getD 1 undef=c0:=by rw [hT0];simp
 show Code.wpIn _ _ _ _ _ { tmps:=(#[Value.func (.yield l) #[] #[]]++ #[c0])++Array.replicate (27 - (#[Value.func (.yield l) #[] #[]]++ #[c0]).size) undef,defers:=[] } W
 rw [<-hT0]
 clear hT0
 have h0:IV 27 (eL (JcL l v)) F { tmps:=T0,defers:=[] } W:=by
  refine⟨hs0,rfl,fun t=> ?_,fun b hb=>(hF b hb).1,hgl⟩
  rcases Jbq (JcL l v) t with e |⟨p,hp,rfl,e⟩
  .
   rw [e];exact .any _
  .
   rw [e]
   simp only [JcL,List.mem_cons,List.not_mem_nil,or_false] at hp
   rcases hp with rfl |rfl
   .
    show RV W F noB (.val (.func (.yield l) #[] #[])) (T0.getD 0 undef)
    rw [g0]
    exact .val _
   .
    show RV W F noB (.iptr (JaC v)) (T0.getD 1 undef)
    rw [g1]
    exact hc
 clear g0 g1 hs0
 have app:∀{w w':World} {S F F':Nat->Prop} {k:Nat},J k S w->(∀b,F b->¬S b)->(∀b,F' b->F b∨w.heap.size<=b)->∀b,F' b->¬S b:=fun {w w' S F F' k} hj hFS hF' b hb hs=>by
  rcases hF' b hb with h |h
  .
   exact hFS b h hs
  .
   have:=hS _ _ _ _ hj hs;omega
 refine wpIn_seq ?_
 refine IVd.reg (K:=fun σ=>σ.env 0= .val (.func (.yield l) #[] #[])∧σ.env 1= .iptr (JaC v)∧σ.env 3= .int .i64 3) Jc h0 ?_ ?_
 .
  conv=>whnf
  exact⟨rfl,rfl,rfl⟩
 rintro σ1 a1 W1 F1 ⟨k0,k1,k3⟩ hiv hsame hFF hF1
 have hi1:=hiv (eL ((3,.int .i64 3)::JcL l v)) (JbD fun p hp=>by
  simp only [JcL,List.mem_cons,List.not_mem_nil,or_false] at hp
  rcases hp with rfl |rfl |rfl
  .
   exact⟨k3,rfl⟩
  .
   exact⟨k0,rfl⟩
  .
   exact⟨k1,rfl⟩)
 have hj1:=hJ _ _ _ _ hJ0 hsame
 have hS1:=app (w':=W1) hJ0 (fun b hb=>(hF b hb).2) hF1
 clear hiv k0 k1 k3 h0 hJ0 hcs hc hF hFF hF1 hsame
 refine wpIn_block ?_
 refine JfZ (Jwc v ys l J) 6 ⟨3,[],F1,S,hi1,hj1,hS1,hys⟩ ?_
 clear hi1 hj1 hS1
 rintro n a w ⟨kind,acc,F,S,hi,hj,hFS,hn⟩
 cases n with
 |zero=>simp [JdD] at hn
 |succ n=>
 unfold JdD at hn
 refine wpIn_seq ?_
 refine wpIn_seq ?_
 refine IVd.reg (K:=fun σ=>σ.env 0= .val (.func (.yield l) #[] #[])∧σ.env 1= .iptr (JaC v)∧σ.env 3= .int .i64 kind∧σ.env 6= .bool (decide (kind<=6))) Jc hi ?_ ?_
 .
  conv=>whnf
  exact⟨rfl,rfl,rfl,rfl⟩
 rintro σ1 a1 w1 F1 ⟨k0,k1,k3,k6⟩ hiv hsame hFF hF1
 have hj1:=hJ _ _ _ _ hj hsame
 have hS1:=app (w':=w1) hj hFS hF1
 have hi1:=hiv (eL ((6,.bool (decide (kind<=6)))::(3,.int .i64 kind)::JcL l v)) (JbD fun p hp=>by
  simp only [JcL,List.mem_cons,List.not_mem_nil,or_false] at hp
  rcases hp with rfl |rfl |rfl |rfl
  .
   exact⟨k6,rfl⟩
  .
   exact⟨k3,rfl⟩
  .
   exact⟨k0,rfl⟩
  .
   exact⟨k1,rfl⟩)
 have x6:=hi1.bool (t:=6) rfl
 have hb1:IV 27 (eL ((3,.int .i64 kind)::JcL l v)) F1 a1 w1:=hi1.re (fun p hp=>by
  simp only [JcL,List.mem_cons,List.not_mem_nil,or_false] at hp
  rcases hp with rfl |rfl |rfl<;>rfl)
 clear hiv hi hj hFS hFF hF1 hsame hi1 k0 k1 k3 k6
 cases hk6:decide (kind<=6) with
 |false=>
  rw [hk6] at hn x6
  refine wpIn_cond_false x6 (wpIn_exit ?_)
  obtain rfl:=si hn
  exact⟨hb1.defers,_,results_none rfl _ _ _,⟨_,rfl⟩,.inl ⟨S,by rw [Jq2];exact hj1⟩⟩
 |true=>
 rw [hk6] at hn x6
 refine wpIn_cond_true x6 (wpIn_skip ?_)
 have hq:=bs' hn
 clear hn
 obtain⟨z,hz,hn⟩:=hq
 refine wpIn_seq ?_
 refine wpIn_block ?_
 refine wpIn_seq ?_
 refine IVd.reg (K:=fun σ=>σ.env 0= .val (.func (.yield l) #[] #[])∧σ.env 1= .iptr (JaC v)∧σ.env 3= .int .i64 kind∧σ.env 4= .int .i64 0) Jc hb1 ?_ ?_
 .
  conv=>whnf
  exact⟨rfl,rfl,rfl,rfl⟩
 rintro σ2 a2 w2 F2 ⟨k0,k1,k3,k4⟩ hiv hsame hFF hF1
 have hj2:=hJ _ _ _ _ hj1 hsame
 have hS2:=app (w':=w2) hj1 hS1 hF1
 have hi2:=hiv (eL ((3,.int .i64 kind)::(4,.int .i64 0)::JcL l v)) (JbD fun p hp=>by
  simp only [JcL,List.mem_cons,List.not_mem_nil,or_false] at hp
  rcases hp with rfl |rfl |rfl |rfl
  .
   exact⟨k3,rfl⟩
  .
   exact⟨k4,rfl⟩
  .
   exact⟨k0,rfl⟩
  .
   exact⟨k1,rfl⟩)
 clear hiv hb1 hj1 hS1 hFF hF1 hsame k0 k1 k3 k4 x6
 refine wpIn_block ?_
 refine JfZ (fIn v ys l J n) 100 ⟨kind,0,acc,z,F2,S,hi2,hj2,hS2,hz,hn⟩ ?_
 clear hi2 hj2 hS2 hz hn
 clear hk6
 clear z acc kind F1 F2 S F
 rintro n2 a w ⟨kind,q,acc,z,F,S,hi,hj,hFS,hz,hn⟩
 cases n2 with
 |zero=>simp [Jfo] at hz
 |succ n2=>
 unfold Jfo at hz
 obtain⟨mo,hmo,hz⟩:=bs' hz
 obtain⟨bb,hb1,hb2,hb3,hb4⟩:∃bb:Bool,(decide (q<=mo)=true->ZJ v kind=some bb)∧(decide (q<=mo)=false->bb=false)∧(bb=false->z=acc)∧(bb=true->∃r,Qu v kind q=some r∧Jfo v n2 kind (w64 (q+1)) (acc++[r])=some z):=by
  cases h1:decide (q<=mo) with
  |false=>rw [h1] at hz;exact⟨false,fun h=>(by cases h),fun _=>rfl,fun _=>(si hz).symm,fun h=>by cases h⟩
  |true=>
   rw [h1] at hz
   obtain⟨b,hb,hz⟩:=bs' hz
   refine⟨b,fun _=>hb,fun h=>(by cases h),fun h=> ?_,fun h=> ?_⟩
   .
    subst h;exact(si hz).symm
   .
    subst h;exact bs' hz
 clear hz
 refine wpIn_seq ?_
 refine wpIn_seq ?_
 refine IVd.reg (K:=fun σ=>σ.env 0= .val (.func (.yield l) #[] #[])∧σ.env 1= .iptr (JaC v)∧σ.env 3= .int .i64 kind∧σ.env 4= .int .i64 q∧∃u,σ.env 17=u∧(u= .bool bb∨(u= .fls∧bb=false))) Jc hi ?_ ?_
 .
  conv=>whnf
  refine cE (d0 0 Tryz.func45 (Je6 kind mo hmo)) ?_
  conv=>whnf
  refine⟨fun h=> ?_,fun h=> ?_⟩
  .
   conv=>whnf
   refine cE (d0 0 Tryz.func47 (Jds v kind bb (hb1 h))) ?_
   conv=>whnf
   exact⟨rfl,rfl,rfl,rfl,_,rfl,.inl rfl⟩
  .
   conv=>whnf
   exact⟨rfl,rfl,rfl,rfl,_,rfl,.inr ⟨rfl,hb2 h⟩⟩
 rintro σ1 a1 w1 F1 ⟨k0,k1,k3,k4,u17,k17,hu⟩ hiv hsame hFF hF1
 have hj1:=hJ _ _ _ _ hj hsame
 have hS1:=app (w':=w1) hj hFS hF1
 have hi1:=hiv (eL ((17,u17)::(3,.int .i64 kind)::(4,.int .i64 q)::JcL l v)) (JbD fun p hp=>by
  simp only [JcL,List.mem_cons,List.not_mem_nil,or_false] at hp
  rcases hp with rfl |rfl |rfl |rfl |rfl
  .
   exact⟨k17,by rcases hu with rfl |⟨rfl,_⟩<;>rfl⟩
  .
   exact⟨k3,rfl⟩
  .
   exact⟨k4,rfl⟩
  .
   exact⟨k0,rfl⟩
  .
   exact⟨k1,rfl⟩)
 have x17:a1.tmps.getD 17 undef= .bool bb:=by
  have h:=hi1.env 17
  replace h:RV w1 F1 noB u17 (a1.tmps.getD 17 undef):=h
  generalize a1.tmps.getD 17 undef=x at h
  rcases hu with rfl |⟨rfl,rfl⟩<;>cases h<;>rfl
 have hc1:IV 27 (eL ((3,.int .i64 kind)::(4,.int .i64 q)::JcL l v)) F1 a1 w1:=hi1.re (fun p hp=>by
  simp only [JcL,List.mem_cons,List.not_mem_nil,or_false] at hp
  rcases hp with rfl |rfl |rfl |rfl<;>rfl)
 clear hiv hi hj hFS hFF hF1 hsame hi1 k0 k1 k3 k4 k17 hb1 hb2 hmo
 cases bb with
 |false=>
  obtain rfl:=hb3 rfl
  refine wpIn_cond_false x17 (wpIn_exit ?_)
  show Code.wpIn _ _ _ (Code.region _ _ _) _ a1 w1
  refine IVd.reg (K:=fun σ=>σ.env 0= .val (.func (.yield l) #[] #[])∧σ.env 1= .iptr (JaC v)∧σ.env 3= .int .i64 (w64 (kind+1))) Jc hc1 ?_ ?_
  .
   conv=>whnf
   refine⟨w64 (kind+1),rfl,?_⟩
   conv=>whnf
   exact⟨rfl,rfl,rfl⟩
  rintro σ5 a5 w5 F5 ⟨k0,k1,k3⟩ hiv hsame hFF hF1
  have hi5:=hiv (eL ((3,.int .i64 (w64 (kind+1)))::JcL l v)) (JbD fun p hp=>by
   simp only [JcL,List.mem_cons,List.not_mem_nil,or_false] at hp
   rcases hp with rfl |rfl |rfl
   .
    exact⟨k3,rfl⟩
   .
    exact⟨k0,rfl⟩
   .
    exact⟨k1,rfl⟩)
  exact⟨n,by omega,w64 (kind+1),z,F5,S,hi5,hJ _ _ _ _ hj1 hsame,app (w':=w5) hj1 hS1 hF1,hn⟩
 |true=>
 obtain⟨r,hr,hz⟩:=hb4 rfl
 refine wpIn_cond_true x17 (wpIn_skip ?_)
 refine wpIn_seq ?_
 refine wpIn_block ?_
 refine wpIn_seq ?_
 refine wpIn_region_list ?_
 refine IVd.ops (l:=[_,_,_,_,_]) (r:=[_,_]) (K:=fun σ=>σ.env 0= .val (.func (.yield l) #[] #[])∧σ.env 1= .iptr (JaC v)∧σ.env 3= .int .i64 kind∧σ.env 4= .int .i64 q∧σ.env 20= .val (.func (.yield l) #[] #[])∧σ.env 24= .agg (JS r)) Jc hc1 ?_ ?_
 .
  conv=>whnf
  refine cE (d0 0 Tryz.func51 (JcX v kind q r hr)) ?_
  conv=>whnf
  exact⟨rfl,rfl,rfl,rfl,rfl,rfl⟩
 rintro σ2 a2 w2 F2 ⟨k0,k1,k3,k4,k20,k24⟩ hiv hsame hFF hF1
 have hj2:=hJ _ _ _ _ hj1 hsame
 have hS2:=app (w':=w2) hj1 hS1 hF1
 have hi2:=hiv (eL ((20,.val (.func (.yield l) #[] #[]))::(24,.agg (JS r))::(3,.int .i64 kind)::(4,.int .i64 q)::JcL l v)) (JbD fun p hp=>by
  simp only [JcL,List.mem_cons,List.not_mem_nil,or_false] at hp
  rcases hp with rfl |rfl |rfl |rfl |rfl |rfl
  .
   exact⟨k20,rfl⟩
  .
   exact⟨k24,rfl⟩
  .
   exact⟨k3,rfl⟩
  .
   exact⟨k4,rfl⟩
  .
   exact⟨k0,rfl⟩
  .
   exact⟨k1,rfl⟩)
 have hc2:IV 27 (eL ((3,.int .i64 kind)::(4,.int .i64 q)::JcL l v)) F2 a2 w2:=hi2.re (fun p hp=>by
  simp only [JcL,List.mem_cons,List.not_mem_nil,or_false] at hp
  rcases hp with rfl |rfl |rfl |rfl<;>rfl)
 have x20:=hi2.val (t:=20) rfl
 have x24:RV w2 F2 noB (.agg (JS r)) (a2.tmps.getD 24 undef):=hi2.env 24
 have hbk:(faL ys)[acc.length]? =some [.agg (JS r)]:=by
  obtain⟨t,rfl⟩:=Jg9 v _ _ _ _ _ hz
  obtain⟨s,rfl⟩:=Jiw v _ _ _ _ hn
  simp [faL]
 clear hiv hi2 k0 k1 k3 k4 k20 k24 hsame hFF hF1 hj1 hS1 hc1
 refine JkT (l:=l) (vs:= #[a2.tmps.getD 24 undef]) rfl rfl x20 ?_ (hY acc.length S w2 _ _ hj2 hbk ⟨rfl,fun j u v hu hv=> ?_⟩) ?_
 .
  rw [show (#[Operand.tmp 24]:Array Operand).map a2.eval= #[a2.eval (.tmp 24)] from by simp]
  rfl
 .
  match j,hu,hv with
  |0,hu,hv=>cases hu;cases hv;exact Jp3 x24
 have hsz2:=hc2.size
 rintro ee W' (⟨rfl,hge,hsm,S',hj3,hS3⟩|⟨rfl,hx⟩)
 .
  refine⟨true,rfl,Jj7 rfl rfl (show (a2.put (some 25) _).tmps.getD 25 undef= .bool true from JfD (by omega)) (wpListIn_nil ?_)⟩
  have hF3:∀b,F2 b->W'.heap[b]? =w2.heap[b]? :=fun b hb=>hsm b (hc2.fr b hb) (hS2 b hb)
  have hi3:=((hc2.world hge hF3).put (d:=25) (x:= .bool true) (v:= .bool true) (by omega) (.bool _)).put (d:=26) (x:= .bool false) (v:= .bool false) (by omega) (.bool _)
  refine wpIn_cond_false (hi3.bool (t:=26) rfl) (wpIn_skip ?_)
  have hi4:IV 27 (eL ((3,.int .i64 kind)::(4,.int .i64 q)::JcL l v)) F2 ((a2.put (some 25) (.bool true)).put (some 26) (.bool false)) W':=by
   refine⟨hi3.size,hi3.defers,fun t=> ?_,hi3.fr,hi3.glo⟩
   have:=hi3.env t
   by_cases h18:t=26
   .
    subst h18;exact .any _
   .
    by_cases h17:t=25
    .
     subst h17;exact .any _
    .
     rw [Jc6 _ _ h18,Jc6 _ _ h17] at this
     exact this
  refine IVd.reg (K:=fun σ=>σ.env 0= .val (.func (.yield l) #[] #[])∧σ.env 1= .iptr (JaC v)∧σ.env 3= .int .i64 kind∧σ.env 4= .int .i64 (w64 (q+1))) Jc hi4 ?_ ?_
  .
   conv=>whnf
   refine⟨w64 (q+1),rfl,?_⟩
   conv=>whnf
   exact⟨rfl,rfl,rfl,rfl⟩
  rintro σ5 a5 w5 F5 ⟨k0,k1,k3,k4⟩ hiv hsame hFF hF1
  have hi5:=hiv (eL ((3,.int .i64 kind)::(4,.int .i64 (w64 (q+1)))::JcL l v)) (JbD fun p hp=>by
   simp only [JcL,List.mem_cons,List.not_mem_nil,or_false] at hp
   rcases hp with rfl |rfl |rfl |rfl
   .
    exact⟨k3,rfl⟩
   .
    exact⟨k4,rfl⟩
   .
    exact⟨k0,rfl⟩
   .
    exact⟨k1,rfl⟩)
  refine⟨n2,by omega,kind,w64 (q+1),acc++[r],z,F5,S',hi5,by simpa using hJ _ _ _ _ hj3 hsame,fun b hb hs=> ?_,hz,hn⟩
  rcases hF1 b hb with h |h
  .
   rcases hS3 b hs with q |q
   .
    exact hS2 b h q
   .
    have:=hc2.fr b h;omega
  .
   have:=hS _ _ _ _ hj3 hs;omega
 .
  refine⟨false,rfl,Jj7 rfl rfl (show (a2.put (some 25) _).tmps.getD 25 undef= .bool false from JfD (by omega)) (wpListIn_nil ?_)⟩
  refine wpIn_cond_true (show ((a2.put (some 25) _).put (some 26) _).tmps.getD 26 undef= .bool true from JfD (by simp [Act.put];omega)) (wpIn_ret ?_)
  exact⟨hc2.defers,_,results_none rfl _ _ _,⟨_,rfl⟩,.inr hx⟩
theorem Jh3 (x0:Layout) (x1:Plant) (x2:(List Plate)) (x3:Report) (r:Int×Bool) (hF:JcF x0 x1 x2 x3=some r):AC Tryz.prog 55 [.agg (JC x0),.agg (Qi x1),.lst 3 (x2.map JJ),.agg (JS x3)] [] (.tup [.int .i64 r.1,.bool r.2]) ([]):=by
 refine Ju Jc Ja Tryz.func55 rfl Tryz.ntmps55 rfl ?_
 unfold JcF at hF
 conv=>whnf
 refine⟨fun b10=> ?_,fun b10=> ?_⟩
 replace hF:=cf b10 hF
 conv=>whnf
 refine Jm (enc:=Jd) (l:=x0.Devices) rfl ?_
 conv=>whnf
 refine xB hF (fun b11 hF=> ?_) fun b11 hF=> ?_
 conv=>whnf
 obtain rfl:=si hF
 exact Jk [] [] [] rfl (Qh rfl ⟨aq,aF,tv⟩) trivial
 conv=>whnf
 obtain⟨e1,he1,hF⟩:=bs' hF
 refine JZ (enc:=Jd) (l:=x0.Devices) he1 rfl (fun m_e_1 hm_e_1 hx_e_1=> ?_)
 conv=>whnf
 refine⟨fun b12=> ?_,fun b12=> ?_⟩
 replace hF:=cf b12 hF
 conv=>whnf
 refine Jm (enc:=(lA 1 iA)) (l:=x1.Slots) rfl ?_
 conv=>whnf
 refine⟨fun b13=> ?_,fun b13=> ?_⟩
 replace hF:=cf b13 hF
 conv=>whnf
 refine⟨fun b14=> ?_,fun b14=> ?_⟩
 replace hF:=cf b14 hF
 conv=>whnf
 obtain⟨e2,he2,hF⟩:=bs' hF
 refine JZ (enc:=(lA 1 iA)) (l:=x1.Slots) he2 rfl (fun m_e_2 hm_e_2 hx_e_2=> ?_)
 conv=>whnf
 refine Jm (enc:=iA) (l:=e2) rfl ?_
 conv=>whnf
 refine⟨by kernel_rfl,?_⟩
 conv=>whnf
 refine xB hF (fun b15 hF=> ?_) fun b15 hF=> ?_
 conv=>whnf
 obtain rfl:=si hF
 exact Jk [] [] [] rfl (Qh rfl ⟨aq,aF,tv⟩) trivial
 conv=>whnf
 obtain⟨r3,hr3,hF⟩:=bs' hF
 refine cE (d0 0 Tryz.func46 (JbU x0 x1 x2 x3.Device r3 hr3)) ?_
 conv=>whnf
 obtain⟨r4,hr4,hF⟩:=bs' hF
 refine cE (d0 0 Tryz.func50 (Ja4 r3 r4 hr4)) ?_
 conv=>whnf
 refine⟨by kernel_rfl,?_⟩
 conv=>whnf
 refine xB hF (fun b16 hF=> ?_) fun b16 hF=> ?_
 conv=>whnf
 obtain rfl:=si hF
 exact Jk [] [] [] rfl (Qh rfl ⟨aq,aT,tv⟩) trivial
 conv=>whnf
 obtain⟨r5,hr5,hF⟩:=bs' hF
 refine cE (d0 1 Tryz.func99 (JeQ r3 r5 hr5) ⟨rfl,tv⟩) ?_
 conv=>whnf
 obtain⟨l6,hl6,hF⟩:=bs' hF
 obtain⟨c1,hc_1,hF⟩:=Jr hF
 refine Jk3 Jc Ja (eL [(7,.ptr 0 0),(8,.ptr 1 0),(9,.ptr 2 0),(69,.fn 142 [.iptr [.int .i64 r5.device,.int .i64 r5.kind,.int .i64 r5.bag,.str r5.text]])]) 3 (fun y:Unit=>hL [(0,.box [.int .i64 x3.Device,.bool x3.Seen,.str x3.Read]),(1,.box [.int .i64 0]),(2,.box [.fls])]) (fun k_ y=>k_<=l6.length∧Jae x3 (l6.drop k_) k_=some c1) () ⟨Nat.zero_le _,hc_1⟩ (JoZ [2,3,4] [] [9] rfl ⟨aP 2,aP 3,aP 4,Q4 (c:=[.ptr 9 0]) (by(conv=>lhs;whnf)<;>rfl) rfl ⟨(YT 9 _ rfl rfl rfl rfl rfl),tv⟩,tv⟩ ⟨bN,bN,bN,tv⟩) rfl rfl (JlO r5 l6 hl6) (enters_of Tryz.func142 (by kernel_rfl) rfl) rfl rfl (by decide) Js1 (fun y id h_=>JnG (by rfl) id h_) ?_ ?_
 rintro k8 _ args_ ⟨hk_k_8,hL1⟩ hargs_
 try dsimp only at hL1
 obtain⟨e7,he_e_7,hz_e_7⟩:=Juo hargs_
 subst hz_e_7
 rw [Jl he_e_7,Jae.eq_2] at hL1
 show awp _ _ _ _ _ _ ⟨_,hL [(0,.box [.int .i64 x3.Device,.bool x3.Seen,.str x3.Read]),(1,.box [.int .i64 0]),(2,.box [.fls])],3⟩
 conv=>whnf
 refine xB hL1 (fun b17 hL1=> ?_) fun b17 hL1=> ?_
 conv=>whnf
 refine⟨hL [(0,.box [.int .i64 x3.Device,.bool x3.Seen,.str x3.Read]),(1,.box [.int .i64 1]),(2,.box [.tru])],[0,1,2],[],[],wK [0,1,2] [] [],?_⟩
 conv=>whnf
 obtain rfl:=si hL1
 replace hF:=Jn hF
 obtain rfl:=si hF
 exact Jk [] [] [] rfl (Qh rfl ⟨aq,aT,tv⟩) trivial
 conv=>whnf
 exact⟨(),_,_,_,⟨Yt he_e_7,hL1⟩,wK [0,1,2] [] []⟩
 rintro z10 ⟨_,hL1⟩
 rw [Jq (Nat.le_of_eq (Jq2 l6).symm),Jae.eq_1] at hL1
 obtain rfl:=si hL1
 replace hF:=Jw hF
 try dsimp only at hF
 conv=>whnf
 obtain rfl:=si hF
 exact Jk [] [] [] rfl (Qh rfl ⟨aq,aF,tv⟩) trivial
 replace hF:=ct b14 hF
 conv=>whnf
 refine⟨by kernel_rfl,?_⟩
 conv=>whnf
 obtain rfl:=si hF
 exact Jk [] [] [] rfl (Qh rfl ⟨aq,aF,tv⟩) trivial
 replace hF:=ct b13 hF
 conv=>whnf
 refine⟨by kernel_rfl,?_⟩
 conv=>whnf
 obtain rfl:=si hF
 exact Jk [] [] [] rfl (Qh rfl ⟨aq,aF,tv⟩) trivial
 replace hF:=ct b12 hF
 conv=>whnf
 refine⟨by kernel_rfl,?_⟩
 conv=>whnf
 obtain rfl:=si hF
 exact Jk [] [] [] rfl (Qh rfl ⟨aq,aF,tv⟩) trivial
 replace hF:=ct b10 hF
 conv=>whnf
 obtain rfl:=si hF
 exact Jk [] [] [] rfl (Qh rfl ⟨aq,aF,tv⟩) trivial
theorem Jg3 (x0:Plant) (x1:(List Report)) (x2:Layout) (x3:(List Plate)) (x4:Belief) (r:Int×Bool) (hF:Z3 x0 x1 x2 x3 x4=some r):AC Tryz.prog 54 [.agg (Qi x0),.iptr [.lst 3 (x1.map JS)],.iptr [.lst 5 (x2.Nodes.map Jb),.lst 3 (x2.Devices.map Jd)],.iptr [.lst 3 (x3.map JJ)],.iptr [.int .i64 x4.Budget,.lst 3 (x4.L.map Jg)]] [] (.tup [.int .i64 r.1,.bool r.2]) ([]):=by
 refine Ju Jc Ja Tryz.func54 rfl Tryz.ntmps54 rfl ?_
 unfold Z3 at hF
 conv=>whnf
 refine Jm (enc:=JS) (l:=x1) rfl ?_
 conv=>whnf
 obtain⟨c1,hc_1,hF⟩:=Jr hF
 refine J1 1 (v:= .iptr [.lst 3 (x1.map JS)]) (by(conv=>lhs;whnf)<;>rfl) (fun hb=> ?_)
 have hbd_k_3:x1.length<=9223372036854775807:=Jz (enc:=JS) ((YC hb.icell 0 rfl))
 refine Jo Jc Ja (fun y:Nat×Int=>y.1<=x1.length∧Ya x0 x2 x3 x4 (x1.drop y.1) y.1 y.2=some c1) (fun y=>⟨eL [(2,.iptr [.lst 5 (x2.Nodes.map Jb),.lst 3 (x2.Devices.map Jd)]),(3,.iptr [.lst 3 (x3.map JJ)]),(4,.iptr [.int .i64 x4.Budget,.lst 3 (x4.L.map Jg)]),(5,.ptr 0 0),(8,.int .i64 y.2),(13,.lst 3 (x1.map JS)),(14,.int .i64 (x1.length:Int)),(15,.int .i64 (y.1:Int))],hL [(0,.box [.lst 1 (x0.Slots.map (lA 1 iA)),.lst 1 (x0.Bins.map (lA 1 iA))])],1⟩) (fun y=>x1.length - y.1) (0,0) ⟨Nat.zero_le _,hc_1⟩ (wK [0] [] []) ?_
 rintro⟨k_3,i1⟩ ⟨hk_k_3,hL1⟩
 try dsimp only at hk_k_3 hL1
 show awp _ _ _ _ _ _ ⟨eL [(2,.iptr [.lst 5 (x2.Nodes.map Jb),.lst 3 (x2.Devices.map Jd)]),(3,.iptr [.lst 3 (x3.map JJ)]),(4,.iptr [.int .i64 x4.Budget,.lst 3 (x4.L.map Jg)]),(5,.ptr 0 0),(8,.int .i64 i1),(13,.lst 3 (x1.map JS)),(14,.int .i64 (x1.length:Int)),(15,.int .i64 (k_3:Int))],hL [(0,.box [.lst 1 (x0.Slots.map (lA 1 iA)),.lst 1 (x0.Bins.map (lA 1 iA))])],1⟩
 conv=>whnf
 refine⟨fun h=> ?_,fun h=> ?_⟩
 have lk3:k_3<x1.length:=by have h:=Wt h;omega
 obtain⟨e4,he4⟩:=ge lk3
 rw [Jl he4,Ya.eq_2] at hL1
 conv=>whnf
 refine⟨k_3,_,rfl,Jv he4,?_⟩
 conv=>whnf
 obtain⟨r5,hr5,hL1⟩:=bs' hL1
 refine cE (d0 0 Tryz.func55 (Jh3 x2 x0 x3 e4 r5 hr5)) ?_
 conv=>whnf
 refine⟨_,rfl,?_⟩
 conv=>whnf
 refine⟨fun b11=> ?_,fun b11=> ?_⟩
 replace hL1:=cf b11 hL1
 conv=>whnf
 refine xB hL1 (fun b12 hL1=> ?_) fun b12 hL1=> ?_
 conv=>whnf
 obtain rfl:=si hL1
 replace hF:=Jn hF
 obtain rfl:=si hF
 exact Jk [] [] [] rfl (Qh rfl ⟨aq,aF,tv⟩) trivial
 conv=>whnf
 refine⟨((k_3+1:Nat):Int),wE,?_⟩
 conv=>whnf
 exact⟨(k_3+1,(w64 (i1+r5.1))),_,_,_,⟨lk3,hL1⟩,sl lk3,wK [0] [] []⟩
 replace hL1:=ct b11 hL1
 conv=>whnf
 obtain rfl:=si hL1
 replace hF:=Jn hF
 obtain rfl:=si hF
 exact Jk [] [] [] rfl (Qh rfl ⟨aq,aF,tv⟩) trivial
 rw [Jq (nl h),Ya.eq_1] at hL1
 conv=>whnf
 obtain rfl:=si hL1
 replace hF:=Jw hF
 try dsimp only at hF
 obtain rfl:=si hF
 exact Jk [] [] [] rfl (Qh rfl ⟨aq,aT,tv⟩) trivial
theorem JpV (x0:Plan) (x1:Plant) (x2:(List Int)) (x3:(List Fault)) (r:Plant×(List Passage)) (hF:J6 x0 x1 x2 x3=some r):AC Tryz.prog 41 [.iptr [.lst 5 (x0.L.Nodes.map Jb),.lst 3 (x0.L.Devices.map Jd),.lst 1 (x0.order.map iA)],.agg (Qi x1),.lst 1 (x2.map iA),.lst 3 (x3.map Je)] [] (.tup [.agg (Qi r.1),.lst 3 (r.2.map JH)]) []:=
 Jn7 (Jc0 x0 x1 x2 x3 r hF) [] [] [0,1,2] rfl (Qh rfl ⟨(Jm4 rfl ⟨(.nest 0 _ (by simp) rfl),(.nest 1 _ (by simp) rfl),tv⟩),(Jrx 2 rfl rfl rfl (QI (fun _=>⟨rfl,rfl⟩) _)),tv⟩) trivial
abbrev Jk7 (rs:List Report) (ly:Layout) (ps:List Plate) (b:Belief):List AV:=[.iptr [.lst 3 (rs.map JS)],.iptr [.lst 5 (ly.Nodes.map Jb),.lst 3 (ly.Devices.map Jd)],.iptr [.lst 3 (ps.map JJ)],.iptr [.int .i64 b.Budget,.lst 3 (b.L.map Jg)]]
abbrev JbV (rs:List Report) (ly:Layout) (ps:List Plate) (b:Belief) (e:Plan) (cmds:List Int) (bud:Int):List AV:=[.iptr [.lst 5 (e.L.Nodes.map Jb),.lst 3 (e.L.Devices.map Jd),.lst 1 (e.order.map iA)],.ptr 1 0,.lst 1 (cmds.map iA),.int .i64 bud,.fn 54 (Jk7 rs ly ps b)]
theorem Jfi (rs:List Report) (ly:Layout) (ps:List Plate) (b:Belief) (e:Plan) (cmds:List Int) (bud:Int) (h:Hypothesis) (n:Nat):∀(others fs:List Fault) (m:List (ByteArray×Int)) (l:List Hypothesis) (r:List (ByteArray×Int)×List Hypothesis),Qz rs ly ps b e cmds bud h n others fs m l=some r->
  AC Tryz.prog 97 [.ptr 0 0,.agg (Jg h),.lst 3 (others.map Je),.lst 3 (fs.map Je)] [.box (JbV rs ly ps b e cmds bud),.box [.mp 2,.osl 3],.obj (YR m),.row 3 (l.map Jg)] (.tup []) [.box (JbV rs ly ps b e cmds bud),.box [.mp 2,.osl 4],.obj (YR r.1),.dead,.row 3 (r.2.map Jg)]:=by
 induction n with
 |zero=>intro others fs m l r hF;simp [Qz] at hF
 |succ n ih=>
 intro others fs m l r hF
 unfold Qz at hF
 refine Ju Jc Ja Tryz.func97 rfl Tryz.ntmps97 rfl ?_
 conv=>whnf
 refine Jm (enc:=Jg) (l:=l) rfl ?_
 conv=>whnf
 refine xB hF (fun hb hF=> ?_) fun hb hF=> ?_
 .
  obtain rfl:=si hF
  conv=>whnf
  exact Jk [0,1,2,3,3] [] [] rfl (.ni _ rfl) ⟨Jy rfl rfl rfl ⟨(.ni _ rfl),JN (id:=1) rfl rfl,(.ni _ rfl),(.ni _ rfl),(.ni _ rfl),tv⟩,Jy rfl rfl rfl ⟨Jcy (id:=2) rfl rfl,Zx (id:=3) rfl rfl,tv⟩,⟨_,_,rfl,rfl,fun _ h=>h⟩,trivial,bR,tv⟩
 conv=>whnf
 obtain⟨s,hs,hF⟩:=bs' hF
 refine cE (d0 0 Tryz.func41 (JpV e h.Plant cmds fs s hs)) ?_
 conv=>whnf
 refine⟨by kernel_rfl,?_⟩
 conv=>whnf
 obtain⟨c,hc,hF⟩:=bs' hF
 refine cE (d0 0 Tryz.func54 (Jg3 s.1 rs ly ps b c hc)) ?_
 conv=>whnf
 refine⟨by kernel_rfl,?_⟩
 conv=>whnf
 refine⟨fun hb2=> ?_,fun hb2=> ?_⟩
 .
  conv=>whnf
  refine Jm (enc:=Je) (l:=fs) rfl ?_
  conv=>whnf
  refine⟨w64 (h.Used+(fs.length:Int)),rfl,?_⟩
  conv=>whnf
  refine⟨w64 (w64 (h.Used+(fs.length:Int))+c.1),rfl,?_⟩
  conv=>whnf
  refine⟨by kernel_rfl,?_⟩
  conv=>whnf
  refine⟨fun hb3=> ?_,fun hb3=> ?_⟩
  .
   obtain⟨ml,hml,hF⟩:=bs' hF
   rw [hb2,hb3] at hml
   conv=>whnf
   refine Jm (enc:=Je) (l:=fs) rfl ?_
   conv=>whnf
   refine⟨w64 (h.Used+(fs.length:Int)),rfl,?_⟩
   conv=>whnf
   refine⟨w64 (w64 (h.Used+(fs.length:Int))+c.1),rfl,?_⟩
   conv=>whnf
   refine cE (dY false [.box [.mp 2,.osl 8],.obj (YR ml.1),.dead,.row 3 (ml.2.map Jg)] [1,2,3] [] 1 Tryz.func71 (JbL m l s.1 _ ml hml) ⟨rfl,rfl,gR,tv⟩ Qd ⟨rfl,rfl,rfl,rR,tv⟩) ?_
   conv=>whnf
   refine⟨by kernel_rfl,?_⟩
   conv=>whnf
   replace hF:=hF
   refine Jm (enc:=Je) (l:=fs) rfl ?_
   conv=>whnf
   refine⟨w64 (h.Used+(fs.length:Int)),rfl,?_⟩
   conv=>whnf
   refine⟨by kernel_rfl,?_⟩
   conv=>whnf
   refine xB hF (fun hb4 hF=> ?_) fun hb4 hF=> ?_
   .
    obtain rfl:=si hF
    conv=>whnf
    exact Jk [0,1,2,3,8] [] [] rfl (.ni _ rfl) ⟨Jy rfl rfl rfl ⟨(.ni _ rfl),JN (id:=1) rfl rfl,(.ni _ rfl),(.ni _ rfl),(.ni _ rfl),tv⟩,Jy rfl rfl rfl ⟨Jcy (id:=2) rfl rfl,Zx (id:=8) rfl rfl,tv⟩,⟨_,_,rfl,rfl,fun _ h=>h⟩,trivial,bR,tv⟩
   conv=>whnf
   refine Jm (enc:=Je) (l:=others) rfl ?_
   conv=>whnf
   refine J1 85 (v:= .lst 3 (others.map Je)) (by(conv=>lhs;whnf)<;>rfl) (fun hbv=> ?_)
   have hlen:others.length<=9223372036854775807:=Jz (enc:=Je) hbv
   refine Jo Jc Ja (fun y:Nat×List (ByteArray×Int)×List Hypothesis=>y.1<=others.length∧Jcf (Qz rs ly ps b e cmds bud h n) fs (others.drop y.1) y.2.1 y.2.2=some r) (fun y=>⟨eL [(0,.ptr 0 0),(2,.lst 3 (others.map Je)),(3,.lst 3 (fs.map Je)),(5,.ptr 5 0),(85,.lst 3 (others.map Je)),(86,.int .i64 (others.length:Int)),(87,.int .i64 (y.1:Int))],hL [(0,.box (JbV rs ly ps b e cmds bud)),(1,.box [.mp 2,.osl 4]),(2,.obj (YR y.2.1)),(4,.row 3 (y.2.2.map Jg)),(5,.box (Jg h))],6⟩) (fun y=>others.length - y.1) (0,ml.1,ml.2) ⟨Nat.zero_le _,hF⟩ (wK [0,1,2,3,8,4] [] [] ⟨Jy rfl rfl rfl ⟨(.ni _ rfl),JN (id:=1) rfl rfl,(.ni _ rfl),(.ni _ rfl),(.ni _ rfl),tv⟩,Jy rfl rfl rfl ⟨Jcy (id:=2) rfl rfl,Zx (id:=8) rfl rfl,tv⟩,Jav rfl rfl,bR,bN,tv⟩) ?_
   rintro⟨k,m1,l1⟩ ⟨hk,hG⟩
   try dsimp only at hk hG
   show awp _ _ _ _ _ _ ⟨eL [(0,.ptr 0 0),(2,.lst 3 (others.map Je)),(3,.lst 3 (fs.map Je)),(5,.ptr 5 0),(85,.lst 3 (others.map Je)),(86,.int .i64 (others.length:Int)),(87,.int .i64 (k:Int))],hL [(0,.box (JbV rs ly ps b e cmds bud)),(1,.box [.mp 2,.osl 4]),(2,.obj (YR m1)),(4,.row 3 (l1.map Jg)),(5,.box (Jg h))],6⟩
   conv=>whnf
   refine⟨fun hb5=> ?_,fun hb5=> ?_⟩
   .
    have hlt:k<others.length:=by have h:=Wt hb5;omega
    obtain⟨f,hf⟩:=ge hlt
    rw [Jl hf] at hG
    unfold Jcf at hG
    conv=>whnf
    refine⟨k,_,rfl,Jv hf,?_⟩
    conv=>whnf
    obtain⟨bb,hbb,hG⟩:=bs' hG
    refine cE (cX false [] [6] 0 Tryz.func48 (Zd fs f bb hbb) ⟨aq,(Q4 (c:=[.ptr 6 0]) (by(conv=>lhs;whnf)<;>rfl) rfl ⟨(YT 6 _ rfl rfl rfl rfl rfl),tv⟩),tv⟩ trivial (YJ rfl trivial) trivial) ?_
    conv=>whnf
    refine xB hG (fun hb6 hG=> ?_) fun hb6 hG=> ?_
    .
     conv=>whnf
     refine⟨((k+1:Nat):Int),wE,?_⟩
     conv=>whnf
     refine⟨k+1,rfl,?_⟩
     conv=>whnf
     refine⟨by rw [List.length_map];omega,Nat.le_refl _,(others.drop (k+1)).map Je,by rw [<-List.map_drop,List.take_of_length_le (by simp)],?_⟩
     conv=>whnf
     obtain⟨a1,ha1,hG⟩:=bs' hG
     refine cE (d0 1 Tryz.func141 (JaV fs a1 ha1) ⟨rR,tv⟩) ?_
     conv=>whnf
     obtain⟨a2,ha2,hG⟩:=bs' hG
     refine ZV (enc:=Je) (l:=a1) (y:=([f]:List Fault)) ha2 rfl rfl (by decide) ?_
     conv=>whnf
     obtain⟨ml2,hml2,hG⟩:=bs' hG
     refine cE (dY true [.box (JbV rs ly ps b e cmds bud),.box [.mp 2,.osl 12],.obj (YR ml2.1),.dead,.row 3 (ml2.2.map Jg)] [0,1,2,4] [11] 1 Tryz.func97 (ih (others.drop (k+1)) a2 m1 l1 ml2 hml2) ⟨rfl,rfl,rfl,gR,tv⟩ JdU ⟨rfl,rfl,rfl,rfl,rR,tv⟩) ?_
     conv=>whnf
     refine⟨by kernel_rfl,?_⟩
     conv=>whnf
     refine⟨((k+1:Nat):Int),wE,?_⟩
     conv=>whnf
     exact⟨(k+1,ml2.1,ml2.2),_,_,_,⟨hlt,hG⟩,sl hlt,wK [0,1,2,3,12,5] [] [] ⟨Jy rfl rfl rfl ⟨(.ni _ rfl),JN (id:=1) rfl rfl,(.ni _ rfl),(.ni _ rfl),(.ni _ rfl),tv⟩,Jy rfl rfl rfl ⟨Jcy (id:=2) rfl rfl,Zx (id:=12) rfl rfl,tv⟩,Jav rfl rfl,bR,bN,tv⟩⟩
    .
     conv=>whnf
     refine⟨((k+1:Nat):Int),wE,?_⟩
     conv=>whnf
     exact⟨(k+1,m1,l1),_,_,_,⟨hlt,hG⟩,sl hlt,wK [0,1,2,3,4,5] [] [] ⟨Jy rfl rfl rfl ⟨(.ni _ rfl),JN (id:=1) rfl rfl,(.ni _ rfl),(.ni _ rfl),(.ni _ rfl),tv⟩,Jy rfl rfl rfl ⟨Jcy (id:=2) rfl rfl,Zx (id:=4) rfl rfl,tv⟩,Jav rfl rfl,bR,bN,tv⟩⟩
   .
    rw [Jq (show others.length<=k by have h:=Wf hb5;omega)] at hG
    unfold Jcf at hG
    conv=>whnf
    obtain rfl:=si hG
    exact Jk [0,1,2,3,4] [] [] rfl (.ni _ rfl) ⟨Jy rfl rfl rfl ⟨(.ni _ rfl),JN (id:=1) rfl rfl,(.ni _ rfl),(.ni _ rfl),(.ni _ rfl),tv⟩,Jy rfl rfl rfl ⟨Jcy (id:=2) rfl rfl,Zx (id:=4) rfl rfl,tv⟩,⟨_,_,rfl,rfl,fun _ h=>h⟩,trivial,bR,tv⟩
  .
   obtain⟨ml,hml,hF⟩:=bs' hF
   rw [hb2,hb3] at hml
   obtain rfl:=si hml
   try dsimp only at hF
   conv=>whnf
   refine Jm (enc:=Je) (l:=fs) rfl ?_
   conv=>whnf
   refine⟨w64 (h.Used+(fs.length:Int)),rfl,?_⟩
   conv=>whnf
   refine⟨by kernel_rfl,?_⟩
   conv=>whnf
   refine xB hF (fun hb4 hF=> ?_) fun hb4 hF=> ?_
   .
    obtain rfl:=si hF
    conv=>whnf
    exact Jk [0,1,2,3,3] [] [] rfl (.ni _ rfl) ⟨Jy rfl rfl rfl ⟨(.ni _ rfl),JN (id:=1) rfl rfl,(.ni _ rfl),(.ni _ rfl),(.ni _ rfl),tv⟩,Jy rfl rfl rfl ⟨Jcy (id:=2) rfl rfl,Zx (id:=3) rfl rfl,tv⟩,⟨_,_,rfl,rfl,fun _ h=>h⟩,trivial,bR,tv⟩
   conv=>whnf
   refine Jm (enc:=Je) (l:=others) rfl ?_
   conv=>whnf
   refine J1 85 (v:= .lst 3 (others.map Je)) (by(conv=>lhs;whnf)<;>rfl) (fun hbv=> ?_)
   have hlen:others.length<=9223372036854775807:=Jz (enc:=Je) hbv
   refine Jo Jc Ja (fun y:Nat×List (ByteArray×Int)×List Hypothesis=>y.1<=others.length∧Jcf (Qz rs ly ps b e cmds bud h n) fs (others.drop y.1) y.2.1 y.2.2=some r) (fun y=>⟨eL [(0,.ptr 0 0),(2,.lst 3 (others.map Je)),(3,.lst 3 (fs.map Je)),(5,.ptr 5 0),(85,.lst 3 (others.map Je)),(86,.int .i64 (others.length:Int)),(87,.int .i64 (y.1:Int))],hL [(0,.box (JbV rs ly ps b e cmds bud)),(1,.box [.mp 2,.osl 4]),(2,.obj (YR y.2.1)),(4,.row 3 (y.2.2.map Jg)),(5,.box (Jg h))],6⟩) (fun y=>others.length - y.1) (0,m,l) ⟨Nat.zero_le _,hF⟩ (wK [0,1,2,3,3,4] [] [] ⟨Jy rfl rfl rfl ⟨(.ni _ rfl),JN (id:=1) rfl rfl,(.ni _ rfl),(.ni _ rfl),(.ni _ rfl),tv⟩,Jy rfl rfl rfl ⟨Jcy (id:=2) rfl rfl,Zx (id:=3) rfl rfl,tv⟩,Jav rfl rfl,bR,bN,tv⟩) ?_
   rintro⟨k,m1,l1⟩ ⟨hk,hG⟩
   try dsimp only at hk hG
   show awp _ _ _ _ _ _ ⟨eL [(0,.ptr 0 0),(2,.lst 3 (others.map Je)),(3,.lst 3 (fs.map Je)),(5,.ptr 5 0),(85,.lst 3 (others.map Je)),(86,.int .i64 (others.length:Int)),(87,.int .i64 (k:Int))],hL [(0,.box (JbV rs ly ps b e cmds bud)),(1,.box [.mp 2,.osl 4]),(2,.obj (YR m1)),(4,.row 3 (l1.map Jg)),(5,.box (Jg h))],6⟩
   conv=>whnf
   refine⟨fun hb5=> ?_,fun hb5=> ?_⟩
   .
    have hlt:k<others.length:=by have h:=Wt hb5;omega
    obtain⟨f,hf⟩:=ge hlt
    rw [Jl hf] at hG
    unfold Jcf at hG
    conv=>whnf
    refine⟨k,_,rfl,Jv hf,?_⟩
    conv=>whnf
    obtain⟨bb,hbb,hG⟩:=bs' hG
    refine cE (cX false [] [6] 0 Tryz.func48 (Zd fs f bb hbb) ⟨aq,(Q4 (c:=[.ptr 6 0]) (by(conv=>lhs;whnf)<;>rfl) rfl ⟨(YT 6 _ rfl rfl rfl rfl rfl),tv⟩),tv⟩ trivial (YJ rfl trivial) trivial) ?_
    conv=>whnf
    refine xB hG (fun hb6 hG=> ?_) fun hb6 hG=> ?_
    .
     conv=>whnf
     refine⟨((k+1:Nat):Int),wE,?_⟩
     conv=>whnf
     refine⟨k+1,rfl,?_⟩
     conv=>whnf
     refine⟨by rw [List.length_map];omega,Nat.le_refl _,(others.drop (k+1)).map Je,by rw [<-List.map_drop,List.take_of_length_le (by simp)],?_⟩
     conv=>whnf
     obtain⟨a1,ha1,hG⟩:=bs' hG
     refine cE (d0 1 Tryz.func141 (JaV fs a1 ha1) ⟨rR,tv⟩) ?_
     conv=>whnf
     obtain⟨a2,ha2,hG⟩:=bs' hG
     refine ZV (enc:=Je) (l:=a1) (y:=([f]:List Fault)) ha2 rfl rfl (by decide) ?_
     conv=>whnf
     obtain⟨ml2,hml2,hG⟩:=bs' hG
     refine cE (dY true [.box (JbV rs ly ps b e cmds bud),.box [.mp 2,.osl 12],.obj (YR ml2.1),.dead,.row 3 (ml2.2.map Jg)] [0,1,2,4] [11] 1 Tryz.func97 (ih (others.drop (k+1)) a2 m1 l1 ml2 hml2) ⟨rfl,rfl,rfl,gR,tv⟩ JdU ⟨rfl,rfl,rfl,rfl,rR,tv⟩) ?_
     conv=>whnf
     refine⟨by kernel_rfl,?_⟩
     conv=>whnf
     refine⟨((k+1:Nat):Int),wE,?_⟩
     conv=>whnf
     exact⟨(k+1,ml2.1,ml2.2),_,_,_,⟨hlt,hG⟩,sl hlt,wK [0,1,2,3,12,5] [] [] ⟨Jy rfl rfl rfl ⟨(.ni _ rfl),JN (id:=1) rfl rfl,(.ni _ rfl),(.ni _ rfl),(.ni _ rfl),tv⟩,Jy rfl rfl rfl ⟨Jcy (id:=2) rfl rfl,Zx (id:=12) rfl rfl,tv⟩,Jav rfl rfl,bR,bN,tv⟩⟩
    .
     conv=>whnf
     refine⟨((k+1:Nat):Int),wE,?_⟩
     conv=>whnf
     exact⟨(k+1,m1,l1),_,_,_,⟨hlt,hG⟩,sl hlt,wK [0,1,2,3,4,5] [] [] ⟨Jy rfl rfl rfl ⟨(.ni _ rfl),JN (id:=1) rfl rfl,(.ni _ rfl),(.ni _ rfl),(.ni _ rfl),tv⟩,Jy rfl rfl rfl ⟨Jcy (id:=2) rfl rfl,Zx (id:=4) rfl rfl,tv⟩,Jav rfl rfl,bR,bN,tv⟩⟩
   .
    rw [Jq (show others.length<=k by have h:=Wf hb5;omega)] at hG
    unfold Jcf at hG
    conv=>whnf
    obtain rfl:=si hG
    exact Jk [0,1,2,3,4] [] [] rfl (.ni _ rfl) ⟨Jy rfl rfl rfl ⟨(.ni _ rfl),JN (id:=1) rfl rfl,(.ni _ rfl),(.ni _ rfl),(.ni _ rfl),tv⟩,Jy rfl rfl rfl ⟨Jcy (id:=2) rfl rfl,Zx (id:=4) rfl rfl,tv⟩,⟨_,_,rfl,rfl,fun _ h=>h⟩,trivial,bR,tv⟩
 .
  conv=>whnf
  refine⟨by kernel_rfl,?_⟩
  conv=>whnf
  obtain⟨ml,hml,hF⟩:=bs' hF
  rw [hb2] at hml
  obtain rfl:=si hml
  try dsimp only at hF
  refine Jm (enc:=Je) (l:=fs) rfl ?_
  conv=>whnf
  refine⟨w64 (h.Used+(fs.length:Int)),rfl,?_⟩
  conv=>whnf
  refine⟨by kernel_rfl,?_⟩
  conv=>whnf
  refine xB hF (fun hb4 hF=> ?_) fun hb4 hF=> ?_
  .
   obtain rfl:=si hF
   conv=>whnf
   exact Jk [0,1,2,3,3] [] [] rfl (.ni _ rfl) ⟨Jy rfl rfl rfl ⟨(.ni _ rfl),JN (id:=1) rfl rfl,(.ni _ rfl),(.ni _ rfl),(.ni _ rfl),tv⟩,Jy rfl rfl rfl ⟨Jcy (id:=2) rfl rfl,Zx (id:=3) rfl rfl,tv⟩,⟨_,_,rfl,rfl,fun _ h=>h⟩,trivial,bR,tv⟩
  conv=>whnf
  refine Jm (enc:=Je) (l:=others) rfl ?_
  conv=>whnf
  refine J1 85 (v:= .lst 3 (others.map Je)) (by(conv=>lhs;whnf)<;>rfl) (fun hbv=> ?_)
  have hlen:others.length<=9223372036854775807:=Jz (enc:=Je) hbv
  refine Jo Jc Ja (fun y:Nat×List (ByteArray×Int)×List Hypothesis=>y.1<=others.length∧Jcf (Qz rs ly ps b e cmds bud h n) fs (others.drop y.1) y.2.1 y.2.2=some r) (fun y=>⟨eL [(0,.ptr 0 0),(2,.lst 3 (others.map Je)),(3,.lst 3 (fs.map Je)),(5,.ptr 5 0),(85,.lst 3 (others.map Je)),(86,.int .i64 (others.length:Int)),(87,.int .i64 (y.1:Int))],hL [(0,.box (JbV rs ly ps b e cmds bud)),(1,.box [.mp 2,.osl 4]),(2,.obj (YR y.2.1)),(4,.row 3 (y.2.2.map Jg)),(5,.box (Jg h))],6⟩) (fun y=>others.length - y.1) (0,m,l) ⟨Nat.zero_le _,hF⟩ (wK [0,1,2,3,3,4] [] [] ⟨Jy rfl rfl rfl ⟨(.ni _ rfl),JN (id:=1) rfl rfl,(.ni _ rfl),(.ni _ rfl),(.ni _ rfl),tv⟩,Jy rfl rfl rfl ⟨Jcy (id:=2) rfl rfl,Zx (id:=3) rfl rfl,tv⟩,Jav rfl rfl,bR,bN,tv⟩) ?_
  rintro⟨k,m1,l1⟩ ⟨hk,hG⟩
  try dsimp only at hk hG
  show awp _ _ _ _ _ _ ⟨eL [(0,.ptr 0 0),(2,.lst 3 (others.map Je)),(3,.lst 3 (fs.map Je)),(5,.ptr 5 0),(85,.lst 3 (others.map Je)),(86,.int .i64 (others.length:Int)),(87,.int .i64 (k:Int))],hL [(0,.box (JbV rs ly ps b e cmds bud)),(1,.box [.mp 2,.osl 4]),(2,.obj (YR m1)),(4,.row 3 (l1.map Jg)),(5,.box (Jg h))],6⟩
  conv=>whnf
  refine⟨fun hb5=> ?_,fun hb5=> ?_⟩
  .
   have hlt:k<others.length:=by have h:=Wt hb5;omega
   obtain⟨f,hf⟩:=ge hlt
   rw [Jl hf] at hG
   unfold Jcf at hG
   conv=>whnf
   refine⟨k,_,rfl,Jv hf,?_⟩
   conv=>whnf
   obtain⟨bb,hbb,hG⟩:=bs' hG
   refine cE (cX false [] [6] 0 Tryz.func48 (Zd fs f bb hbb) ⟨aq,(Q4 (c:=[.ptr 6 0]) (by(conv=>lhs;whnf)<;>rfl) rfl ⟨(YT 6 _ rfl rfl rfl rfl rfl),tv⟩),tv⟩ trivial (YJ rfl trivial) trivial) ?_
   conv=>whnf
   refine xB hG (fun hb6 hG=> ?_) fun hb6 hG=> ?_
   .
    conv=>whnf
    refine⟨((k+1:Nat):Int),wE,?_⟩
    conv=>whnf
    refine⟨k+1,rfl,?_⟩
    conv=>whnf
    refine⟨by rw [List.length_map];omega,Nat.le_refl _,(others.drop (k+1)).map Je,by rw [<-List.map_drop,List.take_of_length_le (by simp)],?_⟩
    conv=>whnf
    obtain⟨a1,ha1,hG⟩:=bs' hG
    refine cE (d0 1 Tryz.func141 (JaV fs a1 ha1) ⟨rR,tv⟩) ?_
    conv=>whnf
    obtain⟨a2,ha2,hG⟩:=bs' hG
    refine ZV (enc:=Je) (l:=a1) (y:=([f]:List Fault)) ha2 rfl rfl (by decide) ?_
    conv=>whnf
    obtain⟨ml2,hml2,hG⟩:=bs' hG
    refine cE (dY true [.box (JbV rs ly ps b e cmds bud),.box [.mp 2,.osl 12],.obj (YR ml2.1),.dead,.row 3 (ml2.2.map Jg)] [0,1,2,4] [11] 1 Tryz.func97 (ih (others.drop (k+1)) a2 m1 l1 ml2 hml2) ⟨rfl,rfl,rfl,gR,tv⟩ JdU ⟨rfl,rfl,rfl,rfl,rR,tv⟩) ?_
    conv=>whnf
    refine⟨by kernel_rfl,?_⟩
    conv=>whnf
    refine⟨((k+1:Nat):Int),wE,?_⟩
    conv=>whnf
    exact⟨(k+1,ml2.1,ml2.2),_,_,_,⟨hlt,hG⟩,sl hlt,wK [0,1,2,3,12,5] [] [] ⟨Jy rfl rfl rfl ⟨(.ni _ rfl),JN (id:=1) rfl rfl,(.ni _ rfl),(.ni _ rfl),(.ni _ rfl),tv⟩,Jy rfl rfl rfl ⟨Jcy (id:=2) rfl rfl,Zx (id:=12) rfl rfl,tv⟩,Jav rfl rfl,bR,bN,tv⟩⟩
   .
    conv=>whnf
    refine⟨((k+1:Nat):Int),wE,?_⟩
    conv=>whnf
    exact⟨(k+1,m1,l1),_,_,_,⟨hlt,hG⟩,sl hlt,wK [0,1,2,3,4,5] [] [] ⟨Jy rfl rfl rfl ⟨(.ni _ rfl),JN (id:=1) rfl rfl,(.ni _ rfl),(.ni _ rfl),(.ni _ rfl),tv⟩,Jy rfl rfl rfl ⟨Jcy (id:=2) rfl rfl,Zx (id:=4) rfl rfl,tv⟩,Jav rfl rfl,bR,bN,tv⟩⟩
  .
   rw [Jq (show others.length<=k by have h:=Wf hb5;omega)] at hG
   unfold Jcf at hG
   conv=>whnf
   obtain rfl:=si hG
   exact Jk [0,1,2,3,4] [] [] rfl (.ni _ rfl) ⟨Jy rfl rfl rfl ⟨(.ni _ rfl),JN (id:=1) rfl rfl,(.ni _ rfl),(.ni _ rfl),(.ni _ rfl),tv⟩,Jy rfl rfl rfl ⟨Jcy (id:=2) rfl rfl,Zx (id:=4) rfl rfl,tv⟩,⟨_,_,rfl,rfl,fun _ h=>h⟩,trivial,bR,tv⟩
theorem JhC (x0:Plan) (x1:Plant) (x2:(List Int)) (r:(List Fault)) (hF:Jb9 x0 x1 x2=some r):AC Tryz.prog 98 [.iptr [.lst 5 (x0.L.Nodes.map Jb),.lst 3 (x0.L.Devices.map Jd),.lst 1 (x0.order.map iA)],.agg (Qi x1),.lst 1 (x2.map iA)] [] (.lst 3 (r.map Je)) ([]):=by
 refine Ju Jc Ja Tryz.func98 rfl Tryz.ntmps98 rfl ?_
 unfold Jb9 at hF
 conv=>whnf
 refine Jm (enc:=(lA 1 iA)) (l:=x1.Slots) rfl ?_
 conv=>whnf
 obtain⟨c1,hc_1,hF⟩:=Jr hF
 refine J1 1 (v:= .agg [.lst 1 (x1.Slots.map (lA 1 iA)),.lst 1 (x1.Bins.map (lA 1 iA))]) (by(conv=>lhs;whnf)<;>rfl) (fun hb=> ?_)
 have hbd_k_3:x1.Slots.length<=9223372036854775807:=Jz (enc:=(lA 1 iA)) ((YC hb.cell 0 rfl))
 refine Jo Jc Ja (fun y:Nat×(List Fault)=>y.1<=x1.Slots.length∧ZO x2 (x1.Slots.drop y.1) y.1 y.2=some c1) (fun y=>⟨eL [(2,.lst 1 (x2.map iA)),(7,.osl 0),(14,.lst 1 (x1.Slots.map (lA 1 iA))),(15,.int .i64 (x1.Slots.length:Int)),(16,.int .i64 (y.1:Int))],hL [(0,.row 3 (y.2.map Je))],1⟩) (fun y=>x1.Slots.length - y.1) (0,([]:List Fault)) ⟨Nat.zero_le _,hc_1⟩ (wK [] [0] [] ⟨Jci rfl,tv⟩) ?_
 rintro⟨k3,a1⟩ ⟨hk_k_3,hL1⟩
 try dsimp only at hk_k_3 hL1
 show awp _ _ _ _ _ _ ⟨eL [(2,.lst 1 (x2.map iA)),(7,.osl 0),(14,.lst 1 (x1.Slots.map (lA 1 iA))),(15,.int .i64 (x1.Slots.length:Int)),(16,.int .i64 (k3:Int))],hL [(0,.row 3 (a1.map Je))],1⟩
 conv=>whnf
 refine⟨fun h=> ?_,fun h=> ?_⟩
 have lk3:k3<x1.Slots.length:=by have h:=Wt h;omega
 obtain⟨e4,he4⟩:=ge lk3
 rw [Jl he4,ZO.eq_2] at hL1
 conv=>whnf
 refine⟨k3,_,rfl,Jv he4,?_⟩
 conv=>whnf
 refine Jm (enc:=iA) (l:=e4) rfl ?_
 conv=>whnf
 obtain⟨c2,hc_2,hL1⟩:=YF hL1
 refine J1 9 (v:= .lst 1 (e4.map iA)) (by(conv=>lhs;whnf)<;>rfl) (fun hb=> ?_)
 have hbd_k_7:e4.length<=9223372036854775807:=Jz (enc:=iA) (hb)
 refine Jo Jc Ja (fun y:Nat×(List Fault)=>y.1<=e4.length∧JL x2 k3 e4 (e4.drop y.1) y.1 y.2=some c2) (fun y=>⟨eL [(2,.lst 1 (x2.map iA)),(7,.osl 0),(8,.int .i64 (k3:Int)),(9,.lst 1 (e4.map iA)),(14,.lst 1 (x1.Slots.map (lA 1 iA))),(15,.int .i64 (x1.Slots.length:Int)),(16,.int .i64 (k3:Int)),(21,.lst 1 (e4.map iA)),(22,.int .i64 (e4.length:Int)),(23,.int .i64 (y.1:Int))],hL [(0,.row 3 (y.2.map Je))],1⟩) (fun y=>e4.length - y.1) (0,a1) ⟨Nat.zero_le _,hc_2⟩ (wK [0] [] []) ?_
 rintro⟨k7,a5⟩ ⟨hk_k_7,hL2⟩
 try dsimp only at hk_k_7 hL2
 show awp _ _ _ _ _ _ ⟨eL [(2,.lst 1 (x2.map iA)),(7,.osl 0),(8,.int .i64 (k3:Int)),(9,.lst 1 (e4.map iA)),(14,.lst 1 (x1.Slots.map (lA 1 iA))),(15,.int .i64 (x1.Slots.length:Int)),(16,.int .i64 (k3:Int)),(21,.lst 1 (e4.map iA)),(22,.int .i64 (e4.length:Int)),(23,.int .i64 (k7:Int))],hL [(0,.row 3 (a5.map Je))],1⟩
 conv=>whnf
 refine⟨fun h=> ?_,fun h=> ?_⟩
 have lk7:k7<e4.length:=by have h:=Wt h;omega
 obtain⟨e8,he8⟩:=ge lk7
 rw [Jl he8,JL.eq_2] at hL2
 conv=>whnf
 refine⟨k7,_,rfl,Jv he8,?_⟩
 conv=>whnf
 refine Jm (enc:=iA) (l:=e4) rfl ?_
 conv=>whnf
 refine⟨_,rfl,?_⟩
 conv=>whnf
 refine xB hL2 (fun b121 hL2=> ?_) fun b121 hL2=> ?_
 conv=>whnf
 refine⟨fun h=> ?_,fun h=> ?_⟩
 conv=>whnf
 refine⟨((k7+1:Nat):Int),wE,?_⟩
 conv=>whnf
 exact⟨(k7+1,a5),_,_,_,⟨lk7,hL2⟩,sl lk7,wK [0] [] []⟩
 cases (b121).symm.trans h
 conv=>whnf
 refine xB hL2 (fun b122 hL2=> ?_) fun b122 hL2=> ?_
 conv=>whnf
 obtain⟨e9,he9,hL2⟩:=bs' hL2
 refine JZ (enc:=iA) (l:=x2) he9 rfl (fun m_e_9 hm_e_9 hx_e_9=> ?_)
 conv=>whnf
 refine xB hL2 (fun b123 hL2=> ?_) fun b123 hL2=> ?_
 conv=>whnf
 refine⟨fun h=> ?_,fun h=> ?_⟩
 conv=>whnf
 refine⟨((k7+1:Nat):Int),wE,?_⟩
 conv=>whnf
 exact⟨(k7+1,a5),_,_,_,⟨lk7,hL2⟩,sl lk7,wK [0] [] []⟩
 cases (b123).symm.trans h
 conv=>whnf
 refine⟨fun h=> ?_,fun h=> ?_⟩
 cases (Jj8 (b122)).symm.trans h
 conv=>whnf
 obtain⟨l10,hl10,hL2⟩:=bs' hL2
 refine ZV (enc:=Je) (l:=a5) (y:=([(⟨1,(k3:Int),(k7:Int)⟩:Fault)]:List Fault)) hl10 rfl rfl (by decide) ?_
 conv=>whnf
 refine⟨_,rfl,?_⟩
 conv=>whnf
 refine Jm (enc:=iA) (l:=e4) rfl ?_
 conv=>whnf
 refine xB hL2 (fun b124 hL2=> ?_) fun b124 hL2=> ?_
 conv=>whnf
 refine⟨_,rfl,?_⟩
 conv=>whnf
 obtain⟨e11,he11,hL2⟩:=bs' hL2
 refine JZ (enc:=iA) (l:=e4) he11 rfl (fun m_e_11 hm_e_11 hx_e_11=> ?_)
 conv=>whnf
 refine xB hL2 (fun b125 hL2=> ?_) fun b125 hL2=> ?_
 conv=>whnf
 obtain⟨l12,hl12,hL2⟩:=bs' hL2
 refine ZV (enc:=Je) (l:=l10) (y:=([(⟨2,(k3:Int),(k7:Int)⟩:Fault)]:List Fault)) hl12 rfl rfl (by decide) ?_
 conv=>whnf
 refine⟨((k7+1:Nat):Int),wE,?_⟩
 conv=>whnf
 exact⟨(k7+1,l12),_,_,_,⟨lk7,hL2⟩,sl lk7,wK [4] [] []⟩
 conv=>whnf
 refine⟨((k7+1:Nat):Int),wE,?_⟩
 conv=>whnf
 exact⟨(k7+1,l10),_,_,_,⟨lk7,hL2⟩,sl lk7,wK [2] [] []⟩
 conv=>whnf
 refine⟨((k7+1:Nat):Int),wE,?_⟩
 conv=>whnf
 exact⟨(k7+1,l10),_,_,_,⟨lk7,hL2⟩,sl lk7,wK [2] [] []⟩
 conv=>whnf
 refine⟨fun h=> ?_,fun h=> ?_⟩
 conv=>whnf
 refine⟨((k7+1:Nat):Int),wE,?_⟩
 conv=>whnf
 obtain⟨e13,he13,hL2⟩:=bs' hL2
 refine JZ (enc:=iA) (l:=e4) he13 rfl (fun m_e_13 hm_e_13 hx_e_13=> ?_)
 conv=>whnf
 refine xB hL2 (fun b126 hL2=> ?_) fun b126 hL2=> ?_
 conv=>whnf
 refine⟨((k7+1:Nat):Int),wE,?_⟩
 conv=>whnf
 exact⟨(k7+1,a5),_,_,_,⟨lk7,hL2⟩,sl lk7,wK [0] [] []⟩
 conv=>whnf
 obtain⟨l14,hl14,hL2⟩:=bs' hL2
 refine ZV (enc:=Je) (l:=a5) (y:=([(⟨1,(k3:Int),(k7:Int)⟩:Fault)]:List Fault)) hl14 rfl rfl (by decide) ?_
 conv=>whnf
 refine⟨_,rfl,?_⟩
 conv=>whnf
 refine Jm (enc:=iA) (l:=e4) rfl ?_
 conv=>whnf
 refine xB hL2 (fun b127 hL2=> ?_) fun b127 hL2=> ?_
 conv=>whnf
 refine⟨_,rfl,?_⟩
 conv=>whnf
 obtain⟨e15,he15,hL2⟩:=bs' hL2
 refine JZ (enc:=iA) (l:=e4) he15 rfl (fun m_e_15 hm_e_15 hx_e_15=> ?_)
 conv=>whnf
 refine xB hL2 (fun b128 hL2=> ?_) fun b128 hL2=> ?_
 conv=>whnf
 obtain⟨l16,hl16,hL2⟩:=bs' hL2
 refine ZV (enc:=Je) (l:=l14) (y:=([(⟨2,(k3:Int),(k7:Int)⟩:Fault)]:List Fault)) hl16 rfl rfl (by decide) ?_
 conv=>whnf
 refine⟨((k7+1:Nat):Int),wE,?_⟩
 conv=>whnf
 exact⟨(k7+1,l16),_,_,_,⟨lk7,hL2⟩,sl lk7,wK [4] [] []⟩
 conv=>whnf
 refine⟨((k7+1:Nat):Int),wE,?_⟩
 conv=>whnf
 exact⟨(k7+1,l14),_,_,_,⟨lk7,hL2⟩,sl lk7,wK [2] [] []⟩
 conv=>whnf
 refine⟨((k7+1:Nat):Int),wE,?_⟩
 conv=>whnf
 exact⟨(k7+1,l14),_,_,_,⟨lk7,hL2⟩,sl lk7,wK [2] [] []⟩
 cases (Jj8 (b122)).symm.trans h
 rw [Jq (nl h),JL.eq_1] at hL2
 conv=>whnf
 obtain rfl:=si hL2
 replace hL1:=Zz hL1
 try dsimp only at hL1
 refine⟨((k3+1:Nat):Int),wE,?_⟩
 conv=>whnf
 exact⟨(k3+1,a5),_,_,_,⟨lk3,hL1⟩,sl lk3,wK [0] [] []⟩
 rw [Jq (nl h),ZO.eq_1] at hL1
 conv=>whnf
 obtain rfl:=si hL1
 replace hF:=Jw hF
 try dsimp only at hF
 obtain rfl:=si hF
 exact Jk [] [] [0] rfl (aL 0) trivial
theorem Jip (e:Plan) (bel:Belief) (cmds:List Int) (rs:List Report) (ly:Layout) (ps:List Plate) (b:Belief) (r:Belief×Int) (hF:JdT e bel cmds rs ly ps b=some r):
  AC Tryz.prog 53 [.iptr [.lst 5 (e.L.Nodes.map Jb),.lst 3 (e.L.Devices.map Jd),.lst 1 (e.order.map iA)],.agg (Yp bel),.lst 1 (cmds.map iA),.fn 54 (Jk7 rs ly ps b)] [] (.tup [.agg (Yp r.1),.int .i64 r.2]) []:=by
 unfold JdT at hF
 obtain⟨ml,hml,hF⟩:=bs' hF
 refine Ju Jc Ja Tryz.func53 rfl Tryz.ntmps53 rfl ?_
 conv=>whnf
 refine⟨_,Jly rfl,?_⟩
 conv=>whnf
 refine Jm (enc:=Jg) (l:=bel.L) rfl ?_
 conv=>whnf
 refine J1 26 (v:= .lst 3 (bel.L.map Jg)) (by(conv=>lhs;whnf)<;>rfl) (fun hbv=> ?_)
 have hlen:bel.L.length<=9223372036854775807:=Jz (enc:=Jg) hbv
 refine Jo Jc Ja (fun y:Nat×List (ByteArray×Int)×List Hypothesis=>y.1<=bel.L.length∧JeI rs ly ps b e cmds bel.Budget (bel.L.drop y.1) y.2.1 y.2.2=some ml) (fun y=>⟨eL [(0,.iptr [.lst 5 (e.L.Nodes.map Jb),.lst 3 (e.L.Devices.map Jd),.lst 1 (e.order.map iA)]),(2,.lst 1 (cmds.map iA)),(5,.ptr 4 0),(8,.ptr 5 0),(9,.int .i64 0),(10,.ptr 1 0),(11,.ptr 0 0),(26,.lst 3 (bel.L.map Jg)),(27,.int .i64 (bel.L.length:Int)),(28,.int .i64 (y.1:Int))],hL [(0,.box (JbV rs ly ps b e cmds bel.Budget)),(1,.box [.mp 2,.osl 3]),(2,.obj (YR y.2.1)),(3,.row 3 (y.2.2.map Jg)),(4,.box (Yp bel)),(5,.box [.int .i64 0,.nils])],6⟩) (fun y=>bel.L.length - y.1) (0,[],[]) ⟨Nat.zero_le _,hml⟩ (wK [4,3,2,6,0,1] [3] [] ⟨Jy rfl rfl rfl ⟨(.ni _ rfl),JN (id:=3) rfl rfl,(.ni _ rfl),(.ni _ rfl),(.ni _ rfl),tv⟩,Jy rfl rfl rfl ⟨Jcy (id:=2) rfl rfl,Ju7 rfl rfl,tv⟩,Jav rfl rfl,Jci rfl,bN,bN,tv⟩) ?_
 rintro⟨k,m1,l1⟩ ⟨hk,hG⟩
 try dsimp only at hk hG
 show awp _ _ _ _ _ _ ⟨eL [(0,.iptr [.lst 5 (e.L.Nodes.map Jb),.lst 3 (e.L.Devices.map Jd),.lst 1 (e.order.map iA)]),(2,.lst 1 (cmds.map iA)),(5,.ptr 4 0),(8,.ptr 5 0),(9,.int .i64 0),(10,.ptr 1 0),(11,.ptr 0 0),(26,.lst 3 (bel.L.map Jg)),(27,.int .i64 (bel.L.length:Int)),(28,.int .i64 (k:Int))],hL [(0,.box (JbV rs ly ps b e cmds bel.Budget)),(1,.box [.mp 2,.osl 3]),(2,.obj (YR m1)),(3,.row 3 (l1.map Jg)),(4,.box (Yp bel)),(5,.box [.int .i64 0,.nils])],6⟩
 conv=>whnf
 refine⟨fun hb5=> ?_,fun hb5=> ?_⟩
 .
  have hlt:k<bel.L.length:=by have h:=Wt hb5;omega
  obtain⟨h,hh⟩:=ge hlt
  rw [Jl hh] at hG
  unfold JeI at hG
  conv=>whnf
  refine⟨k,_,rfl,Jv hh,?_⟩
  conv=>whnf
  obtain⟨fs,hfs,hG⟩:=bs' hG
  refine cE (d0 0 Tryz.func98 (JhC e h.Plant cmds fs hfs)) ?_
  conv=>whnf
  obtain⟨ml2,hml2,hG⟩:=bs' hG
  refine cE (cY false [.box (JbV rs ly ps b e cmds bel.Budget),.box [.mp 2,.osl 8],.obj (YR ml2.1),.dead,.row 3 (ml2.2.map Jg)] [0,1,2,3] [] 1 Tryz.func97 (Jfi rs ly ps b e cmds bel.Budget h (fs.length+1) fs [] m1 l1 ml2 hml2) ⟨(aP 0),aq,aq,.nils 3,tv⟩ ⟨rfl,rfl,rfl,gR,tv⟩ Qd ⟨rfl,rfl,rfl,rfl,rR,tv⟩) ?_
  conv=>whnf
  refine⟨by kernel_rfl,?_⟩
  conv=>whnf
  refine⟨((k+1:Nat):Int),wE,?_⟩
  conv=>whnf
  exact⟨(k+1,ml2.1,ml2.2),_,_,_,⟨hlt,hG⟩,sl hlt,wK [0,1,2,8,4,5] [] [] ⟨Jy rfl rfl rfl ⟨(.ni _ rfl),JN (id:=1) rfl rfl,(.ni _ rfl),(.ni _ rfl),(.ni _ rfl),tv⟩,Jy rfl rfl rfl ⟨Jcy (id:=2) rfl rfl,Zx (id:=8) rfl rfl,tv⟩,Jav rfl rfl,bR,bN,bN,tv⟩⟩
 .
  rw [Jq (show bel.L.length<=k by have h:=Wf hb5;omega)] at hG
  unfold JeI at hG
  obtain rfl:=si hG
  conv=>whnf
  refine Jm (enc:=Jg) (l:=l1) rfl ?_
  conv=>whnf
  refine xB hF (fun hb6 hF=> ?_) fun hb6 hF=> ?_
  .
   obtain rfl:=si hF
   conv=>whnf
   exact Jk [] [] [] rfl (Qh rfl ⟨Jm4 rfl ⟨.ni _ rfl,.nils 3,tv⟩,.ni _ rfl,tv⟩) trivial
  .
   conv=>whnf
   refine Jm (enc:=Jg) (l:=l1) rfl ?_
   conv=>whnf
   refine xB hF (fun hb7 hF=> ?_) fun hb7 hF=> ?_
   .
    obtain rfl:=si hF
    conv=>whnf
    exact Jk [] [] [] rfl (Qh rfl ⟨Jm4 rfl ⟨.ni _ rfl,.nils 3,tv⟩,.ni _ rfl,tv⟩) trivial
   .
    obtain⟨rb,hrb,hF⟩:=bs' hF
    obtain rfl:=si hF
    conv=>whnf
    refine cE (dY true [.dead,.dead,.dead] [1,2,3] [] 0 Tryz.func72 (Ja9 m1 l1 bel.Budget rb hrb) ⟨rfl,rfl,gR,tv⟩ JdU ⟨rfl,rfl,rfl,tv⟩) ?_
    conv=>whnf
    exact Jk [] [] [] rfl (Qh rfl ⟨aq,.ni _ rfl,tv⟩) trivial
theorem JfS (x0:Layout) (x1:Belief) (x2:(List Int)) (x3:(List Plate)) (x4:(List Report)) (r:Belief×Int) (hF:Jby x0 x1 x2 x3 x4=some r):AC Tryz.prog 21 [.agg (JC x0),.agg (Yp x1),.lst 1 (x2.map iA),.lst 3 (x3.map JJ),.lst 3 (x4.map JS)] [] (.tup [.agg (Yp r.1),.int .i64 r.2]) ([]):=by
 refine Ju Jc Ja Tryz.func21 rfl Tryz.ntmps21 rfl ?_
 unfold Jby at hF
 conv=>whnf
 obtain⟨r1,hr1,hF⟩:=bs' hF
 rcases r1 with⟨_ |v3,b2⟩
 replace hF:=Jj3 hF
 refine cE (d0 0 Tryz.func52 (JfR x0 x1 _ hr1)) ?_
 conv=>whnf
 refine xB hF (fun b11 hF=> ?_) fun b11 hF=> ?_
 conv=>whnf
 obtain rfl:=si hF
 exact Jk [] [] [] rfl (Qh rfl ⟨(aA [.int .i64 0,.nils] ⟨(.ni _ rfl),(.nils _),tv⟩),aq,tv⟩) trivial
 conv=>whnf
 cases hF
 replace hF:=Jj2 hF
 refine cE (d0 1 Tryz.func52 (JfR x0 x1 _ hr1) ⟨rfl,tv⟩) ?_
 conv=>whnf
 refine xB hF (fun b12 hF=> ?_) fun b12 hF=> ?_
 conv=>whnf
 obtain rfl:=si hF
 exact Jk [] [] [] rfl (Qh rfl ⟨(aA [.int .i64 0,.nils] ⟨(.ni _ rfl),(.nils _),tv⟩),aq,tv⟩) trivial
 conv=>whnf
 obtain⟨r4,hr4,hF⟩:=bs' hF
 refine cE (cX false [] [5] 0 Tryz.func40 (Jce v3 x2 ([]:(List Fault)) r4 hr4) ⟨(YT 5 _ (by(conv=>lhs;whnf)<;>rfl) rfl rfl rfl rfl),aq,aN,tv⟩ trivial (YJ rfl trivial) trivial) ?_
 conv=>whnf
 refine xB hF (fun b13 hF=> ?_) fun b13 hF=> ?_
 conv=>whnf
 obtain rfl:=si hF
 exact Jk [] [] [] rfl (Qh rfl ⟨(aA [.int .i64 0,.nils] ⟨(.ni _ rfl),(.nils _),tv⟩),aq,tv⟩) trivial
 conv=>whnf
 refine Jm (enc:=JS) (l:=x4) rfl ?_
 conv=>whnf
 refine Jm (enc:=Jd) (l:=x0.Devices) rfl ?_
 conv=>whnf
 refine xB hF (fun b14 hF=> ?_) fun b14 hF=> ?_
 conv=>whnf
 obtain rfl:=si hF
 exact Jk [] [] [] rfl (Qh rfl ⟨(aA [.int .i64 0,.nils] ⟨(.ni _ rfl),(.nils _),tv⟩),aq,tv⟩) trivial
 conv=>whnf
 refine Jm (enc:=JS) (l:=x4) rfl ?_
 conv=>whnf
 obtain⟨c1,hc_1,hF⟩:=Jr hF
 refine J1 4 (v:= .lst 3 (x4.map JS)) (by(conv=>lhs;whnf)<;>rfl) (fun hb=> ?_)
 have hbd_k_6:x4.length<=9223372036854775807:=Jz (enc:=JS) (hb)
 refine Jo Jc Ja (fun y:Nat=>y<=x4.length∧Jaz (x4.drop y) y=some c1) (fun y=>⟨eL [(2,.lst 1 (x2.map iA)),(5,.ptr 0 0),(6,.ptr 1 0),(8,.ptr 2 0),(9,.ptr 3 0),(10,.ptr 4 0),(12,.ptr 5 0),(40,.lst 3 (x4.map JS)),(41,.int .i64 (x4.length:Int)),(42,.int .i64 (y:Int))],hL [(0,.box [.lst 5 (x0.Nodes.map Jb),.lst 3 (x0.Devices.map Jd)]),(1,.box [.int .i64 x1.Budget,.lst 3 (x1.L.map Jg)]),(2,.box [.lst 3 (x3.map JJ)]),(3,.box [.lst 3 (x4.map JS)]),(4,.box [.int .i64 0,.nils]),(5,.box [.lst 5 (v3.L.Nodes.map Jb),.lst 3 (v3.L.Devices.map Jd),.lst 1 (v3.order.map iA)])],6⟩) (fun y=>x4.length - y) 0 ⟨Nat.zero_le _,hc_1⟩ (wK [0,1,2,3,4,5] [] []) ?_
 rintro k6 ⟨hk_k_6,hL1⟩
 try dsimp only at hk_k_6 hL1
 show awp _ _ _ _ _ _ ⟨eL [(2,.lst 1 (x2.map iA)),(5,.ptr 0 0),(6,.ptr 1 0),(8,.ptr 2 0),(9,.ptr 3 0),(10,.ptr 4 0),(12,.ptr 5 0),(40,.lst 3 (x4.map JS)),(41,.int .i64 (x4.length:Int)),(42,.int .i64 (k6:Int))],hL [(0,.box [.lst 5 (x0.Nodes.map Jb),.lst 3 (x0.Devices.map Jd)]),(1,.box [.int .i64 x1.Budget,.lst 3 (x1.L.map Jg)]),(2,.box [.lst 3 (x3.map JJ)]),(3,.box [.lst 3 (x4.map JS)]),(4,.box [.int .i64 0,.nils]),(5,.box [.lst 5 (v3.L.Nodes.map Jb),.lst 3 (v3.L.Devices.map Jd),.lst 1 (v3.order.map iA)])],6⟩
 conv=>whnf
 refine⟨fun h=> ?_,fun h=> ?_⟩
 have lk6:k6<x4.length:=by have h:=Wt h;omega
 obtain⟨e7,he7⟩:=ge lk6
 rw [Jl he7,Jaz.eq_2] at hL1
 conv=>whnf
 refine⟨k6,_,rfl,Jv he7,?_⟩
 conv=>whnf
 refine xB hL1 (fun b15 hL1=> ?_) fun b15 hL1=> ?_
 conv=>whnf
 obtain rfl:=si hL1
 replace hF:=Jn hF
 obtain rfl:=si hF
 exact Jk [] [] [] rfl (Qh rfl ⟨(aA [.int .i64 0,.nils] ⟨(.ni _ rfl),(.nils _),tv⟩),aq,tv⟩) trivial
 conv=>whnf
 refine⟨((k6+1:Nat):Int),wE,?_⟩
 conv=>whnf
 exact⟨k6+1,_,_,_,⟨lk6,hL1⟩,sl lk6,wK [0,1,2,3,4,5] [] []⟩
 rw [Jq (nl h),Jaz.eq_1] at hL1
 conv=>whnf
 obtain rfl:=si hL1
 replace hF:=Jw hF
 try dsimp only at hF
 obtain⟨r10,hr10,hF⟩:=bs' hF
 refine cE (cX true [] [5,3,0,2,1] 0 Tryz.func53 (Jip v3 x1 x2 x4 x0 x3 x1 r10 hr10) ⟨(YT 5 _ (by(conv=>lhs;whnf)<;>rfl) rfl rfl rfl rfl),aq,aq,(Q4 (c:=[.ptr 3 0,.ptr 0 0,.ptr 2 0,.ptr 1 0]) (by(conv=>lhs;whnf)<;>rfl) rfl ⟨(YT 3 _ rfl rfl rfl rfl rfl),(YT 0 _ rfl rfl rfl rfl rfl),(YT 2 _ rfl rfl rfl rfl rfl),(YT 1 _ rfl rfl rfl rfl rfl),tv⟩),tv⟩ trivial JdU trivial) ?_
 conv=>whnf
 obtain rfl:=si hF
 exact Jk [] [] [] rfl (Qh rfl ⟨aq,aq,tv⟩) trivial
theorem JiO (x0:A4_Int) (r:Screening×Int) (hF:Jf4 x0=some r):AC Tryz.prog 56 [.agg (JoQ x0)] [] (.tup [.agg (Jkz r.1),.int .i64 r.2]) ([]):=by
 refine Ju Jc Ja Tryz.func56 rfl Tryz.ntmps56 rfl ?_
 unfold Jf4 at hF
 conv=>whnf
 obtain⟨c1,hc_1,hF⟩:=Jr hF
 refine Jo Jc Ja (fun y:Nat×Int=>ZZ x0 y.1 y.2=some c1) (fun y=>⟨eL [(1,.ptr 0 0),(2,.ptr 1 0),(6,.agg [.int .i64 x0.e0,.int .i64 x0.e1,.int .i64 x0.e2,.int .i64 x0.e3]),(7,.int .i64 y.2)],hL [(0,.box [.int .i64 x0.e0,.int .i64 x0.e1,.int .i64 x0.e2,.int .i64 x0.e3]),(1,.box [.int .i64 0,.int .i64 0,.int .i64 0,.int .i64 0,.int .i64 0,.nils])],2⟩) (fun y=>y.1) (9223372036854775807,0) hc_1 (wK [0,1] [] []) ?_
 rintro⟨q2,i1⟩ hL1
 try dsimp only at hL1
 rcases q2 with _ |q2
 rw [ZZ.eq_1] at hL1
 cases hL1
 rw [ZZ.eq_2] at hL1
 show awp _ _ _ _ _ _ ⟨eL [(1,.ptr 0 0),(2,.ptr 1 0),(6,.agg [.int .i64 x0.e0,.int .i64 x0.e1,.int .i64 x0.e2,.int .i64 x0.e3]),(7,.int .i64 i1)],hL [(0,.box [.int .i64 x0.e0,.int .i64 x0.e1,.int .i64 x0.e2,.int .i64 x0.e3]),(1,.box [.int .i64 0,.int .i64 0,.int .i64 0,.int .i64 0,.int .i64 0,.nils])],2⟩
 conv=>whnf
 refine xB hL1 (fun b42 hL1=> ?_) fun b42 hL1=> ?_
 conv=>whnf
 refine(Bool.eq_false_or_eq_true (i1==0)).elim (fun hi_43=> ?_) (fun hi_43=> ?_)
 replace hL1:=ct hi_43 hL1
 refine⟨0,eq_of_beq hi_43,by decide,?_⟩
 conv=>whnf
 refine⟨fun b44=> ?_,fun b44=> ?_⟩
 replace hL1:=cf b44 hL1
 conv=>whnf
 refine xB hL1 (fun b45 hL1=> ?_) fun b45 hL1=> ?_
 conv=>whnf
 obtain rfl:=si hL1
 replace hF:=Jn hF
 obtain rfl:=si hF
 exact Jk [] [] [] rfl (Qh rfl ⟨(aA [.int .i64 0,.int .i64 0,.int .i64 0,.int .i64 0,.int .i64 0,.nils] ⟨(.ni _ rfl),(.ni _ rfl),(.ni _ rfl),(.ni _ rfl),(.ni _ rfl),(.nils _),tv⟩),aq,tv⟩) trivial
 conv=>whnf
 refine⟨_,rfl,?_⟩
 conv=>whnf
 exact⟨(q2,(w64 (i1+1))),_,_,_,hL1,Wn _,wK [0,1] [] []⟩
 replace hL1:=ct b44 hL1
 conv=>whnf
 obtain rfl:=si hL1
 replace hF:=Jn hF
 obtain rfl:=si hF
 exact Jk [] [] [] rfl (Qh rfl ⟨(aA [.int .i64 0,.int .i64 0,.int .i64 0,.int .i64 0,.int .i64 0,.nils] ⟨(.ni _ rfl),(.ni _ rfl),(.ni _ rfl),(.ni _ rfl),(.ni _ rfl),(.nils _),tv⟩),aq,tv⟩) trivial
 replace hL1:=cf hi_43 hL1
 refine(Bool.eq_false_or_eq_true (i1==1)).elim (fun hi_46=> ?_) (fun hi_46=> ?_)
 replace hL1:=ct hi_46 hL1
 refine⟨1,eq_of_beq hi_46,by decide,?_⟩
 conv=>whnf
 refine⟨fun b47=> ?_,fun b47=> ?_⟩
 replace hL1:=cf b47 hL1
 conv=>whnf
 refine xB hL1 (fun b48 hL1=> ?_) fun b48 hL1=> ?_
 conv=>whnf
 obtain rfl:=si hL1
 replace hF:=Jn hF
 obtain rfl:=si hF
 exact Jk [] [] [] rfl (Qh rfl ⟨(aA [.int .i64 0,.int .i64 0,.int .i64 0,.int .i64 0,.int .i64 0,.nils] ⟨(.ni _ rfl),(.ni _ rfl),(.ni _ rfl),(.ni _ rfl),(.ni _ rfl),(.nils _),tv⟩),aq,tv⟩) trivial
 conv=>whnf
 refine⟨_,rfl,?_⟩
 conv=>whnf
 exact⟨(q2,(w64 (i1+1))),_,_,_,hL1,Wn _,wK [0,1] [] []⟩
 replace hL1:=ct b47 hL1
 conv=>whnf
 obtain rfl:=si hL1
 replace hF:=Jn hF
 obtain rfl:=si hF
 exact Jk [] [] [] rfl (Qh rfl ⟨(aA [.int .i64 0,.int .i64 0,.int .i64 0,.int .i64 0,.int .i64 0,.nils] ⟨(.ni _ rfl),(.ni _ rfl),(.ni _ rfl),(.ni _ rfl),(.ni _ rfl),(.nils _),tv⟩),aq,tv⟩) trivial
 replace hL1:=cf hi_46 hL1
 refine(Bool.eq_false_or_eq_true (i1==2)).elim (fun hi_49=> ?_) (fun hi_49=> ?_)
 replace hL1:=ct hi_49 hL1
 refine⟨2,eq_of_beq hi_49,by decide,?_⟩
 conv=>whnf
 refine⟨fun b50=> ?_,fun b50=> ?_⟩
 replace hL1:=cf b50 hL1
 conv=>whnf
 refine xB hL1 (fun b51 hL1=> ?_) fun b51 hL1=> ?_
 conv=>whnf
 obtain rfl:=si hL1
 replace hF:=Jn hF
 obtain rfl:=si hF
 exact Jk [] [] [] rfl (Qh rfl ⟨(aA [.int .i64 0,.int .i64 0,.int .i64 0,.int .i64 0,.int .i64 0,.nils] ⟨(.ni _ rfl),(.ni _ rfl),(.ni _ rfl),(.ni _ rfl),(.ni _ rfl),(.nils _),tv⟩),aq,tv⟩) trivial
 conv=>whnf
 refine⟨_,rfl,?_⟩
 conv=>whnf
 exact⟨(q2,(w64 (i1+1))),_,_,_,hL1,Wn _,wK [0,1] [] []⟩
 replace hL1:=ct b50 hL1
 conv=>whnf
 obtain rfl:=si hL1
 replace hF:=Jn hF
 obtain rfl:=si hF
 exact Jk [] [] [] rfl (Qh rfl ⟨(aA [.int .i64 0,.int .i64 0,.int .i64 0,.int .i64 0,.int .i64 0,.nils] ⟨(.ni _ rfl),(.ni _ rfl),(.ni _ rfl),(.ni _ rfl),(.ni _ rfl),(.nils _),tv⟩),aq,tv⟩) trivial
 replace hL1:=cf hi_49 hL1
 refine(Bool.eq_false_or_eq_true (i1==3)).elim (fun hi_52=> ?_) (fun hi_52=> ?_)
 replace hL1:=ct hi_52 hL1
 refine⟨3,eq_of_beq hi_52,by decide,?_⟩
 conv=>whnf
 refine⟨fun b53=> ?_,fun b53=> ?_⟩
 replace hL1:=cf b53 hL1
 conv=>whnf
 refine xB hL1 (fun b54 hL1=> ?_) fun b54 hL1=> ?_
 conv=>whnf
 obtain rfl:=si hL1
 replace hF:=Jn hF
 obtain rfl:=si hF
 exact Jk [] [] [] rfl (Qh rfl ⟨(aA [.int .i64 0,.int .i64 0,.int .i64 0,.int .i64 0,.int .i64 0,.nils] ⟨(.ni _ rfl),(.ni _ rfl),(.ni _ rfl),(.ni _ rfl),(.ni _ rfl),(.nils _),tv⟩),aq,tv⟩) trivial
 conv=>whnf
 refine⟨_,rfl,?_⟩
 conv=>whnf
 exact⟨(q2,(w64 (i1+1))),_,_,_,hL1,Wn _,wK [0,1] [] []⟩
 replace hL1:=ct b53 hL1
 conv=>whnf
 obtain rfl:=si hL1
 replace hF:=Jn hF
 obtain rfl:=si hF
 exact Jk [] [] [] rfl (Qh rfl ⟨(aA [.int .i64 0,.int .i64 0,.int .i64 0,.int .i64 0,.int .i64 0,.nils] ⟨(.ni _ rfl),(.ni _ rfl),(.ni _ rfl),(.ni _ rfl),(.ni _ rfl),(.nils _),tv⟩),aq,tv⟩) trivial
 replace hL1:=cf hi_52 hL1
 cases hL1
 conv=>whnf
 obtain rfl:=si hL1
 replace hF:=Jw hF
 try dsimp only at hF
 obtain rfl:=si hF
 exact Jk [] [] [] rfl (Qh rfl ⟨(aA [.int .i64 x0.e0,.int .i64 x0.e1,.int .i64 x0.e2,.int .i64 x0.e3,.int .i64 1,.nils] ⟨(.ni _ rfl),(.ni _ rfl),(.ni _ rfl),(.ni _ rfl),(.ni _ rfl),(.nils _),tv⟩),aq,tv⟩) trivial
theorem JbQ (r:Bool) (hF:Ja3=some r):AC Tryz.prog 22 [] [] (.bool r) ([]):=by
 refine Ju Jc Ja Tryz.func22 rfl Tryz.ntmps22 rfl ?_
 unfold Ja3 at hF
 conv=>whnf
 obtain⟨r1,hr1,hF⟩:=bs' hF
 refine cE (cX false [] [0,1] 0 Tryz.func14 (QQ (⟨2,2,([2]:List Int),([1,2]:List Int)⟩:Votes) r1 hr1) ⟨(aA [.int .i64 2,.int .i64 2,.osl 0,.osl 1] ⟨(.ni _ rfl),(.ni _ rfl),(.osl 0 1 _ (by simp) rfl (QI (fun _=>⟨rfl,rfl⟩) _)),(.osl 1 1 _ (by simp) rfl (QI (fun _=>⟨rfl,rfl⟩) _)),tv⟩),tv⟩ trivial (YJ rfl trivial) trivial) ?_
 conv=>whnf
 obtain⟨r2,hr2,hF⟩:=bs' hF
 refine cE (d0 0 Tryz.func56 (JiO (⟨1,1,1,1⟩:A4_Int) r2 hr2)) ?_
 conv=>whnf
 refine xB hF (fun b4 hF=> ?_) fun b4 hF=> ?_
 conv=>whnf
 refine xB hF (fun b5 hF=> ?_) fun b5 hF=> ?_
 conv=>whnf
 refine xB hF (fun b6 hF=> ?_) fun b6 hF=> ?_
 conv=>whnf
 obtain rfl:=si hF
 exact rZ
 conv=>whnf
 obtain rfl:=si hF
 exact rZ
 conv=>whnf
 obtain rfl:=si hF
 exact rZ
 conv=>whnf
 obtain rfl:=si hF
 exact rZ
theorem Jc1 (x0:Layout) (x1:Plant) (x2:(List Int)) (r:(List Int)) (hF:Zn x0 x1 x2=some r):AC Tryz.prog 23 [.agg (JC x0),.agg (Qi x1),.lst 1 (x2.map iA)] [] (.osl 0) ([.row 1 (r.map iA)]):=by
 refine Ju Jc Ja Tryz.func23 rfl Tryz.ntmps23 rfl ?_
 unfold Zn at hF
 conv=>whnf
 obtain⟨r1,hr1,hF⟩:=bs' hF
 refine cE (d0 1 Tryz.func36 (JdF x2 r1 hr1) ⟨rfl,tv⟩) ?_
 conv=>whnf
 refine Jm (enc:=Jb) (l:=x0.Nodes) rfl ?_
 conv=>whnf
 obtain⟨c1,hc_1,hF⟩:=Jr hF
 refine J1 0 (v:= .agg [.lst 5 (x0.Nodes.map Jb),.lst 3 (x0.Devices.map Jd)]) (by(conv=>lhs;whnf)<;>rfl) (fun hb=> ?_)
 have hbd_k_4:x0.Nodes.length<=9223372036854775807:=Jz (enc:=Jb) ((YC hb.cell 0 rfl))
 refine Jo Jc Ja (fun y:Nat×(List Int)=>y.1<=x0.Nodes.length∧QY x1 r1 (x0.Nodes.drop y.1) y.1 y.2=some c1) (fun y=>⟨eL [(4,.ptr 0 0),(7,.mp 1),(8,.osl 2),(18,.lst 5 (x0.Nodes.map Jb)),(19,.int .i64 (x0.Nodes.length:Int)),(20,.int .i64 (y.1:Int))],hL [(0,.box [.lst 1 (x1.Slots.map (lA 1 iA)),.lst 1 (x1.Bins.map (lA 1 iA))]),(1,.obj (Jeh r1)),(2,.row 1 (y.2.map iA))],3⟩) (fun y=>x0.Nodes.length - y.1) (0,([]:List Int)) ⟨Nat.zero_le _,hc_1⟩ (wK [1,2] [2] [] ⟨bN,Jav rfl rfl,Jci rfl,tv⟩) ?_
 rintro⟨k4,a2⟩ ⟨hk_k_4,hL1⟩
 try dsimp only at hk_k_4 hL1
 show awp _ _ _ _ _ _ ⟨eL [(4,.ptr 0 0),(7,.mp 1),(8,.osl 2),(18,.lst 5 (x0.Nodes.map Jb)),(19,.int .i64 (x0.Nodes.length:Int)),(20,.int .i64 (k4:Int))],hL [(0,.box [.lst 1 (x1.Slots.map (lA 1 iA)),.lst 1 (x1.Bins.map (lA 1 iA))]),(1,.obj (Jeh r1)),(2,.row 1 (a2.map iA))],3⟩
 conv=>whnf
 refine⟨fun h=> ?_,fun h=> ?_⟩
 have lk4:k4<x0.Nodes.length:=by have h:=Wt h;omega
 obtain⟨e5,he5⟩:=ge lk4
 rw [Jl he5,QY.eq_2] at hL1
 conv=>whnf
 refine⟨k4,_,rfl,Jv he5,?_⟩
 conv=>whnf
 refine xB hL1 (fun b137 hL1=> ?_) fun b137 hL1=> ?_
 conv=>whnf
 refine⟨((k4+1:Nat):Int),wE,?_⟩
 conv=>whnf
 exact⟨(k4+1,a2),_,_,_,⟨lk4,hL1⟩,sl lk4,wK [0,1,2] [] [] ⟨bN,Jav rfl rfl,bR,tv⟩⟩
 conv=>whnf
 refine Jm (enc:=(lA 1 (lA 1 iA))) (l:=([x1.Slots,x1.Bins]:List (List (List Int)))) rfl ?_
 conv=>whnf
 obtain⟨c2,hc_2,hL1⟩:=YF hL1
 refine Jk4 4 (sz:=1) (xs:=([x1.Slots,x1.Bins]:List (List (List Int))).map (lA 1 (lA 1 iA))) (by(conv=>lhs;whnf)<;>rfl) (fun hb=> ?_)
 have hbd_k_8:([x1.Slots,x1.Bins]:List (List (List Int))).length<=9223372036854775807:=Jz (enc:=(lA 1 (lA 1 iA))) (hb)
 refine Jo Jc Ja (fun y:Nat×(List Int)=>y.1<=([x1.Slots,x1.Bins]:List (List (List Int))).length∧QH r1 k4 (([x1.Slots,x1.Bins]:List (List (List Int))).drop y.1) y.1 y.2=some c2) (fun y=>⟨eL [(4,.ptr 0 0),(7,.mp 1),(8,.osl 2),(9,.int .i64 (k4:Int)),(18,.lst 5 (x0.Nodes.map Jb)),(19,.int .i64 (x0.Nodes.length:Int)),(20,.int .i64 (k4:Int)),(32,.osl 3),(33,.int .i64 (([x1.Slots,x1.Bins]:List (List (List Int))).length:Int)),(34,.int .i64 (y.1:Int))],hL [(0,.box [.lst 1 (x1.Slots.map (lA 1 iA)),.lst 1 (x1.Bins.map (lA 1 iA))]),(1,.obj (Jeh r1)),(2,.row 1 (y.2.map iA)),(3,.row 1 (([x1.Slots,x1.Bins]:List (List (List Int))).map (lA 1 (lA 1 iA))))],4⟩) (fun y=>([x1.Slots,x1.Bins]:List (List (List Int))).length - y.1) (0,a2) ⟨Nat.zero_le _,hc_2⟩ (wK [0,1,2,4] [] [] ⟨bN,Jav rfl rfl,bR,bR,tv⟩) ?_
 rintro⟨k8,a6⟩ ⟨hk_k_8,hL2⟩
 try dsimp only at hk_k_8 hL2
 show awp _ _ _ _ _ _ ⟨eL [(4,.ptr 0 0),(7,.mp 1),(8,.osl 2),(9,.int .i64 (k4:Int)),(18,.lst 5 (x0.Nodes.map Jb)),(19,.int .i64 (x0.Nodes.length:Int)),(20,.int .i64 (k4:Int)),(32,.osl 3),(33,.int .i64 (([x1.Slots,x1.Bins]:List (List (List Int))).length:Int)),(34,.int .i64 (k8:Int))],hL [(0,.box [.lst 1 (x1.Slots.map (lA 1 iA)),.lst 1 (x1.Bins.map (lA 1 iA))]),(1,.obj (Jeh r1)),(2,.row 1 (a6.map iA)),(3,.row 1 (([x1.Slots,x1.Bins]:List (List (List Int))).map (lA 1 (lA 1 iA))))],4⟩
 conv=>whnf
 refine⟨fun h=> ?_,fun h=> ?_⟩
 have lk8:k8<([x1.Slots,x1.Bins]:List (List (List Int))).length:=by have h:=Wt h;omega
 obtain⟨e9,he9⟩:=ge lk8
 rw [Jl he9,QH.eq_2] at hL2
 conv=>whnf
 refine⟨k8,rfl,by rw [List.length_map];exact lk8,?_⟩
 conv=>whnf
 refine⟨_,Jv (enc:=(lA 1 (lA 1 iA))) he9,?_⟩
 conv=>whnf
 refine Jm (enc:=(lA 1 iA)) (l:=e9) rfl ?_
 conv=>whnf
 refine xB hL2 (fun b138 hL2=> ?_) fun b138 hL2=> ?_
 conv=>whnf
 refine⟨((k8+1:Nat):Int),wE,?_⟩
 conv=>whnf
 exact⟨(k8+1,a6),_,_,_,⟨lk8,hL2⟩,sl lk8,wK [0,1,2,3] [] [] ⟨bN,Jav rfl rfl,bR,bR,tv⟩⟩
 conv=>whnf
 obtain⟨e10,he10,hL2⟩:=bs' hL2
 refine JZ (enc:=(lA 1 iA)) (l:=e9) he10 rfl (fun m_e_10 hm_e_10 hx_e_10=> ?_)
 conv=>whnf
 refine Jm (enc:=iA) (l:=e10) rfl ?_
 conv=>whnf
 obtain⟨c3,hc_3,hL2⟩:=YF hL2
 refine J1 44 (v:= .iptr [.lst 1 (e10.map iA)]) (by(conv=>lhs;whnf)<;>rfl) (fun hb=> ?_)
 have hbd_k_13:e10.length<=9223372036854775807:=Jz (enc:=iA) ((YC hb.icell 0 rfl))
 refine Jo Jc Ja (fun y:Nat×(List Int)=>y.1<=e10.length∧QG r1 (e10.drop y.1) y.1 y.2=some c3) (fun y=>⟨eL [(4,.ptr 0 0),(7,.mp 1),(8,.osl 2),(9,.int .i64 (k4:Int)),(18,.lst 5 (x0.Nodes.map Jb)),(19,.int .i64 (x0.Nodes.length:Int)),(20,.int .i64 (k4:Int)),(32,.osl 3),(33,.int .i64 (([x1.Slots,x1.Bins]:List (List (List Int))).length:Int)),(34,.int .i64 (k8:Int)),(45,.lst 1 (e10.map iA)),(46,.int .i64 (e10.length:Int)),(47,.int .i64 (y.1:Int))],hL [(0,.box [.lst 1 (x1.Slots.map (lA 1 iA)),.lst 1 (x1.Bins.map (lA 1 iA))]),(1,.obj (Jeh r1)),(2,.row 1 (y.2.map iA)),(3,.row 1 (([x1.Slots,x1.Bins]:List (List (List Int))).map (lA 1 (lA 1 iA))))],4⟩) (fun y=>e10.length - y.1) (0,a6) ⟨Nat.zero_le _,hc_3⟩ (wK [0,1,2,3] [] [] ⟨bN,Jav rfl rfl,bR,bR,tv⟩) ?_
 rintro⟨k13,a11⟩ ⟨hk_k_13,hL3⟩
 try dsimp only at hk_k_13 hL3
 show awp _ _ _ _ _ _ ⟨eL [(4,.ptr 0 0),(7,.mp 1),(8,.osl 2),(9,.int .i64 (k4:Int)),(18,.lst 5 (x0.Nodes.map Jb)),(19,.int .i64 (x0.Nodes.length:Int)),(20,.int .i64 (k4:Int)),(32,.osl 3),(33,.int .i64 (([x1.Slots,x1.Bins]:List (List (List Int))).length:Int)),(34,.int .i64 (k8:Int)),(45,.lst 1 (e10.map iA)),(46,.int .i64 (e10.length:Int)),(47,.int .i64 (k13:Int))],hL [(0,.box [.lst 1 (x1.Slots.map (lA 1 iA)),.lst 1 (x1.Bins.map (lA 1 iA))]),(1,.obj (Jeh r1)),(2,.row 1 (a11.map iA)),(3,.row 1 (([x1.Slots,x1.Bins]:List (List (List Int))).map (lA 1 (lA 1 iA))))],4⟩
 conv=>whnf
 refine⟨fun h=> ?_,fun h=> ?_⟩
 have lk13:k13<e10.length:=by have h:=Wt h;omega
 obtain⟨e14,he14⟩:=ge lk13
 rw [Jl he14,QG.eq_2] at hL3
 conv=>whnf
 refine⟨k13,_,rfl,Jv he14,?_⟩
 conv=>whnf
 refine xB hL3 (fun b139 hL3=> ?_) fun b139 hL3=> ?_
 conv=>whnf
 obtain⟨v15,hv15,hL3⟩:=bs' hL3
 refine⟨_,JgU (x:=e14) (E:=r1) rfl rfl rfl rfl hv15,?_⟩
 conv=>whnf
 refine xB hL3 (fun b140 hL3=> ?_) fun b140 hL3=> ?_
 conv=>whnf
 obtain⟨l16,hl16,hL3⟩:=bs' hL3
 refine ZV (enc:=iA) (l:=a11) (y:=([e14]:List Int)) hl16 rfl rfl (by decide) ?_
 conv=>whnf
 refine⟨((k13+1:Nat):Int),wE,?_⟩
 conv=>whnf
 exact⟨(k13+1,l16),_,_,_,⟨lk13,hL3⟩,sl lk13,wK [0,1,5,3] [] [] ⟨bN,Jav rfl rfl,bR,bR,tv⟩⟩
 conv=>whnf
 refine⟨((k13+1:Nat):Int),wE,?_⟩
 conv=>whnf
 exact⟨(k13+1,a11),_,_,_,⟨lk13,hL3⟩,sl lk13,wK [0,1,2,3] [] [] ⟨bN,Jav rfl rfl,bR,bR,tv⟩⟩
 conv=>whnf
 refine⟨((k13+1:Nat):Int),wE,?_⟩
 conv=>whnf
 exact⟨(k13+1,a11),_,_,_,⟨lk13,hL3⟩,sl lk13,wK [0,1,2,3] [] [] ⟨bN,Jav rfl rfl,bR,bR,tv⟩⟩
 rw [Jq (nl h),QG.eq_1] at hL3
 conv=>whnf
 obtain rfl:=si hL3
 replace hL2:=Zz hL2
 try dsimp only at hL2
 refine⟨((k8+1:Nat):Int),wE,?_⟩
 conv=>whnf
 exact⟨(k8+1,a11),_,_,_,⟨lk8,hL2⟩,sl lk8,wK [0,1,2,3] [] [] ⟨bN,Jav rfl rfl,bR,bR,tv⟩⟩
 rw [Jq (show ([x1.Slots,x1.Bins]:List (List (List Int))).length<=k8 by have h:=Wf h;omega),QH.eq_1] at hL2
 conv=>whnf
 obtain rfl:=si hL2
 replace hL1:=Zz hL1
 try dsimp only at hL1
 refine⟨((k4+1:Nat):Int),wE,?_⟩
 conv=>whnf
 exact⟨(k4+1,a6),_,_,_,⟨lk4,hL1⟩,sl lk4,wK [0,1,2] [] [] ⟨bN,Jav rfl rfl,bR,tv⟩⟩
 rw [Jq (nl h),QY.eq_1] at hL1
 conv=>whnf
 obtain rfl:=si hL1
 replace hF:=Jw hF
 try dsimp only at hF
 obtain⟨r23,hr23,hF⟩:=bs' hF
 refine cE (dX false [2] [] 0 Tryz.func57 (Jdm a2 r23 hr23) ⟨gR,tv⟩ Qd ⟨rR,tv⟩) ?_
 conv=>whnf
 obtain rfl:=si hF
 exact Jk [2] [] [] rfl (aO 2) ⟨bR,tv⟩
theorem Jg1 (x0:Src) (r:Bool) (hF:JcB x0=some r):AC Tryz.prog 10 [.iptr [.lst 1 (x0.L.map iA),.int .i64 x0.At]] [] (.bool r) ([]):=by
 refine Ju Jc Ja Tryz.func10 rfl Tryz.ntmps10 rfl ?_
 unfold JcB at hF
 conv=>whnf
 refine Jm (enc:=iA) (l:=x0.L) rfl ?_
 conv=>whnf
 refine⟨by kernel_rfl,?_⟩
 conv=>whnf
 obtain rfl:=si hF
 exact rZ
theorem Jf0 (x0:(List Int)) (r:Bool) (hF:Jbs x0=some r):AC Tryz.prog 3 [.lst 1 (x0.map iA)] [] (.bool r) ([]):=by
 refine Ju8 Jc Ja Tryz.func3 rfl Tryz.ntmps3 rfl ?_
 unfold Jbs at hF
 conv=>whnf
 obtain⟨r1,hr1,hF⟩:=bs' hF
 refine cE (d0 1 Tryz.func4 (JlH x0 r1 hr1) ⟨rfl,tv⟩) ?_
 conv=>whnf
 obtain⟨r2,hr2,hF⟩:=bs' hF
 refine cE (dX false [0] [] 0 Tryz.func5 (Jf9 r1 r2 hr2) ⟨rfl,tv⟩ Qd ⟨rfl,tv⟩) ?_
 conv=>whnf
 obtain⟨r3,hr3,hF⟩:=bs' hF
 refine cE (dX false [0] [] 0 Tryz.func6 (JD r2.2 3 r3 hr3) ⟨rfl,tv⟩ Qd ⟨rfl,tv⟩) ?_
 conv=>whnf
 obtain⟨r4,hr4,hF⟩:=bs' hF
 refine cE (d0 0 Tryz.func7 (Jgn r2.1 r4 hr4)) ?_
 conv=>whnf
 obtain⟨r5,hr5,hF⟩:=bs' hF
 refine cE (d0 0 Tryz.func8 (Jkp r2.1 r3.1 r5 hr5)) ?_
 conv=>whnf
 refine⟨fun b499=> ?_,fun b499=> ?_⟩
 replace hF:=cf b499 hF
 conv=>whnf
 refine xB hF (fun b500 hF=> ?_) fun b500 hF=> ?_
 conv=>whnf
 obtain rfl:=si hF
 exact rZ
 conv=>whnf
 obtain⟨r6,hr6,hF⟩:=bs' hF
 refine cE (dX false [0] [] 0 Tryz.func9 (JfN r3.2 r6 hr6) ⟨rfl,tv⟩ Qd ⟨rfl,tv⟩) ?_
 conv=>whnf
 refine Jf2 Jc Ja ?_
 conv=>whnf
 obtain⟨c1,hc_1,hF⟩:=Jr hF
 refine JhY Jc Ja (fun y:Nat×(List Int)×Int×(List (List Int))×(List (List Int))×Int×(List Hypothesis)×(List Int)×Int×Int×Int=>Qo r2 r3 r6 y.1 y.2.1 y.2.2.1 y.2.2.2.1 y.2.2.2.2.1 y.2.2.2.2.2.1 y.2.2.2.2.2.2.1 y.2.2.2.2.2.2.2.1 y.2.2.2.2.2.2.2.2.1 y.2.2.2.2.2.2.2.2.2.1 y.2.2.2.2.2.2.2.2.2.2=some c1) (fun y=>⟨eL [(3,.ptr 0 0),(4,.ptr 1 0),(5,.int .i64 r3.1),(6,.ptr 2 0),(8,.ptr 3 0),(10,.lst 3 (r6.1.map JJ)),(11,.osl 4),(12,.int .i64 y.2.2.2.2.2.2.2.2.1),(13,.int .i64 y.2.2.2.2.2.2.2.2.2.1),(14,.int .i64 y.2.2.2.2.2.2.2.2.2.2)],hL [(0,.box [.lst 1 (y.2.1.map iA),.int .i64 y.2.2.1]),(1,.box [.lst 5 (r2.1.Nodes.map Jb),.lst 3 (r2.1.Devices.map Jd)]),(2,.box [.lst 1 (y.2.2.2.1.map (lA 1 iA)),.lst 1 (y.2.2.2.2.1.map (lA 1 iA))]),(3,.box [.int .i64 y.2.2.2.2.2.1,.lst 3 (y.2.2.2.2.2.2.1.map Jg)]),(4,.row 1 (y.2.2.2.2.2.2.2.1.map iA))],5⟩) (fun y=>y.1) (9223372036854775807,r6.2.L,r6.2.At,r4.1.Slots,r4.1.Bins,r5.1.Budget,r5.1.L,([]:List Int),0,0,0) hc_1 (wK [0,3,6,8] [4] [] ⟨bN,bN,bN,bN,Jci rfl,tv⟩) ?_
 rintro⟨q122,a7,i8,a9,a10,i11,a12,a13,i14,i15,i16⟩ hL1
 try dsimp only at hL1
 rcases q122 with _ |q122
 rw [Qo.eq_1] at hL1
 cases hL1
 rw [Qo.eq_2] at hL1
 show JeX _ _ _ _ _ _ ⟨eL [(3,.ptr 0 0),(4,.ptr 1 0),(5,.int .i64 r3.1),(6,.ptr 2 0),(8,.ptr 3 0),(10,.lst 3 (r6.1.map JJ)),(11,.osl 4),(12,.int .i64 i14),(13,.int .i64 i15),(14,.int .i64 i16)],hL [(0,.box [.lst 1 (a7.map iA),.int .i64 i8]),(1,.box [.lst 5 (r2.1.Nodes.map Jb),.lst 3 (r2.1.Devices.map Jd)]),(2,.box [.lst 1 (a9.map (lA 1 iA)),.lst 1 (a10.map (lA 1 iA))]),(3,.box [.int .i64 i11,.lst 3 (a12.map Jg)]),(4,.row 1 (a13.map iA))],5⟩
 conv=>whnf
 refine xB hL1 (fun b501 hL1=> ?_) fun b501 hL1=> ?_
 conv=>whnf
 refine⟨fun b502=> ?_,fun b502=> ?_⟩
 replace hL1:=cf b502 hL1
 conv=>whnf
 obtain⟨r69,hr69,hL1⟩:=bs' hL1
 refine cE (cX false [] [0] 0 Tryz.func10 (Jg1 (⟨a7,i8⟩:Src) r69 hr69) ⟨(YT 0 _ (by(conv=>lhs;whnf)<;>rfl) rfl rfl rfl rfl),tv⟩ trivial (YJ rfl trivial) trivial) ?_
 conv=>whnf
 refine xB hL1 (fun b531 hL1=> ?_) fun b531 hL1=> ?_
 conv=>whnf
 obtain⟨D_532,cJ_532,hJ_532,hB_532,hD_532,hR_532⟩:=Jk5 hL1
 refine Jne Jc Ja (fun y:(List Int)×Int×(List (List Int))×(List (List Int))×Int×(List Hypothesis)×(List Int)×Int=>⟨eL [(3,.ptr 0 0),(4,.ptr 1 0),(5,.int .i64 r3.1),(6,.ptr 2 0),(8,.ptr 3 0),(10,.lst 3 (r6.1.map JJ)),(11,.osl 4),(12,.int .i64 i14),(13,.int .i64 y.2.2.2.2.2.2.2),(14,.int .i64 i16)],hL [(0,.box [.lst 1 (y.1.map iA),.int .i64 y.2.1]),(1,.box [.lst 5 (r2.1.Nodes.map Jb),.lst 3 (r2.1.Devices.map Jd)]),(2,.box [.lst 1 (y.2.2.1.map (lA 1 iA)),.lst 1 (y.2.2.2.1.map (lA 1 iA))]),(3,.box [.int .i64 y.2.2.2.2.1,.lst 3 (y.2.2.2.2.2.1.map Jg)]),(4,.row 1 (y.2.2.2.2.2.2.1.map iA))],5⟩) D_532 ?_ ?_
 conv=>whnf
 refine xB hJ_532 (fun b533 hJ_532=> ?_) fun b533 hJ_532=> ?_
 conv=>whnf
 obtain⟨r70,hr70,hJ_532⟩:=bs' hJ_532
 refine cE (dX false [0] [] 0 Tryz.func6 (JD (⟨a7,i8⟩:Src) 2 r70 hr70) ⟨rfl,tv⟩ Qd ⟨rfl,tv⟩) ?_
 conv=>whnf
 refine xB hJ_532 (fun b534 hJ_532=> ?_) fun b534 hJ_532=> ?_
 conv=>whnf
 refine⟨_,rfl,?_⟩
 conv=>whnf
 obtain⟨r71,hr71,hJ_532⟩:=bs' hJ_532
 refine cE (d0 0 Tryz.func11 (Jdv r2.1 (⟨a9,a10⟩:Plant) 0 (w64 (i15+1)) r71 hr71)) ?_
 conv=>whnf
 refine xB hJ_532 (fun b535 hJ_532=> ?_) fun b535 hJ_532=> ?_
 conv=>whnf
 refine⟨_,rfl,?_⟩
 conv=>whnf
 obtain⟨r72,hr72,hJ_532⟩:=bs' hJ_532
 refine cE (d0 0 Tryz.func12 (Jfj r2.1 (⟨i11,a12⟩:Belief) 0 (w64 (i15+1)) r72 hr72)) ?_
 conv=>whnf
 refine xB hJ_532 (fun b536 hJ_532=> ?_) fun b536 hJ_532=> ?_
 conv=>whnf
 obtain rfl:=si hJ_532
 replace hL1:=hR_532 _ rfl
 obtain rfl:=si hL1
 replace hF:=Jn hF
 obtain rfl:=si hF
 exact rZ
 conv=>whnf
 refine⟨_,rfl,?_⟩
 conv=>whnf
 refine⟨by kernel_rfl,?_⟩
 conv=>whnf
 obtain⟨r73,hr73,hJ_532⟩:=bs' hJ_532
 refine cE (dX false [0] [] 0 Tryz.func6 (JD r70.2 2 r73 hr73) ⟨rfl,tv⟩ Qd ⟨rfl,tv⟩) ?_
 conv=>whnf
 refine xB hJ_532 (fun b537 hJ_532=> ?_) fun b537 hJ_532=> ?_
 conv=>whnf
 obtain⟨l74,hl74,hJ_532⟩:=bs' hJ_532
 refine ZV (enc:=iA) (l:=a13) (y:=([(w64 (i15+1))]:List Int)) hl74 rfl rfl (by decide) ?_
 conv=>whnf
 obtain rfl:=si hJ_532
 exact⟨(r73.2.L,r73.2.At,r71.1.Slots,r71.1.Bins,r72.1.Budget,r72.1.L,l74,(w64 (i15+1))),_,_,_,hB_532 _ rfl,wK [0,1,2,3,13] [] []⟩
 conv=>whnf
 obtain rfl:=si hJ_532
 exact⟨(r73.2.L,r73.2.At,r71.1.Slots,r71.1.Bins,r72.1.Budget,r72.1.L,a13,(w64 (i15+1))),_,_,_,hB_532 _ rfl,wK [0,1,2,3,4] [] []⟩
 conv=>whnf
 obtain rfl:=si hJ_532
 exact⟨(r70.2.L,r70.2.At,a9,a10,i11,a12,a13,i15),_,_,_,hB_532 _ rfl,wK [0,1,2,3,4] [] []⟩
 conv=>whnf
 obtain rfl:=si hJ_532
 exact⟨(r70.2.L,r70.2.At,a9,a10,i11,a12,a13,i15),_,_,_,hB_532 _ rfl,wK [0,1,2,3,4] [] []⟩
 conv=>whnf
 obtain rfl:=si hJ_532
 exact⟨(a7,i8,a9,a10,i11,a12,a13,i15),_,_,_,hB_532 _ rfl,wK [0,1,2,3,4] [] []⟩
 rintro z83 hx_532
 replace hL1:=hD_532 _ hx_532
 try dsimp only at hL1
 conv=>whnf
 obtain⟨r84,hr84,hL1⟩:=bs' hL1
 refine cE (d0 0 Tryz.func13 (JbP r2.1 (⟨z83.2.2.1,z83.2.2.2.1⟩:Plant) r84 hr84)) ?_
 conv=>whnf
 refine xB hL1 (fun b538 hL1=> ?_) fun b538 hL1=> ?_
 conv=>whnf
 obtain rfl:=si hL1
 replace hF:=Jn hF
 obtain rfl:=si hF
 exact rZ
 conv=>whnf
 obtain⟨l85,hl85,hL1⟩:=bs' hL1
 refine JuO hl85 (by decide) ?_
 conv=>whnf
 refine Jf2 Jc Ja ?_
 conv=>whnf
 obtain⟨c2,hc_2,hL1⟩:=YF hL1
 refine J1 110 (v:= .agg [.lst 5 (r2.1.Nodes.map Jb),.lst 3 (r2.1.Devices.map Jd)]) (by(conv=>lhs;whnf)<;>rfl) (fun hb=> ?_)
 have hbd_k_90:r2.1.Nodes.length<=9223372036854775807:=Jz (enc:=Jb) ((YC hb.cell 0 rfl))
 refine JhY Jc Ja (fun y:Nat×(List Int)×Int×(List Bool)=>y.1<=r2.1.Nodes.length∧Jp z83 (r2.1.Nodes.drop y.1) y.1 y.2.1 y.2.2.1 y.2.2.2=some c2) (fun y=>⟨eL [(3,.ptr 0 0),(4,.ptr 1 0),(5,.int .i64 r3.1),(6,.ptr 2 0),(8,.ptr 3 0),(10,.lst 3 (r6.1.map JJ)),(11,.osl 4),(12,.int .i64 i14),(13,.int .i64 z83.2.2.2.2.2.2.2),(14,.int .i64 i16),(19,.osl 5),(20,.int .i64 (y.1:Int))],hL [(0,.box [.lst 1 (y.2.1.map iA),.int .i64 y.2.2.1]),(1,.box [.lst 5 (r2.1.Nodes.map Jb),.lst 3 (r2.1.Devices.map Jd)]),(2,.box [.lst 1 (z83.2.2.1.map (lA 1 iA)),.lst 1 (z83.2.2.2.1.map (lA 1 iA))]),(3,.box [.int .i64 z83.2.2.2.2.1,.lst 3 (z83.2.2.2.2.2.1.map Jg)]),(4,.row 1 (z83.2.2.2.2.2.2.1.map iA)),(5,.row 1 (y.2.2.2.map bA))],6⟩) (fun y=>r2.1.Nodes.length - y.1) (0,z83.1,z83.2.1,l85) ⟨Nat.zero_le _,hc_2⟩ (wK [0,1,2,3,4,6] [] [] ⟨bN,bN,bN,bN,bR,Jcx rfl rfl (JbN.rep _ (Jgf (c':=[.bool false]) rfl rfl ⟨.fls,tv⟩)) (by rw [Jkh hl85,List.map_replicate];rfl),tv⟩) ?_
 rintro⟨k90,a86,i87,a88⟩ ⟨hk_k_90,hL2⟩
 try dsimp only at hk_k_90 hL2
 show JeX _ _ _ _ _ _ ⟨eL [(3,.ptr 0 0),(4,.ptr 1 0),(5,.int .i64 r3.1),(6,.ptr 2 0),(8,.ptr 3 0),(10,.lst 3 (r6.1.map JJ)),(11,.osl 4),(12,.int .i64 i14),(13,.int .i64 z83.2.2.2.2.2.2.2),(14,.int .i64 i16),(19,.osl 5),(20,.int .i64 (k90:Int))],hL [(0,.box [.lst 1 (a86.map iA),.int .i64 i87]),(1,.box [.lst 5 (r2.1.Nodes.map Jb),.lst 3 (r2.1.Devices.map Jd)]),(2,.box [.lst 1 (z83.2.2.1.map (lA 1 iA)),.lst 1 (z83.2.2.2.1.map (lA 1 iA))]),(3,.box [.int .i64 z83.2.2.2.2.1,.lst 3 (z83.2.2.2.2.2.1.map Jg)]),(4,.row 1 (z83.2.2.2.2.2.2.1.map iA)),(5,.row 1 (a88.map bA))],6⟩
 conv=>whnf
 refine Jm (enc:=Jb) (l:=r2.1.Nodes) rfl ?_
 conv=>whnf
 refine⟨fun h=> ?_,fun h=> ?_⟩
 have lk90:k90<r2.1.Nodes.length:=by have h:=Wt h;omega
 obtain⟨e91,he91⟩:=ge lk90
 rw [Jl he91,Jp.eq_2] at hL2
 conv=>whnf
 refine Jf2 Jc Ja ?_
 conv=>whnf
 refine⟨k90,_,rfl,Jv he91,?_⟩
 conv=>whnf
 refine xB hL2 (fun b539 hL2=> ?_) fun b539 hL2=> ?_
 conv=>whnf
 refine⟨((k90+1:Nat):Int),wE,?_⟩
 conv=>whnf
 exact⟨(k90+1,a86,i87,a88),_,_,_,⟨lk90,hL2⟩,sl lk90,wK [0,1,2,3,4,5] [] []⟩
 conv=>whnf
 obtain⟨e92,he92,hL2⟩:=bs' hL2
 refine JZ (enc:=(lA 1 iA)) (l:=z83.2.2.1) he92 rfl (fun m_e_92 hm_e_92 hx_e_92=> ?_)
 conv=>whnf
 refine Jm (enc:=iA) (l:=e92) rfl ?_
 conv=>whnf
 refine⟨_,rfl,?_⟩
 conv=>whnf
 obtain⟨e93,he93,hL2⟩:=bs' hL2
 refine JZ (enc:=iA) (l:=e92) he93 rfl (fun m_e_93 hm_e_93 hx_e_93=> ?_)
 conv=>whnf
 refine Jm (enc:=iA) (l:=e92) rfl ?_
 conv=>whnf
 refine⟨_,rfl,?_⟩
 conv=>whnf
 obtain⟨e94,he94,hL2⟩:=bs' hL2
 refine JZ (enc:=iA) (l:=e92) he94 rfl (fun m_e_94 hm_e_94 hx_e_94=> ?_)
 conv=>whnf
 refine⟨by kernel_rfl,?_⟩
 conv=>whnf
 obtain⟨r95,hr95,hL2⟩:=bs' hL2
 refine cE (dX false [0] [] 0 Tryz.func6 (JD (⟨a86,i87⟩:Src) 5 r95 hr95) ⟨rfl,tv⟩ Qd ⟨rfl,tv⟩) ?_
 conv=>whnf
 refine Jf2 Jc Ja ?_
 conv=>whnf
 refine xB hL2 (fun b540 hL2=> ?_) fun b540 hL2=> ?_
 conv=>whnf
 obtain⟨r96,hr96,hL2⟩:=bs' hL2
 refine cE (dX false [0] [] 0 Tryz.func6 (JD r95.2 5 r96 hr96) ⟨rfl,tv⟩ Qd ⟨rfl,tv⟩) ?_
 conv=>whnf
 obtain⟨r97,hr97,hL2⟩:=bs' hL2
 refine cE (cX false [] [4] 0 Tryz.func14 (QQ (⟨r96.1,e94,z83.2.2.2.2.2.2.1,z83.2.2.2.2.2.2.1⟩:Votes) r97 hr97) ⟨(aA [.int .i64 r96.1,.int .i64 e94,.osl 4,.osl 4] ⟨(.ni _ rfl),(.ni _ rfl),(.osl 4 1 _ (by simp) rfl (QI (fun _=>⟨rfl,rfl⟩) _)),(.osl 4 1 _ (by simp) rfl (QI (fun _=>⟨rfl,rfl⟩) _)),tv⟩),tv⟩ trivial (YJ rfl trivial) trivial) ?_
 conv=>whnf
 refine xB hL2 (fun b541 hL2=> ?_) fun b541 hL2=> ?_
 conv=>whnf
 refine xB hL2 (fun b542 hL2=> ?_) fun b542 hL2=> ?_
 conv=>whnf
 refine⟨_,rfl,?_⟩
 conv=>whnf
 obtain⟨e98,he98,hL2⟩:=bs' hL2
 refine Qc (enc:=bA) (l:=a88) he98 rfl (fun m_e_98 hm_e_98 hx_e_98=> ?_)
 conv=>whnf
 refine Z6 (enc:=bA) (l:=a88) (x':=true) (i:=(w64 (r97.1 - 1))) hm_e_98 hx_e_98 rfl (Wl rfl) rfl ?_
 conv=>whnf
 refine⟨((k90+1:Nat):Int),wE,?_⟩
 conv=>whnf
 exact⟨(k90+1,r96.2.L,r96.2.At,(a88.set (w64 (r97.1 - 1)).toNat true)),_,_,_,⟨lk90,hL2⟩,sl lk90,wK [0,1,2,3,4,5] [] []⟩
 conv=>whnf
 refine⟨((k90+1:Nat):Int),wE,?_⟩
 conv=>whnf
 exact⟨(k90+1,r96.2.L,r96.2.At,a88),_,_,_,⟨lk90,hL2⟩,sl lk90,wK [0,1,2,3,4,5] [] []⟩
 conv=>whnf
 refine⟨((k90+1:Nat):Int),wE,?_⟩
 conv=>whnf
 exact⟨(k90+1,r96.2.L,r96.2.At,a88),_,_,_,⟨lk90,hL2⟩,sl lk90,wK [0,1,2,3,4,5] [] []⟩
 conv=>whnf
 refine xB hL2 (fun b543 hL2=> ?_) fun b543 hL2=> ?_
 conv=>whnf
 obtain⟨r99,hr99,hL2⟩:=bs' hL2
 refine cE (dX false [0] [] 0 Tryz.func6 (JD r95.2 5 r99 hr99) ⟨rfl,tv⟩ Qd ⟨rfl,tv⟩) ?_
 conv=>whnf
 obtain⟨r100,hr100,hL2⟩:=bs' hL2
 refine cE (cX false [] [4] 0 Tryz.func14 (QQ (⟨e93,r99.1,z83.2.2.2.2.2.2.1,z83.2.2.2.2.2.2.1⟩:Votes) r100 hr100) ⟨(aA [.int .i64 e93,.int .i64 r99.1,.osl 4,.osl 4] ⟨(.ni _ rfl),(.ni _ rfl),(.osl 4 1 _ (by simp) rfl (QI (fun _=>⟨rfl,rfl⟩) _)),(.osl 4 1 _ (by simp) rfl (QI (fun _=>⟨rfl,rfl⟩) _)),tv⟩),tv⟩ trivial (YJ rfl trivial) trivial) ?_
 conv=>whnf
 refine xB hL2 (fun b544 hL2=> ?_) fun b544 hL2=> ?_
 conv=>whnf
 refine xB hL2 (fun b545 hL2=> ?_) fun b545 hL2=> ?_
 conv=>whnf
 refine⟨_,rfl,?_⟩
 conv=>whnf
 obtain⟨e101,he101,hL2⟩:=bs' hL2
 refine Qc (enc:=bA) (l:=a88) he101 rfl (fun m_e_101 hm_e_101 hx_e_101=> ?_)
 conv=>whnf
 refine Z6 (enc:=bA) (l:=a88) (x':=true) (i:=(w64 (r100.1 - 1))) hm_e_101 hx_e_101 rfl (Wl rfl) rfl ?_
 conv=>whnf
 refine⟨((k90+1:Nat):Int),wE,?_⟩
 conv=>whnf
 exact⟨(k90+1,r99.2.L,r99.2.At,(a88.set (w64 (r100.1 - 1)).toNat true)),_,_,_,⟨lk90,hL2⟩,sl lk90,wK [0,1,2,3,4,5] [] []⟩
 conv=>whnf
 refine⟨((k90+1:Nat):Int),wE,?_⟩
 conv=>whnf
 exact⟨(k90+1,r99.2.L,r99.2.At,a88),_,_,_,⟨lk90,hL2⟩,sl lk90,wK [0,1,2,3,4,5] [] []⟩
 conv=>whnf
 refine⟨((k90+1:Nat):Int),wE,?_⟩
 conv=>whnf
 exact⟨(k90+1,r99.2.L,r99.2.At,a88),_,_,_,⟨lk90,hL2⟩,sl lk90,wK [0,1,2,3,4,5] [] []⟩
 conv=>whnf
 refine xB hL2 (fun b546 hL2=> ?_) fun b546 hL2=> ?_
 conv=>whnf
 obtain⟨r102,hr102,hL2⟩:=bs' hL2
 refine cE (cX false [] [8,4] 0 Tryz.func14 (QQ (⟨e93,e94,([1,2,3]:List Int),z83.2.2.2.2.2.2.1⟩:Votes) r102 hr102) ⟨(aA [.int .i64 e93,.int .i64 e94,.osl 8,.osl 4] ⟨(.ni _ rfl),(.ni _ rfl),(.osl 8 1 _ (by simp) rfl (QI (fun _=>⟨rfl,rfl⟩) _)),(.osl 4 1 _ (by simp) rfl (QI (fun _=>⟨rfl,rfl⟩) _)),tv⟩),tv⟩ trivial (YJ rfl trivial) trivial) ?_
 conv=>whnf
 refine xB hL2 (fun b547 hL2=> ?_) fun b547 hL2=> ?_
 conv=>whnf
 refine xB hL2 (fun b548 hL2=> ?_) fun b548 hL2=> ?_
 conv=>whnf
 refine⟨_,rfl,?_⟩
 conv=>whnf
 obtain⟨e103,he103,hL2⟩:=bs' hL2
 refine Qc (enc:=bA) (l:=a88) he103 rfl (fun m_e_103 hm_e_103 hx_e_103=> ?_)
 conv=>whnf
 refine Z6 (enc:=bA) (l:=a88) (x':=true) (i:=(w64 (r102.1 - 1))) hm_e_103 hx_e_103 rfl (Wl rfl) rfl ?_
 conv=>whnf
 refine⟨((k90+1:Nat):Int),wE,?_⟩
 conv=>whnf
 exact⟨(k90+1,r95.2.L,r95.2.At,(a88.set (w64 (r102.1 - 1)).toNat true)),_,_,_,⟨lk90,hL2⟩,sl lk90,wK [0,1,2,3,4,5] [] []⟩
 conv=>whnf
 refine⟨((k90+1:Nat):Int),wE,?_⟩
 conv=>whnf
 exact⟨(k90+1,r95.2.L,r95.2.At,a88),_,_,_,⟨lk90,hL2⟩,sl lk90,wK [0,1,2,3,4,5] [] []⟩
 conv=>whnf
 refine⟨((k90+1:Nat):Int),wE,?_⟩
 conv=>whnf
 exact⟨(k90+1,r95.2.L,r95.2.At,a88),_,_,_,⟨lk90,hL2⟩,sl lk90,wK [0,1,2,3,4,5] [] []⟩
 conv=>whnf
 refine xB hL2 (fun b549 hL2=> ?_) fun b549 hL2=> ?_
 conv=>whnf
 obtain⟨r104,hr104,hL2⟩:=bs' hL2
 refine cE (cX false [] [4,8] 0 Tryz.func14 (QQ (⟨e93,e94,z83.2.2.2.2.2.2.1,([3,1,2]:List Int)⟩:Votes) r104 hr104) ⟨(aA [.int .i64 e93,.int .i64 e94,.osl 4,.osl 8] ⟨(.ni _ rfl),(.ni _ rfl),(.osl 4 1 _ (by simp) rfl (QI (fun _=>⟨rfl,rfl⟩) _)),(.osl 8 1 _ (by simp) rfl (QI (fun _=>⟨rfl,rfl⟩) _)),tv⟩),tv⟩ trivial (YJ rfl trivial) trivial) ?_
 conv=>whnf
 refine xB hL2 (fun b550 hL2=> ?_) fun b550 hL2=> ?_
 conv=>whnf
 refine xB hL2 (fun b551 hL2=> ?_) fun b551 hL2=> ?_
 conv=>whnf
 refine⟨_,rfl,?_⟩
 conv=>whnf
 obtain⟨e105,he105,hL2⟩:=bs' hL2
 refine Qc (enc:=bA) (l:=a88) he105 rfl (fun m_e_105 hm_e_105 hx_e_105=> ?_)
 conv=>whnf
 refine Z6 (enc:=bA) (l:=a88) (x':=true) (i:=(w64 (r104.1 - 1))) hm_e_105 hx_e_105 rfl (Wl rfl) rfl ?_
 conv=>whnf
 refine⟨((k90+1:Nat):Int),wE,?_⟩
 conv=>whnf
 exact⟨(k90+1,r95.2.L,r95.2.At,(a88.set (w64 (r104.1 - 1)).toNat true)),_,_,_,⟨lk90,hL2⟩,sl lk90,wK [0,1,2,3,4,5] [] []⟩
 conv=>whnf
 refine⟨((k90+1:Nat):Int),wE,?_⟩
 conv=>whnf
 exact⟨(k90+1,r95.2.L,r95.2.At,a88),_,_,_,⟨lk90,hL2⟩,sl lk90,wK [0,1,2,3,4,5] [] []⟩
 conv=>whnf
 refine⟨((k90+1:Nat):Int),wE,?_⟩
 conv=>whnf
 exact⟨(k90+1,r95.2.L,r95.2.At,a88),_,_,_,⟨lk90,hL2⟩,sl lk90,wK [0,1,2,3,4,5] [] []⟩
 conv=>whnf
 obtain⟨r106,hr106,hL2⟩:=bs' hL2
 refine cE (cX false [] [4] 0 Tryz.func14 (QQ (⟨e93,e94,z83.2.2.2.2.2.2.1,z83.2.2.2.2.2.2.1⟩:Votes) r106 hr106) ⟨(aA [.int .i64 e93,.int .i64 e94,.osl 4,.osl 4] ⟨(.ni _ rfl),(.ni _ rfl),(.osl 4 1 _ (by simp) rfl (QI (fun _=>⟨rfl,rfl⟩) _)),(.osl 4 1 _ (by simp) rfl (QI (fun _=>⟨rfl,rfl⟩) _)),tv⟩),tv⟩ trivial (YJ rfl trivial) trivial) ?_
 conv=>whnf
 refine xB hL2 (fun b552 hL2=> ?_) fun b552 hL2=> ?_
 conv=>whnf
 refine xB hL2 (fun b553 hL2=> ?_) fun b553 hL2=> ?_
 conv=>whnf
 refine⟨_,rfl,?_⟩
 conv=>whnf
 obtain⟨e107,he107,hL2⟩:=bs' hL2
 refine Qc (enc:=bA) (l:=a88) he107 rfl (fun m_e_107 hm_e_107 hx_e_107=> ?_)
 conv=>whnf
 refine Z6 (enc:=bA) (l:=a88) (x':=true) (i:=(w64 (r106.1 - 1))) hm_e_107 hx_e_107 rfl (Wl rfl) rfl ?_
 conv=>whnf
 refine⟨((k90+1:Nat):Int),wE,?_⟩
 conv=>whnf
 exact⟨(k90+1,r95.2.L,r95.2.At,(a88.set (w64 (r106.1 - 1)).toNat true)),_,_,_,⟨lk90,hL2⟩,sl lk90,wK [0,1,2,3,4,5] [] []⟩
 conv=>whnf
 refine⟨((k90+1:Nat):Int),wE,?_⟩
 conv=>whnf
 exact⟨(k90+1,r95.2.L,r95.2.At,a88),_,_,_,⟨lk90,hL2⟩,sl lk90,wK [0,1,2,3,4,5] [] []⟩
 conv=>whnf
 refine⟨((k90+1:Nat):Int),wE,?_⟩
 conv=>whnf
 exact⟨(k90+1,r95.2.L,r95.2.At,a88),_,_,_,⟨lk90,hL2⟩,sl lk90,wK [0,1,2,3,4,5] [] []⟩
 rw [Jq (nl h),Jp.eq_1] at hL2
 conv=>whnf
 obtain rfl:=si hL2
 replace hL1:=Zz hL1
 try dsimp only at hL1
 refine Jm (enc:=Jb) (l:=r2.1.Nodes) rfl ?_
 conv=>whnf
 obtain⟨r110,hr110,hL1⟩:=bs' hL1
 refine cE (dX false [0] [] 0 Tryz.func16 (JdR (⟨a86,i87⟩:Src) z83.2.2.2.2.2.2.2 (r2.1.Nodes.length:Int) r110 hr110) ⟨rfl,tv⟩ Qd ⟨rfl,tv⟩) ?_
 conv=>whnf
 obtain⟨r111,hr111,hL1⟩:=bs' hL1
 refine cE (dX true [] [5] 0 Tryz.func15 (JdY r2.1 (⟨z83.2.2.2.2.1,z83.2.2.2.2.2.1⟩:Belief) r110.1 a88 a88 ([]:(List Bool)) r111 hr111) trivial JdU trivial) ?_
 conv=>whnf
 refine⟨by kernel_rfl,?_⟩
 conv=>whnf
 obtain⟨r112,hr112,hL1⟩:=bs' hL1
 refine cE (dX false [0] [] 0 Tryz.func6 (JD r110.2 2 r112 hr112) ⟨rfl,tv⟩ Qd ⟨rfl,tv⟩) ?_
 conv=>whnf
 refine⟨_,rfl,?_⟩
 conv=>whnf
 obtain⟨r113,hr113,hL1⟩:=bs' hL1
 refine cE (dX false [0] [] 0 Tryz.func17 (JdS r112.2 r2.1 (if (w64 (r3.1 - i14))<r112.1 then (w64 (r3.1 - i14)) else r112.1) r113 hr113) ⟨rfl,tv⟩ Qd ⟨rfl,tv⟩) ?_
 conv=>whnf
 refine⟨by kernel_rfl,?_⟩
 conv=>whnf
 obtain⟨r114,hr114,hL1⟩:=bs' hL1
 refine cE (d0 0 Tryz.func18 (JfQ r2.1 (⟨z83.2.2.1,z83.2.2.2.1⟩:Plant) r111 r113.1 r114 hr114)) ?_
 conv=>whnf
 refine⟨fun b554=> ?_,fun b554=> ?_⟩
 replace hL1:=cf b554 hL1
 conv=>whnf
 obtain⟨r115,hr115,hL1⟩:=bs' hL1
 refine cE (d0 0 Tryz.func13 (JbP r2.1 r114.1 r115 hr115)) ?_
 conv=>whnf
 refine xB hL1 (fun b555 hL1=> ?_) fun b555 hL1=> ?_
 conv=>whnf
 obtain rfl:=si hL1
 replace hF:=Jn hF
 obtain rfl:=si hF
 exact rZ
 conv=>whnf
 obtain⟨r116,hr116,hL1⟩:=bs' hL1
 refine cE (dX false [0] [] 0 Tryz.func6 (JD r113.2 2 r116 hr116) ⟨rfl,tv⟩ Qd ⟨rfl,tv⟩) ?_
 conv=>whnf
 refine⟨_,rfl,?_⟩
 conv=>whnf
 refine Jm (enc:=Je) (l:=r113.1) rfl ?_
 conv=>whnf
 refine⟨_,rfl,?_⟩
 conv=>whnf
 obtain⟨r117,hr117,hL1⟩:=bs' hL1
 refine cE (dX false [0] [] 0 Tryz.func19 (JcJ r116.2 r2.1 r114.1 (if (w64 ((w64 (r3.1 - i14)) - (r113.1.length:Int)))<r116.1 then (w64 ((w64 (r3.1 - i14)) - (r113.1.length:Int))) else r116.1) r117 hr117) ⟨rfl,tv⟩ Qd ⟨rfl,tv⟩) ?_
 conv=>whnf
 refine⟨by kernel_rfl,?_⟩
 conv=>whnf
 obtain⟨r118,hr118,hL1⟩:=bs' hL1
 refine cE (d0 0 Tryz.func20 (JdN r2.1 r114.1 r6.1 r117.1 r118 hr118)) ?_
 conv=>whnf
 refine xB hL1 (fun b556 hL1=> ?_) fun b556 hL1=> ?_
 conv=>whnf
 obtain rfl:=si hL1
 replace hF:=Jn hF
 obtain rfl:=si hF
 exact rZ
 conv=>whnf
 obtain⟨r119,hr119,hL1⟩:=bs' hL1
 refine cE (d0 0 Tryz.func21 (JfS r2.1 (⟨z83.2.2.2.2.1,z83.2.2.2.2.2.1⟩:Belief) r111 r6.1 r118.1 r119 hr119)) ?_
 conv=>whnf
 refine xB hL1 (fun b557 hL1=> ?_) fun b557 hL1=> ?_
 conv=>whnf
 obtain⟨r120,hr120,hL1⟩:=bs' hL1
 refine cE (d0 0 Tryz.func22 (JbQ r120 hr120)) ?_
 conv=>whnf
 obtain rfl:=si hL1
 replace hF:=Jn hF
 obtain rfl:=si hF
 exact rZ
 conv=>whnf
 refine⟨fun b558=> ?_,fun b558=> ?_⟩
 replace hL1:=cf b558 hL1
 conv=>whnf
 obtain⟨r121,hr121,hL1⟩:=bs' hL1
 refine cE (dX false [] [4] 1 Tryz.func23 (Jc1 r2.1 r114.1 z83.2.2.2.2.2.2.1 r121 hr121) trivial (YJ rfl ⟨fR,tv⟩) ⟨rR,tv⟩) ?_
 conv=>whnf
 refine Jm (enc:=iA) (l:=r121) rfl ?_
 conv=>whnf
 refine xB hL1 (fun b559 hL1=> ?_) fun b559 hL1=> ?_
 conv=>whnf
 obtain rfl:=si hL1
 replace hF:=Jn hF
 obtain rfl:=si hF
 exact rZ
 conv=>whnf
 refine Jm (enc:=Je) (l:=r113.1) rfl ?_
 conv=>whnf
 refine⟨_,rfl,?_⟩
 conv=>whnf
 refine Jm (enc:=Je) (l:=r117.1) rfl ?_
 conv=>whnf
 refine⟨_,rfl,?_⟩
 conv=>whnf
 refine⟨by kernel_rfl,?_⟩
 conv=>whnf
 refine⟨_,rfl,?_⟩
 conv=>whnf
 exact⟨(q122,r117.2.L,r117.2.At,r114.1.Slots,r114.1.Bins,r119.1.Budget,r119.1.L,z83.2.2.2.2.2.2.1,(w64 ((w64 (i14+(r113.1.length:Int)))+(r117.1.length:Int))),z83.2.2.2.2.2.2.2,(w64 (i16+1))),_,_,_,hL1,Wn _,wK [0,1,2,3,4] [] []⟩
 replace hL1:=ct b558 hL1
 conv=>whnf
 obtain rfl:=si hL1
 replace hF:=Jn hF
 obtain rfl:=si hF
 exact rZ
 replace hL1:=ct b554 hL1
 conv=>whnf
 obtain rfl:=si hL1
 replace hF:=Jn hF
 obtain rfl:=si hF
 exact rZ
 conv=>whnf
 obtain rfl:=si hL1
 replace hF:=Jw hF
 try dsimp only at hF
 obtain⟨r124,hr124,hF⟩:=bs' hF
 refine cE (d0 0 Tryz.func22 (JbQ r124 hr124)) ?_
 conv=>whnf
 obtain rfl:=si hF
 exact rZ
 replace hL1:=ct b502 hL1
 conv=>whnf
 obtain⟨D_503,cJ_503,hJ_503,hB_503,hD_503,hR_503⟩:=Jk5 hL1
 refine Jne Jc Ja (fun y:(List Int)×Int×(List (List Int))×(List (List Int))×Int×(List Hypothesis)×(List Int)×Int=>⟨eL [(3,.ptr 0 0),(4,.ptr 1 0),(5,.int .i64 r3.1),(6,.ptr 2 0),(8,.ptr 3 0),(10,.lst 3 (r6.1.map JJ)),(11,.osl 4),(12,.int .i64 i14),(13,.int .i64 y.2.2.2.2.2.2.2),(14,.int .i64 i16)],hL [(0,.box [.lst 1 (y.1.map iA),.int .i64 y.2.1]),(1,.box [.lst 5 (r2.1.Nodes.map Jb),.lst 3 (r2.1.Devices.map Jd)]),(2,.box [.lst 1 (y.2.2.1.map (lA 1 iA)),.lst 1 (y.2.2.2.1.map (lA 1 iA))]),(3,.box [.int .i64 y.2.2.2.2.1,.lst 3 (y.2.2.2.2.2.1.map Jg)]),(4,.row 1 (y.2.2.2.2.2.2.1.map iA))],5⟩) D_503 ?_ ?_
 conv=>whnf
 refine xB hJ_503 (fun b504 hJ_503=> ?_) fun b504 hJ_503=> ?_
 conv=>whnf
 obtain⟨r17,hr17,hJ_503⟩:=bs' hJ_503
 refine cE (dX false [0] [] 0 Tryz.func6 (JD (⟨a7,i8⟩:Src) 2 r17 hr17) ⟨rfl,tv⟩ Qd ⟨rfl,tv⟩) ?_
 conv=>whnf
 refine xB hJ_503 (fun b505 hJ_503=> ?_) fun b505 hJ_503=> ?_
 conv=>whnf
 refine⟨_,rfl,?_⟩
 conv=>whnf
 obtain⟨r18,hr18,hJ_503⟩:=bs' hJ_503
 refine cE (d0 0 Tryz.func11 (Jdv r2.1 (⟨a9,a10⟩:Plant) 0 (w64 (i15+1)) r18 hr18)) ?_
 conv=>whnf
 refine xB hJ_503 (fun b506 hJ_503=> ?_) fun b506 hJ_503=> ?_
 conv=>whnf
 refine⟨_,rfl,?_⟩
 conv=>whnf
 obtain⟨r19,hr19,hJ_503⟩:=bs' hJ_503
 refine cE (d0 0 Tryz.func12 (Jfj r2.1 (⟨i11,a12⟩:Belief) 0 (w64 (i15+1)) r19 hr19)) ?_
 conv=>whnf
 refine xB hJ_503 (fun b507 hJ_503=> ?_) fun b507 hJ_503=> ?_
 conv=>whnf
 obtain rfl:=si hJ_503
 replace hL1:=hR_503 _ rfl
 obtain rfl:=si hL1
 replace hF:=Jn hF
 obtain rfl:=si hF
 exact rZ
 conv=>whnf
 refine⟨_,rfl,?_⟩
 conv=>whnf
 refine⟨by kernel_rfl,?_⟩
 conv=>whnf
 obtain⟨r20,hr20,hJ_503⟩:=bs' hJ_503
 refine cE (dX false [0] [] 0 Tryz.func6 (JD r17.2 2 r20 hr20) ⟨rfl,tv⟩ Qd ⟨rfl,tv⟩) ?_
 conv=>whnf
 refine xB hJ_503 (fun b508 hJ_503=> ?_) fun b508 hJ_503=> ?_
 conv=>whnf
 obtain⟨l21,hl21,hJ_503⟩:=bs' hJ_503
 refine ZV (enc:=iA) (l:=a13) (y:=([(w64 (i15+1))]:List Int)) hl21 rfl rfl (by decide) ?_
 conv=>whnf
 obtain rfl:=si hJ_503
 exact⟨(r20.2.L,r20.2.At,r18.1.Slots,r18.1.Bins,r19.1.Budget,r19.1.L,l21,(w64 (i15+1))),_,_,_,hB_503 _ rfl,wK [0,1,2,3,12] [] []⟩
 conv=>whnf
 obtain rfl:=si hJ_503
 exact⟨(r20.2.L,r20.2.At,r18.1.Slots,r18.1.Bins,r19.1.Budget,r19.1.L,a13,(w64 (i15+1))),_,_,_,hB_503 _ rfl,wK [0,1,2,3,4] [] []⟩
 conv=>whnf
 obtain rfl:=si hJ_503
 exact⟨(r17.2.L,r17.2.At,a9,a10,i11,a12,a13,i15),_,_,_,hB_503 _ rfl,wK [0,1,2,3,4] [] []⟩
 conv=>whnf
 obtain rfl:=si hJ_503
 exact⟨(r17.2.L,r17.2.At,a9,a10,i11,a12,a13,i15),_,_,_,hB_503 _ rfl,wK [0,1,2,3,4] [] []⟩
 conv=>whnf
 obtain rfl:=si hJ_503
 exact⟨(a7,i8,a9,a10,i11,a12,a13,i15),_,_,_,hB_503 _ rfl,wK [0,1,2,3,4] [] []⟩
 rintro z30 hx_503
 replace hL1:=hD_503 _ hx_503
 try dsimp only at hL1
 conv=>whnf
 obtain⟨r31,hr31,hL1⟩:=bs' hL1
 refine cE (d0 0 Tryz.func13 (JbP r2.1 (⟨z30.2.2.1,z30.2.2.2.1⟩:Plant) r31 hr31)) ?_
 conv=>whnf
 refine xB hL1 (fun b509 hL1=> ?_) fun b509 hL1=> ?_
 conv=>whnf
 obtain rfl:=si hL1
 replace hF:=Jn hF
 obtain rfl:=si hF
 exact rZ
 conv=>whnf
 obtain⟨l32,hl32,hL1⟩:=bs' hL1
 refine JuO hl32 (by decide) ?_
 conv=>whnf
 refine Jf2 Jc Ja ?_
 conv=>whnf
 obtain⟨c2,hc_2,hL1⟩:=YF hL1
 refine J1 110 (v:= .agg [.lst 5 (r2.1.Nodes.map Jb),.lst 3 (r2.1.Devices.map Jd)]) (by(conv=>lhs;whnf)<;>rfl) (fun hb=> ?_)
 have hbd_k_37:r2.1.Nodes.length<=9223372036854775807:=Jz (enc:=Jb) ((YC hb.cell 0 rfl))
 refine JhY Jc Ja (fun y:Nat×(List Int)×Int×(List Bool)=>y.1<=r2.1.Nodes.length∧Jp z30 (r2.1.Nodes.drop y.1) y.1 y.2.1 y.2.2.1 y.2.2.2=some c2) (fun y=>⟨eL [(3,.ptr 0 0),(4,.ptr 1 0),(5,.int .i64 r3.1),(6,.ptr 2 0),(8,.ptr 3 0),(10,.lst 3 (r6.1.map JJ)),(11,.osl 4),(12,.int .i64 i14),(13,.int .i64 z30.2.2.2.2.2.2.2),(14,.int .i64 i16),(19,.osl 5),(20,.int .i64 (y.1:Int))],hL [(0,.box [.lst 1 (y.2.1.map iA),.int .i64 y.2.2.1]),(1,.box [.lst 5 (r2.1.Nodes.map Jb),.lst 3 (r2.1.Devices.map Jd)]),(2,.box [.lst 1 (z30.2.2.1.map (lA 1 iA)),.lst 1 (z30.2.2.2.1.map (lA 1 iA))]),(3,.box [.int .i64 z30.2.2.2.2.1,.lst 3 (z30.2.2.2.2.2.1.map Jg)]),(4,.row 1 (z30.2.2.2.2.2.2.1.map iA)),(5,.row 1 (y.2.2.2.map bA))],6⟩) (fun y=>r2.1.Nodes.length - y.1) (0,z30.1,z30.2.1,l32) ⟨Nat.zero_le _,hc_2⟩ (wK [0,1,2,3,4,6] [] [] ⟨bN,bN,bN,bN,bR,Jcx rfl rfl (JbN.rep _ (Jgf (c':=[.bool false]) rfl rfl ⟨.fls,tv⟩)) (by rw [Jkh hl32,List.map_replicate];rfl),tv⟩) ?_
 rintro⟨k37,a33,i34,a35⟩ ⟨hk_k_37,hL2⟩
 try dsimp only at hk_k_37 hL2
 show JeX _ _ _ _ _ _ ⟨eL [(3,.ptr 0 0),(4,.ptr 1 0),(5,.int .i64 r3.1),(6,.ptr 2 0),(8,.ptr 3 0),(10,.lst 3 (r6.1.map JJ)),(11,.osl 4),(12,.int .i64 i14),(13,.int .i64 z30.2.2.2.2.2.2.2),(14,.int .i64 i16),(19,.osl 5),(20,.int .i64 (k37:Int))],hL [(0,.box [.lst 1 (a33.map iA),.int .i64 i34]),(1,.box [.lst 5 (r2.1.Nodes.map Jb),.lst 3 (r2.1.Devices.map Jd)]),(2,.box [.lst 1 (z30.2.2.1.map (lA 1 iA)),.lst 1 (z30.2.2.2.1.map (lA 1 iA))]),(3,.box [.int .i64 z30.2.2.2.2.1,.lst 3 (z30.2.2.2.2.2.1.map Jg)]),(4,.row 1 (z30.2.2.2.2.2.2.1.map iA)),(5,.row 1 (a35.map bA))],6⟩
 conv=>whnf
 refine Jm (enc:=Jb) (l:=r2.1.Nodes) rfl ?_
 conv=>whnf
 refine⟨fun h=> ?_,fun h=> ?_⟩
 have lk37:k37<r2.1.Nodes.length:=by have h:=Wt h;omega
 obtain⟨e38,he38⟩:=ge lk37
 rw [Jl he38,Jp.eq_2] at hL2
 conv=>whnf
 refine Jf2 Jc Ja ?_
 conv=>whnf
 refine⟨k37,_,rfl,Jv he38,?_⟩
 conv=>whnf
 refine xB hL2 (fun b510 hL2=> ?_) fun b510 hL2=> ?_
 conv=>whnf
 refine⟨((k37+1:Nat):Int),wE,?_⟩
 conv=>whnf
 exact⟨(k37+1,a33,i34,a35),_,_,_,⟨lk37,hL2⟩,sl lk37,wK [0,1,2,3,4,5] [] []⟩
 conv=>whnf
 obtain⟨e39,he39,hL2⟩:=bs' hL2
 refine JZ (enc:=(lA 1 iA)) (l:=z30.2.2.1) he39 rfl (fun m_e_39 hm_e_39 hx_e_39=> ?_)
 conv=>whnf
 refine Jm (enc:=iA) (l:=e39) rfl ?_
 conv=>whnf
 refine⟨_,rfl,?_⟩
 conv=>whnf
 obtain⟨e40,he40,hL2⟩:=bs' hL2
 refine JZ (enc:=iA) (l:=e39) he40 rfl (fun m_e_40 hm_e_40 hx_e_40=> ?_)
 conv=>whnf
 refine Jm (enc:=iA) (l:=e39) rfl ?_
 conv=>whnf
 refine⟨_,rfl,?_⟩
 conv=>whnf
 obtain⟨e41,he41,hL2⟩:=bs' hL2
 refine JZ (enc:=iA) (l:=e39) he41 rfl (fun m_e_41 hm_e_41 hx_e_41=> ?_)
 conv=>whnf
 refine⟨by kernel_rfl,?_⟩
 conv=>whnf
 obtain⟨r42,hr42,hL2⟩:=bs' hL2
 refine cE (dX false [0] [] 0 Tryz.func6 (JD (⟨a33,i34⟩:Src) 5 r42 hr42) ⟨rfl,tv⟩ Qd ⟨rfl,tv⟩) ?_
 conv=>whnf
 refine Jf2 Jc Ja ?_
 conv=>whnf
 refine xB hL2 (fun b511 hL2=> ?_) fun b511 hL2=> ?_
 conv=>whnf
 obtain⟨r43,hr43,hL2⟩:=bs' hL2
 refine cE (dX false [0] [] 0 Tryz.func6 (JD r42.2 5 r43 hr43) ⟨rfl,tv⟩ Qd ⟨rfl,tv⟩) ?_
 conv=>whnf
 obtain⟨r44,hr44,hL2⟩:=bs' hL2
 refine cE (cX false [] [4] 0 Tryz.func14 (QQ (⟨r43.1,e41,z30.2.2.2.2.2.2.1,z30.2.2.2.2.2.2.1⟩:Votes) r44 hr44) ⟨(aA [.int .i64 r43.1,.int .i64 e41,.osl 4,.osl 4] ⟨(.ni _ rfl),(.ni _ rfl),(.osl 4 1 _ (by simp) rfl (QI (fun _=>⟨rfl,rfl⟩) _)),(.osl 4 1 _ (by simp) rfl (QI (fun _=>⟨rfl,rfl⟩) _)),tv⟩),tv⟩ trivial (YJ rfl trivial) trivial) ?_
 conv=>whnf
 refine xB hL2 (fun b512 hL2=> ?_) fun b512 hL2=> ?_
 conv=>whnf
 refine xB hL2 (fun b513 hL2=> ?_) fun b513 hL2=> ?_
 conv=>whnf
 refine⟨_,rfl,?_⟩
 conv=>whnf
 obtain⟨e45,he45,hL2⟩:=bs' hL2
 refine Qc (enc:=bA) (l:=a35) he45 rfl (fun m_e_45 hm_e_45 hx_e_45=> ?_)
 conv=>whnf
 refine Z6 (enc:=bA) (l:=a35) (x':=true) (i:=(w64 (r44.1 - 1))) hm_e_45 hx_e_45 rfl (Wl rfl) rfl ?_
 conv=>whnf
 refine⟨((k37+1:Nat):Int),wE,?_⟩
 conv=>whnf
 exact⟨(k37+1,r43.2.L,r43.2.At,(a35.set (w64 (r44.1 - 1)).toNat true)),_,_,_,⟨lk37,hL2⟩,sl lk37,wK [0,1,2,3,4,5] [] []⟩
 conv=>whnf
 refine⟨((k37+1:Nat):Int),wE,?_⟩
 conv=>whnf
 exact⟨(k37+1,r43.2.L,r43.2.At,a35),_,_,_,⟨lk37,hL2⟩,sl lk37,wK [0,1,2,3,4,5] [] []⟩
 conv=>whnf
 refine⟨((k37+1:Nat):Int),wE,?_⟩
 conv=>whnf
 exact⟨(k37+1,r43.2.L,r43.2.At,a35),_,_,_,⟨lk37,hL2⟩,sl lk37,wK [0,1,2,3,4,5] [] []⟩
 conv=>whnf
 refine xB hL2 (fun b514 hL2=> ?_) fun b514 hL2=> ?_
 conv=>whnf
 obtain⟨r46,hr46,hL2⟩:=bs' hL2
 refine cE (dX false [0] [] 0 Tryz.func6 (JD r42.2 5 r46 hr46) ⟨rfl,tv⟩ Qd ⟨rfl,tv⟩) ?_
 conv=>whnf
 obtain⟨r47,hr47,hL2⟩:=bs' hL2
 refine cE (cX false [] [4] 0 Tryz.func14 (QQ (⟨e40,r46.1,z30.2.2.2.2.2.2.1,z30.2.2.2.2.2.2.1⟩:Votes) r47 hr47) ⟨(aA [.int .i64 e40,.int .i64 r46.1,.osl 4,.osl 4] ⟨(.ni _ rfl),(.ni _ rfl),(.osl 4 1 _ (by simp) rfl (QI (fun _=>⟨rfl,rfl⟩) _)),(.osl 4 1 _ (by simp) rfl (QI (fun _=>⟨rfl,rfl⟩) _)),tv⟩),tv⟩ trivial (YJ rfl trivial) trivial) ?_
 conv=>whnf
 refine xB hL2 (fun b515 hL2=> ?_) fun b515 hL2=> ?_
 conv=>whnf
 refine xB hL2 (fun b516 hL2=> ?_) fun b516 hL2=> ?_
 conv=>whnf
 refine⟨_,rfl,?_⟩
 conv=>whnf
 obtain⟨e48,he48,hL2⟩:=bs' hL2
 refine Qc (enc:=bA) (l:=a35) he48 rfl (fun m_e_48 hm_e_48 hx_e_48=> ?_)
 conv=>whnf
 refine Z6 (enc:=bA) (l:=a35) (x':=true) (i:=(w64 (r47.1 - 1))) hm_e_48 hx_e_48 rfl (Wl rfl) rfl ?_
 conv=>whnf
 refine⟨((k37+1:Nat):Int),wE,?_⟩
 conv=>whnf
 exact⟨(k37+1,r46.2.L,r46.2.At,(a35.set (w64 (r47.1 - 1)).toNat true)),_,_,_,⟨lk37,hL2⟩,sl lk37,wK [0,1,2,3,4,5] [] []⟩
 conv=>whnf
 refine⟨((k37+1:Nat):Int),wE,?_⟩
 conv=>whnf
 exact⟨(k37+1,r46.2.L,r46.2.At,a35),_,_,_,⟨lk37,hL2⟩,sl lk37,wK [0,1,2,3,4,5] [] []⟩
 conv=>whnf
 refine⟨((k37+1:Nat):Int),wE,?_⟩
 conv=>whnf
 exact⟨(k37+1,r46.2.L,r46.2.At,a35),_,_,_,⟨lk37,hL2⟩,sl lk37,wK [0,1,2,3,4,5] [] []⟩
 conv=>whnf
 refine xB hL2 (fun b517 hL2=> ?_) fun b517 hL2=> ?_
 conv=>whnf
 obtain⟨r49,hr49,hL2⟩:=bs' hL2
 refine cE (cX false [] [8,4] 0 Tryz.func14 (QQ (⟨e40,e41,([1,2,3]:List Int),z30.2.2.2.2.2.2.1⟩:Votes) r49 hr49) ⟨(aA [.int .i64 e40,.int .i64 e41,.osl 8,.osl 4] ⟨(.ni _ rfl),(.ni _ rfl),(.osl 8 1 _ (by simp) rfl (QI (fun _=>⟨rfl,rfl⟩) _)),(.osl 4 1 _ (by simp) rfl (QI (fun _=>⟨rfl,rfl⟩) _)),tv⟩),tv⟩ trivial (YJ rfl trivial) trivial) ?_
 conv=>whnf
 refine xB hL2 (fun b518 hL2=> ?_) fun b518 hL2=> ?_
 conv=>whnf
 refine xB hL2 (fun b519 hL2=> ?_) fun b519 hL2=> ?_
 conv=>whnf
 refine⟨_,rfl,?_⟩
 conv=>whnf
 obtain⟨e50,he50,hL2⟩:=bs' hL2
 refine Qc (enc:=bA) (l:=a35) he50 rfl (fun m_e_50 hm_e_50 hx_e_50=> ?_)
 conv=>whnf
 refine Z6 (enc:=bA) (l:=a35) (x':=true) (i:=(w64 (r49.1 - 1))) hm_e_50 hx_e_50 rfl (Wl rfl) rfl ?_
 conv=>whnf
 refine⟨((k37+1:Nat):Int),wE,?_⟩
 conv=>whnf
 exact⟨(k37+1,r42.2.L,r42.2.At,(a35.set (w64 (r49.1 - 1)).toNat true)),_,_,_,⟨lk37,hL2⟩,sl lk37,wK [0,1,2,3,4,5] [] []⟩
 conv=>whnf
 refine⟨((k37+1:Nat):Int),wE,?_⟩
 conv=>whnf
 exact⟨(k37+1,r42.2.L,r42.2.At,a35),_,_,_,⟨lk37,hL2⟩,sl lk37,wK [0,1,2,3,4,5] [] []⟩
 conv=>whnf
 refine⟨((k37+1:Nat):Int),wE,?_⟩
 conv=>whnf
 exact⟨(k37+1,r42.2.L,r42.2.At,a35),_,_,_,⟨lk37,hL2⟩,sl lk37,wK [0,1,2,3,4,5] [] []⟩
 conv=>whnf
 refine xB hL2 (fun b520 hL2=> ?_) fun b520 hL2=> ?_
 conv=>whnf
 obtain⟨r51,hr51,hL2⟩:=bs' hL2
 refine cE (cX false [] [4,8] 0 Tryz.func14 (QQ (⟨e40,e41,z30.2.2.2.2.2.2.1,([3,1,2]:List Int)⟩:Votes) r51 hr51) ⟨(aA [.int .i64 e40,.int .i64 e41,.osl 4,.osl 8] ⟨(.ni _ rfl),(.ni _ rfl),(.osl 4 1 _ (by simp) rfl (QI (fun _=>⟨rfl,rfl⟩) _)),(.osl 8 1 _ (by simp) rfl (QI (fun _=>⟨rfl,rfl⟩) _)),tv⟩),tv⟩ trivial (YJ rfl trivial) trivial) ?_
 conv=>whnf
 refine xB hL2 (fun b521 hL2=> ?_) fun b521 hL2=> ?_
 conv=>whnf
 refine xB hL2 (fun b522 hL2=> ?_) fun b522 hL2=> ?_
 conv=>whnf
 refine⟨_,rfl,?_⟩
 conv=>whnf
 obtain⟨e52,he52,hL2⟩:=bs' hL2
 refine Qc (enc:=bA) (l:=a35) he52 rfl (fun m_e_52 hm_e_52 hx_e_52=> ?_)
 conv=>whnf
 refine Z6 (enc:=bA) (l:=a35) (x':=true) (i:=(w64 (r51.1 - 1))) hm_e_52 hx_e_52 rfl (Wl rfl) rfl ?_
 conv=>whnf
 refine⟨((k37+1:Nat):Int),wE,?_⟩
 conv=>whnf
 exact⟨(k37+1,r42.2.L,r42.2.At,(a35.set (w64 (r51.1 - 1)).toNat true)),_,_,_,⟨lk37,hL2⟩,sl lk37,wK [0,1,2,3,4,5] [] []⟩
 conv=>whnf
 refine⟨((k37+1:Nat):Int),wE,?_⟩
 conv=>whnf
 exact⟨(k37+1,r42.2.L,r42.2.At,a35),_,_,_,⟨lk37,hL2⟩,sl lk37,wK [0,1,2,3,4,5] [] []⟩
 conv=>whnf
 refine⟨((k37+1:Nat):Int),wE,?_⟩
 conv=>whnf
 exact⟨(k37+1,r42.2.L,r42.2.At,a35),_,_,_,⟨lk37,hL2⟩,sl lk37,wK [0,1,2,3,4,5] [] []⟩
 conv=>whnf
 obtain⟨r53,hr53,hL2⟩:=bs' hL2
 refine cE (cX false [] [4] 0 Tryz.func14 (QQ (⟨e40,e41,z30.2.2.2.2.2.2.1,z30.2.2.2.2.2.2.1⟩:Votes) r53 hr53) ⟨(aA [.int .i64 e40,.int .i64 e41,.osl 4,.osl 4] ⟨(.ni _ rfl),(.ni _ rfl),(.osl 4 1 _ (by simp) rfl (QI (fun _=>⟨rfl,rfl⟩) _)),(.osl 4 1 _ (by simp) rfl (QI (fun _=>⟨rfl,rfl⟩) _)),tv⟩),tv⟩ trivial (YJ rfl trivial) trivial) ?_
 conv=>whnf
 refine xB hL2 (fun b523 hL2=> ?_) fun b523 hL2=> ?_
 conv=>whnf
 refine xB hL2 (fun b524 hL2=> ?_) fun b524 hL2=> ?_
 conv=>whnf
 refine⟨_,rfl,?_⟩
 conv=>whnf
 obtain⟨e54,he54,hL2⟩:=bs' hL2
 refine Qc (enc:=bA) (l:=a35) he54 rfl (fun m_e_54 hm_e_54 hx_e_54=> ?_)
 conv=>whnf
 refine Z6 (enc:=bA) (l:=a35) (x':=true) (i:=(w64 (r53.1 - 1))) hm_e_54 hx_e_54 rfl (Wl rfl) rfl ?_
 conv=>whnf
 refine⟨((k37+1:Nat):Int),wE,?_⟩
 conv=>whnf
 exact⟨(k37+1,r42.2.L,r42.2.At,(a35.set (w64 (r53.1 - 1)).toNat true)),_,_,_,⟨lk37,hL2⟩,sl lk37,wK [0,1,2,3,4,5] [] []⟩
 conv=>whnf
 refine⟨((k37+1:Nat):Int),wE,?_⟩
 conv=>whnf
 exact⟨(k37+1,r42.2.L,r42.2.At,a35),_,_,_,⟨lk37,hL2⟩,sl lk37,wK [0,1,2,3,4,5] [] []⟩
 conv=>whnf
 refine⟨((k37+1:Nat):Int),wE,?_⟩
 conv=>whnf
 exact⟨(k37+1,r42.2.L,r42.2.At,a35),_,_,_,⟨lk37,hL2⟩,sl lk37,wK [0,1,2,3,4,5] [] []⟩
 rw [Jq (nl h),Jp.eq_1] at hL2
 conv=>whnf
 obtain rfl:=si hL2
 replace hL1:=Zz hL1
 try dsimp only at hL1
 refine Jm (enc:=Jb) (l:=r2.1.Nodes) rfl ?_
 conv=>whnf
 obtain⟨r57,hr57,hL1⟩:=bs' hL1
 refine cE (dX false [0] [] 0 Tryz.func16 (JdR (⟨a33,i34⟩:Src) z30.2.2.2.2.2.2.2 (r2.1.Nodes.length:Int) r57 hr57) ⟨rfl,tv⟩ Qd ⟨rfl,tv⟩) ?_
 conv=>whnf
 obtain⟨r58,hr58,hL1⟩:=bs' hL1
 refine cE (dX true [] [5] 0 Tryz.func15 (JdY r2.1 (⟨z30.2.2.2.2.1,z30.2.2.2.2.2.1⟩:Belief) r57.1 a35 a35 ([]:(List Bool)) r58 hr58) trivial JdU trivial) ?_
 conv=>whnf
 refine⟨by kernel_rfl,?_⟩
 conv=>whnf
 obtain⟨r59,hr59,hL1⟩:=bs' hL1
 refine cE (dX false [0] [] 0 Tryz.func6 (JD r57.2 2 r59 hr59) ⟨rfl,tv⟩ Qd ⟨rfl,tv⟩) ?_
 conv=>whnf
 refine⟨_,rfl,?_⟩
 conv=>whnf
 obtain⟨r60,hr60,hL1⟩:=bs' hL1
 refine cE (dX false [0] [] 0 Tryz.func17 (JdS r59.2 r2.1 (if (w64 (r3.1 - i14))<r59.1 then (w64 (r3.1 - i14)) else r59.1) r60 hr60) ⟨rfl,tv⟩ Qd ⟨rfl,tv⟩) ?_
 conv=>whnf
 refine⟨by kernel_rfl,?_⟩
 conv=>whnf
 obtain⟨r61,hr61,hL1⟩:=bs' hL1
 refine cE (d0 0 Tryz.func18 (JfQ r2.1 (⟨z30.2.2.1,z30.2.2.2.1⟩:Plant) r58 r60.1 r61 hr61)) ?_
 conv=>whnf
 refine⟨fun b525=> ?_,fun b525=> ?_⟩
 replace hL1:=cf b525 hL1
 conv=>whnf
 obtain⟨r62,hr62,hL1⟩:=bs' hL1
 refine cE (d0 0 Tryz.func13 (JbP r2.1 r61.1 r62 hr62)) ?_
 conv=>whnf
 refine xB hL1 (fun b526 hL1=> ?_) fun b526 hL1=> ?_
 conv=>whnf
 obtain rfl:=si hL1
 replace hF:=Jn hF
 obtain rfl:=si hF
 exact rZ
 conv=>whnf
 obtain⟨r63,hr63,hL1⟩:=bs' hL1
 refine cE (dX false [0] [] 0 Tryz.func6 (JD r60.2 2 r63 hr63) ⟨rfl,tv⟩ Qd ⟨rfl,tv⟩) ?_
 conv=>whnf
 refine⟨_,rfl,?_⟩
 conv=>whnf
 refine Jm (enc:=Je) (l:=r60.1) rfl ?_
 conv=>whnf
 refine⟨_,rfl,?_⟩
 conv=>whnf
 obtain⟨r64,hr64,hL1⟩:=bs' hL1
 refine cE (dX false [0] [] 0 Tryz.func19 (JcJ r63.2 r2.1 r61.1 (if (w64 ((w64 (r3.1 - i14)) - (r60.1.length:Int)))<r63.1 then (w64 ((w64 (r3.1 - i14)) - (r60.1.length:Int))) else r63.1) r64 hr64) ⟨rfl,tv⟩ Qd ⟨rfl,tv⟩) ?_
 conv=>whnf
 refine⟨by kernel_rfl,?_⟩
 conv=>whnf
 obtain⟨r65,hr65,hL1⟩:=bs' hL1
 refine cE (d0 0 Tryz.func20 (JdN r2.1 r61.1 r6.1 r64.1 r65 hr65)) ?_
 conv=>whnf
 refine xB hL1 (fun b527 hL1=> ?_) fun b527 hL1=> ?_
 conv=>whnf
 obtain rfl:=si hL1
 replace hF:=Jn hF
 obtain rfl:=si hF
 exact rZ
 conv=>whnf
 obtain⟨r66,hr66,hL1⟩:=bs' hL1
 refine cE (d0 0 Tryz.func21 (JfS r2.1 (⟨z30.2.2.2.2.1,z30.2.2.2.2.2.1⟩:Belief) r58 r6.1 r65.1 r66 hr66)) ?_
 conv=>whnf
 refine xB hL1 (fun b528 hL1=> ?_) fun b528 hL1=> ?_
 conv=>whnf
 obtain⟨r67,hr67,hL1⟩:=bs' hL1
 refine cE (d0 0 Tryz.func22 (JbQ r67 hr67)) ?_
 conv=>whnf
 obtain rfl:=si hL1
 replace hF:=Jn hF
 obtain rfl:=si hF
 exact rZ
 conv=>whnf
 refine⟨fun b529=> ?_,fun b529=> ?_⟩
 replace hL1:=cf b529 hL1
 conv=>whnf
 obtain⟨r68,hr68,hL1⟩:=bs' hL1
 refine cE (dX false [] [4] 1 Tryz.func23 (Jc1 r2.1 r61.1 z30.2.2.2.2.2.2.1 r68 hr68) trivial (YJ rfl ⟨fR,tv⟩) ⟨rR,tv⟩) ?_
 conv=>whnf
 refine Jm (enc:=iA) (l:=r68) rfl ?_
 conv=>whnf
 refine xB hL1 (fun b530 hL1=> ?_) fun b530 hL1=> ?_
 conv=>whnf
 obtain rfl:=si hL1
 replace hF:=Jn hF
 obtain rfl:=si hF
 exact rZ
 conv=>whnf
 refine Jm (enc:=Je) (l:=r60.1) rfl ?_
 conv=>whnf
 refine⟨_,rfl,?_⟩
 conv=>whnf
 refine Jm (enc:=Je) (l:=r64.1) rfl ?_
 conv=>whnf
 refine⟨_,rfl,?_⟩
 conv=>whnf
 refine⟨by kernel_rfl,?_⟩
 conv=>whnf
 refine⟨_,rfl,?_⟩
 conv=>whnf
 exact⟨(q122,r64.2.L,r64.2.At,r61.1.Slots,r61.1.Bins,r66.1.Budget,r66.1.L,z30.2.2.2.2.2.2.1,(w64 ((w64 (i14+(r60.1.length:Int)))+(r64.1.length:Int))),z30.2.2.2.2.2.2.2,(w64 (i16+1))),_,_,_,hL1,Wn _,wK [0,1,2,3,4] [] []⟩
 replace hL1:=ct b529 hL1
 conv=>whnf
 obtain rfl:=si hL1
 replace hF:=Jn hF
 obtain rfl:=si hF
 exact rZ
 replace hL1:=ct b525 hL1
 conv=>whnf
 obtain rfl:=si hL1
 replace hF:=Jn hF
 obtain rfl:=si hF
 exact rZ
 conv=>whnf
 obtain rfl:=si hL1
 replace hF:=Jw hF
 try dsimp only at hF
 obtain⟨r124,hr124,hF⟩:=bs' hF
 refine cE (d0 0 Tryz.func22 (JbQ r124 hr124)) ?_
 conv=>whnf
 obtain rfl:=si hF
 exact rZ
 replace hF:=ct b499 hF
 conv=>whnf
 obtain rfl:=si hF
 exact rZ
end Go.Proofs.YtehhohbnhcogkaaGreatDoor.Ex
