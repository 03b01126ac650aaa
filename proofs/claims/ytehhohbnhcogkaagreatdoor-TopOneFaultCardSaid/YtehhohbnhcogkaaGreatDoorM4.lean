/- The ground of the proof: the abstract walker and what the program computes. -/
import Derived.Test.YtehhohbnhcogkaaGreatDoorChecked
import Derived.Shelf.Lays7
import Derived.Shelf.Spec.TrailingZeros
import Derived.Shelf.Lays2
import Derived.Shelf.Lays
import Derived.RangeFuncSeq
import Derived.Shelf.Abstract
import Derived.Shelf.Strings.BuilderX
import Derived.Lib.Strings
import Derived.Lib.Slices
import Derived.Lib.Walk
import Derived.Lib.Builder
import Derived.Lib.UnsafeStr
import Derived.WalkKit
import Derived.Lib.FrozenHead2
import Derived.Lib.AppendStr
import Derived.Deep.AppendSrc
import Derived.Laws.BitsLemmas
import Derived.Laws.Externs
import Derived.Laws.IdiomCopy
import Derived.Shelf.Strconv.Itoa3
import Derived.Test.YtehhohbnhcogkaaGreatDoorM3
import Derived.Test.YtehhohbnhcogkaaGreatDoorM1
set_option linter.unusedVariables false
set_option linter.unusedSimpArgs false
namespace Go.Proofs.YtehhohbnhcogkaaGreatDoor.Ex
open Go.RowKit Go.Proofs.YtehhohbnhcogkaaGreatDoor.Ax Go.Sort Go.Shelf
def atL {α:Type} (l:List α) (x0:α) (i:Nat):α:=(l[min i (l.length - 1)]?).getD x0
def Jjh {α:Type} (cf:α->α->Int) (l:List α):Option (List α):=match l with
 |[]=>some []
 |x0::t=>if (x0::t).length<=1000000 then some ((pdq (ltOf fun i j=>cf (atL (x0::t) x0 i) (atL (x0::t) x0 j)) (Array.range (x0::t).length) 0 (x0::t).length (Lib.bitLen (x0::t).length) true true).toList.map (atL (x0::t) x0)) else none
theorem Ju6 {α:Type} {l:List α} {x0:α} {i:Nat} (h:i<l.length):l[i]? =some (atL l x0 i):=by
 unfold atL
 rw [Nat.min_eq_left (by omega),Wg h]
 rfl
theorem Jms {α:Type} {x0:α} {l:List α} {r:Array Nat} (hp:r.toList.Perm (List.range l.length)):(r.toList.map (atL l x0)).Perm l:=by
 have h1:=hp.map (atL l x0)
 have h2:(List.range l.length).map (atL l x0)=l:=by
  apply List.ext_getElem?
  intro i
  rw [Wp]
  by_cases hi:i<l.length
  . rw [List.getElem?_range hi,Ju6 hi (x0:=x0)];rfl
  . rw [List.getElem?_eq_none (by simpa using hi),List.getElem?_eq_none (by simpa using hi)];rfl
 rw [h2] at h1
 exact h1
theorem Jll {lt:Nat->Nat->Bool} (hO:SWO lt) (n:Nat):(pdq lt (Array.range n) 0 n (Lib.bitLen n) true true).toList.Perm (List.range n)∧(pdq lt (Array.range n) 0 n (Lib.bitLen n) true true).size=n:=by
 have hs:=pdq_sorts lt hO (Array.range n) 0 n (Lib.bitLen n) true true (Nat.zero_le _) (by simp) (.inl rfl)
 obtain⟨⟨p1,p2,p3⟩,p4⟩:=hs
 generalize pdq lt (Array.range n) 0 n (Lib.bitLen n) true true=d at p1 p2 p3 p4 ⊢
 have p1':d.size=n:=by simpa using p1
 refine⟨?_,p1'⟩
 have e1:(d.extract 0 n).toList=d.toList:=by rw [<-p1'];simp
 have e2:((Array.range n).extract 0 n).toList=List.range n:=by
  have:(Array.range n).extract 0 n=Array.range n:=by
   simp
  rw [this];simp
 rw [e1,e2] at p3
 exact p3
theorem JsX {W w':World} (h:Below W.heap.size W w') (hd:W.drawn<=w'.drawn):∃q os',w'=grow (W.drewN q) os':=by
 refine⟨w'.drawn - W.drawn,w'.heap.extract W.heap.size w'.heap.size,?_⟩
 obtain⟨h1,h2,h3,h4,h5⟩:=h
 obtain⟨heap,tape,drawn,os,output⟩:=w'
 simp only at h1 h2 h3 h4 h5 hd
 unfold grow World.drewN
 simp only [World.mk.injEq]
 refine⟨?_,h2,by omega,h1,h3⟩
 apply Array.ext
 . simp;omega
 .
  intro i hi hi2
  have e1:heap[i]? =some heap[i]:=Wb hi
  by_cases hlt:i<W.heap.size
  .
   rw [Array.getElem_append_left hlt]
   have:=h5 i hlt
   rw [e1,Wb hlt] at this
   exact Wi this
  .
   rw [Array.getElem_append_right (by omega)]
   simp only [Array.getElem_extract]
   congr 1
   omega
theorem AC.callsD {P:Program} {f:FuncId} {args:List AV} {res:AV} (h:AC P f args [] res []) {w:World} {vals:Array Value} (hl:vals.size=args.length) (hv:∀(t:Nat) (u:AV) (v:Value),args[t]? =some u->vals[t]? =some v->RV w (fun b=>b<w.heap.size) noB u v) (hgl:Ji6 w (fun b=>b<w.heap.size)):
  Calls P f vals w fun e w'=>∃v F,e= .returned v∧RV w' F noB res v∧Below w.heap.size w w'∧w.drawn<=w'.drawn:=by
 refine Calls.mono (h ⟨w,[],fun b=>b<w.heap.size,vals.size,fun _=>False,[]⟩ w vals rfl rfl rfl hl ⟨noB,fun b=>b<w.heap.size,⟨fun t=> ?_,rfl,rfl,fun id k e=>by simp [entry] at e,fun id id' k k' g g' b e=>by simp [entry] at e,fun id g e=>(by cases e),fun i g e=>by simp at e,fun b hb=>hb,fun b hb=>⟨hb,.inl hb⟩,rfl,.it,rfl,Nat.le_refl _,fun b _ _=>rfl,hgl⟩⟩) (fun e w' he=> ?_)
 .
  simp only [entry]
  cases hu:args[t]? with
  |none=>exact .any _
  |some u=>
   have ht:t<vals.size:=by rw [hl];exact(List.getElem?_eq_some_iff.1 hu).1
   have:=hv t u _ hu (Wb ht)
   simpa [Wa,ht] using this
 .
  obtain⟨v,rfl,β,F,hB⟩:=he
  have h0:=hB.env 0
  have hβ:∀id g,β id=some g->noB id=some g:=fun id g e=>by have:id<0:=hB.dom id g e;omega
  exact⟨v,F,rfl,RV.mono h0 (fun _ x=>x) (fun _ _=>rfl) hβ,⟨hB.os,hB.tape.eq,hB.output,hB.grow,fun b hb=>hB.block b hb (fun h=>h)⟩,hB.tape.le⟩
theorem JpW {P:Program} {ρ:Ren} (L:SlLaysF0.n6 P ρ) {α:Type} (k:Nat) (hk0:0<k) (aE:∀w,(isAgg (ρ.t 24)).run P w= .ok true w) (zE:∀w,(Go.sizeOf (ρ.t 24)).run P w= .ok k w) (enc:α->List AV) (cf:α->α->Int)
  (hl:∀x,(enc x).length=k) (hone:∀x,∀u∈enc x,u.one=true) (hni:∀x,∀u∈enc x,u.ni=true) (hO:SWO (ltOf cf)) (g:Nat) (eg:∀args w,(callFunc g args).run P w= .ok (.enter g args) w)
  (l r:List α) (hcmp:∀x∈l,∀y∈l,AC P g [.agg (enc x),.agg (enc y)] [] (.int .i64 (cf x y)) []) (hF:Jjh cf l=some r):AC P (ρ.f 6) [.osl 0,.fn g []] [.row k (l.map enc)] (.tup []) [.row k (r.map enc)]:=by
 intro C w vals hC hw0 hnt hlen hR
 obtain⟨β,F,hB⟩:=hR
 obtain⟨hd,e1,hb,e3⟩:=hB.live 0 _ rfl
 have v0:=hB.env 0
 have v1:=hB.env 1
 have hs2:vals.size=2:=hlen
 have hv:∃x y,vals= #[x,y]∧RV w F β (.osl 0) x∧RV w F β (.fn g []) y:=by
  refine⟨vals.getD 0 undef,vals.getD 1 undef,?_,v0,v1⟩
  apply Array.ext
  . simpa using hs2
  .
   intro i h1 h2
   have hi:i<2:=by omega
   match i,hi with
   |0,_=>simp [Array.getD,hs2]
   |1,_=>simp [Array.getD,hs2]
 obtain⟨x,y,rfl,q0,q1⟩:=hv
 cases q0 with
 |osl _ hd' e2=>
 rw [e1] at e2
 cases e2
 cases q1 with
 |fn _ _ cs z1 z2=>
 have hcs:cs= #[]:=by
  have:cs.size=0:=by simpa using z1.symm
  exact Array.eq_empty_of_size_eq_zero this
 subst hcs
 obtain⟨b1,b2,b3,b4,b5,b6⟩:=hb
 rw [List.length_map] at b1 b2
 have key:Calls P (ρ.f 6) #[.slice (J5 hd.blk 0) hd.len hd.cap,.func (.func g) #[] #[]] w fun e w'=>e= .returned (.tuple #[])∧Same w w' hd.blk∧(∀b,hd.blk=some b->b<w.heap.size->¬F b->YE w' F β hd (.row k (r.map enc)))∧(hd.blk=none->r=[]):=by
  cases l with
  |nil=>
   cases hF
   rw [show hd.len=0 from b1]
   have hn:=AnyF.slices_SortFunc_none { L with } (J5 hd.blk 0) hd.cap (.func (.func g) #[] #[]) w
   refine hn.mono fun e w' ⟨he,hw⟩=> ?_
   subst hw
   exact⟨he,⟨rfl,.it,rfl,Nat.le_refl _,fun _ _ _=>rfl⟩,fun b e _ _=>⟨b1,b2,b3,b4,b5,b6⟩,fun _=>rfl⟩
  |cons x0 t=>
   unfold Jjh at hF
   simp only at hF
   generalize hl0:x0::t=l at*
   have hpos:0<l.length:=by rw [<-hl0];simp
   split at hF
   rotate_left
   . cases hF
   rename_i hmax
   obtain rfl:=Wi hF
   have hO':SWO (ltOf fun i j=>cf (atL l x0 i) (atL l x0 j)):=⟨fun x=>hO.irrefl _,fun x y z=>hO.trans _ _ _,fun x y z=>hO.ntrans _ _ _⟩
   obtain⟨hperm,hsz⟩:=Jll hO' l.length
   cases hblk:hd.blk with
   |none=>
    have:=b4 hblk
    omega
   |some b=>
    obtain⟨arr,ty,a1,a2,a3⟩:=b6 b hblk
    obtain⟨lt0,nF,_⟩:=e3 b (.inl hblk)
    have hmem:∀i,atL l x0 i∈l:=fun i=>by
     have:min i (l.length - 1)<l.length:=by omega
     unfold atL
     rw [Wg this]
     exact List.getElem_mem this
    obtain⟨V,hV⟩:∃V:Nat->List Value,V=fun i=>(arr.toList.drop (min i (l.length - 1)*k)).take k:=⟨_,rfl⟩
    have hcap:l.length*k<=arr.size:=Nat.le_trans (Nat.mul_le_mul_right _ b2) a2
    have hVl:∀i,(V i).length=k:=fun i=>by
     have h1:(min i (l.length - 1)+1)*k<=l.length*k:=Nat.mul_le_mul_right _ (by omega)
     rw [Nat.add_mul,Nat.one_mul] at h1
     rw [hV]
     simp only [List.length_take,List.length_drop,Array.length_toList]
     omega
    have hVc:∀i j,j<k->∃u,(enc (atL l x0 i))[j]? =some u∧∃v,(V i)[j]? =some v∧RV w F β u v∧arr[min i (l.length - 1)*k+j]? =some v:=fun i j hj=>by
     have hi:min i (l.length - 1)<l.length:=by omega
     have h1:l[min i (l.length - 1)]? =some (atL l x0 i):=by unfold atL;rw [Wg hi];rfl
     have h2:(l.map enc)[min i (l.length - 1)]? =some (enc (atL l x0 i)):=by rw [Wp,h1];rfl
     have hj':j<(enc (atL l x0 i)).length:=by rw [hl];exact hj
     obtain⟨v,hv1,hv2⟩:=a3 _ _ j _ h2 (Wg hj')
     refine⟨_,Wg hj',v,?_,hv2,hv1⟩
     rw [hV]
     simp only [List.getElem?_take,hj,if_true,List.getElem?_drop,Wu]
     exact hv1
    have hV1:∀i,∀v∈V i,v.oneCell'=true:=fun i v hv=>by
     obtain⟨j,hj⟩:=List.getElem?_of_mem hv
     have hjk:j<k:=by rw [<-hVl i];exact(List.getElem?_eq_some_iff.1 hj).1
     obtain⟨u,hu,v',hv1,hv2,_⟩:=hVc i j hjk
     rw [hj] at hv1
     cases hv1
     exact(hv2.oneCell (hone _ u (Wm hu))).1
    have hH:HoldsK V k w b 0 (Array.range l.length):=by
     intro j hj
     rw [size_flatK] at hj
     rw [get_flatK _ _ _ _ hj]
     simp only [Array.size_range] at hj
     obtain⟨g1,g2,g3⟩:=JkB hj
     obtain⟨u,hu,v,hv1,hv2,hv3⟩:=hVc (j / k) (j % k) g2
     rw [Nat.min_eq_left (by omega),g3] at hv3
     have e:(Array.range l.length)[j / k]! =j / k:=by rw [getElem!_pos _ _ (by simpa using g1)];simp
     simp only [e,id]
     refine⟨?_,by simp [World.frozen?,a1]⟩
     rw [Nat.zero_add]
     simp only [World.cell?,a1]
     rw [List.getElem!_eq_getElem?_getD,hv1]
     simp [hv3]
    have hCL:CmpLays P g #[] V k (fun i j=>cf (atL l x0 i) (atL l x0 j)) b 0 l.length w:=by
     intro m os dk hdk i j
     obtain⟨W,hW⟩:∃W,W=sortWorldK V k w b 0 m dk os:=⟨_,rfl⟩
     rw [<-hW]
     have hWs:w.heap.size<=W.heap.size:=by rw [hW];simp [sortWorldK,putRowK,putRow,mapBlock,grow,ahead]
     have hWF:∀c,F c->W.heap[c]? =w.heap[c]? :=fun c hc=>by
      have hcb:b≠c:=fun e=>nF (e▸hc)
      have hcl:c<w.heap.size:=(hB.news c hc).1
      rw [hW]
      unfold sortWorldK putRowK putRow
      rw [heap_grow_old _ _ (by simpa [mapBlock,ahead] using hcl)]
      simp [mapBlock,ahead,Array.getElem?_modify,hcb]
     have hup:∀{u:AV} {v:Value},u.ni=true->RV w F β u v->RV W (fun c=>c<W.heap.size) noB u v:=fun hu hv=>(hv.noIds hu).mono (fun c hc=>Nat.lt_of_lt_of_le (hB.news c hc).1 hWs) hWF (fun _ _ e=>e)
     have hagg:∀i,RV W (fun c=>c<W.heap.size) noB (.agg (enc (atL l x0 i))) (.agg (V i).toArray):=fun i=>by
      refine .agg _ _ (by rw [hl];simp [hVl]) fun j u v hu hv=> ?_
      have hjk:j<k:=by rw [<-hl (atL l x0 i)];exact(List.getElem?_eq_some_iff.1 hu).1
      obtain⟨u',hu',v',hv1,hv2,_⟩:=hVc i j hjk
      rw [hu] at hu'
      cases hu'
      rw [List.getElem?_toArray] at hv
      rw [hv] at hv1
      cases hv1
      exact hup (hni _ u (Wm hu)) hv2
     refine(AC.callsD (hcmp _ (hmem i) _ (hmem j)) (w:=W) (vals:= #[.agg (V i).toArray,.agg (V j).toArray]) rfl (fun t u v hu hv=> ?_) (fun gl=>(hB.glo gl).mono (fun c hc=>Nat.lt_of_lt_of_le (hB.news c hc).1 hWs) hWF (fun _ _ e=>e))).mono fun e w' ⟨v,F',he,hv,hbl,hdr⟩=> ?_
     .
      match t,hu,hv with
      |0,hu,hv=>cases hu;cases hv;exact hagg i
      |1,hu,hv=>cases hu;cases hv;exact hagg j
     .
      cases hv
      exact⟨he,JsX hbl hdr⟩
    have hc:=AnyQ.slices_SortFunc_eq L k aE zE V hVl hV1 (fun i j=>cf (atL l x0 i) (atL l x0 j)) hO' g #[] b 0 hd.cap (Array.range l.length) w eg (by rw [Array.size_range];exact hCL) hH lt0 (by rw [Array.size_range];omega)
    simp only [Array.size_range] at hc
    rw [b1]
    refine hc.mono fun e w' ⟨he,n,os,hw⟩=> ?_
    subst hw
    generalize hr:pdq (ltOf fun i j=>cf (atL l x0 i) (atL l x0 j)) (Array.range l.length) 0 l.length (Lib.bitLen l.length) true true=r at hperm hsz ⊢
    have hsame:Same w (sortWorldK V k w b 0 n r os) (some b):=by
     refine⟨rfl,.it rfl (Nat.le_add_right _ _),rfl,?_,fun i hi hne=> ?_⟩
     . simp [sortWorldK,putRowK,putRow,mapBlock,grow,ahead]
     .
      have hib:b≠i:=fun e=>hne (by rw [e])
      unfold sortWorldK putRowK putRow
      rw [heap_grow_old _ _ (by simpa [mapBlock,ahead] using hi)]
      simp [mapBlock,ahead,Array.getElem?_modify,hib]
    have hFw:∀c,F c->(sortWorldK V k w b 0 n r os).heap[c]? =w.heap[c]? :=fun c hc=>hsame.block c (hB.news c hc).1 (fun e=>by cases e;exact nF hc)
    refine⟨he,hsame,fun b' hb' hlt hnF=> ?_,fun e=>(by cases e)⟩
    cases hb'
    have hrl:(r.toList.map (atL l x0)).length=l.length:=by simp [hsz]
    refine⟨by rw [List.length_map,hrl];exact b1,by rw [List.length_map,hrl];exact b2,b3,fun e=>(by rw [hblk] at e;cases e),fun i c hi=> ?_,fun b' hb'=> ?_⟩
    .
     rw [Wp] at hi
     cases hx:(r.toList.map (atL l x0))[i]? with
     |none=>rw [hx] at hi;cases hi
     |some x=>rw [hx] at hi;cases hi;exact⟨hl x,hone x⟩
    .
     rw [hblk] at hb'
     cases hb'
     refine⟨putCells id 0 (flatK V k r) arr,ty,?_,by simpa [putCells] using a2,fun i c j u hi hj=> ?_⟩
     .
      unfold sortWorldK putRowK putRow
      rw [heap_grow_old _ _ (by simpa [mapBlock,ahead] using lt0)]
      simp [mapBlock,ahead,Array.getElem?_modify,a1,onCells]
     .
      rw [Wp,Wp] at hi
      cases hx:r.toList[i]? with
      |none=>rw [hx] at hi;cases hi
      |some y=>
       rw [hx] at hi
       cases hi
       have hil:i<r.size:=by simpa using (List.getElem?_eq_some_iff.1 hx).1
       have hjl:j<k:=by rw [<-hl (atL l x0 y)];exact(List.getElem?_eq_some_iff.1 hj).1
       have hlt2:i*k+j<r.size*k:=Jdc hil hjl
       have d1:(i*k+j) / k=i:=by rw [Nat.add_comm,Nat.add_mul_div_right _ _ hk0,Nat.div_eq_of_lt hjl,Nat.zero_add]
       have d2:(i*k+j) % k=j:=by rw [Nat.add_comm,Nat.add_mul_mod_self_right,Nat.mod_eq_of_lt hjl]
       have hasz:i*k+j<arr.size:=by rw [hsz] at hlt2;omega
       obtain⟨u',hu',v,hv1,hv2,_⟩:=hVc y j hjl
       rw [hj] at hu'
       cases hu'
       refine⟨v,?_,hv2.mono (fun _ x=>x) hFw (fun _ _ e=>e)⟩
       have ex:r[i]! =y:=by
        rw [getElem!_pos r i hil]
        have h9:r.toList[i]? =some r[i]:=by simp [hil]
        rw [hx] at h9
        exact(Wi h9).symm
       have hf:(flatK V k r)[i*k+j]! =v:=by
        rw [get_flatK _ _ _ _ (by simpa using hlt2),d1,d2,ex,List.getElem!_eq_getElem?_getD,hv1]
        rfl
       simp only [putCells,Array.getElem?_mapIdx,Wb hasz,Option.map_some,Nat.zero_le,true_and,Nat.zero_add,size_flatK,hlt2,if_true,Nat.sub_zero,id,hf]
 refine key.mono fun e w' ⟨he,hs,hblk,hnil⟩=>⟨_,he,β,F,?_⟩
 have hH0:∀id kk,(entry [.tup []] [.row k (r.map enc)]).H id=some kk->id=0∧kk= .row k (r.map enc):=fun id kk e=>by
  obtain⟨q1,q2⟩:=Ja2 e
  match id,q1 with
  |0,q1=>cases q1;exact⟨rfl,rfl⟩
 have hFw:∀b,F b->w'.heap[b]? =w.heap[b]? :=fun b hb=>hs.block b (hB.news b hb).1 (fun e=>(e3 b (.inl e.symm)).2.1 hb)
 have hbr:YE w' F β hd (.row k (r.map enc)):=by
  cases hbk:hd.blk with
  |some b=>exact hblk b hbk (e3 b (.inl hbk)).1 (e3 b (.inl hbk)).2.1
  |none=>
   have hr0:=hnil hbk
   subst hr0
   have:hd.cap=0:=b4 hbk
   exact⟨by show hd.len=0;omega,Nat.zero_le _,b3,b4,fun i c hi=>by simp at hi,fun b e=>by rw [hbk] at e;cases e⟩
 refine⟨fun t=> ?_,rfl,hB.defers,fun id kk e=> ?_,fun i1 i2 k1 k2 g1 g2 b h1 h2 h3 h4 h5 h6=> ?_,hB.dom,hB.gr,hB.sub,fun b hb=> ?_,hs.os.trans hB.os,hs.tape.trans hB.tape,hs.output.trans hB.output,Nat.le_trans hB.grow hs.size,fun b hb hne=> ?_,fun gl=> ?_⟩
 .
  match t with
  |0=>exact .tup [] #[] rfl (fun j u v hu=>by simp at hu)
  |t+1=>exact .any _
 .
  obtain⟨rfl,rfl⟩:=hH0 id kk e
  exact⟨hd,e1,hbr,fun b hb0=>by
   have hb:=e3 b (.inl (hb0.elim (fun x=>x) False.elim))
   exact⟨Nat.lt_of_lt_of_le hb.1 hs.size,hb.2⟩⟩
 . rw [(hH0 i1 k1 h1).1,(hH0 i2 k2 h2).1]
 . exact⟨Nat.lt_of_lt_of_le (hB.news b hb).1 hs.size,(hB.news b hb).2⟩
 .
  rw [hs.block b (Nat.lt_of_lt_of_le hb hB.grow) (fun e=> ?_)]
  . exact hB.block b hb hne
  .
   rcases(e3 b (.inl e.symm)).2.2 with h |h
   . exact hne h
   .
    have hb':b<C.w0.heap.size:=hb
    omega
 . exact(hB.glo gl).mono (fun _ x=>x) hFw (fun _ _ e=>e)
end Go.Proofs.YtehhohbnhcogkaaGreatDoor.Ex
namespace Go.Proofs.YtehhohbnhcogkaaGreatDoor.Ex
open Go.RowKit Go.Proofs.YtehhohbnhcogkaaGreatDoor.Ax Go.Sort
instance :Inhabited Passage:=⟨⟨0,0,0⟩⟩
def Jd4 (z:Int):Int:=if 0<=z∧z<=1000000000 then z else 0
def Jli (x:Passage):Passage:=⟨x.Bag,Jd4 x.From,x.To⟩
def Jaw (x:Passage):Bool:=decide (0<=x.From)&&decide (x.From<=1000000000)
def Yv (x y:Passage):Int:=Jd4 x.From - Jd4 y.From
theorem Jlj (z:Int):0<=Jd4 z∧Jd4 z<=1000000000:=by unfold Jd4;split<;>omega
theorem JuI {x:Passage} (h:Jaw x=true):Jli x=x:=by
 unfold Jaw at h
 simp only [Bool.and_eq_true,decide_eq_true_eq] at h
 unfold Jli Jd4
 rw [if_pos h]
theorem Jsy:SWO (ltOf Yv) where
 irrefl x:=by simp [ltOf,Yv]
 trans x y z h1 h2:=by
  have h1:Yv x y<0:=Wt h1
  have h2:Yv y z<0:=Wt h2
  unfold Yv at h1 h2
  refine Wd ?_
  show Jd4 x.From - Jd4 z.From<0
  omega
 ntrans x y z h1 h2:=by
  have h1:¬Yv x y<0:=Wf h1
  have h2:¬Yv y z<0:=Wf h2
  unfold Yv at h1 h2
  refine We ?_
  show ¬Jd4 x.From - Jd4 z.From<0
  omega
end Go.Proofs.YtehhohbnhcogkaaGreatDoor.Ex
namespace Go.Proofs.YtehhohbnhcogkaaGreatDoor.Ex
def Jjt:Go.Shelf.Ren:=⟨fun |27=>121 |28=>168 |29=>169 |n=>n,fun |25=>165 |3=>3 |27=>219 |22=>221 |4=>4 |53=>263 |0=>0 |5=>5 |54=>264 |n=>n,fun |0=>0 |1=>1 |n=>n⟩
theorem Jv1:Go.Proofs.Lays7.n27 Tryz.prog Jjt:={
 mixed:=by kernel_rfl
 f27:=Tryz.func121.trans (congrArg some (by kernel_rfl))
 f28:=Tryz.func168.trans (congrArg some (by kernel_rfl))
 f29:=Tryz.func169.trans (congrArg some (by kernel_rfl))
 t0:=Tryz.underlying0
 a0:=Tryz.isAgg0
 z0:=Tryz.sizeOf0
 v0:=Tryz.zeroValue0
 i0:=by kernel_rfl
 t3:=Tryz.underlying3
 a3:=Tryz.isAgg3
 z3:=Tryz.sizeOf3
 v3:=Tryz.zeroValue3
 i3:=by kernel_rfl
 t4:=Tryz.underlying4
 a4:=Tryz.isAgg4
 z4:=Tryz.sizeOf4
 v4:=Tryz.zeroValue4
 i4:=by kernel_rfl
 t5:=Tryz.underlying5
 a5:=Tryz.isAgg5
 z5:=Tryz.sizeOf5
 v5:=Tryz.zeroValue5
 i5:=by kernel_rfl
 t22:=Tryz.underlying221
 a22:=Tryz.isAgg221
 z22:=Tryz.sizeOf221
 v22:=Tryz.zeroValue221
 i22:=by kernel_rfl
 t25:=Tryz.underlying165
 a25:=Tryz.isAgg165
 z25:=Tryz.sizeOf165
 v25:=Tryz.zeroValue165
 i25:=by kernel_rfl
 t27:=Tryz.underlying219
 a27:=Tryz.isAgg219
 z27:=Tryz.sizeOf219
 v27:=Tryz.zeroValue219
 i27:=by kernel_rfl
 t53:=Tryz.underlying263
 a53:=Tryz.isAgg263
 z53:=Tryz.sizeOf263
 v53:=Tryz.zeroValue263
 i53:=by kernel_rfl
 t54:=Tryz.underlying264
 a54:=Tryz.isAgg264
 z54:=Tryz.sizeOf264
 g0:=by kernel_rfl
 g1:=by kernel_rfl }
end Go.Proofs.YtehhohbnhcogkaaGreatDoor.Ex
namespace Go.Proofs.YtehhohbnhcogkaaGreatDoor.Ex
open Go.RowKit Go.Proofs.YtehhohbnhcogkaaGreatDoor.Ax Go.Shelf
def tzF (x:Int):Option Int:=bif decide (0<=x)&&decide (x<18446744073709551616) then some (Lib.ctz 64 x.toNat:Int) else none
theorem JnI:glo 1= .iptr (Lib.deBruijn64tab.map fun(n:Nat)=> .int .u8 (n:Int)):=by kernel_rfl
theorem Jve (x r:Int) (hF:tzF x=some r):AC Tryz.prog (Jjt.f 27) [.int .u64 x] [] (.int .i64 r) []:=by
 unfold tzF at hF
 cases hc:(decide (0<=x)&&decide (x<18446744073709551616)) with
 |false=>rw [hc] at hF;cases hF
 |true=>
  rw [hc] at hF
  cases hF
  simp only [Bool.and_eq_true,decide_eq_true_eq] at hc
  intro C w vals hC hw0 hnt hlen hR
  obtain⟨β,F,hB⟩:=hR
  have hs:vals.size=1:=hlen
  have e0:RV w F β (.int .u64 x) (vals.getD 0 undef):=hB.env 0
  obtain⟨v,rfl⟩:∃v,vals= #[v]:=by
   refine⟨vals.getD 0 undef,?_⟩
   apply Array.ext
   . simpa using hs
   .
    intro i h1 h2
    have hi:i=0:=by omega
    subst hi
    simp [Array.getD,hs]
  have e0:RV w F β (.int .u64 x) v:=e0
  cases e0
  have hx:x=((x.toNat:Nat):Int):=by omega
  have hT:TabAt 1 Lib.deBruijn64tab w:=by
   have h1:=hB.glo 1
   rw [JnI] at h1
   cases h1 with
   |iptr _ _ _ vs q1 q2 q3 q4=>
    intro j hj
    have hj':(Lib.deBruijn64tab.map fun(n:Nat)=>AV.int .u8 (n:Int))[j]? =some (.int .u8 ((Lib.deBruijn64tab.getD j 0:Nat):Int)):=by
     rw [Wp,Wg hj,List.getD_eq_getElem?_getD,Wg hj]
     rfl
    have h2:=q2 j _ hj'
    have h4:=q4 j _ hj'
    rw [Nat.zero_add] at h2
    rw [h2]
    generalize vs j=u at h4
    cases h4
    rfl
  have hc:=Any7.bits_TrailingZeros Jv1 x.toNat (by omega) w (fun _=>hT)
  rw [<-hx] at hc
  refine hc.mono fun e w' ⟨he,hw⟩=> ?_
  subst hw
  refine⟨_,he,β,F,⟨fun t=> ?_,rfl,hB.defers,hB.live,hB.inj,hB.dom,hB.gr,hB.sub,hB.news,hB.os,hB.tape,hB.output,hB.grow,hB.block,hB.glo⟩⟩
  match t with
  |0=>exact .int _ _
  |t+1=>exact .any _
end Go.Proofs.YtehhohbnhcogkaaGreatDoor.Ex
namespace Go.Proofs.YtehhohbnhcogkaaGreatDoor.Ex
open Go.RowKit Go.Proofs.YtehhohbnhcogkaaGreatDoor.Ax
def Jfg (x0:(List Int)):Option (Src):=
 cond (decide (2000<(x0.length:Int)))
  ((slL x0 0 2000).bind fun l1=>
  some (⟨l1,0⟩:Src))
  (some (⟨x0,0⟩:Src))
def Jb8 (x0:Src):Option (Int×Src):=
 cond (decide ((x0.L.length:Int)<=x0.At))
  (some (0,x0))
  ((ixL x0.L (w64 ((w64 (x0.At+1)) - 1))).bind fun e1=>
  some (e1,(⟨x0.L,(w64 (x0.At+1))⟩:Src)))
def Jfh (x0:Int) (x1:Int):Option (Int):=
 cond (decide (x1<1))
  (some 0)
  ((nz x1).bind fun u1=>
  cond (decide ((x0.tmod x1)<0))
  (some (w64 ((x0.tmod x1)+x1)))
  (some (x0.tmod x1)))
def JF (x0:Src) (x1:Int):Option (Int×Src):=
 (Jb8 x0).bind fun r1=>
  (Jfh r1.1 x1).bind fun r2=>
  some (r2,r1.2)
def Yu (x0:Src) (x1:Int) (x2:Int):Option (Int×Src):=
 (JF x0 (w64 ((w64 (x2 - x1))+1))).bind fun r1=>
  some ((w64 (x1+r1.1)),r1.2)
def Jay (x0:Src) (x1:(List Int)):Option (Int×Src):=
 (JF x0 (x1.length:Int)).bind fun r1=>
  (ixL x1 r1.1).bind fun e2=>
  some (e2,r1.2)
def Q0 (x2:Int):(List Int)->Nat->(List Int)->Option (Ctl (Int×Src) ((List Int)))
 |[],k3,a1=>some (Ctl.brk a1)
 |e4::q6,k3,a1=>cond (e4 != x2)
  ((apL a1 ([e4]:List Int)).bind fun l5=>
  Q0 x2 q6 (k3+1) l5)
  (Q0 x2 q6 (k3+1) a1)
def JaG (x0:Src) (x1:(List Int)) (x2:Int):Option (Int×Src):=
 Ctl.fin (Q0 x2 x1 0 ([]:List Int)) fun z7=>
  cond ((z7.length:Int)==0)
  (some ((-1:Int),x0))
  ((JF x0 (z7.length:Int)).bind fun r8=>
  (ixL z7 r8.1).bind fun e9=>
  some (e9,r8.2))
def Jai (x0:Src) (x1:Int) (x2:Int) (x3:(List Int)) (x4:(List Int)):Option (Node×Src):=
 (Jay x0 x3).bind fun r1=>
  (Yu r1.2 1 3).bind fun r2=>
  (JaG r2.2 x4 (-1:Int)).bind fun r3=>
  cond (r1.1==5)
  (some ((⟨(⟨#[]⟩:ByteArray),r1.1,(w64 (r2.1+1)),x2,([x1,r3.1]:List Int)⟩:Node),r3.2))
  (cond (r1.1==4)
  ((JaG r3.2 x4 r3.1).bind fun r4=>
  cond (decide (r4.1<0))
  (some ((⟨(⟨#[]⟩:ByteArray),2,r2.1,x2,([r3.1]:List Int)⟩:Node),r4.2))
  (some ((⟨(⟨#[]⟩:ByteArray),r1.1,r2.1,x2,([r3.1,r4.1]:List Int)⟩:Node),r4.2)))
  (some ((⟨(⟨#[]⟩:ByteArray),r1.1,r2.1,x2,([r3.1]:List Int)⟩:Node),r3.2)))
def Jbx (x1:Int):(List Int)->Nat->Option (Ctl (Bool) (Unit))
 |[],k2=>some (Ctl.brk ())
 |e3::q4,k2=>cond (e3==x1)
  (some (Ctl.ret true))
  (Jbx x1 q4 (k2+1))
def Jgu (x0:(List Int)) (x1:Int):Option (Bool):=
 Ctl.fin (Jbx x1 x0 0) fun z5=>
  some false
def Jt (k5:Nat) (e6:Node):Nat->(List Int)->Int->(List Device)->Int->Option (Ctl ((List Device)×Src×(List Node)) ((List Int)×Int×(List Int)×Int×(List Device)))
 |0,_,_,_,_=>none
 |q22+1,a7,i8,a9,i10=>cond (decide (i10<e6.Length))
  (cond (decide ((a9.length:Int)<24))
  ((JF (⟨a7,i8⟩:Src) 3).bind fun r11=>
  cond (r11.1==0)
  ((apL a9 ([(⟨2,(k5:Int),i10⟩:Device)]:List Device)).bind fun l12=>
  cond (decide ((l12.length:Int)<24))
  ((JF r11.2 2).bind fun r13=>
  cond (r13.1==0)
  ((apL l12 ([(⟨1,(k5:Int),i10⟩:Device)]:List Device)).bind fun l14=>
  Jt k5 e6 q22 r13.2.L r13.2.At l14 (w64 (i10+1)))
  (Jt k5 e6 q22 r13.2.L r13.2.At l12 (w64 (i10+1))))
  (Jt k5 e6 q22 r11.2.L r11.2.At l12 (w64 (i10+1))))
  (cond (i10==(w64 (e6.Length - 1)))
  (cond (e6.Kind==6)
  ((apL a9 ([(⟨2,(k5:Int),i10⟩:Device)]:List Device)).bind fun l15=>
  cond (decide ((l15.length:Int)<24))
  ((JF r11.2 2).bind fun r16=>
  cond (r16.1==0)
  ((apL l15 ([(⟨1,(k5:Int),i10⟩:Device)]:List Device)).bind fun l17=>
  Jt k5 e6 q22 r16.2.L r16.2.At l17 (w64 (i10+1)))
  (Jt k5 e6 q22 r16.2.L r16.2.At l15 (w64 (i10+1))))
  (Jt k5 e6 q22 r11.2.L r11.2.At l15 (w64 (i10+1))))
  ((JF r11.2 2).bind fun r18=>
  cond (r18.1==0)
  ((apL a9 ([(⟨1,(k5:Int),i10⟩:Device)]:List Device)).bind fun l19=>
  Jt k5 e6 q22 r18.2.L r18.2.At l19 (w64 (i10+1)))
  (Jt k5 e6 q22 r18.2.L r18.2.At a9 (w64 (i10+1)))))
  ((JF r11.2 2).bind fun r20=>
  cond (r20.1==0)
  ((apL a9 ([(⟨1,(k5:Int),i10⟩:Device)]:List Device)).bind fun l21=>
  Jt k5 e6 q22 r20.2.L r20.2.At l21 (w64 (i10+1)))
  (Jt k5 e6 q22 r20.2.L r20.2.At a9 (w64 (i10+1))))))
  (Jt k5 e6 q22 a7 i8 a9 (w64 (i10+1))))
  (some (Ctl.brk (a7,i8,a7,i8,a9)))
def Yh:(List Node)->Nat->(List Int)->Int->(List Device)->Option (Ctl ((List Device)×Src×(List Node)) ((List Int)×Int×(List Device)))
 |[],k5,a1,i2,a3=>some (Ctl.brk (a1,i2,a3))
 |e6::q24,k5,a1,i2,a3=>Ctl.sub (Jt k5 e6 9223372036854775807 a1 i2 a3 0) fun z23=>
  Yh q24 (k5+1) z23.2.2.1 z23.2.2.2.1 z23.2.2.2.2
def Zm (x0:Src) (x1:Layout):Option ((List Device)×Src×(List Node)):=
 Ctl.fin (Yh x1.Nodes 0 x0.L x0.At ([]:List Device)) fun z25=>
  some (z25.2.2,(⟨z25.1,z25.2.1⟩:Src),x1.Nodes)
def YA (r1:Int×Src):Nat->(List Int)->Int->Option (Ctl (Layout×Src) ((List Int)))
 |0,_,_=>none
 |q11+1,a8,i9=>cond (decide (i9<=r1.1))
  ((apL a8 ([i9]:List Int)).bind fun l10=>
  YA r1 q11 l10 (w64 (i9+1)))
  (some (Ctl.brk a8))
def Yz (r1:Int×Src) (r2:Int×Src) (r3:Int×Src):Nat->(List Int)->Int->Option (Ctl (Layout×Src) ((List Int)))
 |0,_,_=>none
 |q17+1,a14,i15=>cond (decide (i15<(w64 ((w64 ((w64 ((w64 ((w64 (r1.1+1))+r2.1))+r3.1))+2)) - 2))))
  ((apL a14 ([i15]:List Int)).bind fun l16=>
  Yz r1 r2 r3 q17 l16 (w64 (i15+1)))
  (some (Ctl.brk a14))
def JU (r1:Int×Src) (r2:Int×Src) (r3:Int×Src):Nat->(List Int)->Int->(List Node)->Int->Option (Ctl (Layout×Src) ((List Int)×Int×(List Int)×Int×(List Node)))
 |0,_,_,_,_=>none
 |q33+1,a4,i5,a6,i7=>cond (decide (i7<(w64 ((w64 ((w64 ((w64 (r1.1+1))+r2.1))+r3.1))+2))))
  (Ctl.sub (YA r1 9223372036854775807 ([]:List Int) (w64 (i7+1))) fun z12=>
  (apL z12 ([(w64 ((w64 ((w64 ((w64 ((w64 (r1.1+1))+r2.1))+r3.1))+2)) - 2))]:List Int)).bind fun l13=>
  Ctl.sub (Yz r1 r2 r3 9223372036854775807 ([]:List Int) (w64 ((if i7<r1.1 then r1.1 else i7)+1))) fun z18=>
  (apL z18 ([(w64 ((w64 ((w64 ((w64 ((w64 (r1.1+1))+r2.1))+r3.1))+2)) - 1))]:List Int)).bind fun l19=>
  cond (i7==0)
  ((Jai (⟨a4,i5⟩:Src) i7 0 ([1]:List Int) l13).bind fun r20=>
  (apL a6 ([(⟨(YS ([(IntKind.u8.wrap (w64 (65+i7)))]:List Int)),r20.1.Kind,r20.1.Length,r20.1.Zone,r20.1.Exits⟩:Node)]:List Node)).bind fun l21=>
  JU r1 r2 r3 q33 r20.2.L r20.2.At l21 (w64 (i7+1)))
  (cond (decide (i7<r1.1))
  ((Jai (⟨a4,i5⟩:Src) i7 0 ([2,3,4,5,3]:List Int) l13).bind fun r22=>
  (apL a6 ([(⟨(YS ([(IntKind.u8.wrap (w64 (65+i7)))]:List Int)),r22.1.Kind,r22.1.Length,r22.1.Zone,r22.1.Exits⟩:Node)]:List Node)).bind fun l23=>
  JU r1 r2 r3 q33 r22.2.L r22.2.At l23 (w64 (i7+1)))
  (cond (i7==r1.1)
  ((Yu (⟨a4,i5⟩:Src) 1 3).bind fun r24=>
  (JF r24.2 (l19.length:Int)).bind fun r25=>
  (ixL l19 r25.1).bind fun e26=>
  (apL a6 ([(⟨(YS ([(IntKind.u8.wrap (w64 (65+i7)))]:List Int)),6,r24.1,0,([(w64 ((w64 ((w64 ((w64 ((w64 (r1.1+1))+r2.1))+r3.1))+2)) - 2)),e26]:List Int)⟩:Node)]:List Node)).bind fun l27=>
  JU r1 r2 r3 q33 r25.2.L r25.2.At l27 (w64 (i7+1)))
  (cond (decide (i7<(w64 ((w64 (r1.1+1))+r2.1))))
  ((Jai (⟨a4,i5⟩:Src) i7 1 ([2,4,5,7]:List Int) l19).bind fun r28=>
  cond (r28.1.Kind==7)
  ((apL a6 ([(⟨(YS ([(IntKind.u8.wrap (w64 (65+i7)))]:List Int)),r28.1.Kind,0,r28.1.Zone,r28.1.Exits⟩:Node)]:List Node)).bind fun l29=>
  JU r1 r2 r3 q33 r28.2.L r28.2.At l29 (w64 (i7+1)))
  ((apL a6 ([(⟨(YS ([(IntKind.u8.wrap (w64 (65+i7)))]:List Int)),r28.1.Kind,r28.1.Length,r28.1.Zone,r28.1.Exits⟩:Node)]:List Node)).bind fun l30=>
  JU r1 r2 r3 q33 r28.2.L r28.2.At l30 (w64 (i7+1))))
  (cond (decide (i7<(w64 ((w64 ((w64 ((w64 ((w64 (r1.1+1))+r2.1))+r3.1))+2)) - 2))))
  ((apL a6 ([(⟨(YS ([(IntKind.u8.wrap (w64 (65+i7)))]:List Int)),8,0,1,([]:(List Int))⟩:Node)]:List Node)).bind fun l31=>
  JU r1 r2 r3 q33 a4 i5 l31 (w64 (i7+1)))
  ((apL a6 ([(⟨(YS ([(IntKind.u8.wrap (w64 (65+i7)))]:List Int)),9,0,(w64 (i7 - (w64 ((w64 ((w64 ((w64 ((w64 (r1.1+1))+r2.1))+r3.1))+2)) - 2)))),([]:(List Int))⟩:Node)]:List Node)).bind fun l32=>
  JU r1 r2 r3 q33 a4 i5 l32 (w64 (i7+1))))))))
  (some (Ctl.brk (a4,i5,a4,i5,a6)))
def QL (r1:Int×Src):Nat->(List Node)->Int->Option (Ctl (Layout×Src) ((List Node)))
 |0,_,_=>none
 |q45+1,a36,i37=>cond (decide (i37<r1.1))
  ((ixL a36 i37).bind fun e38=>
  cond (e38.Kind != 5)
  ((ixL a36 i37).bind fun e39=>
  (Jgu e39.Exits (w64 (i37+1))).bind fun r40=>
  cond (!r40)
  ((ixL a36 i37).bind fun e41=>
  (slL e41.Exits 1 (e41.Exits.length:Int)).bind fun l42=>
  (apL ([(w64 (i37+1))]:List Int) l42).bind fun l43=>
  (ixL a36 i37).bind fun e44=>
  QL r1 q45 (a36.set i37.toNat (⟨e44.Name,e44.Kind,e44.Length,e44.Zone,l43⟩:Node)) (w64 (i37+1)))
  (QL r1 q45 a36 (w64 (i37+1))))
  (QL r1 q45 a36 (w64 (i37+1))))
  (some (Ctl.brk a36))
def JaP (x0:Src):Option (Layout×Src):=
 (Yu x0 1 3).bind fun r1=>
  (Yu r1.2 0 3).bind fun r2=>
  (Yu r2.2 1 2).bind fun r3=>
  Ctl.fin (JU r1 r2 r3 9223372036854775807 r3.2.L r3.2.At ([]:List Node) 0) fun z34=>
  (JF (⟨z34.2.2.1,z34.2.2.2.1⟩:Src) 4).bind fun r35=>
  cond (decide (0<r35.1))
  (Ctl.fin (QL r1 9223372036854775807 z34.2.2.2.2 0) fun z46=>
  (Zm r35.2 (⟨z46,([]:(List Device))⟩:Layout)).bind fun r47=>
  some ((⟨r47.2.2,r47.1⟩:Layout),r47.2.1))
  ((Zm r35.2 (⟨z34.2.2.2.2,([]:(List Device))⟩:Layout)).bind fun r48=>
  some ((⟨r48.2.2,r48.1⟩:Layout),r48.2.1))
def JcD (x0:Int):Option (Bool):=
 cond (decide (65<=x0))
  (some (decide (x0<=90)))
  (some false)
def JeE (x0:Int):Option (Bool):=
 cond (decide (48<=x0))
  (some (decide (x0<=57)))
  (some false)
def JdC (x0:Int):Option (Bool):=
 (JcD x0).bind fun r1=>
  cond r1
  (some true)
  ((JeE x0).bind fun r2=>
  some r2)
def Jbp (x0:ByteArray):Nat->Int->Option (Ctl (Bool) (Unit))
 |0,_=>none
 |q4+1,i1=>cond (decide (i1<(x0.size:Int)))
  ((ixS x0 i1).bind fun b2=>
  (JdC b2).bind fun r3=>
  cond (!r3)
  (some (Ctl.ret false))
  (Jbp x0 q4 (w64 (i1+1))))
  (some (Ctl.brk ()))
def Jgc (x0:ByteArray):Option (Bool):=
 Ctl.fin (Jbp x0 9223372036854775807 0) fun z5=>
  some true
def JdW (x0:ByteArray) (x1:Int):Option (Bool):=
 cond (!(x0.toList==(⟨#[]⟩:ByteArray).toList))
  (cond (decide ((x0.size:Int)<=x1))
  ((ixS x0 0).bind fun b1=>
  (JcD b1).bind fun r2=>
  cond r2
  ((Jgc x0).bind fun r3=>
  some r3)
  (some false))
  (some false))
  (some false)
def Qp (x0:Int):Option (Bool):=
 cond (decide (1<=x0))
  (some (decide (x0<=6)))
  (some false)
def Jbo (x0:Node):Option (Bool):=
 (Qp x0.Kind).bind fun r1=>
  cond (!r1)
  (some (x0.Length==0))
  (cond (x0.Kind==5)
  (cond (decide (2<=x0.Length))
  (some (decide (x0.Length<=8)))
  (some false))
  (cond (decide (1<=x0.Length))
  (some (decide (x0.Length<=8)))
  (some false)))
def Jb5 (x0:Int):Option (Int):=
 cond (x0==8)
  (some 0)
  (cond (x0==9)
  (some 0)
  (cond (x0==4)
  (some 2)
  (cond (x0==5)
  (some 2)
  (cond (x0==6)
  (some 2)
  (some 1)))))
def Yf (x1:Int):(List Int)->Nat->Option (Ctl (Int) (Unit))
 |[],k2=>some (Ctl.brk ())
 |e3::q4,k2=>cond (x1==e3)
  (some (Ctl.ret (k2:Int)))
  (Yf x1 q4 (k2+1))
def Z7 (x0:(List Int)) (x1:Int):Option (Int):=
 Ctl.fin (Yf x1 x0 0) fun z5=>
  some (-1:Int)
def QU (x0:(List Int)) (x1:Int):Option (Bool):=
 (Z7 x0 x1).bind fun r1=>
  some (decide (0<=r1))
def Zc (x0:Layout) (x1:Int) (e1:Node):(List Int)->Nat->Option (Ctl (Bool) (Unit))
 |[],k4=>some (Ctl.brk ())
 |e5::q10,k4=>cond (e1.Kind==5)
  (cond (decide (e5<0))
  (some (Ctl.ret false))
  (cond (decide ((x0.Nodes.length:Int)<=e5))
  (some (Ctl.ret false))
  (cond (!((e5==x1)==((k4:Int)==0)))
  (some (Ctl.ret false))
  ((slL e1.Exits 0 (k4:Int)).bind fun l6=>
  (QU l6 e5).bind fun r7=>
  cond r7
  (some (Ctl.ret false))
  (Zc x0 x1 e1 q10 (k4+1))))))
  (cond (decide (e5<0))
  (some (Ctl.ret false))
  (cond (decide ((x0.Nodes.length:Int)<=e5))
  (some (Ctl.ret false))
  (cond (!((e5==x1)==false))
  (some (Ctl.ret false))
  ((slL e1.Exits 0 (k4:Int)).bind fun l8=>
  (QU l8 e5).bind fun r9=>
  cond r9
  (some (Ctl.ret false))
  (Zc x0 x1 e1 q10 (k4+1))))))
def Jbf (x0:Layout) (x1:Int):Option (Bool):=
 (ixL x0.Nodes x1).bind fun e1=>
  (Jb5 e1.Kind).bind fun r2=>
  cond ((e1.Exits.length:Int) != r2)
  (some false)
  (Ctl.fin (Zc x0 x1 e1 e1.Exits 0) fun z11=>
  some true)
def JcI (x0:Layout) (x1:Int):Option (Int):=
 (ixL x0.Nodes x1).bind fun e1=>
  (JdW e1.Name 12).bind fun r2=>
  cond (!r2)
  (some 3)
  (cond (decide (e1.Kind<1))
  (some 4)
  (cond (decide (9<e1.Kind))
  (some 4)
  ((Jbo e1).bind fun r3=>
  cond (!r3)
  (some 1)
  (cond (e1.Zone != 0)
  (cond (e1.Zone != 1)
  (some 1)
  ((Jbf x0 x1).bind fun r4=>
  cond (!r4)
  (some 1)
  (some 0)))
  ((Jbf x0 x1).bind fun r5=>
  cond (!r5)
  (some 1)
  (some 0))))))
def ZM:(List Node)->Nat->Int->Option (Ctl (Int) (Int))
 |[],k3,i1=>some (Ctl.brk i1)
 |e4::q5,k3,i1=>ZM q5 (k3+1) (w64 (i1+e4.Length))
def Jb3 (x0:Layout):Option (Int):=
 Ctl.fin (ZM x0.Nodes 0 0) fun z6=>
  some z6
def Jb6 (x0:Node) (x1:ByteArray):Option (Bool):=
 some (x0.Name.toList==x1.toList)
def Ql (x1:ByteArray):(List Node)->Nat->Option (Ctl (Int) (Unit))
 |[],k2=>some (Ctl.brk ())
 |e3::q5,k2=>(Jb6 e3 x1).bind fun r4=>
  cond r4
  (some (Ctl.ret (k2:Int)))
  (Ql x1 q5 (k2+1))
def Jao (x0:(List Node)) (x1:ByteArray):Option (Int):=
 Ctl.fin (Ql x1 x0 0) fun z6=>
  some (-1:Int)
def JbK (x0:Layout) (x1:ByteArray):Option (Int):=
 (Jao x0.Nodes x1).bind fun r1=>
  some r1
def ZN (x0:Layout):(List Node)->Nat->Option (Ctl (Bool) (Unit))
 |[],k2=>some (Ctl.brk ())
 |e3::q5,k2=>(JbK x0 e3.Name).bind fun r4=>
  cond (r4 != (k2:Int))
  (some (Ctl.ret false))
  (ZN x0 q5 (k2+1))
def Jb4 (x0:Layout):Option (Bool):=
 Ctl.fin (ZN x0 x0.Nodes 0) fun z6=>
  some true
def JI (x0:Layout) (e1:Node):(List Int)->Nat->Option (Ctl (Bool) (Unit))
 |[],k3=>some (Ctl.brk ())
 |e4::q7,k3=>(ixL x0.Nodes e4).bind fun e5=>
  cond (e5.Kind==1)
  (some (Ctl.ret false))
  ((ixL x0.Nodes e4).bind fun e6=>
  cond (e6.Zone != e1.Zone)
  (some (Ctl.ret false))
  (JI x0 e1 q7 (k3+1)))
def Zb (x0:Layout) (e1:Node):(List Int)->Nat->Option (Ctl (Bool) (Unit))
 |[],k17=>some (Ctl.brk ())
 |e18::q23,k17=>cond ((k17:Int)==1)
  ((ixL x0.Nodes e18).bind fun e19=>
  cond (e19.Kind==1)
  (some (Ctl.ret false))
  ((ixL x0.Nodes e18).bind fun e20=>
  cond (e20.Zone != 1)
  (some (Ctl.ret false))
  (Zb x0 e1 q23 (k17+1))))
  ((ixL x0.Nodes e18).bind fun e21=>
  cond (e21.Kind==1)
  (some (Ctl.ret false))
  ((ixL x0.Nodes e18).bind fun e22=>
  cond (e22.Zone != e1.Zone)
  (some (Ctl.ret false))
  (Zb x0 e1 q23 (k17+1))))
def Jb2 (x0:Layout) (x1:Int):Option (Bool):=
 (ixL x0.Nodes x1).bind fun e1=>
  cond (e1.Kind==1)
  (cond (e1.Zone != 0)
  (some false)
  (Ctl.fin (JI x0 e1 e1.Exits 0) fun z8=>
  some true))
  (cond (e1.Kind==3)
  (cond (e1.Zone != 0)
  (some false)
  (Ctl.fin (JI x0 e1 e1.Exits 0) fun z15=>
  some true))
  (cond (e1.Kind==6)
  (cond (e1.Zone != 0)
  (some false)
  (Ctl.fin (Zb x0 e1 e1.Exits 0) fun z24=>
  some true))
  (cond (e1.Kind==7)
  (cond (e1.Zone != 1)
  (some false)
  (Ctl.fin (JI x0 e1 e1.Exits 0) fun z31=>
  some true))
  (cond (e1.Kind==8)
  (cond (e1.Zone != 1)
  (some false)
  (Ctl.fin (JI x0 e1 e1.Exits 0) fun z38=>
  some true))
  (Ctl.fin (JI x0 e1 e1.Exits 0) fun z45=>
  some true)))))
def YM (k3:Nat):(List Int)->Nat->(List (Int×Int))->Option (Ctl ((List Int)) ((List (Int×Int))))
 |[],k7,a5=>some (Ctl.brk a5)
 |e8::q11,k7,a5=>cond (e8 != (k3:Int))
  ((Jb0 wI a5 e8 0).bind fun v9=>
  (JcY wI wI a5 e8 (w64 (v9+1))).bind fun m10=>
  YM k3 q11 (k7+1) m10)
  (YM k3 q11 (k7+1) a5)
def Zl:(List Node)->Nat->(List (Int×Int))->Option (Ctl ((List Int)) ((List (Int×Int))))
 |[],k3,a1=>some (Ctl.brk a1)
 |e4::q13,k3,a1=>Ctl.sub (YM k3 e4.Exits 0 a1) fun z12=>
  Zl q13 (k3+1) z12
def YL (a16:(List (Int×Int))) (a17:(List Bool)):(List Node)->Nat->Option (Ctl ((List Int)) (Int))
 |[],k23=>some (Ctl.brk (-1:Int))
 |e24::q27,k23=>(ixL a17 (k23:Int)).bind fun e25=>
  cond (!e25)
  ((Jb0 wI a16 (k23:Int) 0).bind fun v26=>
  cond (v26==0)
  (some (Ctl.brk (k23:Int)))
  (YL a16 a17 q27 (k23+1)))
  (YL a16 a17 q27 (k23+1))
def YK (z28:Int):(List Int)->Nat->(List (Int×Int))->Option (Ctl ((List Int)) ((List (Int×Int))))
 |[],k34,a32=>some (Ctl.brk a32)
 |e35::q38,k34,a32=>cond (e35 != z28)
  ((Jb0 wI a32 e35 0).bind fun v36=>
  (JcY wI wI a32 e35 (w64 (v36 - 1))).bind fun m37=>
  YK z28 q38 (k34+1) m37)
  (YK z28 q38 (k34+1) a32)
def Zk (x0:Layout):(List Node)->Nat->(List (Int×Int))->(List Int)->(List Bool)->Option (Ctl ((List Int)) ((List Int)))
 |[],k20,a16,a18,a17=>some (Ctl.brk a18)
 |e21::q40,k20,a16,a18,a17=>Ctl.sub (YL a16 a17 x0.Nodes 0) fun z28=>
  cond (decide (z28<0))
  (some (Ctl.brk a18))
  ((ixL a17 z28).bind fun e29=>
  (apL a18 ([z28]:List Int)).bind fun l30=>
  (ixL x0.Nodes z28).bind fun e31=>
  Ctl.sub (YK z28 e31.Exits 0 a16) fun z39=>
  Zk x0 q40 (k20+1) z39 l30 (a17.set z28.toNat true))
def Jax (x0:Layout):Option ((List Int)):=
 Ctl.fin (Zl x0.Nodes 0 ([]:List (Int×Int))) fun z14=>
  (mkL (x0.Nodes.length:Int) false).bind fun l15=>
  Ctl.fin (Zk x0 x0.Nodes 0 z14 ([]:List Int) l15) fun z41=>
  some z41
def Qw (x1:Device):(List Device)->Nat->Option (Ctl (Int) (Unit))
 |[],k2=>some (Ctl.brk ())
 |e3::q4,k2=>cond ((x1.Kind==e3.Kind)&&((x1.Node==e3.Node)&&((x1.Window==e3.Window)&&true)))
  (some (Ctl.ret (k2:Int)))
  (Qw x1 q4 (k2+1))
def JaA (x0:(List Device)) (x1:Device):Option (Int):=
 Ctl.fin (Qw x1 x0 0) fun z5=>
  some (-1:Int)
def YV (x0:(List Device)) (x1:Device):Option (Bool):=
 (JaA x0 x1).bind fun r1=>
  some (decide (0<=r1))
def Ym (x0:Layout):(List Device)->Nat->Option (Ctl (Int) (Unit))
 |[],k2=>some (Ctl.brk ())
 |e3::q6,k2=>cond (e3.Kind != 1)
  (cond (e3.Kind != 2)
  (some (Ctl.ret 4))
  (cond (decide (e3.Node<0))
  (some (Ctl.ret 1))
  (cond (decide ((x0.Nodes.length:Int)<=e3.Node))
  (some (Ctl.ret 1))
  (cond (decide (e3.Window<0))
  (some (Ctl.ret 1))
  ((ixL x0.Nodes e3.Node).bind fun e4=>
  cond (decide (e4.Length<=e3.Window))
  (some (Ctl.ret 1))
  (Ym x0 q6 (k2+1)))))))
  (cond (decide (e3.Node<0))
  (some (Ctl.ret 1))
  (cond (decide ((x0.Nodes.length:Int)<=e3.Node))
  (some (Ctl.ret 1))
  (cond (decide (e3.Window<0))
  (some (Ctl.ret 1))
  ((ixL x0.Nodes e3.Node).bind fun e5=>
  cond (decide (e5.Length<=e3.Window))
  (some (Ctl.ret 1))
  (Ym x0 q6 (k2+1))))))
def Y3 (x0:Layout):(List Device)->Nat->Option (Ctl (Int) (Unit))
 |[],k9=>some (Ctl.brk ())
 |e10::q13,k9=>(slL x0.Devices 0 (k9:Int)).bind fun l11=>
  (YV l11 e10).bind fun r12=>
  cond r12
  (some (Ctl.ret 5))
  (Y3 x0 q13 (k9+1))
def Ja7 (x0:Layout):Option (Int):=
 Ctl.fin (Ym x0 x0.Devices 0) fun z7=>
  Ctl.fin (Y3 x0 x0.Devices 0) fun z14=>
  some 0
def JaM (x0:Node):Option (Bool):=
 some (x0.Kind==1)
def J3:(List Node)->Nat->Option (Ctl (Int) (Unit))
 |[],k2=>some (Ctl.brk ())
 |e3::q5,k2=>(JaM e3).bind fun r4=>
  cond r4
  (some (Ctl.ret (k2:Int)))
  (J3 q5 (k2+1))
def Zt (x0:(List Node)):Option (Int):=
 Ctl.fin (J3 x0 0) fun z6=>
  some (-1:Int)
def QR (x0:(List Node)):Option (Bool):=
 (Zt x0).bind fun r1=>
  some (decide (0<=r1))
def Yy (x0:Layout):(List Node)->Nat->Option (Ctl (Int) (Unit))
 |[],k2=>some (Ctl.brk ())
 |e3::q5,k2=>(JcI x0 (k2:Int)).bind fun r4=>
  cond (r4 != 0)
  (some (Ctl.ret r4))
  (Yy x0 q5 (k2+1))
def Yx (x0:Layout):(List Node)->Nat->Option (Ctl (Int) (Unit))
 |[],k10=>some (Ctl.brk ())
 |e11::q13,k10=>(Jb2 x0 (k10:Int)).bind fun r12=>
  cond (!r12)
  (some (Ctl.ret 7))
  (Yx x0 q13 (k10+1))
def Q9 (x0:Layout):Option (Int):=
 cond (decide (24<(x0.Nodes.length:Int)))
  (some 2)
  (cond (decide (24<(x0.Devices.length:Int)))
  (some 2)
  (Ctl.fin (Yy x0 x0.Nodes 0) fun z6=>
  (Jb3 x0).bind fun r7=>
  cond (decide (80<r7))
  (some 2)
  ((Jb4 x0).bind fun r8=>
  cond (!r8)
  (some 5)
  (Ctl.fin (Yx x0 x0.Nodes 0) fun z14=>
  (Jax x0).bind fun r15=>
  cond (decide ((r15.length:Int)<(x0.Nodes.length:Int)))
  (some 9)
  ((Ja7 x0).bind fun r16=>
  cond (r16 != 0)
  (some r16)
  ((QR x0.Nodes).bind fun r17=>
  cond (!r17)
  (some 6)
  (some 0)))))))
def Jas:(List Node)->Nat->(List (List Int))->(List (List Int))->Option (Ctl (Plant×Int) ((List (List Int))×(List (List Int))))
 |[],k5,a2,a3=>some (Ctl.brk (a2,a3))
 |e6::q10,k5,a2,a3=>(mkL e6.Length 0).bind fun l7=>
  (apL a2 ([l7]:List (List Int))).bind fun l8=>
  (apL a3 ([([]:(List Int))]:List (List Int))).bind fun l9=>
  Jas q10 (k5+1) l8 l9
def Jdh (x0:Layout):Option (Plant×Int):=
 (Q9 x0).bind fun r1=>
  cond (r1 != 0)
  (some ((⟨([]:(List (List Int))),([]:(List (List Int)))⟩:Plant),r1))
  (Ctl.fin (Jas x0.Nodes 0 ([]:List (List Int)) ([]:List (List Int))) fun z11=>
  some ((⟨z11.1,z11.2⟩:Plant),0))
def Jen (x0:Layout) (x1:Int):Option (Belief×Int):=
 (Jdh x0).bind fun r1=>
  cond (r1.2 != 0)
  (some ((⟨0,([]:(List Hypothesis))⟩:Belief),r1.2))
  (cond (decide (x1<0))
  (some ((⟨0,([]:(List Hypothesis))⟩:Belief),1))
  (cond (decide (2<x1))
  (some ((⟨0,([]:(List Hypothesis))⟩:Belief),1))
  (some ((⟨x1,([(⟨0,r1.1⟩:Hypothesis)]:List Hypothesis)⟩:Belief),0))))
def Yj (r1:Int×Src):Nat->(List Int)->Int->(List Plate)->Int->Option (Ctl ((List Plate)×Src) ((List Int)×Int×(List Plate)))
 |0,_,_,_,_=>none
 |q8+1,a2,i3,a4,i5=>cond (decide (i5<40))
  ((JF (⟨a2,i3⟩:Src) 2).bind fun r6=>
  (apL a4 ([(⟨0,(w64 (117+r1.1)),(w64 (i5*(w64 (1+r6.1))))⟩:Plate)]:List Plate)).bind fun l7=>
  Yj r1 q8 r6.2.L r6.2.At l7 (w64 (i5+1)))
  (some (Ctl.brk (a2,i3,a4)))
def QW (i11:Int):Nat->(List Plate)->Int->Option (Ctl ((List Plate)×Src) ((List Plate)))
 |0,_,_=>none
 |q18+1,a12,i13=>cond (decide (i13<i11))
  ((ixL a12 i13).bind fun e14=>
  (ixL a12 i11).bind fun e15=>
  cond ((e14.Lead==e15.Lead)&&((e14.Airline==e15.Airline)&&((e14.Serial==e15.Serial)&&true)))
  ((ixL a12 i11).bind fun e16=>
  (ixL (a12.set i11.toNat (⟨1,e16.Airline,e16.Serial⟩:Plate)) i11).bind fun e17=>
  QW i11 q18 ((a12.set i11.toNat (⟨1,e16.Airline,e16.Serial⟩:Plate)).set i11.toNat (⟨e17.Lead,e17.Airline,i11⟩:Plate)) (w64 (i13+1)))
  (QW i11 q18 a12 (w64 (i13+1))))
  (some (Ctl.brk a12))
def Yi:Nat->Int->(List Plate)->Option (Ctl ((List Plate)×Src) ((List Plate)))
 |0,_,_=>none
 |q20+1,i11,a10=>cond (decide (i11<(a10.length:Int)))
  (Ctl.sub (QW i11 9223372036854775807 a10 0) fun z19=>
  Yi q20 (w64 (i11+1)) z19)
  (some (Ctl.brk a10))
def Z8 (x0:Src):Option ((List Plate)×Src):=
 (JF x0 3).bind fun r1=>
  Ctl.fin (Yj r1 9223372036854775807 r1.2.L r1.2.At ([]:List Plate) 0) fun z9=>
  Ctl.fin (Yi 9223372036854775807 0 z9.2.2) fun z21=>
  some (z21,(⟨z9.1,z9.2.1⟩:Src))
def Jag (x1:Int):(List (List Int))->Nat->Option (Ctl (Place×Bool) (Unit))
 |[],k2=>some (Ctl.brk ())
 |e3::q5,k2=>(Z7 e3 x1).bind fun r4=>
  cond (decide (0<=r4))
  (some (Ctl.ret ((⟨(k2:Int),r4⟩:Place),true)))
  (Jag x1 q5 (k2+1))
def Jaf (x1:Int):(List (List Int))->Nat->Option (Ctl (Place×Bool) (Unit))
 |[],k8=>some (Ctl.brk ())
 |e9::q11,k8=>(QU e9 x1).bind fun r10=>
  cond r10
  (some (Ctl.ret ((⟨(k8:Int),(-1:Int)⟩:Place),true)))
  (Jaf x1 q11 (k8+1))
def JbJ (x0:Plant) (x1:Int):Option (Place×Bool):=
 cond (x1==0)
  (some ((⟨0,0⟩:Place),false))
  (Ctl.fin (Jag x1 x0.Slots 0) fun z6=>
  Ctl.fin (Jaf x1 x0.Bins 0) fun z12=>
  some ((⟨0,0⟩:Place),false))
def Zj (x0:(List Int)):Option ((List Int)):=
 apL [] x0
def Jdl (x0:(List Int)) (x1:Int):Option ((List Int)×Bool):=
 cond ((x0.length:Int)==0)
  (some (([]:(List Int)),false))
  ((ixL x0 0).bind fun e1=>
  cond (e1 != 0)
  (some (([]:(List Int)),false))
  (cond (x1==0)
  (some (([]:(List Int)),false))
  ((Zj x0).bind fun r2=>
  (ixL r2 0).bind fun e3=>
  some ((r2.set (0:Int).toNat x1),true))))
def Zw:(List (List Int))->Nat->(List (List Int))->Option (Ctl ((List (List Int))) ((List (List Int))))
 |[],k3,a1=>some (Ctl.brk a1)
 |e4::q7,k3,a1=>(apL ([]:List Int) e4).bind fun l5=>
  (apL a1 ([l5]:List (List Int))).bind fun l6=>
  Zw q7 (k3+1) l6
def JbM (x0:(List (List Int))):Option ((List (List Int))):=
 Ctl.fin (Zw x0 0 ([]:List (List Int))) fun z8=>
  some z8
def Jbg (x0:Plant):Option (Plant):=
 (JbM x0.Slots).bind fun r1=>
  (JbM x0.Bins).bind fun r2=>
  some (⟨r1,r2⟩:Plant)
def YH (x0:Layout) (x1:Plant) (x2:Int) (x3:Int):Option (Plant×Int):=
 cond (decide (x2<0))
  (some ((⟨([]:(List (List Int))),([]:(List (List Int)))⟩:Plant),1))
  (cond (decide ((x0.Nodes.length:Int)<=x2))
  (some ((⟨([]:(List (List Int))),([]:(List (List Int)))⟩:Plant),1))
  (cond (decide (x3<1))
  (some ((⟨([]:(List (List Int))),([]:(List (List Int)))⟩:Plant),1))
  (cond (decide (40<x3))
  (some ((⟨([]:(List (List Int))),([]:(List (List Int)))⟩:Plant),1))
  ((ixL x0.Nodes x2).bind fun e1=>
  cond (e1.Kind != 1)
  (some ((⟨([]:(List (List Int))),([]:(List (List Int)))⟩:Plant),4))
  ((JbJ x1 x3).bind fun r2=>
  cond r2.2
  (some ((⟨([]:(List (List Int))),([]:(List (List Int)))⟩:Plant),5))
  (cond (decide ((x1.Slots.length:Int)<=x2))
  (some ((⟨([]:(List (List Int))),([]:(List (List Int)))⟩:Plant),7))
  ((ixL x1.Slots x2).bind fun e3=>
  (Jdl e3 x3).bind fun r4=>
  cond (!r4.2)
  (some ((⟨([]:(List (List Int))),([]:(List (List Int)))⟩:Plant),8))
  ((Jbg x1).bind fun r5=>
  (ixL r5.Slots x2).bind fun e6=>
  some ((⟨(r5.Slots.set x2.toNat r4.1),r5.Bins⟩:Plant),0)))))))))
def Z2:(List (List Int))->Nat->(List Int)->Option (Ctl ((List Int)) ((List Int)))
 |[],k3,a1=>some (Ctl.brk a1)
 |e4::q6,k3,a1=>(apL a1 e4).bind fun l5=>
  Z2 q6 (k3+1) l5
def Z1:(List (List Int))->Nat->(List Int)->Option (Ctl ((List Int)) ((List Int)))
 |[],k10,a8=>some (Ctl.brk a8)
 |e11::q14,k10,a8=>(apL a8 ([(e11.length:Int)]:List Int)).bind fun l12=>
  (apL l12 e11).bind fun l13=>
  Z1 q14 (k10+1) l13
def Ja8 (x0:Plant):Option ((List Int)):=
 Ctl.fin (Z2 x0.Slots 0 ([]:List Int)) fun z7=>
  Ctl.fin (Z1 x0.Bins 0 z7) fun z15=>
  some z15
def JnD (n:Int):Option (List UInt8):=bif decide (0<=n)&&decide (n<100) then some (bif decide (n<10) then [UInt8.ofNat (48+n.toNat)] else [UInt8.ofNat (48+n.toNat / 10),UInt8.ofNat (48+n.toNat % 10)]) else none
def JoA:List Int->Option (List UInt8)
 |[]=>some []
 |n::ns=>(JnD n).bind fun d=>(JoA ns).bind fun k=>some (d++32::k)
def JuU (l:List Int):Option ByteArray:=(JoA l).bind fun k=>bif decide (k.length<=140737488355328) then some ⟨k.toArray⟩ else none
def Q7 (m:List (ByteArray×Int)) (l:List Hypothesis) (p:Plant) (u:Int):Option (List (ByteArray×Int)×List Hypothesis):=
 (Ja8 p).bind fun a=>(JuU a).bind fun k=>(Jgq wS m k 0).bind fun n=>cond (!n.2)
  ((JcY wS wI m k (l.length:Int)).bind fun m'=>(apL l [⟨u,p⟩]).bind fun l'=>some (m',l'))
  ((ixL l n.1).bind fun h=>some (m,l.set n.1.toNat { h with Used:=if u<h.Used then u else h.Used }))
def Z5 (x0:Int):Option (Bool):=
 some (x0 != x0)
def JaR (x0:Int) (x1:Int):Option (Int):=
 (Z5 x0).bind fun r1=>
  (Z5 x1).bind fun r2=>
  cond r1
  (cond r2
  (some 0)
  (some (-1:Int)))
  (cond r2
  (some 1)
  (cond (decide (x0<x1))
  (some (-1:Int))
  (cond (decide (x1<x0))
  (some 1)
  (some 0))))
def QF (x1:(List Int)):(List Int)->Nat->Option (Ctl (Int) (Unit))
 |[],k2=>some (Ctl.brk ())
 |e3::q6,k2=>cond (decide ((x1.length:Int)<=(k2:Int)))
  (some (Ctl.ret 1))
  ((ixL x1 (k2:Int)).bind fun e4=>
  (JaR e3 e4).bind fun r5=>
  cond (r5 != 0)
  (some (Ctl.ret r5))
  (QF x1 q6 (k2+1)))
def Jac (x0:(List Int)) (x1:(List Int)):Option (Int):=
 Ctl.fin (QF x1 x0 0) fun z7=>
  cond (decide ((x0.length:Int)<(x1.length:Int)))
  (some (-1:Int))
  (some 0)
def JV (x0:Hypothesis) (x1:Hypothesis):Option (Int):=
 (Ja8 x0.Plant).bind fun r1=>
  (Ja8 x1.Plant).bind fun r2=>
  (Jac r1 r2).bind fun r3=>
  some r3
def JqZ (x:Hypothesis):List Int:=(Ja8 x.Plant).getD []
def Jbn:List Int->List Int->Int
 |[],[]=>0
 |[],_::_=> -1
 |_::_,[]=>1
 |a::s,b::t=>if a<b then -1 else if b<a then 1 else Jbn s t
def Jgw (x y:Hypothesis):Int:=Jbn (JqZ x) (JqZ y)
def Q3 (l:List Hypothesis) (b:Int):Option Belief:=bif l.all (fun x=>l.all fun y=>decide (JV x y=some (Jgw x y))) then (Jjh Jgw l).bind fun r=>some ⟨b,r⟩ else none
def Jba (x0:Plant) (x1:Layout) (x2:Int) (x3:Int):Option (Plant×Bool):=
 (YH x1 x0 x2 x3).bind fun r1=>
  some (r1.1,(r1.2==0))
def Jff (ly:Layout) (nd bg:Int):List Hypothesis->List (ByteArray×Int)->List Hypothesis->Option (List (ByteArray×Int)×List Hypothesis)
 |[],m,l=>some (m,l)
 |h::q,m,l=>(Jba h.Plant ly nd bg).bind fun p=>cond p.2 ((Q7 m l p.1 h.Used).bind fun ml=>Jff ly nd bg q ml.1 ml.2) (Jff ly nd bg q m l)
def Jdy (x0:Belief) (x1:Layout) (x2:Int) (x3:Int):Option (Belief×Int):=
 (Jff x1 x2 x3 x0.L [] []).bind fun ml=>cond ((ml.2.length:Int)==0) (some (⟨0,[]⟩,11)) ((Q3 ml.2 x0.Budget).bind fun r=>some (r,0))
def Jbb (x0:Layout) (x1:Belief) (x2:Int) (x3:Int):Option (Belief×Int):=
 cond (decide (x2<0))
  (some ((⟨0,([]:(List Hypothesis))⟩:Belief),1))
  (cond (decide ((x0.Nodes.length:Int)<=x2))
  (some ((⟨0,([]:(List Hypothesis))⟩:Belief),1))
  (cond (decide (x3<1))
  (some ((⟨0,([]:(List Hypothesis))⟩:Belief),1))
  (cond (decide (40<x3))
  (some ((⟨0,([]:(List Hypothesis))⟩:Belief),1))
  ((ixL x0.Nodes x2).bind fun e1=>
  cond (e1.Kind != 1)
  (some ((⟨0,([]:(List Hypothesis))⟩:Belief),4))
  ((Jdy x1 x0 x2 x3).bind fun r2=>
  some (r2.1,r2.2))))))
def Jaa (x1:Plant):(List Node)->Nat->Option (Ctl (Bool) (Unit))
 |[],k2=>some (Ctl.brk ())
 |e3::q5,k2=>(ixL x1.Slots (k2:Int)).bind fun e4=>
  cond ((e4.length:Int) != e3.Length)
  (some (Ctl.ret false))
  (Jaa x1 q5 (k2+1))
def ZX (x0:Layout) (x1:Plant):Option (Bool):=
 cond ((x1.Slots.length:Int) != (x0.Nodes.length:Int))
  (some false)
  (cond ((x1.Bins.length:Int) != (x0.Nodes.length:Int))
  (some false)
  (Ctl.fin (Jaa x1 x0.Nodes 0) fun z6=>
  some true))
def Jam:(List Int)->Nat->(List (Int×Bool))->Option (Ctl ((List (Int×Bool))) ((List (Int×Bool))))
 |[],k3,a1=>some (Ctl.brk a1)
 |e4::q6,k3,a1=>(JcY wI wT a1 e4 true).bind fun m5=>
  Jam q6 (k3+1) m5
def Jbc (x0:(List Int)):Option ((List (Int×Bool))):=
 Ctl.fin (Jam x0 0 ([]:List (Int×Bool))) fun z7=>
  some z7
def Y7 (x0:Votes):Option (Int×Bool):=
 (Jbc x0.Screen).bind fun r1=>
  (Jbc x0.Ledger).bind fun r2=>
  cond (x0.Tracker != x0.Scanner)
  (some (0,false))
  (cond (decide (x0.Tracker<1))
  (some (0,false))
  (cond (decide (40<x0.Tracker))
  (some (0,false))
  ((Jb0 wI r1 x0.Tracker false).bind fun v3=>
  cond (!v3)
  (some (0,false))
  ((Jb0 wI r2 x0.Tracker false).bind fun v4=>
  cond (!v4)
  (some (0,false))
  (some (x0.Tracker,true))))))
def Y4 (x1:Int) (x2:Int):Nat->(List Int)->Int->(List Int)->Int->Option (Ctl ((List Int)×Src) ((List Int)×Int×(List Int)))
 |0,_,_,_,_=>none
 |q7+1,a1,i2,a3,i4=>cond (decide (i4<x1))
  ((JF (⟨a1,i2⟩:Src) x2).bind fun r5=>
  (apL a3 ([r5.1]:List Int)).bind fun l6=>
  Y4 x1 x2 q7 r5.2.L r5.2.At l6 (w64 (i4+1)))
  (some (Ctl.brk (a1,i2,a3)))
def Jaj (x0:Src) (x1:Int) (x2:Int):Option ((List Int)×Src):=
 Ctl.fin (Y4 x1 x2 9223372036854775807 x0.L x0.At ([]:List Int) 0) fun z8=>
  some (z8.2.2,(⟨z8.1,z8.2.1⟩:Src))
def slices_Sort_int (x0:(List Int)):Option ((List Int)):=
 Jh1 x0
def slices_Compact_int (x0:(List Int)):Option ((List Int)):=
 Jl4 x0
def Z4 (x1:Int):(List Hypothesis)->Nat->(List Int)->Option (Ctl ((List Int)) ((List Int)))
 |[],k3,a1=>some (Ctl.brk a1)
 |e4::q9,k3,a1=>cond (decide (x1<0))
  (Z4 x1 q9 (k3+1) a1)
  (cond (decide ((e4.Plant.Slots.length:Int)<=x1))
  (Z4 x1 q9 (k3+1) a1)
  ((ixL e4.Plant.Slots x1).bind fun e5=>
  cond ((e5.length:Int)==0)
  (Z4 x1 q9 (k3+1) a1)
  ((ixL e4.Plant.Slots x1).bind fun e6=>
  (ixL e6 (w64 ((e6.length:Int) - 1))).bind fun e7=>
  (apL a1 ([e7]:List Int)).bind fun l8=>
  Z4 x1 q9 (k3+1) l8)))
def Jfk (x0:Belief) (x1:Int):Option ((List Int)):=
 Ctl.fin (Z4 x1 x0.L 0 ([]:List Int)) fun z10=>
  (slices_Sort_int z10).bind fun r11=>
  (slices_Compact_int r11).bind fun r12=>
  some r12
def Zq (x0:Int):Option (Bool):=
 some (x0==0)
def Qr:(List Int)->Nat->Option (Ctl (Int) (Unit))
 |[],k2=>some (Ctl.brk ())
 |e3::q5,k2=>(Zq e3).bind fun r4=>
  cond r4
  (some (Ctl.ret (k2:Int)))
  (Qr q5 (k2+1))
def Jar (x0:(List Int)):Option (Int):=
 Ctl.fin (Qr x0 0) fun z6=>
  some (-1:Int)
def Qm:Nat->(List Int)->Int->Int->Option (Ctl ((List Int)) ((List Int)×Int))
 |0,_,_,_=>none
 |q8+1,a2,i3,i4=>cond (decide (i4<(a2.length:Int)))
  ((ixL a2 i4).bind fun e5=>
  (Zq e5).bind fun r6=>
  cond (!r6)
  ((ixL a2 i3).bind fun e7=>
  Qm q8 (a2.set i3.toNat e5) (w64 (i3+1)) (w64 (i4+1)))
  (Qm q8 a2 i3 (w64 (i4+1))))
  (some (Ctl.brk (a2,i3)))
def Zg (x0:(List Int)):Option ((List Int)):=
 (Jar x0).bind fun r1=>
  cond (r1==(-1:Int))
  (some x0)
  (Ctl.fin (Qm 9223372036854775807 x0 r1 (w64 (r1+1))) fun z9=>
  (slL z9.1 z9.2 (z9.1.length:Int)).bind fun l10=>
  (slL (clT z9.1 l10 0) 0 z9.2).bind fun l11=>
  some l11)
def Jcw (x0:(List Bool)) (x1:Int):Option (Bool):=
 cond (decide (1<=x1))
  (cond (decide (x1<=(x0.length:Int)))
  ((ixL x0 (w64 (x1 - 1))).bind fun e1=>
  some e1)
  (some false))
  (some false)
def Jcr (x0:Layout) (x1:Int) (x2:Int) (x3:Int):Option (Bool):=
 cond (x2 != x1)
  (cond (x2==x3)
  (some true)
  ((ixL x0.Nodes x2).bind fun e1=>
  (Qp e1.Kind).bind fun r2=>
  some r2))
  (some false)
def JfC (x0:Layout) (x1:Int):Option (Bool):=
 cond (decide (0<=x1))
  (cond (decide (x1<(x0.Nodes.length:Int)))
  ((ixL x0.Nodes x1).bind fun e1=>
  (Qp e1.Kind).bind fun r2=>
  some (!r2))
  (some false))
  (some false)
def JcG (x0:Layout) (x1:Int) (x2:Int):Option (Bool):=
 cond (decide (0<=x1))
  (cond (decide (x1<(x0.Nodes.length:Int)))
  ((JfC x0 x2).bind fun r1=>
  cond r1
  ((Q9 x0).bind fun r2=>
  some (r2==0))
  (some false))
  (some false))
  (some false)
def Jcp (rec:Int->Int->List (List Int)->Option (Int×List (List Int))) (ly:Layout) (fr tg:Int):List Int->Int->List (List Int)->Option (Int×List (List Int))
 |[],best,mm=>some (best,mm)
 |x::q,best,mm=>(Jcr ly fr x tg).bind fun b=>cond (!b) (Jcp rec ly fr tg q best mm) ((rec x tg mm).bind fun d=>
  (cond (decide (0<=d.1)) (cond (decide (best<0)) (some true) ((ixL ly.Nodes fr).bind fun e=>some (decide (w64 (d.1+e.Length)<best)))) (some false)).bind fun t=>
  cond t ((ixL ly.Nodes fr).bind fun e=>Jcp rec ly fr tg q (w64 (d.1+e.Length)) d.2) (Jcp rec ly fr tg q best d.2))
def Ys (ly:Layout) (broken:List Bool):Nat->Int->Int->List (List Int)->Option (Int×List (List Int))
 |0,_,_,_=>none
 |n+1,fr,tg,mm=>(ixL mm fr).bind fun row=>(ixL row tg).bind fun d=>cond (d != (-2:Int)) (some (d,mm))
  ((cond (decide (fr<(broken.length:Int))) (ixL broken fr) (some false)).bind fun br=>
  (cond br (some ((-1:Int),mm)) (cond (fr==tg) ((ixL ly.Nodes fr).bind fun e=>some (e.Length,mm)) ((ixL ly.Nodes fr).bind fun e=>Jcp (Ys ly broken n) ly fr tg e.Exits (-1) mm))).bind fun bm=>
  (ixL bm.2 fr).bind fun row2=>(ixL row2 tg).bind fun _=>some (bm.1,bm.2.set fr.toNat (row2.set tg.toNat bm.1)))
def Jmn:Nat->Nat->List Int->List Int
 |0,_,row=>row
 |c+1,k,row=>Jmn c (k+1) (row.set k (-2))
def JjU (row0:List Int):Nat->Nat->List (List Int)->List (List Int)
 |0,_,mm=>mm
 |c+1,i,mm=>JjU row0 c (i+1) (mm.set i (Jmn row0.length 0 row0))
def Jdu (ly:Layout):Option (List (List Int)):=(mkL (ly.Nodes.length:Int) ([]:List Int)).bind fun mm=>(mkL (ly.Nodes.length:Int) 0).bind fun row=>some (JjU row mm.length 0 mm)
def JeF (ly:Layout) (br:List Bool) (fr tg best:Int):List Int->Nat->List (List Int)->Option Int
 |[],_,_=>some (-1)
 |x::q,k,mm=>cond (decide (best<0)) (JeF ly br fr tg best q (k+1) mm) ((Jcr ly fr x tg).bind fun b=>cond (!b) (JeF ly br fr tg best q (k+1) mm)
  ((Ys ly br (ly.Nodes.length+1) x tg mm).bind fun d=>(cond (decide (0<=d.1)) ((ixL ly.Nodes fr).bind fun e=>some (w64 (d.1+e.Length)==best)) (some false)).bind fun t=>
  cond t (some (k:Int)) (JeF ly br fr tg best q (k+1) d.2)))
def Jbt (x0:Layout) (x1:List Bool) (x2:Int) (x3:Int):Option Int:=
 (JcG x0 x2 x3).bind fun a=>cond (!a) (some (-1)) (cond (x2==x3) (some (-1)) ((Jdu x0).bind fun m0=>(Ys x0 x1 (x0.Nodes.length+1) x2 x3 m0).bind fun b0=>(ixL x0.Nodes x2).bind fun e=>JeF x0 x1 x2 x3 b0.1 e.Exits 0 b0.2))
def YU (x0:Layout) (x1:Int) (x2:Int) (x3:(List Int)) (x4:(List Bool)) (x5:(List Bool)):Option (Bool):=
 (ixL x0.Nodes x1).bind fun e1=>
  cond (e1.Kind==6)
  ((Jcw x4 x2).bind fun r2=>
  cond (!r2)
  (some false)
  (cond (decide (x2<1))
  (some false)
  (cond (decide ((x3.length:Int)<x2))
  (some false)
  ((ixL x3 (w64 (x2 - 1))).bind fun e3=>
  (Jbt x0 x5 x1 e3).bind fun r4=>
  some (r4==1)))))
  (cond (decide (x2<1))
  (some false)
  (cond (decide ((x3.length:Int)<x2))
  (some false)
  ((ixL x3 (w64 (x2 - 1))).bind fun e5=>
  (Jbt x0 x5 x1 e5).bind fun r6=>
  some (r6==1))))
def Zp (x0:Int) (x1:Layout) (x2:Int) (x3:(List Int)) (x4:(List Bool)) (x5:(List Bool)):Option (Bool):=
 (YU x1 x2 x0 x3 x4 x5).bind fun r1=>
  some (!r1)
def Qa (x1:Layout) (x2:Int) (x3:(List Int)) (x4:(List Bool)) (x5:(List Bool)):(List Int)->Nat->Option (Ctl (Int) (Unit))
 |[],k2=>some (Ctl.brk ())
 |e3::q5,k2=>(Zp e3 x1 x2 x3 x4 x5).bind fun r4=>
  cond r4
  (some (Ctl.ret (k2:Int)))
  (Qa x1 x2 x3 x4 x5 q5 (k2+1))
def ZE (x0:(List Int)) (x1:Layout) (x2:Int) (x3:(List Int)) (x4:(List Bool)) (x5:(List Bool)):Option (Int):=
 Ctl.fin (Qa x1 x2 x3 x4 x5 x0 0) fun z6=>
  some (-1:Int)
def Qs (x0:(List Int)) (x1:Layout) (x2:Int) (x3:(List Int)) (x4:(List Bool)) (x5:(List Bool)):Option (Bool):=
 (ZE x0 x1 x2 x3 x4 x5).bind fun r1=>
  some (decide (0<=r1))
def Zo (x0:Int) (x1:(List Bool)):Option (Bool):=
 (Jcw x1 x0).bind fun r1=>
  some (!r1)
def J9 (x1:(List Bool)):(List Int)->Nat->Option (Ctl (Int) (Unit))
 |[],k2=>some (Ctl.brk ())
 |e3::q5,k2=>(Zo e3 x1).bind fun r4=>
  cond r4
  (some (Ctl.ret (k2:Int)))
  (J9 x1 q5 (k2+1))
def ZD (x0:(List Int)) (x1:(List Bool)):Option (Int):=
 Ctl.fin (J9 x1 x0 0) fun z6=>
  some (-1:Int)
def Q5 (x0:(List Int)) (x1:(List Bool)):Option (Bool):=
 (ZD x0 x1).bind fun r1=>
  some (decide (0<=r1))
def JaQ (x0:Layout) (x1:Belief) (x2:Int) (x3:(List Int)) (x4:(List Bool)) (x5:(List Bool)) (x6:(List Bool)):Option (Int):=
 (Jfk x1 x2).bind fun r1=>
  (Zg r1).bind fun r2=>
  (ixL x0.Nodes x2).bind fun e3=>
  cond (e3.Kind==6)
  (cond (decide (0<(r2.length:Int)))
  ((Qs r2 x0 x2 x3 x4 x6).bind fun r4=>
  cond (!r4)
  (some 1)
  (some 0))
  (some 0))
  (cond (e3.Kind==4)
  (cond (decide (0<(r2.length:Int)))
  ((Qs r2 x0 x2 x3 x4 x6).bind fun r5=>
  cond (!r5)
  (some 1)
  (some 0))
  (some 0))
  (cond (e3.Kind==5)
  (cond (decide (0<(r2.length:Int)))
  ((Qs r2 x0 x2 x3 x4 x6).bind fun r6=>
  cond (!r6)
  (some 1)
  (some 0))
  (some 0))
  (cond (e3.Kind==3)
  ((Q5 r2 x5).bind fun r7=>
  cond r7
  (some (-1:Int))
  (some 0))
  (some 0))))
def Yo (x0:Layout) (x1:Belief) (x2:(List Int)) (x3:(List Bool)) (x4:(List Bool)) (x5:(List Bool)):(List Node)->Nat->(List Int)->Option (Ctl ((List Int)) ((List Int)))
 |[],k4,a2=>some (Ctl.brk a2)
 |e5::q8,k4,a2=>(JaQ x0 x1 (k4:Int) x2 x3 x4 x5).bind fun r6=>
  (apL a2 ([r6]:List Int)).bind fun l7=>
  Yo x0 x1 x2 x3 x4 x5 q8 (k4+1) l7
def Jan (x0:Layout) (x1:Belief) (x2:(List Int)) (x3:(List Bool)) (x4:(List Bool)) (x5:(List Bool)):Option ((List Int)):=
 (Q9 x0).bind fun r1=>
  cond (r1 != 0)
  (some ([]:(List Int)))
  (Ctl.fin (Yo x0 x1 x2 x3 x4 x5 x0.Nodes 0 ([]:List Int)) fun z9=>
  some z9)
def Q1 (r5:Int×Src) (r9:Int×Src):(List Fault)->Nat->Bool->Option (Ctl ((List Fault)×Src) (Bool))
 |[],k12,b10=>some (Ctl.brk b10)
 |e13::q14,k12,b10=>cond b10
  (Q1 r5 r9 q14 (k12+1) true)
  (cond (e13.Node==r5.1)
  (Q1 r5 r9 q14 (k12+1) (e13.Window==r9.1))
  (Q1 r5 r9 q14 (k12+1) false))
def Q2 (x1:Layout) (x2:Int):Nat->(List Int)->Int->Int->(List Fault)->Option (Ctl ((List Fault)×Src) ((List Int)×Int×(List Fault)))
 |0,_,_,_,_=>none
 |q17+1,a1,i2,i4,a3=>cond (decide (i4<x2))
  ((JF (⟨a1,i2⟩:Src) (x1.Nodes.length:Int)).bind fun r5=>
  (ixL x1.Nodes r5.1).bind fun e6=>
  cond (e6.Length==0)
  (Q2 x1 x2 q17 r5.2.L r5.2.At (w64 (i4+1)) a3)
  ((Yu r5.2 1 2).bind fun r7=>
  (ixL x1.Nodes r5.1).bind fun e8=>
  (JF r7.2 e8.Length).bind fun r9=>
  Ctl.sub (Q1 r5 r9 a3 0 false) fun z15=>
  cond (!z15)
  ((apL a3 ([(⟨r7.1,r5.1,r9.1⟩:Fault)]:List Fault)).bind fun l16=>
  Q2 x1 x2 q17 r9.2.L r9.2.At (w64 (i4+1)) l16)
  (Q2 x1 x2 q17 r9.2.L r9.2.At (w64 (i4+1)) a3)))
  (some (Ctl.brk (a1,i2,a3)))
def Jak (x0:Src) (x1:Layout) (x2:Int):Option ((List Fault)×Src):=
 Ctl.fin (Q2 x1 x2 9223372036854775807 x0.L x0.At 0 ([]:List Fault)) fun z18=>
  some (z18.2.2,(⟨z18.1,z18.2.1⟩:Src))
def Jda (x0:Layout):Option ((List Int)):=
 (Q9 x0).bind fun r1=>
  cond (r1 != 0)
  (some ([]:(List Int)))
  ((Jax x0).bind fun r2=>
  some r2)
def JbC (x0:Layout):Option ((Option Plan)×Bool):=
 (Q9 x0).bind fun r1=>
  cond (r1 != 0)
  (some (none,false))
  ((Jda x0).bind fun r2=>
  some ((some (⟨x0,r2⟩:Plan)),true))
def Yl (x1:Plant):(List Node)->Nat->Option (Ctl (Bool) (Unit))
 |[],k2=>some (Ctl.brk ())
 |e3::q5,k2=>(ixL x1.Slots (k2:Int)).bind fun e4=>
  cond ((e4.length:Int) != e3.Length)
  (some (Ctl.ret false))
  (Yl x1 q5 (k2+1))
def YP (x0:Plan) (x1:Plant):Option (Bool):=
 cond ((x1.Slots.length:Int) != (x0.L.Nodes.length:Int))
  (some false)
  (cond ((x1.Bins.length:Int) != (x0.L.Nodes.length:Int))
  (some false)
  (Ctl.fin (Yl x1 x0.L.Nodes 0) fun z6=>
  some true))
def Jcb (x0:Node) (x1:Int):Option (Bool):=
 (Qp x0.Kind).bind fun r1=>
  cond r1
  (cond (decide (0<=x1))
  (cond (decide (x1<(x0.Exits.length:Int)))
  (some true)
  (cond (x1==(-1:Int))
  (some (x0.Kind != 5))
  (some false)))
  (cond (x1==(-1:Int))
  (some (x0.Kind != 5))
  (some false)))
  (cond (x0.Kind==7)
  (cond (decide (0<=x1))
  (some (decide (x1<=40)))
  (some false))
  (some (x1==0)))
def Y6 (x0:Fault) (x1:Fault):Option (Bool):=
 cond (x1.Node==x0.Node)
  (some (x1.Window==x0.Window))
  (some false)
def Qg (x1:Fault):(List Fault)->Nat->Option (Ctl (Int) (Unit))
 |[],k2=>some (Ctl.brk ())
 |e3::q5,k2=>(Y6 e3 x1).bind fun r4=>
  cond r4
  (some (Ctl.ret (k2:Int)))
  (Qg x1 q5 (k2+1))
def ZS (x0:(List Fault)) (x1:Fault):Option (Int):=
 Ctl.fin (Qg x1 x0 0) fun z6=>
  some (-1:Int)
def Yc (x0:(List Fault)) (x1:Fault):Option (Bool):=
 (ZS x0 x1).bind fun r1=>
  some (decide (0<=r1))
def QN (x0:Plan):(List Int)->Nat->Option (Ctl (Int) (Unit))
 |[],k2=>some (Ctl.brk ())
 |e3::q6,k2=>(ixL x0.L.Nodes (k2:Int)).bind fun e4=>
  (Jcb e4 e3).bind fun r5=>
  cond (!r5)
  (some (Ctl.ret 1))
  (QN x0 q6 (k2+1))
def QB (x0:Plan):(List Fault)->Nat->Option (Ctl (Int) (Unit))
 |[],k9=>some (Ctl.brk ())
 |e10::q13,k9=>cond (e10.Kind != 1)
  (cond (e10.Kind != 2)
  (some (Ctl.ret 4))
  (cond (decide (e10.Node<0))
  (some (Ctl.ret 1))
  (cond (decide ((x0.L.Nodes.length:Int)<=e10.Node))
  (some (Ctl.ret 1))
  (cond (decide (e10.Window<0))
  (some (Ctl.ret 1))
  ((ixL x0.L.Nodes e10.Node).bind fun e11=>
  cond (decide (e11.Length<=e10.Window))
  (some (Ctl.ret 1))
  (QB x0 q13 (k9+1)))))))
  (cond (decide (e10.Node<0))
  (some (Ctl.ret 1))
  (cond (decide ((x0.L.Nodes.length:Int)<=e10.Node))
  (some (Ctl.ret 1))
  (cond (decide (e10.Window<0))
  (some (Ctl.ret 1))
  ((ixL x0.L.Nodes e10.Node).bind fun e12=>
  cond (decide (e12.Length<=e10.Window))
  (some (Ctl.ret 1))
  (QB x0 q13 (k9+1))))))
def QM (x2:(List Fault)):(List Fault)->Nat->Option (Ctl (Int) (Unit))
 |[],k16=>some (Ctl.brk ())
 |e17::q20,k16=>(slL x2 0 (k16:Int)).bind fun l18=>
  (Yc l18 e17).bind fun r19=>
  cond r19
  (some (Ctl.ret 5))
  (QM x2 q20 (k16+1))
def Za (x0:Plan) (x1:(List Int)) (x2:(List Fault)):Option (Int):=
 cond ((x1.length:Int) != (x0.L.Nodes.length:Int))
  (some 1)
  (Ctl.fin (QN x0 x1 0) fun z7=>
  cond (decide (4<(x2.length:Int)))
  (some 2)
  (Ctl.fin (QB x0 x2 0) fun z14=>
  Ctl.fin (QM x2 x2 0) fun z21=>
  some 0))
def QE (x1:Fault):(List Fault)->Nat->Option (Ctl (Int) (Unit))
 |[],k2=>some (Ctl.brk ())
 |e3::q4,k2=>cond ((x1.Kind==e3.Kind)&&((x1.Node==e3.Node)&&((x1.Window==e3.Window)&&true)))
  (some (Ctl.ret (k2:Int)))
  (QE x1 q4 (k2+1))
def JaI (x0:(List Fault)) (x1:Fault):Option (Int):=
 Ctl.fin (QE x1 x0 0) fun z5=>
  some (-1:Int)
def Zh (x0:(List Fault)) (x1:Fault):Option (Bool):=
 (JaI x0 x1).bind fun r1=>
  some (decide (0<=r1))
def Jal (x0:Plan) (x1:Plant) (x2:Int) (x3:Int) (x4:(List Fault)):Option (Int):=
 (ixL x0.L.Nodes x2).bind fun e1=>
  cond (e1.Kind==7)
  ((ixL x1.Bins x2).bind fun e2=>
  (QU e2 x3).bind fun r3=>
  cond r3
  (some 0)
  (some (-1:Int)))
  ((Qp e1.Kind).bind fun r4=>
  cond (!r4)
  (some (-1:Int))
  ((ixL x1.Slots x2).bind fun e5=>
  (ixL e5 (w64 (e1.Length - 1))).bind fun e6=>
  cond (e6==0)
  (some (-1:Int))
  ((Zh x4 (⟨1,x2,(w64 (e1.Length - 1))⟩:Fault)).bind fun r7=>
  cond r7
  (some (-1:Int))
  (some x3))))
def JaB (x0:(List Int)):Option ((List Int)):=
 some x0
def Qf (x0:Plan) (x2:Int):(List Int)->Nat->Int->Option (Ctl (Int) (Int))
 |[],k3,i1=>some (Ctl.brk i1)
 |e4::q8,k3,i1=>cond ((k3:Int) != x2)
  (cond (decide (0<=e4))
  ((ixL x0.L.Nodes (k3:Int)).bind fun e5=>
  (ixL e5.Exits e4).bind fun e6=>
  cond (e6==x2)
  ((ng (k3:Int)).bind fun u7=>
  Qf x0 x2 q8 (k3+1) (orF .u64 i1 (Jmv .u64 1 (k3:Int))))
  (Qf x0 x2 q8 (k3+1) i1))
  (Qf x0 x2 q8 (k3+1) i1))
  (Qf x0 x2 q8 (k3+1) i1)
def QC (x0:Plan) (x1:(List Int)) (x2:Int):Option (Int):=
 Ctl.fin (Qf x0 x2 x1 0 0) fun z9=>
  some z9
def bits_TrailingZeros (x0:Int):Option (Int):=
 tzF x0
def ZY:(List Int)->Nat->Int->Option (Ctl (Int) (Int))
 |[],k3,i1=>some (Ctl.brk i1)
 |e4::q5,k3,i1=>cond (e4==0)
  (ZY q5 (k3+1) (w64 (i1+1)))
  (ZY q5 (k3+1) i1)
def Jew (x0:(List Int)):Option (Int):=
 Ctl.fin (ZY x0 0 0) fun z6=>
  some z6
def QT (x0:Plan) (x1:Plant) (x2:Int):Option (Bool):=
 (ixL x0.L.Nodes x2).bind fun e1=>
  (Qp e1.Kind).bind fun r2=>
  cond (!r2)
  (some true)
  ((ixL x0.L.Nodes x2).bind fun e3=>
  cond (e3.Kind==5)
  ((ixL x1.Slots x2).bind fun e4=>
  (Jew e4).bind fun r5=>
  cond (decide (r5<2))
  (some false)
  ((ixL x1.Slots x2).bind fun e6=>
  (ixL e6 0).bind fun e7=>
  some (e7==0)))
  ((ixL x1.Slots x2).bind fun e8=>
  (ixL e8 0).bind fun e9=>
  some (e9==0)))
def QK (x0:Plan) (x1:Plant) (x2:(List Int)) (x3:(List Fault)):(List Node)->Nat->(List Int)->(List Int)->(List Int)->Option (Ctl (Flow) ((List Int)×(List Int)×(List Int)))
 |[],k5,a1,a2,a3=>some (Ctl.brk (a1,a2,a3))
 |e6::q12,k5,a1,a2,a3=>(apL a1 ([(-1:Int)]:List Int)).bind fun l7=>
  (apL a2 ([(-1:Int)]:List Int)).bind fun l8=>
  (ixL x2 (k5:Int)).bind fun e9=>
  (Jal x0 x1 (k5:Int) e9 x3).bind fun r10=>
  (apL a3 ([r10]:List Int)).bind fun l11=>
  QK x0 x1 x2 x3 q12 (k5+1) l7 l8 l11
def Js (z13:(List Int)×(List Int)×(List Int)):Nat->(List Int)->Int->Option (Ctl (Flow) ((List Int)×(List Int)))
 |0,_,_=>none
 |q35+1,a30,i31=>cond (i31 != 0)
  ((bits_TrailingZeros i31).bind fun r32=>
  (ixL z13.2.2 r32).bind fun e33=>
  (ixL a30 r32).bind fun e34=>
  Js z13 q35 (a30.set r32.toNat e33) (Ji5 .u64 i31 (IntKind.u64.wrap (i31 - 1))))
  (some (Ctl.brk (a30,a30)))
def Jj (x0:Plan) (x1:Plant) (z13:(List Int)×(List Int)×(List Int)):(List Int)->Nat->(List Int)->(List Int)->Option (Ctl (Flow) ((List Int)×(List Int)))
 |[],_,a15,a16=>some (Ctl.brk (a15,a16))
 |e17::q19,k18,a15,a16=>(ixL x0.L.Nodes e17).bind fun e21=>
  cond (e21.Kind==5)
  ((ixL z13.2.2 e17).bind fun e22=>
  cond (decide (0<=e22))
  ((ixL a15 e17).bind fun e23=>
  cond (decide (e23<0))
  ((ixL x1.Slots e17).bind fun e24=>
  (ixL e24 0).bind fun e25=>
  cond (e25==0)
  ((ixL a15 e17).bind fun e26=>
  (QC x0 z13.2.2 e17).bind fun r27=>
  (ixL x0.L.Nodes e17).bind fun e28=>
  (Qp e28.Kind).bind fun r29=>
  cond (!r29)
  (Ctl.sub (Js z13 9223372036854775807 (a15.set e17.toNat 0) r27) fun z36=>
  Jj x0 x1 z13 q19 (k18+1) z36.2 a16)
  (cond (r27 != 0)
  ((QT x0 x1 e17).bind fun r37=>
  cond r37
  (Jj x0 x1 z13 q19 (k18+1) (a15.set e17.toNat 0) a16)
  (Jj x0 x1 z13 q19 (k18+1) (a15.set e17.toNat 0) a16))
  (Jj x0 x1 z13 q19 (k18+1) (a15.set e17.toNat 0) a16)))
  ((QC x0 z13.2.2 e17).bind fun r38=>
  (ixL x0.L.Nodes e17).bind fun e39=>
  (Qp e39.Kind).bind fun r40=>
  cond (!r40)
  (Ctl.sub (Js z13 9223372036854775807 a15 r38) fun z47=>
  Jj x0 x1 z13 q19 (k18+1) z47.2 a16)
  (cond (r38 != 0)
  ((QT x0 x1 e17).bind fun r48=>
  cond r48
  ((bits_TrailingZeros r38).bind fun r49=>
  (ixL z13.2.2 r49).bind fun e50=>
  (ixL a15 r49).bind fun e51=>
  (ixL a16 e17).bind fun e52=>
  Jj x0 x1 z13 q19 (k18+1) (a15.set r49.toNat e50) (a16.set e17.toNat r49))
  (Jj x0 x1 z13 q19 (k18+1) a15 a16))
  (Jj x0 x1 z13 q19 (k18+1) a15 a16))))
  ((QC x0 z13.2.2 e17).bind fun r53=>
  (ixL x0.L.Nodes e17).bind fun e54=>
  (Qp e54.Kind).bind fun r55=>
  cond (!r55)
  (Ctl.sub (Js z13 9223372036854775807 a15 r53) fun z62=>
  Jj x0 x1 z13 q19 (k18+1) z62.2 a16)
  (cond (r53 != 0)
  ((QT x0 x1 e17).bind fun r63=>
  cond r63
  ((bits_TrailingZeros r53).bind fun r64=>
  (ixL z13.2.2 r64).bind fun e65=>
  (ixL a15 r64).bind fun e66=>
  (ixL a16 e17).bind fun e67=>
  Jj x0 x1 z13 q19 (k18+1) (a15.set r64.toNat e65) (a16.set e17.toNat r64))
  (Jj x0 x1 z13 q19 (k18+1) a15 a16))
  (Jj x0 x1 z13 q19 (k18+1) a15 a16))))
  ((QC x0 z13.2.2 e17).bind fun r68=>
  (ixL x0.L.Nodes e17).bind fun e69=>
  (Qp e69.Kind).bind fun r70=>
  cond (!r70)
  (Ctl.sub (Js z13 9223372036854775807 a15 r68) fun z77=>
  Jj x0 x1 z13 q19 (k18+1) z77.2 a16)
  (cond (r68 != 0)
  ((QT x0 x1 e17).bind fun r78=>
  cond r78
  ((bits_TrailingZeros r68).bind fun r79=>
  (ixL z13.2.2 r79).bind fun e80=>
  (ixL a15 r79).bind fun e81=>
  (ixL a16 e17).bind fun e82=>
  Jj x0 x1 z13 q19 (k18+1) (a15.set r79.toNat e80) (a16.set e17.toNat r79))
  (Jj x0 x1 z13 q19 (k18+1) a15 a16))
  (Jj x0 x1 z13 q19 (k18+1) a15 a16))))
  ((QC x0 z13.2.2 e17).bind fun r83=>
  (ixL x0.L.Nodes e17).bind fun e84=>
  (Qp e84.Kind).bind fun r85=>
  cond (!r85)
  (Ctl.sub (Js z13 9223372036854775807 a15 r83) fun z92=>
  Jj x0 x1 z13 q19 (k18+1) z92.2 a16)
  (cond (r83 != 0)
  ((QT x0 x1 e17).bind fun r93=>
  cond r93
  ((bits_TrailingZeros r83).bind fun r94=>
  (ixL z13.2.2 r94).bind fun e95=>
  (ixL a15 r94).bind fun e96=>
  (ixL a16 e17).bind fun e97=>
  Jj x0 x1 z13 q19 (k18+1) (a15.set r94.toNat e95) (a16.set e17.toNat r94))
  (Jj x0 x1 z13 q19 (k18+1) a15 a16))
  (Jj x0 x1 z13 q19 (k18+1) a15 a16)))
def Yn (x0:Plan) (x1:Plant) (x2:(List Int)) (x3:(List Fault)):Option (Flow):=
 Ctl.fin (QK x0 x1 x2 x3 x0.L.Nodes 0 ([]:List Int) ([]:List Int) ([]:List Int)) fun z13=>
  (JaB x0.order).bind fun r14=>
  Ctl.fin (Jj x0 x1 z13 (r14.reverse) 0 z13.1 z13.2.1) fun z20=>
  some (⟨z20.1,z20.2⟩:Flow)
def Jea (x0:(List Int)) (x1:Int):Option (Int):=
 cond (decide ((x0.length:Int)<=x1))
  (some 0)
  ((ixL x0 x1).bind fun e1=>
  some e1)
def JbS (x0:(List Int)) (x1:Int) (x2:Int):Option (Int):=
 cond (x2==1)
  (some x1)
  ((ixL x0 (w64 (x1+1))).bind fun e1=>
  cond (e1 != 0)
  (some x1)
  (cond (x2==2)
  (cond (decide ((w64 (x1+2))<(x0.length:Int)))
  ((ixL x0 (w64 (x1+2))).bind fun e2=>
  cond (e2==0)
  (some (w64 (x1+2)))
  (some (w64 (x1+1))))
  (some (w64 (x1+1))))
  (some (w64 (x1+1)))))
def JO (x0:(List Int)) (x1:(List Int)) (x2:Bool):Nat->Int->(List Int)->Int->Option (Ctl ((List Int)×Int) ((List Int)×Int))
 |0,_,_,_=>none
 |q15+1,i4,a2,i3=>cond (decide (0<=i4))
  ((ixL x0 i4).bind fun e5=>
  cond (e5==0)
  (JO x0 x1 x2 q15 (w64 (i4 - 1)) a2 i3)
  (cond (decide (i4<(w64 ((x0.length:Int) - 1))))
  ((Jea x1 i4).bind fun r6=>
  (JbS x0 i4 r6).bind fun r7=>
  (ixL a2 r7).bind fun e8=>
  (ixL a2 i4).bind fun e9=>
  (ixL a2 i4).bind fun e10=>
  (ixL (a2.set i4.toNat e8) r7).bind fun e11=>
  JO x0 x1 x2 q15 (w64 (i4 - 1)) ((a2.set i4.toNat e8).set r7.toNat e9) i3)
  (cond x2
  ((Jea x1 i4).bind fun r12=>
  cond (r12 != 1)
  ((ixL x0 i4).bind fun e13=>
  (ixL a2 i4).bind fun e14=>
  JO x0 x1 x2 q15 (w64 (i4 - 1)) (a2.set i4.toNat 0) e13)
  (JO x0 x1 x2 q15 (w64 (i4 - 1)) a2 i3))
  (JO x0 x1 x2 q15 (w64 (i4 - 1)) a2 i3))))
  (some (Ctl.brk (a2,i3)))
def Yq (x0:(List Int)) (x1:(List Int)) (x2:Bool):Option ((List Int)×Int):=
 (Zj x0).bind fun r1=>
  Ctl.fin (JO x0 x1 x2 9223372036854775807 (w64 ((x0.length:Int) - 1)) r1 0) fun z16=>
  some (z16.1,z16.2)
def QA (x2:Int):(List Fault)->Nat->(List Int)->Option (Ctl ((List Int)×Int) ((List Int)))
 |[],k5,a3=>some (Ctl.brk a3)
 |e6::q8,k5,a3=>cond (e6.Node==x2)
  ((ixL a3 e6.Window).bind fun e7=>
  QA x2 q8 (k5+1) (a3.set e6.Window.toNat e6.Kind))
  (QA x2 q8 (k5+1) a3)
def Yk (x0:Plan) (x1:Plant) (x2:Int) (x3:(List Fault)) (x4:Bool):Option ((List Int)×Int):=
 (ixL x0.L.Nodes x2).bind fun e1=>
  (mkL e1.Length 0).bind fun l2=>
  Ctl.fin (QA x2 x3 0 l2) fun z9=>
  (ixL x1.Slots x2).bind fun e10=>
  (Yq e10 z9 x4).bind fun r11=>
  some (r11.1,r11.2)
def Y9 (x0:Int) (x1:Int):Option (Bool):=
 some (x0==x1)
def J8 (x1:Int):(List Int)->Nat->Option (Ctl (Int) (Unit))
 |[],k2=>some (Ctl.brk ())
 |e3::q5,k2=>(Y9 e3 x1).bind fun r4=>
  cond r4
  (some (Ctl.ret (k2:Int)))
  (J8 x1 q5 (k2+1))
def ZC (x0:(List Int)) (x1:Int):Option (Int):=
 Ctl.fin (J8 x1 x0 0) fun z6=>
  some (-1:Int)
def J4 (x1:Int):Nat->(List Int)->Int->Int->Option (Ctl ((List Int)) ((List Int)×Int))
 |0,_,_,_=>none
 |q8+1,a2,i3,i4=>cond (decide (i4<(a2.length:Int)))
  ((ixL a2 i4).bind fun e5=>
  (Y9 e5 x1).bind fun r6=>
  cond (!r6)
  ((ixL a2 i3).bind fun e7=>
  J4 x1 q8 (a2.set i3.toNat e5) (w64 (i3+1)) (w64 (i4+1)))
  (J4 x1 q8 a2 i3 (w64 (i4+1))))
  (some (Ctl.brk (a2,i3)))
def Yr (x0:(List Int)) (x1:Int):Option ((List Int)):=
 (ZC x0 x1).bind fun r1=>
  cond (r1==(-1:Int))
  (some x0)
  (Ctl.fin (J4 x1 9223372036854775807 x0 r1 (w64 (r1+1))) fun z9=>
  (slL z9.1 z9.2 (z9.1.length:Int)).bind fun l10=>
  (slL (clT z9.1 l10 0) 0 z9.2).bind fun l11=>
  some l11)
def Jcg (x0:Int) (x1:Int):Option (Bool):=
 (Z5 x0).bind fun r1=>
  cond r1
  ((Z5 x1).bind fun r2=>
  cond (!r2)
  (some true)
  (some (decide (x0<x1))))
  (some (decide (x0<x1)))
def JaE (x0:Int):Option (Bool):=
 some (x0 != x0)
def Qb (x0:(List Int)) (x1:Int):Nat->Int->Int->Option (Ctl (Int×Bool) (Int))
 |0,_,_=>none
 |q5+1,i1,i2=>cond (decide (i1<i2))
  ((ixL x0 (IntKind.i64.wrap (JjY .u64 (IntKind.u64.wrap (w64 (i1+i2))) 1))).bind fun e3=>
  (Jcg e3 x1).bind fun r4=>
  cond r4
  (Qb x0 x1 q5 (w64 ((IntKind.i64.wrap (JjY .u64 (IntKind.u64.wrap (w64 (i1+i2))) 1))+1)) i2)
  (Qb x0 x1 q5 i1 (IntKind.i64.wrap (JjY .u64 (IntKind.u64.wrap (w64 (i1+i2))) 1))))
  (some (Ctl.brk i1))
def YG (x0:(List Int)) (x1:Int):Option (Int×Bool):=
 Ctl.fin (Qb x0 x1 9223372036854775807 0 (x0.length:Int)) fun z6=>
  cond (decide (z6<(x0.length:Int)))
  ((ixL x0 z6).bind fun e7=>
  cond (e7==x1)
  (some (z6,true))
  ((ixL x0 z6).bind fun e8=>
  (JaE e8).bind fun r9=>
  cond r9
  ((JaE x1).bind fun r10=>
  some (z6,r10))
  (some (z6,false))))
  (some (z6,false))
def JbT (x0:(List Int)) (x1:Int) (x2:(List Int)):Option ((List Int)):=
 JoE x0 x1 x2
def JdE (x0:(List Int)) (x1:Int):Option ((List Int)):=
 (YG x0 x1).bind fun r1=>
  (JbT x0 r1.1 ([x1]:List Int)).bind fun r2=>
  some r2
def Y8 (x0:Passage):Option (Bool):=
 some (x0.From==x0.To)
def J2:(List Passage)->Nat->Option (Ctl (Int) (Unit))
 |[],k2=>some (Ctl.brk ())
 |e3::q5,k2=>(Y8 e3).bind fun r4=>
  cond r4
  (some (Ctl.ret (k2:Int)))
  (J2 q5 (k2+1))
def Zs (x0:(List Passage)):Option (Int):=
 Ctl.fin (J2 x0 0) fun z6=>
  some (-1:Int)
def JY:Nat->(List Passage)->Int->Int->Option (Ctl ((List Passage)) ((List Passage)×Int))
 |0,_,_,_=>none
 |q8+1,a2,i3,i4=>cond (decide (i4<(a2.length:Int)))
  ((ixL a2 i4).bind fun e5=>
  (Y8 e5).bind fun r6=>
  cond (!r6)
  ((ixL a2 i3).bind fun e7=>
  JY q8 (a2.set i3.toNat e5) (w64 (i3+1)) (w64 (i4+1)))
  (JY q8 a2 i3 (w64 (i4+1))))
  (some (Ctl.brk (a2,i3)))
def Yb (x0:(List Passage)):Option ((List Passage)):=
 (Zs x0).bind fun r1=>
  cond (r1==(-1:Int))
  (some x0)
  (Ctl.fin (JY 9223372036854775807 x0 r1 (w64 (r1+1))) fun z9=>
  (slL z9.1 z9.2 (z9.1.length:Int)).bind fun l10=>
  (slL (clT z9.1 l10 (⟨0,0,0⟩:Passage)) 0 z9.2).bind fun l11=>
  some l11)
def JK (x0:Plan) (x1:Plant) (x2:(List Int)) (x3:(List Fault)) (r1:Flow):(List Node)->Nat->(List (List Int))->(List Passage)->(List (List Int))->Option (Ctl (Plant×(List Passage)) ((List (List Int))×(List (List Int))×(List Passage)))
 |[],k7,a3,a5,a4=>some (Ctl.brk (a3,a4,a5))
 |e8::q22,k7,a3,a5,a4=>(ixL x2 (k7:Int)).bind fun e9=>
  (ixL r1.Leave (k7:Int)).bind fun e10=>
  (Qp e8.Kind).bind fun r11=>
  cond r11
  ((Yk x0 x1 (k7:Int) x3 (decide (0<=e10))).bind fun r12=>
  (ixL a3 (k7:Int)).bind fun e13=>
  cond (decide (0<=e10))
  ((ixL r1.Leave (k7:Int)).bind fun e14=>
  (ixL e8.Exits e14).bind fun e15=>
  (apL a5 ([(⟨r12.2,(k7:Int),e15⟩:Passage)]:List Passage)).bind fun l16=>
  JK x0 x1 x2 x3 r1 q22 (k7+1) (a3.set (k7:Int).toNat r12.1) l16 a4)
  (JK x0 x1 x2 x3 r1 q22 (k7+1) (a3.set (k7:Int).toNat r12.1) a5 a4))
  (cond (decide (0<=e10))
  ((ixL a4 (k7:Int)).bind fun e17=>
  (Yr e17 e9).bind fun r18=>
  (ixL r1.Leave (k7:Int)).bind fun e19=>
  (ixL e8.Exits e19).bind fun e20=>
  (apL a5 ([(⟨e9,(k7:Int),e20⟩:Passage)]:List Passage)).bind fun l21=>
  JK x0 x1 x2 x3 r1 q22 (k7+1) a3 l21 (a4.set (k7:Int).toNat r18))
  (JK x0 x1 x2 x3 r1 q22 (k7+1) a3 a5 a4))
def QX (x0:Plan):(List Passage)->Nat->(List (List Int))->(List (List Int))->Option (Ctl (Plant×(List Passage)) ((List (List Int))×(List (List Int))))
 |[],k27,a24,a25=>some (Ctl.brk (a24,a25))
 |e28::q35,k27,a24,a25=>(ixL x0.L.Nodes e28.To).bind fun e29=>
  (Qp e29.Kind).bind fun r30=>
  cond r30
  ((ixL a24 e28.To).bind fun e31=>
  (ixL e31 0).bind fun e32=>
  QX x0 q35 (k27+1) (a24.set e28.To.toNat (e31.set (0:Int).toNat e28.Bag)) a25)
  ((ixL a25 e28.To).bind fun e33=>
  (JdE e33 e28.Bag).bind fun r34=>
  QX x0 q35 (k27+1) a24 (a25.set e28.To.toNat r34))
def J6 (x0:Plan) (x1:Plant) (x2:(List Int)) (x3:(List Fault)):Option (Plant×(List Passage)):=
 (Yn x0 x1 x2 x3).bind fun r1=>
  (Jbg x1).bind fun r2=>
  Ctl.fin (JK x0 x1 x2 x3 r1 x0.L.Nodes 0 r2.Slots ([]:List Passage) r2.Bins) fun z23=>
  Ctl.fin (QX x0 z23.2.2 0 z23.1 z23.2.1) fun z36=>
  (Yb z23.2.2).bind fun r37=>
  some ((⟨z36.1,z36.2⟩:Plant),r37)
def ZB (x0:(List Passage)):Option ((List Passage)):=
 Jji Jaw Yv x0
def Jbu (x0:Layout) (x1:Plant) (x2:(List Int)) (x3:(List Fault)):Option (Plant×(List Passage)×Int):=
 (JbC x0).bind fun r1=>
  JiX r1 (fun b2=>
  cond (!b2)
  (some ((⟨([]:(List (List Int))),([]:(List (List Int)))⟩:Plant),([]:(List Passage)),7))
  (none))
  (fun v3 b2=>
  cond (!b2)
  (some ((⟨([]:(List (List Int))),([]:(List (List Int)))⟩:Plant),([]:(List Passage)),7))
  ((YP v3 x1).bind fun r4=>
  cond (!r4)
  (some ((⟨([]:(List (List Int))),([]:(List (List Int)))⟩:Plant),([]:(List Passage)),7))
  ((Za v3 x2 x3).bind fun r5=>
  cond (r5 != 0)
  (some ((⟨([]:(List (List Int))),([]:(List (List Int)))⟩:Plant),([]:(List Passage)),r5))
  ((J6 v3 x1 x2 x3).bind fun r6=>
  (ZB r6.2).bind fun r7=>
  some (r6.1,r7,0)))))
def QJ (r5:Int×Src):(List Fault)->Nat->Bool->Option (Ctl ((List Fault)×Src) (Bool))
 |[],k9,b7=>some (Ctl.brk b7)
 |e10::q11,k9,b7=>cond b7
  (QJ r5 q11 (k9+1) true)
  (QJ r5 q11 (k9+1) (e10.Node==r5.1))
def JE (x1:Layout) (x2:Plant) (x3:Int):Nat->(List Int)->Int->(List Fault)->Int->Option (Ctl ((List Fault)×Src) ((List Int)×Int×(List Fault)))
 |0,_,_,_,_=>none
 |q21+1,a1,i2,a3,i4=>cond (decide (i4<x3))
  (cond (decide (0<(x1.Devices.length:Int)))
  ((JF (⟨a1,i2⟩:Src) (x1.Devices.length:Int)).bind fun r5=>
  (ixL x1.Devices r5.1).bind fun e6=>
  Ctl.sub (QJ r5 a3 0 false) fun z12=>
  (ixL x2.Slots e6.Node).bind fun e13=>
  (ixL e13 e6.Window).bind fun e14=>
  cond (e14 != 0)
  (cond (e6.Kind==2)
  ((Jay r5.2 ([3,5,6,6]:List Int)).bind fun r15=>
  cond (r15.1 != 3)
  ((Jay r15.2 ([9,8,0,5]:List Int)).bind fun r16=>
  cond (!z12)
  ((apL a3 ([(⟨r15.1,r5.1,r16.1⟩:Fault)]:List Fault)).bind fun l17=>
  JE x1 x2 x3 q21 r16.2.L r16.2.At l17 (w64 (i4+1)))
  (JE x1 x2 x3 q21 r16.2.L r16.2.At a3 (w64 (i4+1))))
  (cond (!z12)
  ((apL a3 ([(⟨r15.1,r5.1,0⟩:Fault)]:List Fault)).bind fun l18=>
  JE x1 x2 x3 q21 r15.2.L r15.2.At l18 (w64 (i4+1)))
  (JE x1 x2 x3 q21 r15.2.L r15.2.At a3 (w64 (i4+1)))))
  (cond (!z12)
  ((apL a3 ([(⟨3,r5.1,0⟩:Fault)]:List Fault)).bind fun l19=>
  JE x1 x2 x3 q21 r5.2.L r5.2.At l19 (w64 (i4+1)))
  (JE x1 x2 x3 q21 r5.2.L r5.2.At a3 (w64 (i4+1)))))
  (cond (e6.Kind==2)
  (JE x1 x2 x3 q21 r5.2.L r5.2.At a3 (w64 (i4+1)))
  (cond (!z12)
  ((apL a3 ([(⟨4,r5.1,0⟩:Fault)]:List Fault)).bind fun l20=>
  JE x1 x2 x3 q21 r5.2.L r5.2.At l20 (w64 (i4+1)))
  (JE x1 x2 x3 q21 r5.2.L r5.2.At a3 (w64 (i4+1))))))
  (some (Ctl.brk (a1,i2,a3))))
  (some (Ctl.brk (a1,i2,a3)))
def Y5 (x0:Src) (x1:Layout) (x2:Plant) (x3:Int):Option ((List Fault)×Src):=
 Ctl.fin (JE x1 x2 x3 9223372036854775807 x0.L x0.At ([]:List Fault) 0) fun z22=>
  some (z22.2.2,(⟨z22.1,z22.2.1⟩:Src))
def JbG (x0:Int):Option (Int):=
 cond (x0==5)
  (some 9)
  (cond (x0==6)
  (some 9)
  (some 0))
def JbI (x0:Plate):Option (Bool):=
 cond (decide (0<=x0.Lead))
  (cond (decide (x0.Lead<=9))
  (cond (decide (1<=x0.Airline))
  (cond (decide (x0.Airline<=999))
  (cond (decide (0<=x0.Serial))
  (some (decide (x0.Serial<1000000)))
  (some false))
  (some false))
  (some false))
  (some false))
  (some false)
def Jc8 (x0:Plate):Option (Int):=
 some (w64 ((w64 ((w64 ((w64 (x0.Lead*1000))+x0.Airline))*1000000))+x0.Serial))
def ZK:Nat->(List Int)->Int->Int->Option (Ctl (ByteArray) ((List Int)))
 |0,_,_,_=>none
 |q9+1,a4,i5,i6=>cond (decide (i6<10))
  ((gdA 10 (w64 (9 - i6))).bind fun u7=>
  (ixL a4 (w64 (9 - i6))).bind fun v8=>
  ZK q9 (a4.set (w64 (9 - i6)).toNat (IntKind.u8.wrap (48+(IntKind.u8.wrap (i5.tmod 10))))) (w64 (i5.tdiv 10)) (w64 (i6+1)))
  (some (Ctl.brk a4))
def JaL (x0:Plate):Option (ByteArray):=
 (JbI x0).bind fun r1=>
  cond (!r1)
  (some (⟨#[]⟩:ByteArray))
  ((alL 10 0).bind fun l2=>
  (Jc8 x0).bind fun r3=>
  Ctl.fin (ZK 9223372036854775807 l2 r3 0) fun z10=>
  (ldL 10 z10).bind fun u11=>
  some (YS z10))
def JaH (x0:Layout) (x1:Plant) (x2:(List Plate)) (x3:Int):Option (View):=
 (ixL x0.Devices x3).bind fun e1=>
  (ixL x1.Slots e1.Node).bind fun e2=>
  (ixL e2 e1.Window).bind fun e3=>
  cond (decide (1<=e3))
  (cond (decide (e3<=(x2.length:Int)))
  ((ixL x2 (w64 (e3 - 1))).bind fun e4=>
  (JaL e4).bind fun r5=>
  some (⟨x3,e1.Kind,e3,r5⟩:View))
  (some (⟨x3,e1.Kind,e3,(⟨#[]⟩:ByteArray)⟩:View)))
  (some (⟨x3,e1.Kind,e3,(⟨#[]⟩:ByteArray)⟩:View))
def ZJ (x0:View) (x1:Int):Option (Bool):=
 cond (x1==3)
  (some (x0.bag != 0))
  (cond (x1==4)
  (cond (x0.kind==1)
  (some (x0.bag==0))
  (some false))
  (cond (x0.kind==2)
  (cond (x0.bag != 0)
  (some (!(x0.text.toList==(⟨#[]⟩:ByteArray).toList)))
  (some false))
  (some false)))
def Ja0 (x0:Fault) (x1:Fault):Option (Bool):=
 some (x1.Node==x0.Node)
def JX (x1:Fault):(List Fault)->Nat->Option (Ctl (Int) (Unit))
 |[],k2=>some (Ctl.brk ())
 |e3::q5,k2=>(Ja0 e3 x1).bind fun r4=>
  cond r4
  (some (Ctl.ret (k2:Int)))
  (JX x1 q5 (k2+1))
def Zf (x0:(List Fault)) (x1:Fault):Option (Int):=
 Ctl.fin (JX x1 x0 0) fun z6=>
  some (-1:Int)
def QP (x0:(List Fault)) (x1:Fault):Option (Bool):=
 (Zf x0 x1).bind fun r1=>
  some (decide (0<=r1))
def YX (x0:View):Option (Report):=
 cond (x0.kind==2)
  (cond (x0.bag != 0)
  (some (⟨x0.device,(x0.bag != 0),x0.text⟩:Report))
  (some (⟨x0.device,(x0.bag != 0),(⟨#[]⟩:ByteArray)⟩:Report)))
  (some (⟨x0.device,(x0.bag != 0),(⟨#[]⟩:ByteArray)⟩:Report))
def Qu (x0:View) (x1:Int) (x2:Int):Option (Report):=
 (YX x0).bind fun r1=>
  cond (x1==3)
  (some (⟨x0.device,false,(⟨#[]⟩:ByteArray)⟩:Report))
  (cond (x1==4)
  (some (⟨r1.Device,true,r1.Read⟩:Report))
  (cond (x1==5)
  ((ixL (Jhd x0.text) x2).bind fun e2=>
  some (⟨r1.Device,r1.Seen,(YS ((Jhd x0.text).set x2.toNat 63))⟩:Report))
  ((ixL (Jhd x0.text) x2).bind fun e3=>
  (ixL (Jhd x0.text) x2).bind fun e4=>
  some (⟨r1.Device,r1.Seen,(YS ((Jhd x0.text).set x2.toNat (IntKind.u8.wrap (48+((IntKind.u8.wrap ((IntKind.u8.wrap (e3 - 48))+1)).tmod 10)))))⟩:Report))))
def Y0 (x0:Layout) (x1:Plant) (x2:(List Plate)):(List Fault)->Nat->Option (Ctl ((List Report)×Int) (Unit))
 |[],k6=>some (Ctl.brk ())
 |e7::q11,k6=>cond (decide (e7.Kind<3))
  (some (Ctl.ret (([]:(List Report)),4)))
  (cond (decide (6<e7.Kind))
  (some (Ctl.ret (([]:(List Report)),4)))
  (cond (decide (e7.Node<0))
  (some (Ctl.ret (([]:(List Report)),1)))
  (cond (decide ((x0.Devices.length:Int)<=e7.Node))
  (some (Ctl.ret (([]:(List Report)),1)))
  (cond (decide (e7.Window<0))
  (some (Ctl.ret (([]:(List Report)),1)))
  ((JbG e7.Kind).bind fun r8=>
  cond (decide (r8<e7.Window))
  (some (Ctl.ret (([]:(List Report)),1)))
  ((JaH x0 x1 x2 e7.Node).bind fun r9=>
  (ZJ r9 e7.Kind).bind fun r10=>
  cond (!r10)
  (some (Ctl.ret (([]:(List Report)),7)))
  (Y0 x0 x1 x2 q11 (k6+1))))))))
def YZ (x3:(List Fault)):(List Fault)->Nat->Option (Ctl ((List Report)×Int) (Unit))
 |[],k14=>some (Ctl.brk ())
 |e15::q18,k14=>(slL x3 0 (k14:Int)).bind fun l16=>
  (QP l16 e15).bind fun r17=>
  cond r17
  (some (Ctl.ret (([]:(List Report)),5)))
  (YZ x3 q18 (k14+1))
def YY (x0:Layout) (x1:Plant) (x2:(List Plate)):(List Device)->Nat->(List Report)->Option (Ctl ((List Report)×Int) ((List Report)))
 |[],k22,a20=>some (Ctl.brk a20)
 |e23::q27,k22,a20=>(JaH x0 x1 x2 (k22:Int)).bind fun r24=>
  (YX r24).bind fun r25=>
  (apL a20 ([r25]:List Report)).bind fun l26=>
  YY x0 x1 x2 q27 (k22+1) l26
def ZF (x0:Layout) (x1:Plant) (x2:(List Plate)):(List Fault)->Nat->(List Report)->Option (Ctl ((List Report)×Int) ((List Report)))
 |[],k31,a29=>some (Ctl.brk a29)
 |e32::q36,k31,a29=>(JaH x0 x1 x2 e32.Node).bind fun r33=>
  (Qu r33 e32.Kind e32.Window).bind fun r34=>
  (ixL a29 e32.Node).bind fun e35=>
  ZF x0 x1 x2 q36 (k31+1) (a29.set e32.Node.toNat r34)
def Jad (x0:Layout) (x1:Plant) (x2:(List Plate)) (x3:(List Fault)):Option ((List Report)×Int):=
 (JbC x0).bind fun r1=>
  JiX r1 (fun b2=>
  cond (!b2)
  (some (([]:(List Report)),7))
  (none))
  (fun v3 b2=>
  cond (!b2)
  (some (([]:(List Report)),7))
  ((YP v3 x1).bind fun r4=>
  cond (!r4)
  (some (([]:(List Report)),7))
  (cond (decide (4<(x3.length:Int)))
  (some (([]:(List Report)),2))
  (Ctl.fin (Y0 x0 x1 x2 x3 0) fun z12=>
  Ctl.fin (YZ x3 x3 0) fun z19=>
  Ctl.fin (YY x0 x1 x2 x0.Devices 0 ([]:List Report)) fun z28=>
  Ctl.fin (ZF x0 x1 x2 x3 0 z28) fun z37=>
  some (z37,0)))))
def JaT (x0:Hypothesis) (x1:Plan):Option (Bool):=
 (YP x1 x0.Plant).bind fun r1=>
  some (!r1)
def JR (x1:Plan):(List Hypothesis)->Nat->Option (Ctl (Int) (Unit))
 |[],k2=>some (Ctl.brk ())
 |e3::q5,k2=>(JaT e3 x1).bind fun r4=>
  cond r4
  (some (Ctl.ret (k2:Int)))
  (JR x1 q5 (k2+1))
def YQ (x0:(List Hypothesis)) (x1:Plan):Option (Int):=
 Ctl.fin (JR x1 x0 0) fun z6=>
  some (-1:Int)
def Qn (x0:(List Hypothesis)) (x1:Plan):Option (Bool):=
 (YQ x0 x1).bind fun r1=>
  some (decide (0<=r1))
def JeD (x0:Layout) (x1:Belief):Option ((Option Plan)×Bool):=
 (JbC x0).bind fun r1=>
  JiX r1 (fun b2=>
  cond (!b2)
  (some (none,false))
  (none))
  (fun v3 b2=>
  cond (!b2)
  (some (none,false))
  ((Qn x1.L v3).bind fun r4=>
  cond r4
  (some (none,false))
  (some ((some v3),true))))
def Zu (x0:Fault) (x1:Fault):Option (Bool):=
 cond (x1.Node==x0.Node)
  (some (x1.Window==x0.Window))
  (some false)
def JW (x1:Fault):(List Fault)->Nat->Option (Ctl (Int) (Unit))
 |[],k2=>some (Ctl.brk ())
 |e3::q5,k2=>(Zu e3 x1).bind fun r4=>
  cond r4
  (some (Ctl.ret (k2:Int)))
  (JW x1 q5 (k2+1))
def Ze (x0:(List Fault)) (x1:Fault):Option (Int):=
 Ctl.fin (JW x1 x0 0) fun z6=>
  some (-1:Int)
def QO (x0:(List Fault)) (x1:Fault):Option (Bool):=
 (Ze x0 x1).bind fun r1=>
  some (decide (0<=r1))
def JaJ (x0:(List Fault)):Option ((List Fault)):=
 apL [] x0
def JaK (x0:View):Option (View):=
 some x0
def Jfo (v:View):Nat->Int->Int->List Report->Option (List Report)
 |0,_,_,_=>none
 |n+1,kind,w,acc=>(JbG kind).bind fun m=>cond (decide (w<=m)) ((ZJ v kind).bind fun b=>cond b ((Qu v kind w).bind fun r=>Jfo v n kind (w64 (w+1)) (acc++[r])) (some acc)) (some acc)
def JdD (v:View):Nat->Int->List Report->Option (List Report)
 |0,_,_=>none
 |n+1,kind,acc=>cond (decide (kind<=6)) ((Jfo v 100 kind 0 acc).bind fun acc=>JdD v n (w64 (kind+1)) acc) (some acc)
def Jap (v:View):Option (List Report):=JdD v 6 3 []
def Jae (x3:Report):(List Report)->Nat->Option (Ctl (Int×Bool) (Unit))
 |[],_=>some (Ctl.brk ())
 |e7::q9,k8=>cond ((e7.Device==x3.Device)&&((e7.Seen==x3.Seen)&&((e7.Read.toList==x3.Read.toList)&&true)))
  (some (Ctl.ret (1,true)))
  (Jae x3 q9 (k8+1))
def JcF (x0:Layout) (x1:Plant) (x2:(List Plate)) (x3:Report):Option (Int×Bool):=
 cond (decide (x3.Device<0))
  (some (0,false))
  (cond (decide ((x0.Devices.length:Int)<=x3.Device))
  (some (0,false))
  ((ixL x0.Devices x3.Device).bind fun e1=>
  cond (decide (e1.Node<0))
  (some (0,false))
  (cond (decide ((x1.Slots.length:Int)<=e1.Node))
  (some (0,false))
  (cond (decide (e1.Window<0))
  (some (0,false))
  ((ixL x1.Slots e1.Node).bind fun e2=>
  cond (decide ((e2.length:Int)<=e1.Window))
  (some (0,false))
  ((JaH x0 x1 x2 x3.Device).bind fun r3=>
  (YX r3).bind fun r4=>
  cond ((x3.Device==r4.Device)&&((x3.Seen==r4.Seen)&&((x3.Read.toList==r4.Read.toList)&&true)))
  (some (0,true))
  ((JaK r3).bind fun r5=>
  (Jap r5).bind fun l6=>
  Ctl.fin (Jae x3 l6 0) fun z10=>
  some (0,false))))))))
def Ya (x0:Plant) (x2:Layout) (x3:(List Plate)) (x4:Belief):(List Report)->Nat->Int->Option (Ctl (Int×Bool) (Int))
 |[],k3,i1=>some (Ctl.brk i1)
 |e4::q6,k3,i1=>(JcF x2 x0 x3 e4).bind fun r5=>
  cond (!r5.2)
  (some (Ctl.ret (0,false)))
  (cond (decide (x4.Budget<(w64 (i1+r5.1))))
  (some (Ctl.ret (0,false)))
  (Ya x0 x2 x3 x4 q6 (k3+1) (w64 (i1+r5.1))))
def Z3 (x0:Plant) (x1:(List Report)) (x2:Layout) (x3:(List Plate)) (x4:Belief):Option (Int×Bool):=
 Ctl.fin (Ya x0 x2 x3 x4 x1 0 0) fun z7=>
  some (z7,true)
def Jcf (rec:List Fault->List Fault->List (ByteArray×Int)->List Hypothesis->Option (List (ByteArray×Int)×List Hypothesis)) (fs:List Fault):List Fault->List (ByteArray×Int)->List Hypothesis->Option (List (ByteArray×Int)×List Hypothesis)
 |[],m,l=>some (m,l)
 |f::q,m,l=>(QO fs f).bind fun b=>cond (!b) ((JaJ fs).bind fun a=>(apL a [f]).bind fun a=>(rec q a m l).bind fun ml=>Jcf rec fs q ml.1 ml.2) (Jcf rec fs q m l)
def Qz (rs:List Report) (ly:Layout) (ps:List Plate) (b:Belief) (e:Plan) (cmds:List Int) (bud:Int) (h:Hypothesis):Nat->List Fault->List Fault->List (ByteArray×Int)->List Hypothesis->Option (List (ByteArray×Int)×List Hypothesis)
 |0,_,_,_,_=>none
 |n+1,others,fs,m,l=>cond (decide (40<(l.length:Int))) (some (m,l))
  ((J6 e h.Plant cmds fs).bind fun s=>(Z3 s.1 rs ly ps b).bind fun c=>
  (cond (cond c.2 (decide (w64 (w64 (h.Used+(fs.length:Int))+c.1)<=bud)) false) (Q7 m l s.1 (w64 (w64 (h.Used+(fs.length:Int))+c.1))) (some (m,l))).bind fun ml=>
  cond (decide (bud<=w64 (h.Used+(fs.length:Int)))) (some ml) (Jcf (Qz rs ly ps b e cmds bud h n) fs others ml.1 ml.2))
def JL (x2:(List Int)) (k3:Nat) (e4:(List Int)):(List Int)->Nat->(List Fault)->Option (Ctl ((List Fault)) ((List Fault)))
 |[],k7,a5=>some (Ctl.brk a5)
 |e8::q17,k7,a5=>cond (e8==0)
  (JL x2 k3 e4 q17 (k7+1) a5)
  (cond ((k7:Int)==(w64 ((e4.length:Int) - 1)))
  ((ixL x2 (k3:Int)).bind fun e9=>
  cond (decide (e9<0))
  (JL x2 k3 e4 q17 (k7+1) a5)
  ((apL a5 ([(⟨1,(k3:Int),(k7:Int)⟩:Fault)]:List Fault)).bind fun l10=>
  cond (decide ((w64 ((k7:Int)+2))<(e4.length:Int)))
  ((ixL e4 (w64 ((k7:Int)+2))).bind fun e11=>
  cond (e11==0)
  ((apL l10 ([(⟨2,(k3:Int),(k7:Int)⟩:Fault)]:List Fault)).bind fun l12=>
  JL x2 k3 e4 q17 (k7+1) l12)
  (JL x2 k3 e4 q17 (k7+1) l10))
  (JL x2 k3 e4 q17 (k7+1) l10)))
  ((ixL e4 ((k7+1:Nat):Int)).bind fun e13=>
  cond (e13 != 0)
  (JL x2 k3 e4 q17 (k7+1) a5)
  ((apL a5 ([(⟨1,(k3:Int),(k7:Int)⟩:Fault)]:List Fault)).bind fun l14=>
  cond (decide ((w64 ((k7:Int)+2))<(e4.length:Int)))
  ((ixL e4 (w64 ((k7:Int)+2))).bind fun e15=>
  cond (e15==0)
  ((apL l14 ([(⟨2,(k3:Int),(k7:Int)⟩:Fault)]:List Fault)).bind fun l16=>
  JL x2 k3 e4 q17 (k7+1) l16)
  (JL x2 k3 e4 q17 (k7+1) l14))
  (JL x2 k3 e4 q17 (k7+1) l14))))
def ZO (x2:(List Int)):(List (List Int))->Nat->(List Fault)->Option (Ctl ((List Fault)) ((List Fault)))
 |[],k3,a1=>some (Ctl.brk a1)
 |e4::q19,k3,a1=>Ctl.sub (JL x2 k3 e4 e4 0 a1) fun z18=>
  ZO x2 q19 (k3+1) z18
def Jb9 (x0:Plan) (x1:Plant) (x2:(List Int)):Option ((List Fault)):=
 Ctl.fin (ZO x2 x1.Slots 0 ([]:List Fault)) fun z20=>
  some z20
def JeI (rs:List Report) (ly:Layout) (ps:List Plate) (b:Belief) (e:Plan) (cmds:List Int) (bud:Int):List Hypothesis->List (ByteArray×Int)->List Hypothesis->Option (List (ByteArray×Int)×List Hypothesis)
 |[],m,l=>some (m,l)
 |h::q,m,l=>(Jb9 e h.Plant cmds).bind fun fs=>(Qz rs ly ps b e cmds bud h (fs.length+1) fs [] m l).bind fun ml=>JeI rs ly ps b e cmds bud q ml.1 ml.2
def JdT (x0:Plan) (x1:Belief) (x2:List Int) (x3:List Report) (x4:Layout) (x5:List Plate) (x6:Belief):Option (Belief×Int):=
 (JeI x3 x4 x5 x6 x0 x2 x1.Budget x1.L [] []).bind fun ml=>cond ((ml.2.length:Int)==0) (some (⟨0,[]⟩,11)) (cond (decide (40<(ml.2.length:Int))) (some (⟨0,[]⟩,2)) ((Q3 ml.2 x1.Budget).bind fun r=>some (r,0)))
def Jaz:(List Report)->Nat->Option (Ctl (Belief×Int) (Unit))
 |[],k6=>some (Ctl.brk ())
 |e7::q8,k6=>cond (e7.Device != (k6:Int))
  (some (Ctl.ret ((⟨0,([]:(List Hypothesis))⟩:Belief),1)))
  (Jaz q8 (k6+1))
def Jby (x0:Layout) (x1:Belief) (x2:(List Int)) (x3:(List Plate)) (x4:(List Report)):Option (Belief×Int):=
 (JeD x0 x1).bind fun r1=>
  JiX r1 (fun b2=>
  cond (!b2)
  (some ((⟨0,([]:(List Hypothesis))⟩:Belief),7))
  (none))
  (fun v3 b2=>
  cond (!b2)
  (some ((⟨0,([]:(List Hypothesis))⟩:Belief),7))
  ((Za v3 x2 ([]:(List Fault))).bind fun r4=>
  cond (r4 != 0)
  (some ((⟨0,([]:(List Hypothesis))⟩:Belief),r4))
  (cond ((x4.length:Int) != (x0.Devices.length:Int))
  (some ((⟨0,([]:(List Hypothesis))⟩:Belief),1))
  (Ctl.fin (Jaz x4 0) fun z9=>
  (JdT v3 x1 x2 x4 x0 x3 x1).bind fun r10=>
  some (r10.1,r10.2)))))
def ZZ (x0:A4_Int):Nat->Int->Option (Ctl (Screening×Int) (Unit))
 |0,_=>none
 |q2+1,i1=>cond (decide (i1<4))
  (cond (i1==0)
  (cond (decide (x0.e0<0))
  (some (Ctl.ret ((⟨(⟨0,0,0,0⟩:A4_Int),0,([]:(List Check))⟩:Screening),1)))
  (cond (decide (1000<x0.e0))
  (some (Ctl.ret ((⟨(⟨0,0,0,0⟩:A4_Int),0,([]:(List Check))⟩:Screening),1)))
  (ZZ x0 q2 (w64 (i1+1)))))
  (cond (i1==1)
  (cond (decide (x0.e1<0))
  (some (Ctl.ret ((⟨(⟨0,0,0,0⟩:A4_Int),0,([]:(List Check))⟩:Screening),1)))
  (cond (decide (1000<x0.e1))
  (some (Ctl.ret ((⟨(⟨0,0,0,0⟩:A4_Int),0,([]:(List Check))⟩:Screening),1)))
  (ZZ x0 q2 (w64 (i1+1)))))
  (cond (i1==2)
  (cond (decide (x0.e2<0))
  (some (Ctl.ret ((⟨(⟨0,0,0,0⟩:A4_Int),0,([]:(List Check))⟩:Screening),1)))
  (cond (decide (1000<x0.e2))
  (some (Ctl.ret ((⟨(⟨0,0,0,0⟩:A4_Int),0,([]:(List Check))⟩:Screening),1)))
  (ZZ x0 q2 (w64 (i1+1)))))
  (cond (i1==3)
  (cond (decide (x0.e3<0))
  (some (Ctl.ret ((⟨(⟨0,0,0,0⟩:A4_Int),0,([]:(List Check))⟩:Screening),1)))
  (cond (decide (1000<x0.e3))
  (some (Ctl.ret ((⟨(⟨0,0,0,0⟩:A4_Int),0,([]:(List Check))⟩:Screening),1)))
  (ZZ x0 q2 (w64 (i1+1)))))
  (none)))))
  (some (Ctl.brk ()))
def Jf4 (x0:A4_Int):Option (Screening×Int):=
 Ctl.fin (ZZ x0 9223372036854775807 0) fun z3=>
  some ((⟨x0,1,([]:(List Check))⟩:Screening),0)
def Ja3:Option (Bool):=
 (Y7 (⟨2,2,([2]:List Int),([1,2]:List Int)⟩:Votes)).bind fun r1=>
  (Jf4 (⟨1,1,1,1⟩:A4_Int)).bind fun r2=>
  cond r1.2
  (cond (r1.1==2)
  (cond (r2.2==0)
  (some (r2.1.Next==1))
  (some false))
  (some false))
  (some false)
def QG (r1:(List (Int×Bool))):(List Int)->Nat->(List Int)->Option (Ctl ((List Int)) ((List Int)))
 |[],k13,a11=>some (Ctl.brk a11)
 |e14::q17,k13,a11=>cond (e14 != 0)
  ((Jb0 wI r1 e14 false).bind fun v15=>
  cond (!v15)
  ((apL a11 ([e14]:List Int)).bind fun l16=>
  QG r1 q17 (k13+1) l16)
  (QG r1 q17 (k13+1) a11))
  (QG r1 q17 (k13+1) a11)
def QH (r1:(List (Int×Bool))) (k4:Nat):(List (List (List Int)))->Nat->(List Int)->Option (Ctl ((List Int)) ((List Int)))
 |[],k8,a6=>some (Ctl.brk a6)
 |e9::q19,k8,a6=>cond (decide ((e9.length:Int)<=(k4:Int)))
  (QH r1 k4 q19 (k8+1) a6)
  ((ixL e9 (k4:Int)).bind fun e10=>
  Ctl.sub (QG r1 e10 0 a6) fun z18=>
  QH r1 k4 q19 (k8+1) z18)
def QY (x1:Plant) (r1:(List (Int×Bool))):(List Node)->Nat->(List Int)->Option (Ctl ((List Int)) ((List Int)))
 |[],k4,a2=>some (Ctl.brk a2)
 |e5::q21,k4,a2=>cond (e5.Zone != 1)
  (QY x1 r1 q21 (k4+1) a2)
  (Ctl.sub (QH r1 k4 ([x1.Slots,x1.Bins]:List (List (List Int))) 0 a2) fun z20=>
  QY x1 r1 q21 (k4+1) z20)
def Zn (x0:Layout) (x1:Plant) (x2:(List Int)):Option ((List Int)):=
 (Jbc x2).bind fun r1=>
  Ctl.fin (QY x1 r1 x0.Nodes 0 ([]:List Int)) fun z22=>
  (slices_Sort_int z22).bind fun r23=>
  some r23
def JcB (x0:Src):Option (Bool):=
 some (decide (x0.At<(x0.L.length:Int)))
def Jp (z30:(List Int)×Int×(List (List Int))×(List (List Int))×Int×(List Hypothesis)×(List Int)×Int):(List Node)->Nat->(List Int)->Int->(List Bool)->Option (Ctl (Bool) ((List Int)×Int×(List Bool)))
 |[],k37,a33,i34,a35=>some (Ctl.brk (a33,i34,a35))
 |e38::q55,k37,a33,i34,a35=>cond (e38.Kind != 6)
  (Jp z30 q55 (k37+1) a33 i34 a35)
  ((ixL z30.2.2.1 (k37:Int)).bind fun e39=>
  (ixL e39 (w64 ((e39.length:Int) - 1))).bind fun e40=>
  (ixL e39 (w64 ((e39.length:Int) - 1))).bind fun e41=>
  (JF (⟨a33,i34⟩:Src) 5).bind fun r42=>
  cond (r42.1==0)
  ((JF r42.2 5).bind fun r43=>
  (Y7 (⟨r43.1,e41,z30.2.2.2.2.2.2.1,z30.2.2.2.2.2.2.1⟩:Votes)).bind fun r44=>
  cond r44.2
  (cond (decide (r44.1<=z30.2.2.2.2.2.2.2))
  ((ixL a35 (w64 (r44.1 - 1))).bind fun e45=>
  Jp z30 q55 (k37+1) r43.2.L r43.2.At (a35.set (w64 (r44.1 - 1)).toNat true))
  (Jp z30 q55 (k37+1) r43.2.L r43.2.At a35))
  (Jp z30 q55 (k37+1) r43.2.L r43.2.At a35))
  (cond (r42.1==1)
  ((JF r42.2 5).bind fun r46=>
  (Y7 (⟨e40,r46.1,z30.2.2.2.2.2.2.1,z30.2.2.2.2.2.2.1⟩:Votes)).bind fun r47=>
  cond r47.2
  (cond (decide (r47.1<=z30.2.2.2.2.2.2.2))
  ((ixL a35 (w64 (r47.1 - 1))).bind fun e48=>
  Jp z30 q55 (k37+1) r46.2.L r46.2.At (a35.set (w64 (r47.1 - 1)).toNat true))
  (Jp z30 q55 (k37+1) r46.2.L r46.2.At a35))
  (Jp z30 q55 (k37+1) r46.2.L r46.2.At a35))
  (cond (r42.1==2)
  ((Y7 (⟨e40,e41,([1,2,3]:List Int),z30.2.2.2.2.2.2.1⟩:Votes)).bind fun r49=>
  cond r49.2
  (cond (decide (r49.1<=z30.2.2.2.2.2.2.2))
  ((ixL a35 (w64 (r49.1 - 1))).bind fun e50=>
  Jp z30 q55 (k37+1) r42.2.L r42.2.At (a35.set (w64 (r49.1 - 1)).toNat true))
  (Jp z30 q55 (k37+1) r42.2.L r42.2.At a35))
  (Jp z30 q55 (k37+1) r42.2.L r42.2.At a35))
  (cond (r42.1==3)
  ((Y7 (⟨e40,e41,z30.2.2.2.2.2.2.1,([3,1,2]:List Int)⟩:Votes)).bind fun r51=>
  cond r51.2
  (cond (decide (r51.1<=z30.2.2.2.2.2.2.2))
  ((ixL a35 (w64 (r51.1 - 1))).bind fun e52=>
  Jp z30 q55 (k37+1) r42.2.L r42.2.At (a35.set (w64 (r51.1 - 1)).toNat true))
  (Jp z30 q55 (k37+1) r42.2.L r42.2.At a35))
  (Jp z30 q55 (k37+1) r42.2.L r42.2.At a35))
  ((Y7 (⟨e40,e41,z30.2.2.2.2.2.2.1,z30.2.2.2.2.2.2.1⟩:Votes)).bind fun r53=>
  cond r53.2
  (cond (decide (r53.1<=z30.2.2.2.2.2.2.2))
  ((ixL a35 (w64 (r53.1 - 1))).bind fun e54=>
  Jp z30 q55 (k37+1) r42.2.L r42.2.At (a35.set (w64 (r53.1 - 1)).toNat true))
  (Jp z30 q55 (k37+1) r42.2.L r42.2.At a35))
  (Jp z30 q55 (k37+1) r42.2.L r42.2.At a35))))))
def Qo (r2:Layout×Src) (r3:Int×Src) (r6:(List Plate)×Src):Nat->(List Int)->Int->(List (List Int))->(List (List Int))->Int->(List Hypothesis)->(List Int)->Int->Int->Int->Option (Ctl (Bool) (Unit))
 |0,_,_,_,_,_,_,_,_,_,_=>none
 |q122+1,a7,i8,a9,a10,i11,a12,a13,i14,i15,i16=>cond (decide (i16<24))
  (cond (decide (i16<4))
  (Ctl.sub (cond (decide (i15<3))
  ((JF (⟨a7,i8⟩:Src) 2).bind fun r17=>
  cond (r17.1==0)
  ((YH r2.1 (⟨a9,a10⟩:Plant) 0 (w64 (i15+1))).bind fun r18=>
  cond (r18.2==0)
  ((Jbb r2.1 (⟨i11,a12⟩:Belief) 0 (w64 (i15+1))).bind fun r19=>
  cond (r19.2 != 0)
  (some (Ctl.ret false))
  ((JF r17.2 2).bind fun r20=>
  cond (r20.1==0)
  ((apL a13 ([(w64 (i15+1))]:List Int)).bind fun l21=>
  some (Ctl.brk (r20.2.L,r20.2.At,r18.1.Slots,r18.1.Bins,r19.1.Budget,r19.1.L,l21,(w64 (i15+1)))))
  (some (Ctl.brk (r20.2.L,r20.2.At,r18.1.Slots,r18.1.Bins,r19.1.Budget,r19.1.L,a13,(w64 (i15+1)))))))
  (some (Ctl.brk (r17.2.L,r17.2.At,a9,a10,i11,a12,a13,i15))))
  (some (Ctl.brk (r17.2.L,r17.2.At,a9,a10,i11,a12,a13,i15))))
  (some (Ctl.brk (a7,i8,a9,a10,i11,a12,a13,i15)))) fun(z30:(List Int)×Int×(List (List Int))×(List (List Int))×Int×(List Hypothesis)×(List Int)×Int)=>
  (ZX r2.1 (⟨z30.2.2.1,z30.2.2.2.1⟩:Plant)).bind fun r31=>
  cond (!r31)
  (some (Ctl.ret false))
  ((mkL z30.2.2.2.2.2.2.2 false).bind fun l32=>
  Ctl.sub (Jp z30 r2.1.Nodes 0 z30.1 z30.2.1 l32) fun z56=>
  (Jaj (⟨z56.1,z56.2.1⟩:Src) z30.2.2.2.2.2.2.2 (r2.1.Nodes.length:Int)).bind fun r57=>
  (Jan r2.1 (⟨z30.2.2.2.2.1,z30.2.2.2.2.2.1⟩:Belief) r57.1 z56.2.2 z56.2.2 ([]:(List Bool))).bind fun r58=>
  (JF r57.2 2).bind fun r59=>
  (Jak r59.2 r2.1 (if (w64 (r3.1 - i14))<r59.1 then (w64 (r3.1 - i14)) else r59.1)).bind fun r60=>
  (Jbu r2.1 (⟨z30.2.2.1,z30.2.2.2.1⟩:Plant) r58 r60.1).bind fun r61=>
  cond (r61.2.2 != 0)
  (some (Ctl.ret false))
  ((ZX r2.1 r61.1).bind fun r62=>
  cond (!r62)
  (some (Ctl.ret false))
  ((JF r60.2 2).bind fun r63=>
  (Y5 r63.2 r2.1 r61.1 (if (w64 ((w64 (r3.1 - i14)) - (r60.1.length:Int)))<r63.1 then (w64 ((w64 (r3.1 - i14)) - (r60.1.length:Int))) else r63.1)).bind fun r64=>
  (Jad r2.1 r61.1 r6.1 r64.1).bind fun r65=>
  cond (r65.2 != 0)
  (some (Ctl.ret false))
  ((Jby r2.1 (⟨z30.2.2.2.2.1,z30.2.2.2.2.2.1⟩:Belief) r58 r6.1 r65.1).bind fun r66=>
  cond (r66.2==2)
  ((Ja3).bind fun r67=>
  some (Ctl.ret r67))
  (cond (r66.2 != 0)
  (some (Ctl.ret false))
  ((Zn r2.1 r61.1 z30.2.2.2.2.2.2.1).bind fun r68=>
  cond (decide (0<(r68.length:Int)))
  (some (Ctl.ret false))
  (Qo r2 r3 r6 q122 r64.2.L r64.2.At r61.1.Slots r61.1.Bins r66.1.Budget r66.1.L z30.2.2.2.2.2.2.1 (w64 ((w64 (i14+(r60.1.length:Int)))+(r64.1.length:Int))) z30.2.2.2.2.2.2.2 (w64 (i16+1))))))))))
  ((JcB (⟨a7,i8⟩:Src)).bind fun r69=>
  cond r69
  (Ctl.sub (cond (decide (i15<3))
  ((JF (⟨a7,i8⟩:Src) 2).bind fun r70=>
  cond (r70.1==0)
  ((YH r2.1 (⟨a9,a10⟩:Plant) 0 (w64 (i15+1))).bind fun r71=>
  cond (r71.2==0)
  ((Jbb r2.1 (⟨i11,a12⟩:Belief) 0 (w64 (i15+1))).bind fun r72=>
  cond (r72.2 != 0)
  (some (Ctl.ret false))
  ((JF r70.2 2).bind fun r73=>
  cond (r73.1==0)
  ((apL a13 ([(w64 (i15+1))]:List Int)).bind fun l74=>
  some (Ctl.brk (r73.2.L,r73.2.At,r71.1.Slots,r71.1.Bins,r72.1.Budget,r72.1.L,l74,(w64 (i15+1)))))
  (some (Ctl.brk (r73.2.L,r73.2.At,r71.1.Slots,r71.1.Bins,r72.1.Budget,r72.1.L,a13,(w64 (i15+1)))))))
  (some (Ctl.brk (r70.2.L,r70.2.At,a9,a10,i11,a12,a13,i15))))
  (some (Ctl.brk (r70.2.L,r70.2.At,a9,a10,i11,a12,a13,i15))))
  (some (Ctl.brk (a7,i8,a9,a10,i11,a12,a13,i15)))) fun(z83:(List Int)×Int×(List (List Int))×(List (List Int))×Int×(List Hypothesis)×(List Int)×Int)=>
  (ZX r2.1 (⟨z83.2.2.1,z83.2.2.2.1⟩:Plant)).bind fun r84=>
  cond (!r84)
  (some (Ctl.ret false))
  ((mkL z83.2.2.2.2.2.2.2 false).bind fun l85=>
  Ctl.sub (Jp z83 r2.1.Nodes 0 z83.1 z83.2.1 l85) fun z109=>
  (Jaj (⟨z109.1,z109.2.1⟩:Src) z83.2.2.2.2.2.2.2 (r2.1.Nodes.length:Int)).bind fun r110=>
  (Jan r2.1 (⟨z83.2.2.2.2.1,z83.2.2.2.2.2.1⟩:Belief) r110.1 z109.2.2 z109.2.2 ([]:(List Bool))).bind fun r111=>
  (JF r110.2 2).bind fun r112=>
  (Jak r112.2 r2.1 (if (w64 (r3.1 - i14))<r112.1 then (w64 (r3.1 - i14)) else r112.1)).bind fun r113=>
  (Jbu r2.1 (⟨z83.2.2.1,z83.2.2.2.1⟩:Plant) r111 r113.1).bind fun r114=>
  cond (r114.2.2 != 0)
  (some (Ctl.ret false))
  ((ZX r2.1 r114.1).bind fun r115=>
  cond (!r115)
  (some (Ctl.ret false))
  ((JF r113.2 2).bind fun r116=>
  (Y5 r116.2 r2.1 r114.1 (if (w64 ((w64 (r3.1 - i14)) - (r113.1.length:Int)))<r116.1 then (w64 ((w64 (r3.1 - i14)) - (r113.1.length:Int))) else r116.1)).bind fun r117=>
  (Jad r2.1 r114.1 r6.1 r117.1).bind fun r118=>
  cond (r118.2 != 0)
  (some (Ctl.ret false))
  ((Jby r2.1 (⟨z83.2.2.2.2.1,z83.2.2.2.2.2.1⟩:Belief) r111 r6.1 r118.1).bind fun r119=>
  cond (r119.2==2)
  ((Ja3).bind fun r120=>
  some (Ctl.ret r120))
  (cond (r119.2 != 0)
  (some (Ctl.ret false))
  ((Zn r2.1 r114.1 z83.2.2.2.2.2.2.1).bind fun r121=>
  cond (decide (0<(r121.length:Int)))
  (some (Ctl.ret false))
  (Qo r2 r3 r6 q122 r117.2.L r117.2.At r114.1.Slots r114.1.Bins r119.1.Budget r119.1.L z83.2.2.2.2.2.2.1 (w64 ((w64 (i14+(r113.1.length:Int)))+(r117.1.length:Int))) z83.2.2.2.2.2.2.2 (w64 (i16+1))))))))))
  (some (Ctl.brk ()))))
  (some (Ctl.brk ()))
def Jbs (x0:(List Int)):Option (Bool):=
 (Jfg x0).bind fun r1=>
  (JaP r1).bind fun r2=>
  (JF r2.2 3).bind fun r3=>
  (Jdh r2.1).bind fun r4=>
  (Jen r2.1 r3.1).bind fun r5=>
  cond (r4.2 != 0)
  (some false)
  (cond (r5.2 != 0)
  (some false)
  ((Z8 r3.2).bind fun r6=>
  Ctl.fin (Qo r2 r3 r6 9223372036854775807 r6.2.L r6.2.At r4.1.Slots r4.1.Bins r5.1.Budget r5.1.L ([]:List Int) 0 0 0) fun z123=>
  (Ja3).bind fun r124=>
  some r124))
end Go.Proofs.YtehhohbnhcogkaaGreatDoor.Ex
namespace Go.Proofs.YtehhohbnhcogkaaGreatDoor.Ex
open Go.RowKit Go.Proofs.YtehhohbnhcogkaaGreatDoor.Ax
variable {b:Bool} {x res:AV} {n k sz g:Nat} {f:FuncId} {P:Program} {fn:Func} {bd:Code} {args args':List AV} {G G':List ABlk}
theorem tv:True:=True.intro
theorem ct {α:Type} {x y r:α} (h:b=true) (k:cond b x y=r):x=r:=Jrf h k
theorem cf {α:Type} {x y r:α} (h:b=false) (k:cond b x y=r):y=r:=Jrg h k
theorem xB {α:Type} {x y r:α} {A B:Prop} (h:cond b x y=r) (f:b=true->x=r->A) (g:b=false->y=r->B):(b=true->A)∧(b=false->B):=⟨fun e=>f e (Jrf e h),fun e=>g e (Jrg e h)⟩
theorem wE {n m:Int} (h:n=m:=by omega) (h1: -9223372036854775808<=m:=by omega) (h2:m<=9223372036854775807:=by omega):IntKind.i64.wrap n=m:=JkU h h1 h2
theorem nl {α:Type} {l:List α} (h:decide ((k:Int)<((l.length:Nat):Int))=false):l.length<=k:=by
 have:=Wf h
 omega
theorem si {α:Type} {a b:α} (h:some a=some b):a=b:=Wi h
theorem bs' {α β:Type} {o:Option α} {f:α->Option β} {r:β} (h:o.bind f=some r):∃x,o=some x∧f x=some r:=bind_some h
theorem ge {α:Type} {l:List α} (h:k<l.length):∃y,l[k]? =some y:=⟨_,Wg h⟩
variable {H:Nat->Option ABlk} {gs zs bs:List Nat}
theorem aq {y:AV} (h:x=y:=by(conv=>lhs;whnf)<;>rfl) (hy:y.ni=true:=by rfl):ArgR H gs zs bs x y:=Jwh h hy
theorem aP (id:Nat) {j:Nat} (h:x= .ptr id j:=by(conv=>lhs;whnf)<;>rfl) (hk:gs[k]? =some id:=by rfl):ArgR H gs zs bs x (.ptr k j):=JN h hk
theorem aO (id:Nat) (h:x= .osl id:=by(conv=>lhs;whnf)<;>rfl) (hk:gs[k]? =some id:=by rfl):ArgR H gs zs bs x (.osl k):=Zx h hk
theorem aM (id:Nat) (h:x= .mp id:=by(conv=>lhs;whnf)<;>rfl) (hk:gs[k]? =some id:=by rfl):ArgR H gs zs bs x (.mp k):=Jcy h hk
theorem aF (h:x= .fls:=by(conv=>lhs;whnf)<;>rfl):ArgR H gs zs bs x (.bool false):=Jv9 h
theorem aT (h:x= .tru:=by(conv=>lhs;whnf)<;>rfl):ArgR H gs zs bs x (.bool true):=Jwf h
theorem aN (h:x= .nils:=by(conv=>lhs;whnf)<;>rfl):ArgR H gs zs bs x (.lst sz []):=Jwg h
theorem aA (c:List AV) {c':List AV} (hz:ZW (fun p=>ArgR H gs zs bs p.1 p.2) (c.zip c')) (h:x= .agg c:=by(conv=>lhs;whnf)<;>rfl) (hl:c.length=c'.length:=by rfl):ArgR H gs zs bs x (.agg c'):=Jwi h hl hz
theorem aL {α:Type} {enc:α->List AV} {l:List α} (id:Nat) (h:x= .osl id:=by(conv=>lhs;whnf)<;>rfl) (hm:bs.contains id=true:=by rfl) (hH:H id=some (.row sz (l.map enc)):=by rfl) (ok:∀x,AV.niL (enc x)=true∧(enc x).all AV.one=true:=by exact fun _=>⟨rfl,rfl⟩):ArgR H gs zs bs x (.lst sz (l.map enc)):=Jrx id h hm hH (QI ok l)
theorem bN {id:Nat} {c:List AV} (h1:gs[k]? =some id:=by rfl) (h2:H id=some (.box c):=by rfl) (h:c.all AV.ni=true:=by rfl):JeJ H gs zs bs k (.box c):=Jy h1 h2 rfl (by
 clear h2
 induction c with
 |nil=>exact trivial
 |cons u c ih=>
  rw [List.all_cons,Bool.and_eq_true] at h
  have ih:=ih h.2
  cases c with
  |nil=>exact⟨.ni _ h.1,trivial⟩
  |cons v c=>exact⟨.ni _ h.1,ih⟩)
theorem bR {α:Type} {enc:α->List AV} {id:Nat} {l:List α} (ok:∀x,AV.niL (enc x)=true∧(enc x).all AV.one=true:=by exact fun _=>⟨rfl,rfl⟩) (h1:gs[k]? =some id:=by rfl) (h2:H id=some (.row sz (l.map enc)):=by rfl):JeJ H gs zs bs k (.row sz (l.map enc)):=Jv7 ok h1 h2
theorem rR {α:Type} {enc:α->List AV} {ρ:Nat->Nat} {l:List α} (ok:∀x,AV.niL (enc x)=true∧(enc x).all AV.one=true:=by exact fun _=>⟨rfl,rfl⟩):ABlk.ren ρ (.row sz (l.map enc))= .row sz (l.map enc):=JvX ok
theorem gR {α:Type} {enc:α->List AV} {ρ:Nat->Nat} {l:List α} {o:Option ABlk} (ok:∀x,AV.niL (enc x)=true∧(enc x).all AV.one=true:=by exact fun _=>⟨rfl,rfl⟩) (h:o=some (.row sz (l.map enc)):=by rfl):o=some (ABlk.ren ρ (.row sz (l.map enc))):=grR ok h
theorem fR {α:Type} {enc:α->List AV} {l:List α} (ok:∀x,AV.flatL (enc x)=true:=by exact fun _=>rfl):ABlk.flat (.row sz (l.map enc)):=flR ok
theorem aZ (h:x= .nils:=by(conv=>lhs;whnf)<;>rfl) (hk:zs.contains k=true:=by rfl):ArgR H gs zs bs x (.osl k):=Ju7 h hk
theorem eC {α:Type} {p:α->Prop} {a:α} {l:List α} (h:p a) (k:ZW p l):ZW p (a::l):=⟨h,k⟩
theorem eN {α:Type} {p:α->Prop}:ZW p []:=True.intro
theorem sl (h:k<n):n - (k+1)<n - k:=by omega
theorem wK {σ:ASt} {l:List (Nat×AV)} {hl:List (Nat×ABlk)} (gs zs bs:List Nat) (hb:ZW (fun p=>JeJ σ.H gs zs bs p.1 p.2) hl:=by repeat' first |exact eN |exact bN |exact bR |refine eC ?_ ?_) (he:ZW (fun p=>ArgR σ.H gs zs bs (σ.env p.1) p.2) l:=by repeat' first |exact eN |refine eC ?_ ?_ |exact aq |exact aP _ |exact aO _ |exact aM _ |exact aZ |exact aF |exact aT |exact aN) (hn:Jdx g σ.n n (JcT hl) gs zs bs=true:=by rfl):Wk g σ ⟨eL l,hL hl,n⟩ gs zs bs:=JoZ gs zs bs hn he hb
theorem rZ {v:AV} (hv:ArgR H [] [] [] v res:=by first |exact aq |exact aF |exact aT |exact aN) (hn:Jdx g n 0 (JdH []) [] [] []=true:=by rfl):JgI g v H n res []:=Jk [] [] [] hn hv trivial
theorem cX (up:Bool) (gs bs:List Nat) (m:Nat) (h1:P.funcs[f]? =some fn) (hac:AC P f args' G res G')
 (ha:ZW (fun p=>ArgR H gs [] bs p.1 p.2) (args.zip args')) (hgk:ZW (fun p=>H p.1=some (p.2.ren (rho gs n (G'.length - G.length)))) (gs.zip G)) (hf:Jd9 up g bs res G') (hgc:ZW (fun b=>ABlk.ren (rho gs n (G'.length - G.length)) b=b) G')
 (h2:fn.name≠ "runtime.NumGoroutine" :=by decide) (h3:fn.body=some bd:=by rfl) (hl:args.length=args'.length:=by rfl) (hg:gs.length=G.length:=by rfl) (hnd:Jbv gs=true:=by rfl) (hdis:gs.all (fun id=> !bs.contains id)=true:=by rfl) (hle:Nat.ble G.length G'.length=true:=by rfl) (hm:G'.length - G.length=m:=by rfl):CallOK P f args H n args' gs bs G G' res G' g up m:=JnY up gs bs m h1 h2 h3 hac hl ha hg hgk hnd hdis hle hf hgc hm
theorem c0 (m:Nat) (h1:P.funcs[f]? =some fn) (hac:AC P f args' [] res G')
 (ha:ZW (fun p=>ArgR H [] [] [] p.1 p.2) (args.zip args')) (hgc:ZW (fun b=>ABlk.ren (rho [] n (G'.length - 0)) b=b) G':=by exact trivial)
 (h2:fn.name≠ "runtime.NumGoroutine" :=by decide) (h3:fn.body=some bd:=by rfl) (hl:args.length=args'.length:=by rfl) (hm:G'.length - 0=m:=by rfl):CallOK P f args H n args' [] [] [] G' res G' g false m:=JnY false [] [] m h1 h2 h3 hac hl ha rfl trivial rfl rfl rfl Qd hgc hm
theorem cY (up:Bool) (Gc:List ABlk) (gs bs:List Nat) (m:Nat) (h1:P.funcs[f]? =some fn) (hac:AC P f args' G res G')
 (ha:ZW (fun p=>ArgR H gs [] bs p.1 p.2) (args.zip args')) (hgk:ZW (fun p=>H p.1=some (p.2.ren (rho gs n (G'.length - G.length)))) (gs.zip G)) (hf:Jd9 up g bs res G') (hgc:ZW (fun p=>ABlk.ren (rho gs n (G'.length - G.length)) p.1=p.2) (G'.zip Gc))
 (h2:fn.name≠ "runtime.NumGoroutine" :=by decide) (h3:fn.body=some bd:=by rfl) (hl:args.length=args'.length:=by rfl) (hg:gs.length=G.length:=by rfl) (hnd:Jbv gs=true:=by rfl) (hdis:gs.all (fun id=> !bs.contains id)=true:=by rfl) (hle:Nat.ble G.length G'.length=true:=by rfl) (hgl:G'.length=Gc.length:=by rfl) (hm:G'.length - G.length=m:=by rfl):CallOK P f args H n args' gs bs G G' res Gc g up m:=Juq up Gc gs bs m h1 h2 h3 hac hl ha hg hgk hnd hdis hle hf hgl hgc hm
theorem dX (up:Bool) (gs bs:List Nat) (m:Nat) (h1:P.funcs[f]? =some fn) (hac:AC P f args' G res G')
 (hgk:ZW (fun p=>H p.1=some (p.2.ren (rho gs n (G'.length - G.length)))) (gs.zip G)) (hf:Jd9 up g bs res G') (hgc:ZW (fun b=>ABlk.ren (rho gs n (G'.length - G.length)) b=b) G')
 (ha:ZW (fun p=>ArgR H gs [] bs p.1 p.2) (args.zip args'):=by repeat' first |exact eN |refine eC ?_ ?_ |exact aq |exact aP _ |exact aO _ |exact aM _ |exact aZ |exact aF |exact aT |exact aN |exact aL _) (h2:fn.name≠ "runtime.NumGoroutine" :=by decide) (h3:fn.body=some bd:=by rfl) (hl:args.length=args'.length:=by rfl) (hg:gs.length=G.length:=by rfl) (hnd:Jbv gs=true:=by rfl) (hdis:gs.all (fun id=> !bs.contains id)=true:=by rfl) (hle:Nat.ble G.length G'.length=true:=by rfl) (hm:G'.length - G.length=m:=by rfl):CallOK P f args H n args' gs bs G G' res G' g up m:=JnY up gs bs m h1 h2 h3 hac hl ha hg hgk hnd hdis hle hf hgc hm
theorem d0 (m:Nat) (h1:P.funcs[f]? =some fn) (hac:AC P f args' [] res G')
 (hgc:ZW (fun b=>ABlk.ren (rho [] n (G'.length - 0)) b=b) G':=by exact trivial)
 (ha:ZW (fun p=>ArgR H [] [] [] p.1 p.2) (args.zip args'):=by repeat' first |exact eN |refine eC ?_ ?_ |exact aq |exact aF |exact aT |exact aN) (h2:fn.name≠ "runtime.NumGoroutine" :=by decide) (h3:fn.body=some bd:=by rfl) (hl:args.length=args'.length:=by rfl) (hm:G'.length - 0=m:=by rfl):CallOK P f args H n args' [] [] [] G' res G' g false m:=JnY false [] [] m h1 h2 h3 hac hl ha rfl trivial rfl rfl rfl Qd hgc hm
theorem dY (up:Bool) (Gc:List ABlk) (gs bs:List Nat) (m:Nat) (h1:P.funcs[f]? =some fn) (hac:AC P f args' G res G')
 (hgk:ZW (fun p=>H p.1=some (p.2.ren (rho gs n (G'.length - G.length)))) (gs.zip G)) (hf:Jd9 up g bs res G') (hgc:ZW (fun p=>ABlk.ren (rho gs n (G'.length - G.length)) p.1=p.2) (G'.zip Gc))
 (ha:ZW (fun p=>ArgR H gs [] bs p.1 p.2) (args.zip args'):=by repeat' first |exact eN |refine eC ?_ ?_ |exact aq |exact aP _ |exact aO _ |exact aM _ |exact aZ |exact aF |exact aT |exact aN |exact aL _) (h2:fn.name≠ "runtime.NumGoroutine" :=by decide) (h3:fn.body=some bd:=by rfl) (hl:args.length=args'.length:=by rfl) (hg:gs.length=G.length:=by rfl) (hnd:Jbv gs=true:=by rfl) (hdis:gs.all (fun id=> !bs.contains id)=true:=by rfl) (hle:Nat.ble G.length G'.length=true:=by rfl) (hgl:G'.length=Gc.length:=by rfl) (hm:G'.length - G.length=m:=by rfl):CallOK P f args H n args' gs bs G G' res Gc g up m:=Juq up Gc gs bs m h1 h2 h3 hac hl ha hg hgk hnd hdis hle hf hgl hgc hm
theorem cE {A:List AV} {nn:Nat} {K:List AV->List Nat->List Nat->List ABlk->List ABlk->AV->List ABlk->Bool->Nat->Prop} {gs bs:List Nat} {Gc:List ABlk} {up:Bool} {m:Nat} (c:CallOK P f A H nn args' gs bs G G' res Gc g up m) (k:K args' gs bs G G' res Gc up m):
 ∃(args':List AV) (gs bs:List Nat) (G G':List ABlk) (res:AV) (Gc:List ABlk) (up:Bool) (m:Nat),CallOK P f A H nn args' gs bs G G' res Gc g up m∧K args' gs bs G G' res Gc up m:=⟨_,_,_,_,_,_,_,_,_,c,k⟩
end Go.Proofs.YtehhohbnhcogkaaGreatDoor.Ex
namespace Go.Proofs.YtehhohbnhcogkaaGreatDoor.Ax
open Go.RowKit
variable {P:Program} {tab:Tab} {g nt id:Nat} {c:Code} {σ:ASt}
def JeX (P:Program) (tab:Tab) (g nt:Nat):Code->(Exit->ASt->Prop)->ASt->Prop
 | .skip,K,σ=>K .normal σ
 | .region _ ops false,K,σ=>JkL P tab g nt ops.toList ops.toList σ (fun σ'=>K .normal σ')
 | .region _ ops true,K,σ=>JkK P tab g nt ops.toList ops.toList σ (fun es σ'=>Jnn ops (es.map Eff.fp)=true∧K .normal σ')
 | .seq a b,K,σ=>JeX P tab g nt a (Jjb (JeX P tab g nt b K) K) σ
 | .cond c a b,K,σ=>match ev σ.env c with
  | .tru=>JeX P tab g nt a K σ
  | .fls=>JeX P tab g nt b K σ
  | .bool t=>(t=true->JeX P tab g nt a K σ)∧(t=false->JeX P tab g nt b K σ)
  |_=>False
 | .exit id,K,σ=>K (.exit id) σ
 | .ret,K,σ=>K .ret σ
 | .loop c,K,σ=>SW P g nt (.loop c) K σ
 |c,K,σ=>SW P g nt c K σ
theorem Jck {P:Program} {tab:Tab} (hT:J0 P tab) (hP:P.follows .mixedOrders=true) {g nt:Nat}:∀(c:Code) {K:Exit->ASt->Prop} {σ:ASt},JeX P tab g nt c K σ->SW P g nt c K σ
 | .skip,K,σ,h=>fun ro m C a w _ _ _ hR=>wpIn_skip ⟨σ,C,h,.refl C,hR⟩
 | .region id ops false,K,σ,h=>fun ro m C a w hnr hC hnt hR=>by
  exact wpIn_region_list (Jn2 (Q:=fun e a' w'=>∃σ' C',K e σ'∧CExt C C'∧Rel C' (Qj σ'.n) σ' a' w') hT ro m hC hnt h hR (fun σ' a' w' hk hr=>⟨σ',C,hk,.refl C,hr⟩))
 | .region id ops true,K,σ,h=>fun ro m C a w hnr hC hnt hR=>by
  obtain⟨es,σ',h1,h2,h3⟩:=Jhe hT h
  exact Jle hP h1 h2 ro m hC hnt hR (Q:=fun e a' w'=>∃σ' C',K e σ'∧CExt C C'∧Rel C' (Qj σ'.n) σ' a' w') (fun a' w' hr=>⟨σ',C,h3,.refl C,hr⟩)
 | .seq x y,K,σ,h=>fun ro m C a w hnr hC hnt hR=>by
  refine wpIn_seq (wpIn_mono (Jck hT hP x h ro m C a w (JdP hnr).1 hC hnt hR) (fun e a' w' ⟨σ',C',q,hE,r⟩=> ?_))
  cases e with
  |normal=>exact wpIn_mono (Jck hT hP y q ro m C' a' w' (JdP hnr).2 (by rw [hE.γ];exact hC) (by rw [hE.nt];exact hnt) r) (fun e a' w' ⟨σ',C2,q,hE2,r⟩=>⟨σ',C2,q,hE.trans hE2,r⟩)
  |_=>exact⟨σ',C',q,hE,r⟩
 | .cond c x y,K,σ,h=>fun ro m C a w hnr hC hnt hR=>by
  have hR':=hR
  obtain⟨β,F,hB⟩:=hR'
  have hv:=hB.ev c
  simp only [JeX] at h
  split at h
  .
   rename_i e
   rw [e] at hv
   generalize hvc:a.eval c=v at hv
   cases hv
   exact wpIn_cond_true hvc (Jck hT hP x h ro m C a w (JcH hnr).1 hC hnt hR)
  .
   rename_i e
   rw [e] at hv
   generalize hvc:a.eval c=v at hv
   cases hv
   exact wpIn_cond_false hvc (Jck hT hP y h ro m C a w (JcH hnr).2 hC hnt hR)
  .
   rename_i t e
   rw [e] at hv
   generalize hvc:a.eval c=v at hv
   cases hv
   cases t with
   |true=>exact wpIn_cond_true hvc (Jck hT hP x (h.1 rfl) ro m C a w (JcH hnr).1 hC hnt hR)
   |false=>exact wpIn_cond_false hvc (Jck hT hP y (h.2 rfl) ro m C a w (JcH hnr).2 hC hnt hR)
  . exact h.elim
 | .block id c,K,σ,h=>h
 | .exit id,K,σ,h=>fun ro m C a w _ _ _ hR=>wpIn_exit ⟨σ,C,h,.refl C,hR⟩
 | .ret,K,σ,h=>fun ro m C a w _ _ _ hR=>wpIn_ret ⟨σ,C,h,.refl C,hR⟩
 | .loop c,K,σ,h=>h
 | .rangeFunc ..,K,σ,h=>h
 | .scope c,K,σ,h=>h
 | .label l,K,σ,h=>h
 | .goto l,K,σ,h=>h
 | .refuse s,K,σ,h=>h
theorem Jf2 (hT:J0 P tab) (hP:P.follows .mixedOrders=true) {K:Exit->ASt->Prop} (h:JeX P tab g nt c (Jfu id K) σ):SW P g nt (.block id c) K σ:=fun ro m C a w hnr hC hnt hR=>by
 refine wpIn_block (wpIn_mono (Jck hT hP c h ro m C a w hnr hC hnt hR) (fun e a' w' ⟨σ',C',q,hE,r⟩=> ?_))
 cases e with
 |exit id'=>
  simp only [Exit.inBlock]
  simp only [Jfu] at q
  split
  .
   rename_i he
   subst he
   rw [show Nat.beq id' id'=true from by simp] at q
   exact⟨σ',C',q,hE,r⟩
  .
   rename_i he
   split at q
   . rename_i e2;exact absurd (Nat.eq_of_beq_eq_true e2) he
   . exact⟨σ',C',q,hE,r⟩
 |_=>exact⟨σ',C',q,hE,r⟩
theorem Jsn {K:Exit->ASt->Prop} (h:SW P g nt c (Jfu id K) σ):SW P g nt (.block id c) K σ:=fun ro m C a w hnr hC hnt hR=>by
 refine wpIn_block (wpIn_mono (h ro m C a w hnr hC hnt hR) (fun e a' w' ⟨σ',C',q,hE,r⟩=> ?_))
 cases e with
 |exit id'=>
  simp only [Exit.inBlock]
  simp only [Jfu] at q
  split
  .
   rename_i he
   subst he
   rw [show Nat.beq id' id'=true from by simp] at q
   exact⟨σ',C',q,hE,r⟩
  .
   rename_i he
   split at q
   . rename_i e2;exact absurd (Nat.eq_of_beq_eq_true e2) he
   . exact⟨σ',C',q,hE,r⟩
 |_=>exact⟨σ',C',q,hE,r⟩
def Jug (J:ASt->Prop) (K:Exit->ASt->Prop) (e:Exit) (σ:ASt):Prop:=match e with
 | .normal=>J σ
 |e=>K e σ
theorem Jsm (hT:J0 P tab) (hP:P.follows .mixedOrders=true) {A:Code} {K:Exit->ASt->Prop} {α:Type} (S:α->ASt) (D:α->Prop)
  (h:JeX P tab g nt A (Jug (fun σ'=>∃x gs zs bs,D x∧Wk g σ' (S x) gs zs bs) K) σ) (h2:∀x,D x->JeX P tab g nt c K (S x)):SW P g nt (.seq A c) K σ:=fun ro m C a w hnr hC hnt hR=>by
 refine wpIn_seq (wpIn_mono (Jck hT hP A h ro m C a w (JdP hnr).1 hC hnt hR) (fun e a' w' ⟨σ',C',q,hE,r⟩=> ?_))
 cases e with
 |normal=>
  obtain⟨x,gs,zs,bs,hd,hw⟩:=q
  have hR2:=hw.rel (by rw [hE.γ];exact hC) r
  exact wpIn_mono (Jck hT hP c (h2 x hd) ro m C' a' w' (JdP hnr).2 (by rw [hE.γ];exact hC) (by rw [hE.nt];exact hnt) hR2) (fun e a' w' ⟨σ',C2,q,hE2,r⟩=>⟨σ',C2,q,hE.trans hE2,r⟩)
 |_=>exact⟨σ',C',q,hE,r⟩
theorem Jne (hT:J0 P tab) (hP:P.follows .mixedOrders=true) {A:Code} {K:Exit->ASt->Prop} {α:Type} (S:α->ASt) (D:α->Prop)
  (h:JeX P tab g nt A (Jug (fun σ'=>∃x gs zs bs,D x∧Wk g σ' (S x) gs zs bs) (Jfu id K)) σ) (h2:∀x,D x->JeX P tab g nt c (Jfu id K) (S x)):SW P g nt (.block id (.seq A c)) K σ:=
 Jsn (Jsm hT hP S D h h2)
theorem JhY (hT:J0 P tab) (hP:P.follows .mixedOrders=true) {α:Type} {K:Exit->ASt->Prop} (I:α->Prop) (S:α->ASt) (μ:α->Nat) (x0:α) (h0:I x0) {gs zs bs:List Nat} (hw:Wk g σ (S x0) gs zs bs)
  (round:∀x,I x->JeX P tab g nt c (Jjb (fun σ'=>∃y gs zs bs,I y∧μ y<μ x∧Wk g σ' (S y) gs zs bs) K) (S x)):SW P g nt (.loop c) K σ:=by
 intro ro m C a w hnr hC hnt hR b k cs hro hb hr0
 have key:∀(n:Nat) (x:α) (C:Ctx) (a:Act) (w:World),C.γ.length=g->C.nt=nt->μ x=n->I x->Rel C (Qj (S x).n) (S x) a w->
   ∃e a' w',(∃σ' C',K e σ'∧CExt C C'∧Rel C' (Qj σ'.n) σ' a' w')∧ArrivesIn (Machine.fenced P (wR ro)) P (lone (b.atR a (.code c:: .inLoop c::k)) cs w) b k cs e a' w':=by
  intro n
  induction n using Nat.strongRecOn with
  |_ n ih=>
   intro x C a w hC hnt hn hI hr
   obtain⟨e,a₁,w₁,⟨σ',C1,hq,hE,hr'⟩,harr⟩:=Jck hT hP c (round x hI) ro m C a w hnr hC hnt hr b (.inLoop c::k) cs hro hb hr0
   cases e with
   |normal=>
    obtain⟨y,gs,zs,bs,hIy,hlt,hw'⟩:=hq
    have hC1:C1.γ.length=g:=by rw [hE.γ];exact hC
    obtain⟨e₂,a₂,w₂,⟨σ2,C2,hq₂,hE2,hr2⟩,harr₂⟩:=ih (μ y) (hn▸hlt) y C1 a₁ w₁ hC1 (by rw [hE.nt];exact hnt) rfl hIy (hw'.rel hC1 hr')
    exact⟨e₂,a₂,w₂,⟨σ2,C2,hq₂,hE.trans hE2,hr2⟩,.of_steps (StepsIn.trans harr (.one (fenced_calm hb hr0 rfl) stepR_inLoop)) harr₂⟩
   |exit id=>exact⟨_,a₁,w₁,⟨σ',C1,hq,hE,hr'⟩,.pass (x:= .inLoop c) rfl (fun _ _=> .inl (by simp)) harr⟩
   |goto l=>exact⟨_,a₁,w₁,⟨σ',C1,hq,hE,hr'⟩,.pass (x:= .inLoop c) rfl (fun _ _=> .inl (by simp)) harr⟩
   |ret=>exact⟨_,a₁,w₁,⟨σ',C1,hq,hE,hr'⟩,.pass (x:= .inLoop c) rfl (fun _ _=> .inl (by simp)) harr⟩
   |panic ch=>exact⟨_,a₁,w₁,⟨σ',C1,hq,hE,hr'⟩,.pass (x:= .inLoop c) rfl (fun _ _=> .inl (by simp)) harr⟩
   |outgrown=>exact⟨_,a₁,w₁,⟨σ',C1,hq,hE,hr'⟩,.pass (x:= .inLoop c) rfl (fun _ _=> .inl (by simp)) harr⟩
 obtain⟨e,a',w',hq,harr⟩:=key _ x0 C a w hC hnt rfl h0 (hw.rel hC hR)
 exact⟨e,a',w',hq,.of_steps (.one (fenced_calm hb hr0 rfl) stepR_loop) harr⟩
theorem Ju8 (hT:J0 P tab) (hP:P.follows .mixedOrders=true) {f:FuncId} {fn:Func} {args:List AV} {G G':List ABlk} {res:AV} (hf:P.funcs[f]? =some fn) (hb:fn.body=some c) (hn:fn.ntmps=nt) (hle:Nat.ble args.length nt=true)
  (h:JeX P tab G.length nt c (JuD tab G.length fn.results.toList res G') (entry args G)):AC P f args G res G':=
 JiG hT hP hf hb hn hle (Jck hT hP c h)
end Go.Proofs.YtehhohbnhcogkaaGreatDoor.Ax
namespace Go.Proofs.YtehhohbnhcogkaaGreatDoor.Ax
open Go.RowKit
variable {w':World} {h:Hdr} {l:List NE} {u:AV} {x:Operand} {tab:Tab} {g eb m id:Nat} {o:Oper} {t e:TypeId} {ti:TI} {ez:List AV} {P:Program}
section
variable {C:Ctx} {I:Nat->Prop} {σ:ASt} {a:Act} {w:World} {β:Nat->Option Hdr} {F:Nat->Prop}
theorem RelB.xfer (h:RelB C I σ a w β F) (D:Nat->Prop) {bo:Option Nat} (hs:Same w w' bo) (hbo:∀b,bo=some b->∃id g k,D id∧β id=some g∧σ.H id=some k∧QS g k b) {n:Nat} (hn:¬I n) (g':Hdr) (k':ABlk) (hk':YE w' F (Yg β n g') g' k')
  (hown:∀i,QS g' k' i->(∃id g k,D id∧β id=some g∧σ.H id=some k∧QS g k i)∨(w.heap.size<=i∧i<w'.heap.size)) (H':Nat->Option ABlk) (hHn:H' n=some k') (hHo:∀id k,id≠n->H' id=some k->σ.H id=some k∧¬D id):
  RelB C (fun i=>I i∨i=n) { σ with H:=H' } a w' (Yg β n g') F:=by
 have hβ:=JaZ g' (h.fresh hn)
 have old:∀{id k g},id≠n->H' id=some k->Yg β n g' id=some g->σ.H id=some k∧¬D id∧β id=some g:=fun {id k g} h1 h2 h3=>by
  rw [Yg,if_neg h1] at h3
  exact⟨(hHo id k h1 h2).1,(hHo id k h1 h2).2,h3⟩
 have src:∀{i},(∃id g k,D id∧β id=some g∧σ.H id=some k∧QS g k i)->i<w.heap.size∧¬F i∧C.Mine i:=fun {i} ⟨id,g,k,q1,q2,q3,q4⟩=>by
  obtain⟨g2,r1,_,r3⟩:=h.live id k q3
  rw [q2] at r1
  cases r1
  exact r3 i q4
 have clash:∀{id k g i},σ.H id=some k->¬D id->β id=some g->QS g k i->((∃id g k,D id∧β id=some g∧σ.H id=some k∧QS g k i)∨(w.heap.size<=i∧i<w'.heap.size))->False:=fun {id k g i} h1 h2 h3 h4 h5=>by
  rcases h5 with⟨id2,g2,k2,q1,q2,q3,q4⟩|⟨q1,_⟩
  .
   have:=h.inj id id2 k k2 g g2 i h1 q3 h3 q2 h4 q4
   exact h2 (this▸q1)
  .
   obtain⟨g2,r1,_,r3⟩:=h.live id k h1
   rw [h3] at r1
   cases r1
   have:=(r3 i h4).1
   omega
 refine h.step hs (fun i e=> ?_) _ (fun i hi=> .inl hi) H' _ hβ (fun id g e=> ?_) (fun id k e=> ?_) (fun id1 id2 k1 k2 g1 g2 i e1 e2 e3 e4 e5 e6=> ?_)
 .
  obtain⟨q1,q2,q3⟩:=src (hbo i e)
  refine⟨q2,fun hlt=> ?_⟩
  rcases q3 with q3 |q3
  . exact q3
  . omega
 .
  unfold Yg at e
  split at e
  . exact .inr ‹_›
  . exact .inl (h.dom _ _ e)
 .
  by_cases hid:id=n
  .
   subst hid
   rw [hHn] at e
   cases e
   refine .inr ⟨g',J7 _ _ _,hk',fun i hi=> ?_⟩
   rcases hown i hi with hi |⟨h1,h2⟩
   .
    obtain⟨q1,q2,q3⟩:=src hi
    exact⟨Nat.lt_of_lt_of_le q1 hs.size,q2,q3⟩
   . exact⟨h2,fun hF=>by have:=(h.news i hF).1;omega,.inr (Nat.le_trans h.grow h1)⟩
  .
   obtain⟨q1,q2⟩:=hHo id k hid e
   exact .inl ⟨q1,fun g i e1 e2 e3=>clash q1 q2 e1 e2 (.inl (hbo i e3.symm))⟩
 .
  by_cases hid:id1=n<;>by_cases hid':id2=n
  . rw [hid,hid']
  .
   obtain⟨o1,o2,o3⟩:=old hid' e2 e4
   subst hid
   rw [J7] at e3
   rw [hHn] at e1
   cases e3
   cases e1
   exact(clash o1 o2 o3 e6 (hown i e5)).elim
  .
   obtain⟨o1,o2,o3⟩:=old hid e1 e3
   subst hid'
   rw [J7] at e4
   rw [hHn] at e2
   cases e4
   cases e2
   exact(clash o1 o2 o3 e5 (hown i e6)).elim
  .
   obtain⟨o1,_,o3⟩:=old hid e1 e3
   obtain⟨p1,_,p3⟩:=old hid' e2 e4
   exact h.inj id1 id2 k1 k2 g1 g2 i o1 p1 o3 p3 e5 e6
end
theorem Jel {b:Option Nat} {n c:Nat} {i x:Nat} (hk:h.kids.length=l.length):Jco ⟨b,n,c,h.kids++[(none,0,0)]⟩ (l++[.raw u]) i x->Jco h l i x:=by
 rintro⟨xs,y,h1,h2,h3⟩
 rcases Nat.lt_or_ge i l.length with hi |hi
 .
  rw [Wc hi] at h1
  rw [Wc (by omega)] at h2
  exact⟨xs,y,h1,h2,h3⟩
 .
  rw [List.getElem?_append_right hi] at h1
  have:=(List.getElem?_eq_some_iff.1 h1).1
  simp only [List.length_singleton] at this
  rw [show i - l.length=0 by omega] at h1
  cases h1
theorem Jlv {w:World} {F:Nat->Prop} {β β':Nat->Option Hdr} (hr:JfY w F β h l) (hF:∀b,F b->w'.heap[b]? =w.heap[b]?) (hβ:∀id g,β id=some g->β' id=some g) (hkid:∀i b,Jco h l i b->w'.heap[b]? =w.heap[b]?) {v:Value} (h1:u.one=true) (hv:RV w F β u v)
  {b cap:Nat} (hc:l.length+1<=cap) (hm:cap<=maxLen) (hb:∀i x,Jco h l i x->b≠x) {arr0 arr:Array Value} {ty:TypeId} (ho:∀b',h.blk=some b'->∃ty',w.heap[b']? =some (.cells arr0 ty' (0,0)))
  (hw:w'.heap[b]? =some (.cells arr ty (0,0))) (hs:cap<=arr.size) (ha:∀i,i<l.length->arr[i]? =arr0[i]?) (hn:arr[l.length]? =some v):JfY w' F β' ⟨some b,l.length+1,cap,h.kids++[(none,0,0)]⟩ (l++[.raw u]):=by
 obtain⟨r1,r2,r3,r4,r5,r6,r7,r8,r9⟩:=hr
 refine⟨by simp,by simpa using hc,hm,(fun e=>by cases e),by simp [r5],fun i j x k1 k2=>r6 i j x (Jel r5 k1) (Jel r5 k2),fun i x k1 e=>by cases e;exact hb i b (Jel r5 k1) rfl,fun i e x hi hx=> ?_,fun b' e=> ?_⟩
 .
  rcases Nat.lt_or_ge i l.length with hl |hl
  .
   rw [Wc hl] at hi
   rw [Wc (by omega)] at hx
   have:=r8 i e x hi hx
   cases e with
   |hid xs=>exact Jmg.mono this (fun b' hb'=>hkid i b' ⟨xs,x,hi,hx,hb'⟩)
   |ext id=>obtain⟨g,q1,q2⟩:=this;exact⟨g,hβ _ _ q1,q2⟩
   |raw u=>trivial
  .
   rw [List.getElem?_append_right hl] at hi
   have:=(List.getElem?_eq_some_iff.1 hi).1
   simp only [List.length_singleton] at this
   rw [show i - l.length=0 by omega] at hi
   cases hi
   trivial
 .
  cases e
  refine⟨arr,ty,hw,hs,fun i e x hi hx=> ?_⟩
  rcases Nat.lt_or_ge i l.length with hl |hl
  .
   rw [Wc hl] at hi
   rw [Wc (by omega)] at hx
   cases hblk:h.blk with
   |none=>have:=r4 hblk;omega
   |some b'=>
    obtain⟨arr',ty',s1,s2,s3⟩:=r9 b' hblk
    obtain⟨ty2,t1⟩:=ho b' hblk
    rw [s1] at t1
    cases t1
    obtain⟨v',v1,v2⟩:=s3 i e x hi hx
    refine⟨v',by rw [ha i hl];exact v1,?_⟩
    cases e with
    |hid xs=>exact v2
    |ext id=>exact v2
    |raw u=>exact⟨v2.1,v2.2.mono (fun _ x=>x) hF hβ⟩
  .
   rw [List.getElem?_append_right hl] at hi
   have hi0:i=l.length:=by
    have:=(List.getElem?_eq_some_iff.1 hi).1
    simp only [List.length_singleton] at this
    omega
   subst hi0
   rw [Nat.sub_self] at hi
   cases hi
   exact⟨v,hn,h1,hv.mono (fun _ x=>x) hF hβ⟩
theorem JmB {P:Program} (hT:J0 P tab) {σ:ASt} {s:Operand} {u:AV} {wr:List (Nat×Option ABlk)} {ids:List Nat}
  (ho:o.op= .call { callee:= .builtin .append,args:= #[s,x],argTypes:= #[t,t] }) (ht:tab t=some ti) (hd:ti.d= .slc e 1 eb ez) (hez:ez.length=1)
  (hs0:(ev σ.env s= .nils∧l=[]∧wr=[])∨(∃id,ev σ.env s= .osl id∧σ.H id=some (.nest l)∧wr=[(id,none)])) (hx:Ji7 σ.H (ev σ.env x) 1 [[u]] ids) (hb:(l.length+1)*eb<=140737488355328) (h63:l.length+1<=maxLen):
  YD P g o σ ⟨.osl σ.n,wr++[(σ.n,some (.nest (l++[.raw u])))],ids,σ.n+1⟩:=by
 refine⟨Nat.le_succ _,fun C I σ2 a w K Q hC hxs hH hI hdd hR hK=> ?_⟩
 obtain⟨β,F,hR⟩:=hR
 have hn:¬I σ.n:=hI σ.n (Nat.le_refl _) (Wn _)
 have v1:=hxs s (by simp [ho,Op.operands,Call.operands]) _ _ _ _ (hR.ev s)
 have v2:=hxs x (by simp [ho,Op.operands,Call.operands]) _ _ _ _ (hR.ev x)
 have hx2:=Jer hx (H2:=σ2.H) (fun id hid=>hH id (by simp [hid]))
 obtain⟨i0,d0,z0,_,k1,_,_,_,_,k2⟩:=JP (hT t ti ht)
 rw [hd] at k2
 obtain⟨i,z,rfl,k3,ki,rfl,k4,rfl⟩:=JaD k2.symm
 have hzs:z.cells.size=i.size:=by rw [ki];simpa using hez
 obtain⟨xa,xc,news,hxv,hxa,hfl,hcells⟩:=Jbd hx2 (hR.known ids) v2
 have hfirst:=Jg7 (P:=P) hxa hfl hcells (c:=xc)
 rw [<-ki] at hfirst hfl
 have hnl:news.length=1:=by have:=hfl.1;rw [ki] at this;simpa using this
 obtain⟨v,rfl⟩:∃v,news=[v]:=by
  cases news with
  |nil=>simp at hnl
  |cons v l=>cases l with
   |nil=>exact⟨v,rfl⟩
   |cons _ _=>simp at hnl
 have hu1:u.one=true:=(hfl.2.1 0 [u] rfl).2 u (by simp)
 have hv:RV w F β u v:=by
  obtain⟨v',q1,q2⟩:=hfl.2.2 0 [u] 0 u rfl rfl
  rw [ki] at q1
  cases q1
  exact q2
 obtain⟨ad,rfl⟩:∃ad,xa=some ad:=by
  cases xa with
  |none=>have:=hxa rfl;cases this
  |some ad=>exact⟨ad,rfl⟩
 obtain⟨h,D,hsv,hN,hD1,hD2,hD3⟩:∃(h:Hdr) (D:Nat->Prop),a.eval s= .slice (J5 h.blk 0) h.len h.cap∧JfY w F β h l∧(∀b,QS h (.nest l) b->∃id g k,D id∧β id=some g∧σ2.H id=some k∧QS g k b)∧(∀k',wrH σ2.H (wr++[(σ.n,k')]) σ.n=k')∧∀k' id k,id≠σ.n->wrH σ2.H (wr++[(σ.n,k')]) id=some k->σ2.H id=some k∧¬D id:=by
  rcases hs0 with⟨e1,rfl,rfl⟩|⟨id,e1,e2,rfl⟩
  .
   rw [e1] at v1
   generalize hsv:a.eval s=sv at v1
   cases v1
   refine⟨YN none 0 0,fun _=>False,rfl,⟨rfl,Nat.le_refl _,by simp [maxLen],fun _=>rfl,rfl,fun i j b ⟨xs,x,q,_⟩=>by simp at q,fun i b ⟨xs,x,q,_⟩=>by simp at q,fun i e x q=>by simp at q,fun b e=>by cases e⟩,fun b hb=> ?_,fun k'=> ?_,fun k' id k hid e=>⟨?_,fun h=>h⟩⟩
   .
    rcases hb with hb |⟨i,xs,x,q,_⟩
    . cases hb
    . simp at q
   .
    show ZI σ2.H σ.n k' σ.n=k'
    exact Qk _ _ _
   .
    have e':ZI σ2.H σ.n k' id=some k:=e
    rwa [YW _ _ hid] at e'
  .
   rw [e1] at v1
   have hH':σ2.H id=some (.nest l):=by rw [hH id (by simp)];exact e2
   obtain⟨h,q1,q2,q3⟩:=hR.live id _ hH'
   generalize hsv:a.eval s=sv at v1
   cases v1 with
   |osl _ h' q4=>
   rw [q1] at q4
   cases q4
   have hne:id≠σ.n:=fun e=>hn (e▸hR.dom id h q1)
   refine⟨h,fun j=>j=id,rfl,q2,fun b hb=>⟨id,h,_,rfl,q1,hH',hb⟩,fun k'=> ?_,fun k' j k hj e=> ?_⟩
   .
    show ZI (ZI σ2.H id none) σ.n k' σ.n=k'
    exact Qk _ _ _
   .
    have e':ZI (ZI σ2.H id none) σ.n k' j=some k:=e
    rw [YW _ _ hj] at e'
    by_cases hji:j=id
    . subst hji;rw [Qk] at e';cases e'
    . rw [YW _ _ hji] at e';exact⟨e',hji⟩
 have hNN:=hN
 obtain⟨r1,r2,r3,r4,r5,r6,r7,r8,r9⟩:=hN
 have hkown:∀j b,Jco h l j b->∃id g k,D id∧β id=some g∧σ2.H id=some k∧QS g k b:=fun j b hk=>hD1 b (.inr ⟨j,hk⟩)
 have hsrc:∀{b},(∃id g k,D id∧β id=some g∧σ2.H id=some k∧QS g k b)->b<w.heap.size∧¬F b∧C.Mine b:=fun {b} ⟨id,g,k,_,q2,q3,q4⟩=>by
  obtain⟨g2,t1,_,t3⟩:=hR.live id k q3
  rw [q2] at t1
  cases t1
  exact t3 b q4
 have hβ':∀g',∀id g,β id=some g->Yg β σ.n g' id=some g:=fun g'=>JaZ g' (hR.fresh hn)
 have hx1:([[u]]:List (List AV)).length=1:=rfl
 rw [hx1] at hfirst hxv
 have hcn:=hcells ad rfl
 suffices hh:∃w' b cap,(Builtin.append_ #[t,t] o.type #[.slice (J5 h.blk 0) h.len h.cap,.slice (some ad) 1 xc]).run P w= .ok (.slice (some ⟨b,0,none⟩) (l.length+1) cap) w'∧
   RelB C (fun i=>I i∨i=σ.n) { σ2 with H:=wrH σ2.H (wr++[(σ.n,some (.nest (l++[.raw u])))]) } a w' (Yg β σ.n ⟨some b,l.length+1,cap,h.kids++[(none,0,0)]⟩) F by
  obtain⟨w',b,cap,q1,q2⟩:=hh
  refine upon_value (u:= .slice (some ⟨b,0,none⟩) (l.length+1) cap) (w':=w') ?_ (hK _ _ ⟨_,F,(q2.put o.dst (.osl σ.n) _ hdd ?_).fin rfl rfl (fun i hi=>Jcs hi)⟩)
  . simp [execOp,ho,resolve,invoke,builtin,hsv,hxv,q1]
  . exact .osl σ.n ⟨some b,l.length+1,cap,h.kids++[(none,0,0)]⟩ (J7 _ _ _)
 by_cases hroom:h.len+1<=h.cap
 .
  cases hb':h.blk with
  |none=>have:=r4 hb';omega
  |some b=>
   obtain⟨arr,ty',t1,t2,t3⟩:=r9 b hb'
   have hrun:=JiT (P:=P) w t o.type e i k1 k3 b h.len h.cap arr ty' t1 (some ad) 1 xc [v] hfirst hfl.one hroom (by rw [ki];simp;omega)
   rw [ki,Nat.mul_one] at hrun
   generalize hA:(arr.toList.take h.len++[v]++arr.toList.drop (h.len+[v].length)).toArray=A at hrun
   have hAs:A.size=arr.size:=by
    rw [<-hA]
    simp only [List.size_toArray,List.length_append,List.length_take,List.length_drop,Array.length_toList,List.length_singleton]
    omega
   have hAlt:∀p,p<l.length->A[p]? =arr[p]? :=fun p hp=>by
    rw [<-hA]
    simp only [List.getElem?_toArray]
    rw [Wc (by simp;omega),Wc (by simp;omega),List.getElem?_take,if_pos (by omega),Wu]
   have hAn:A[l.length]? =some v:=by
    rw [<-hA]
    simp only [List.getElem?_toArray]
    have hl:(arr.toList.take h.len).length=l.length:=by simp;omega
    rw [Wc (by rw [List.length_append,hl];simp),List.getElem?_append_right (by rw [hl];exact Nat.le_refl _),hl,Nat.sub_self]
    rfl
   have hheap:=setRow_heap w b arr A ty' _ t1
   have hob:=hD1 b (.inl hb')
   obtain⟨d4,d5,d6⟩:=hsrc hob
   refine⟨w.setRow b A,b,h.cap,by rw [r1] at hrun ⊢;exact hrun,?_⟩
   refine hR.xfer D (QV w b A) (fun b2 e2=>by cases e2;exact hob) hn _ _ ?_ (fun j hj=> .inl ?_) _ (hD2 _) (hD3 _)
   . refine Jlv hNN (fun j hj=>(QV w b A).block j (hR.news j hj).1 (fun e=>d5 (by cases e;exact hj))) (hβ' _) (fun j x hk=>(QV w b A).block x (hsrc (hkown j x hk)).1 (fun e=>by cases e;exact r7 j b hk hb')) hu1 hv (by omega) r3 (fun j x hk e=>r7 j x hk (by rw [hb',e])) (arr0:=arr) (fun b2 e2=>by rw [hb'] at e2;cases e2;exact⟨ty',t1⟩) hheap (by rw [hAs];exact t2) hAlt hAn
   .
    rcases hj with hj |⟨j2,hj⟩
    . cases hj;exact hob
    . exact hkown j2 j (Jel r5 hj)
 .
  have hge:=grownCap_ge w (h.len+1) h.cap e
  have hcm:=grownCap_le_maxLen w (h.len+1) h.cap e (by rw [r1];exact h63)
  obtain⟨arr0,ho0,A,hrun,hAsz,hAlt,hAn⟩:∃arr0:Array Value,(∀b',h.blk=some b'->∃ty',w.heap[b']? =some (.cells arr0 ty' (0,0)))∧∃A:Array Value,(Builtin.append_ #[t,t] o.type #[.slice (J5 h.blk 0) h.len h.cap,.slice (some ad) 1 xc]).run P w= .ok (.slice (some ⟨w.heap.size,0,none⟩) (h.len+1) (grownCap w (h.len+1) h.cap e)) (w.drew.alloc (.cells A e))∧
    grownCap w (h.len+1) h.cap e<=A.size∧(∀p,p<l.length->A[p]? =arr0[p]?)∧A[l.length]? =some v:=by
   cases hb':h.blk with
   |none=>
    have hc0:=r4 hb'
    have hl0:h.len=0:=by omega
    have hr:=run_append_nil (P:=P) w t o.type e i z k1 k3 k4 ad 1 xc [v] (by rw [ki];rfl) hcn (by omega) (by omega) (by have:1*i.bytes<=(l.length+1)*i.bytes:=Nat.mul_le_mul_right _ (by omega);omega)
    rw [hl0,hc0]
    simp only [Nat.zero_add] at hr ⊢
    refine⟨#[],(fun b' e=>by cases e),_,hr,?_,fun p hp=>by omega,?_⟩
    .
     rw [Array.size_append,size_zeroCells,hzs,ki]
     simp
     omega
    .
     have:l.length=0:=by omega
     rw [this]
     rw [Array.getElem?_append_left (by simp)]
     rfl
   |some b=>
    obtain⟨arr,ty',t1,t2,t3⟩:=r9 b hb'
    have hol:(arr.toList.take h.len).length=h.len:=by simp;omega
    have hr:=run_append_grow (P:=P) w t o.type e i z k1 k3 k4 ⟨b,0,none⟩ h.len h.cap (arr.toList.take h.len) (by rw [hol,ki,Nat.mul_one]) (fun j u hu=>by
     rw [Addr.add_lit,Nat.zero_add]
     rw [List.getElem?_take] at hu
     split at hu
     . simp [World.cell?,t1];simpa using hu
     . cases hu) ad 1 xc [v] (by rw [ki];rfl) hcn (by omega) (by simp only [maxLen] at h63;omega) (growslice_fits (by omega) (by rw [r1];exact hb))
    refine⟨arr,(fun b' e=>by cases e;exact⟨ty',t1⟩),_,hr,?_,fun p hp=> ?_,?_⟩
    .
     simp only [Array.size_append,List.size_toArray,hol,size_zeroCells,hzs,ki,List.length_singleton]
     omega
    .
     rw [Array.getElem?_append_left (by simp;omega),Array.getElem?_append_left (by simp;omega)]
     simp only [List.getElem?_toArray]
     rw [List.getElem?_take,if_pos (by omega),Wu]
    .
     rw [Array.getElem?_append_left (by simp;omega),Array.getElem?_append_right (by simp;omega)]
     simp only [List.size_toArray,hol,List.getElem?_toArray]
     rw [show l.length - h.len=0 by omega]
     rfl
  have hns:=JgQ w (.cells A e)
  rw [r1] at hrun
  refine⟨_,w.heap.size,grownCap w (h.len+1) h.cap e,by rw [r1];exact hrun,?_⟩
  refine hR.xfer D hns (fun b2 e2=>by cases e2) hn _ _ ?_ (fun j hj=> ?_) _ (hD2 _) (hD3 _)
  . refine Jlv hNN (fun j hj=>hns.block j (hR.news j hj).1 (by simp)) (hβ' _) (fun j x hk=>hns.block x (hsrc (hkown j x hk)).1 (by simp)) hu1 hv (by omega) hcm (fun j x hk e=>by have:=(hsrc (hkown j x hk)).1;omega) (arr0:=arr0) ho0 (heap_alloc_new w.drew _) hAsz hAlt hAn
  .
   rcases hj with hj |⟨j2,hj⟩
   . cases hj;exact .inr ⟨Nat.le_refl _,by simp⟩
   . exact .inl (hkown j2 j (Jel r5 hj))
theorem Jek {i x:Nat} {e:NE} (he:∀xs,e≠ .hid xs):Jco h (l.set m e) i x->Jco h l i x∧i≠m:=by
 rintro⟨xs,y,h1,h2,h3⟩
 by_cases hi:m=i
 .
  subst hi
  by_cases hl:m<l.length
  .
   rw [List.getElem?_set_self hl] at h1
   cases h1
   exact(he _ rfl).elim
  .
   rw [List.getElem?_eq_none (by rw [List.length_set];omega)] at h1
   cases h1
 .
  rw [List.getElem?_set_ne hi] at h1
  exact⟨⟨xs,y,h1,h2,h3⟩,fun e=>hi e.symm⟩
theorem Jlu {w:World} {F:Nat->Prop} {β β':Nat->Option Hdr} (hr:JfY w F β h l) {e':NE} (he:∀xs,e'≠ .hid xs) (hF:∀b,F b->w'.heap[b]? =w.heap[b]?) (hβ:∀id g,β id=some g->β' id=some g) (hkid:∀i b,Jco h l i b->w'.heap[b]? =w.heap[b]?)
  (hx:∀x,h.kids[m]? =some x->m<l.length->NER w' β' x e') (hw:∀b arr ty,h.blk=some b->w.heap[b]? =some (.cells arr ty (0,0))->∃arr',w'.heap[b]? =some (.cells arr' ty (0,0))∧arr'.size=arr.size∧(∀i,i≠m->arr'[i]? =arr[i]?)∧∀x,m<l.length->h.kids[m]? =some x->∃v,arr'[m]? =some v∧NEV w' F β' x v e'):
  JfY w' F β' h (l.set m e'):=by
 obtain⟨r1,r2,r3,r4,r5,r6,r7,r8,r9⟩:=hr
 refine⟨by rw [List.length_set];exact r1,by rw [List.length_set];exact r2,r3,r4,by rw [List.length_set];exact r5,fun i j x k1 k2=>r6 i j x (Jek he k1).1 (Jek he k2).1,fun i x k1=>r7 i x (Jek he k1).1,fun i e x hi hxi=> ?_,fun b hb=> ?_⟩
 .
  by_cases him:m=i
  .
   subst him
   have hl:m<l.length:=by have:=(List.getElem?_eq_some_iff.1 hi).1;rwa [List.length_set] at this
   rw [List.getElem?_set_self hl] at hi
   cases hi
   exact hx x hxi hl
  .
   rw [List.getElem?_set_ne him] at hi
   have:=r8 i e x hi hxi
   cases e with
   |hid xs=>exact Jmg.mono this (fun b' hb'=>hkid i b' ⟨xs,x,hi,hxi,hb'⟩)
   |ext id=>obtain⟨g,q1,q2⟩:=this;exact⟨g,hβ _ _ q1,q2⟩
   |raw u=>trivial
 .
  obtain⟨arr,ty,s1,s2,s3⟩:=r9 b hb
  obtain⟨arr',t1,t2,t3,t4⟩:=hw b arr ty hb s1
  refine⟨arr',ty,t1,by rw [t2];exact s2,fun i e x hi hxi=> ?_⟩
  by_cases him:m=i
  .
   subst him
   have hl:m<l.length:=by have:=(List.getElem?_eq_some_iff.1 hi).1;rwa [List.length_set] at this
   rw [List.getElem?_set_self hl] at hi
   cases hi
   exact t4 x hl hxi
  .
   rw [List.getElem?_set_ne him] at hi
   obtain⟨v',v1,v2⟩:=s3 i e x hi hxi
   refine⟨v',by rw [t3 i (fun e=>him e.symm)];exact v1,?_⟩
   cases e with
   |hid xs=>exact v2
   |ext id=>exact v2
   |raw u=>exact⟨v2.1,v2.2.mono (fun _ x=>x) hF hβ⟩
theorem Jlq (hT:J0 P tab) {σ:ASt} {xs:List Int}
  (ho:o.op= .load t x) (ht:tab t=some ti) (hg:ti.agg=false) (hx0:ev σ.env x= .eptr id 1 m 0) (hH0:σ.H id=some (.nest l)) (hm:l[m]? =some (.hid xs)):
  YD P g o σ ⟨.osl σ.n,[(id,some (.nest (l.set m (.ext σ.n)))),(σ.n,some (.row 1 (xs.map fun n=>[.int .i64 n])))],[],σ.n+1⟩:=by
 refine⟨Nat.le_succ _,fun C I σ2 a w K Q hC hxs hH hI hdd hR hK=> ?_⟩
 obtain⟨β,F,hR⟩:=hR
 have hn:¬I σ.n:=hI σ.n (Nat.le_refl _) (Wn _)
 have v1:=hxs x (by simp [ho,Op.operands]) _ _ _ _ (hR.ev x)
 rw [hx0] at v1
 have hH':σ2.H id=some (.nest l):=by rw [hH id (by simp)];exact hH0
 obtain⟨h,q1,q2,q3⟩:=hR.live id _ hH'
 have hNN:=q2
 obtain⟨r1,r2,r3,r4,r5,r6,r7,r8,r9⟩:=q2
 have hne:id≠σ.n:=fun e=>hn (e▸hR.dom id h q1)
 have hml:=(List.getElem?_eq_some_iff.1 hm).1
 obtain⟨kx,hkx⟩:∃kx,h.kids[m]? =some kx:=⟨_,Wg (by rw [r5];exact hml)⟩
 have hkr:Jmg w kx xs:=r8 m _ kx hm hkx
 generalize hpv:a.eval x=pv at v1
 cases v1 with
 |eptr _ _ _ _ b h' f1 f2=>
 rw [q1] at f1
 cases f1
 obtain⟨arr,ty,s1,s2,s3⟩:=r9 b f2
 obtain⟨v,w1,w2⟩:=s3 m _ kx hm hkx
 have hv:v= .slice (J5 kx.1 0) kx.2.1 kx.2.2:=w2
 let gk:Hdr:=YN kx.1 kx.2.1 kx.2.2
 have hβ:=JaZ gk (hR.fresh hn)
 obtain⟨ii,dd,z,g1,g2,_,g3,g4,_,_⟩:=JP (hT t ti ht)
 have hrun:(execOp a.eval o).run P w= .ok (.value v) w:=by
  simp only [Nat.mul_one,Nat.add_zero] at hpv
  have hl:(loadVar t ⟨b,m,none⟩).run P w= .ok v w:=by
   simp [loadVar,Jdg w g2,<-g3,hg,load,Sem.run,World.cell?,s1,w1]
  simp [execOp,ho,hpv,Instr.loadAt,Instr.sureAddr,hl]
 refine upon_value (u:=v) (w':=w) hrun (hK _ _ ⟨Yg β σ.n gk,F,?_⟩)
 have hrow:YE w F (Yg β σ.n gk) gk (.row 1 (xs.map fun n=>[.int .i64 n])):=by
  obtain⟨u1,u2,u3,u4,u5⟩:=hkr
  have ec:∀(i:Nat) (c:List AV),(xs.map fun n=>[AV.int .i64 n])[i]? =some c->∃n,xs[i]? =some n∧c=[AV.int .i64 n]:=fun i c hc=>by
   rw [Wp] at hc
   cases hn:xs[i]? with
   |none=>rw [hn] at hc;cases hc
   |some n=>rw [hn] at hc;cases hc;exact⟨n,rfl,rfl⟩
  refine⟨by rw [List.length_map];exact u1,by rw [List.length_map];exact u2,u3,u4,fun k c hk=> ?_,fun b' e=> ?_⟩
  .
   obtain⟨n,_,rfl⟩:=ec k c hk
   exact⟨rfl,fun u hu=>by simp at hu;subst hu;rfl⟩
  .
   obtain⟨arr',ty',x1,x2,x3⟩:=u5 b' e
   refine⟨arr',ty',x1,by rw [Nat.mul_one];exact x2,fun k c j u hk hj=> ?_⟩
   obtain⟨n,hn',rfl⟩:=ec k c hk
   have hj0:j=0:=by have:=(List.getElem?_eq_some_iff.1 hj).1;simpa using this
   subst hj0
   cases hj
   exact⟨_,by rw [Nat.mul_one,Nat.add_zero];exact x3 k n hn',.int _ _⟩
 have hnest:JfY w F (Yg β σ.n gk) h (l.set m (.ext σ.n)):=by
  refine Jlu hNN (fun _ e=>by cases e) (fun _ _=>rfl) hβ (fun _ _ _=>rfl) (fun x hx _=> ?_) (fun b2 arr2 ty2 e2 e3=>⟨arr2,e3,rfl,fun _ _=>rfl,fun x _ hx=> ?_⟩)
  .
   rw [hkx] at hx
   cases hx
   exact⟨gk,J7 _ _ _,rfl⟩
  .
   rw [hkx] at hx
   cases hx
   rw [f2] at e2
   cases e2
   rw [s1] at e3
   cases e3
   exact⟨v,w1,w2⟩
 have hmain:RelB C (fun i=>I i∨i=σ.n) { σ2 with H:=ZI (ZI σ2.H id (some (.nest (l.set m (.ext σ.n))))) σ.n (some (.row 1 (xs.map fun n=>[.int .i64 n]))) } a w (Yg β σ.n gk) F:=by
  have old:∀{j k},j≠σ.n->ZI (ZI σ2.H id (some (.nest (l.set m (.ext σ.n))))) σ.n (some (.row 1 (xs.map fun n=>[.int .i64 n]))) j=some k->(j=id∧k= .nest (l.set m (.ext σ.n)))∨(j≠id∧σ2.H j=some k):=fun {j k} h1 e=>by
   rw [YW _ _ h1] at e
   by_cases hji:j=id
   . subst hji;rw [Qk] at e;exact .inl ⟨rfl,(Wi e).symm⟩
   . rw [YW _ _ hji] at e;exact .inr ⟨hji,e⟩
  have own:∀{j k gj i},ZI (ZI σ2.H id (some (.nest (l.set m (.ext σ.n))))) σ.n (some (.row 1 (xs.map fun n=>[.int .i64 n]))) j=some k->Yg β σ.n gk j=some gj->QS gj k i->(j=σ.n∧Jco h l m i)∨(j=id∧gj=h∧QS h (.nest (l.set m (.ext σ.n))) i)∨(j≠id∧j≠σ.n∧σ2.H j=some k∧β j=some gj∧QS gj k i):=fun {j k gj i} e1 e2 e3=>by
   by_cases hj:j=σ.n
   .
    subst hj
    rw [J7] at e2
    rw [Qk] at e1
    cases e2
    cases e1
    rcases e3 with e3 |e3
    . exact .inl ⟨rfl,xs,kx,hm,hkx,e3⟩
    . exact e3.elim
   .
    rw [Yg,if_neg hj] at e2
    rcases old hj e1 with⟨rfl,rfl⟩|⟨h1,h2⟩
    .
     rw [q1] at e2
     cases e2
     exact .inr (.inl ⟨rfl,rfl,e3⟩)
    . exact .inr (.inr ⟨h1,hj,h2,e2,e3⟩)
  have sub:∀{i},QS h (.nest (l.set m (.ext σ.n))) i->QS h (.nest l) i∧¬Jco h l m i:=fun {i} hi=>by
   rcases hi with hi |⟨j,hi⟩
   . exact⟨.inl hi,fun hk=>r7 m i hk hi⟩
   .
    obtain⟨k1,k2⟩:=Jek (fun _ e=>by cases e) hi
    exact⟨.inr ⟨j,k1⟩,fun hk=>k2 (r6 j m i k1 hk)⟩
  refine hR.step (w':=w) (b:=none) ⟨rfl,.it,rfl,Nat.le_refl _,fun _ _ _=>rfl⟩ (fun i e=>by cases e) _ (fun i hi=> .inl hi) _ _ hβ (fun j gj e=> ?_) (fun j k e=> ?_) (fun j1 j2 k1 k2 gj1 gj2 i e1 e2 e3 e4 e5 e6=> ?_)
  .
   unfold Yg at e
   split at e
   . exact .inr ‹_›
   . exact .inl (hR.dom _ _ e)
  .
   by_cases hj:j=σ.n
   .
    subst hj
    rw [Qk] at e
    cases e
    refine .inr ⟨gk,J7 _ _ _,hrow,fun i hi=> ?_⟩
    rcases hi with hi |hi
    . exact q3 i (.inr ⟨m,xs,kx,hm,hkx,hi⟩)
    . exact hi.elim
   .
    rcases old hj e with⟨rfl,rfl⟩|⟨h1,h2⟩
    . exact .inr ⟨h,hβ _ _ q1,hnest,fun i hi=>q3 i (sub hi).1⟩
    . exact .inl ⟨h2,fun _ _ _ _=>by simp⟩
  .
   rcases own e1 e3 e5 with⟨o1,o2⟩|⟨o1,o2,o3⟩|⟨o1,o2,o3,o4,o5⟩<;>rcases own e2 e4 e6 with⟨p1,p2⟩|⟨p1,p2,p3⟩|⟨p1,p2,p3,p4,p5⟩
   . rw [o1,p1]
   . exact absurd o2 (sub p3).2
   . exact absurd (hR.inj id j2 _ k2 h gj2 i hH' p3 q1 p4 (.inr ⟨m,o2⟩) p5).symm p1
   . exact absurd p2 (sub o3).2
   . rw [o1,p1]
   . exact absurd (hR.inj id j2 _ k2 h gj2 i hH' p3 q1 p4 (sub o3).1 p5).symm p1
   . exact absurd (hR.inj j1 id k1 _ gj1 h i o3 hH' o4 q1 o5 (.inr ⟨m,p2⟩)) o1
   . exact absurd (hR.inj j1 id k1 _ gj1 h i o3 hH' o4 q1 o5 (sub p3).1) o1
   . exact hR.inj j1 j2 k1 k2 gj1 gj2 i o3 p3 o4 p4 o5 p5
 refine(hmain.put o.dst (.osl σ.n) v hdd ?_).fin rfl rfl (fun i hi=>Jcs hi)
 rw [hv]
 exact .osl σ.n gk (J7 _ _ _)
theorem Jj4 (hT:J0 P tab) {σ:ASt} {k:Nat} 
  (ho:o.op= .load t x) (ht:tab t=some ti) (hg:ti.agg=false) (hx0:ev σ.env x= .eptr id 1 m 0) (hH0:σ.H id=some (.nest l)) (hm:l[m]? =some (.ext k)):
  YD P g o σ ⟨.osl k,[],[id],σ.n⟩:=by
 refine JB (v:= .osl k) (ids:=[id]) ?_
 intro w F β a hx hK
 have h1:=hx x (by simp [ho,Op.operands])
 rw [hx0] at h1
 obtain⟨h,q1,r1,r2,r3,r4,r5,r6,r7,r8,r9⟩:=hK id (by simp) _ hH0
 have hml:=(List.getElem?_eq_some_iff.1 hm).1
 obtain⟨kx,hkx⟩:∃kx,h.kids[m]? =some kx:=⟨_,Wg (by rw [r5];exact hml)⟩
 obtain⟨gk,t1,rfl⟩:=r8 m _ kx hm hkx
 generalize hpv:a.eval x=pv at h1
 cases h1 with
 |eptr _ _ _ _ b h' f1 f2=>
 rw [q1] at f1
 cases f1
 obtain⟨arr,ty,s1,s2,s3⟩:=r9 b f2
 obtain⟨v,w1,w2⟩:=s3 m _ _ hm hkx
 have hv:v= .slice (J5 gk.blk 0) gk.len gk.cap:=w2
 obtain⟨ii,dd,z,g1,g2,_,g3,g4,_,_⟩:=JP (hT t ti ht)
 refine⟨v,?_,by rw [hv];exact .osl k gk t1⟩
 simp only [Nat.mul_one,Nat.add_zero] at hpv
 have hl:(loadVar t ⟨b,m,none⟩).run P w= .ok v w:=by
  simp [loadVar,Jdg w g2,<-g3,hg,load,Sem.run,World.cell?,s1,w1]
 simp [execOp,ho,hpv,Instr.loadAt,Instr.sureAddr,hl]
theorem Jjo (hT:J0 P tab) {σ:ASt} {ix:Operand} {k:IntKind} 
  (ho:o.op= .indexAddr t x ix) (ht:tab t=some ti) (hd:ti.d= .slc e 1 eb ez) (hx0:ev σ.env x= .osl id) (hi:ev σ.env ix= .int k m) (hH:σ.H id=some (.nest l)) (hm:m<l.length):YD P g o σ ⟨.eptr id 1 m 0,[],[id],σ.n⟩:=by
 refine JB (v:= .eptr id 1 m 0) (ids:=[id]) ?_
 intro w F β a hx hK
 have h1:=hx x (by simp [ho,Op.operands])
 have h2:=hx ix (by simp [ho,Op.operands])
 rw [hx0] at h1
 rw [hi] at h2
 generalize hvx:a.eval x=vx at h1
 generalize hvi:a.eval ix=vi at h2
 obtain⟨ii,dd,z,g1,g2,_,_,_,_,g3⟩:=JP (hT t ti ht)
 rw [hd] at g3
 obtain⟨i',v,rfl,g4,g5,_,_,_⟩:=JaD g3.symm
 obtain⟨h,e1,l1,l2,l3,l4,_⟩:=hK id (by simp) _ hH
 cases h2
 cases h1 with
 |osl _ h' e2=>
  rw [e1] at e2
  cases e2
  cases hb:h.blk with
  |none=>have:=l4 hb;omega
  |some b=>
   have hadd:(⟨b,0,none⟩:Addr).add (m*i'.size)=⟨b,m*1,none⟩:=by rw [Addr.add_lit,Nat.zero_add,g5]
   refine⟨.pointer (some ⟨b,m*1+0,none⟩),?_,.eptr id 1 m 0 b h e1 hb⟩
   simp only [hb,J5,Option.map_some] at hvx
   simp [execOp,ho,hvx,hvi,Instr.indexAt,asIntOf,run_underlying g2,Qt w g4,hadd]
   omega
theorem JmA (hT:J0 P tab) {σ:ASt} {sz:Nat} 
  (ho:o.op= .call { callee:= .builtin .len,args:= #[x],argTypes:= #[t] }) (ht:tab t=some ti) (hd:ti.d= .slc e sz eb ez) (hx0:ev σ.env x= .osl id) (hH:σ.H id=some (.nest l)):YD P g o σ ⟨.int .i64 (l.length:Int),[],[id],σ.n⟩:=by
 refine JB (v:= .int .i64 (l.length:Int)) (ids:=[id]) ?_
 intro w F β a hx hK
 have h1:=hx x (by simp [ho,Op.operands,Call.operands])
 rw [hx0] at h1
 generalize hvx:a.eval x=vx at h1
 obtain⟨ii,dd,z,g1,g2,_,_,_,_,g3⟩:=JP (hT t ti ht)
 rw [hd] at g3
 obtain⟨i',v,rfl,g4,g5,_,_,_⟩:=JaD g3.symm
 obtain⟨h,e1,l1,_⟩:=hK id (by simp) _ hH
 cases h1 with
 |osl _ h' e2=>
  rw [e1] at e2
  cases e2
  refine⟨goInt l.length,?_,.int _ _⟩
  have hlen:(Builtin.len_ #[t] o.type #[.slice (J5 h.blk 0) h.len h.cap]).run P w= .ok (goInt l.length) w:=by
   simp [Builtin.len_,run_underlying g2,goInt,l1]
  simp [execOp,ho,resolve,invoke,builtin,hvx,hlen]
theorem Jgp {P:Program} (hT:J0 P tab) {σ:ASt} {p:Operand} 
  (ho:o.op= .store t p x) (ht:tab t=some ti) (hs:ti.size=1) (hx0:ev σ.env p= .eptr id 1 m 0) (hu:ev σ.env x=u) (hH0:σ.H id=some (.nest l)) (hm:m<l.length) (h1:u.one=true):
  YD P g o σ ⟨.any,[(id,some (.nest (l.set m (.raw u))))],[],σ.n⟩:=by
 refine⟨Nat.le_refl _,fun C I σ2 a w K Q hC hxs hH hI hdd hR hK=> ?_⟩
 obtain⟨β,F,hR⟩:=hR
 have v1:=hxs p (by simp [ho,Op.operands]) _ _ _ _ (hR.ev p)
 have v2:=hxs x (by simp [ho,Op.operands]) _ _ _ _ (hR.ev x)
 rw [hx0] at v1
 rw [hu] at v2
 have hH':σ2.H id=some (.nest l):=by rw [hH id (by simp)];exact hH0
 obtain⟨h,q1,q2,q3⟩:=hR.live id _ hH'
 have hNN:=q2
 obtain⟨r1,r2,r3,r4,r5,r6,r7,r8,r9⟩:=q2
 generalize hpv:a.eval p=pv at v1
 cases v1 with
 |eptr _ _ _ _ b h' f1 f2=>
 rw [q1] at f1
 cases f1
 obtain⟨arr,ty,s1,s2,s3⟩:=r9 b f2
 obtain⟨d4,d5,d6⟩:=q3 b (.inl f2)
 obtain⟨o1,o2⟩:=v2.oneCell h1
 have hrun:=JeA (P:=P) hT ht s1 (off:=m) (v:=a.eval x) (by rw [o2,hs];rfl) (fun u hu=>by rw [o2] at hu;simp at hu;subst hu;exact o1) (by omega)
 rw [o2] at hrun
 generalize hA:(arr.toList.take m++ #[a.eval x].toList++arr.toList.drop (m+ #[a.eval x].toList.length)).toArray=A at hrun
 have hAs:A.size=arr.size:=by
  rw [<-hA]
  simp only [List.size_toArray,List.length_append,List.length_take,List.length_drop,Array.length_toList,List.length_singleton]
  omega
 have hAt:∀i,i≠m->A[i]? =arr[i]? :=fun i hi=>by
  rw [<-hA,List.append_assoc,List.getElem?_toArray,ZA (by simp;omega)]
  simp only [List.length_singleton,Wu]
  split
  . rfl
  . rw [if_neg (by omega)]
 have hAm:A[m]? =some (a.eval x):=by
  rw [<-hA,List.append_assoc,List.getElem?_toArray,ZA (by simp;omega)]
  simp
 have hheap:=setRow_heap w b arr A ty _ s1
 refine Jde (w':=w.setRow b A) ?_ (hK _ _ ⟨β,F,?_⟩)
 .
  simp only [Nat.mul_one,Nat.add_zero] at hpv
  simp [execOp,ho,hpv,Instr.storeAt,Instr.sureAddr]
  simpa using congrArg (fun r=>r.andThen fun _ w'=>Result.ok Next.skip w') hrun
 have hFw:∀k,F k->(w.setRow b A).heap[k]? =w.heap[k]? :=fun k hk=>(QV w b _).block k (hR.news k hk).1 (fun e=>d5 (by cases e;exact hk))
 have hnest:JfY (w.setRow b A) F β h (l.set m (.raw u)):=by
  refine Jlu hNN (fun _ e=>by cases e) hFw (fun _ _ e=>e) (fun i k hk=>(QV w b _).block k (q3 k (.inr ⟨i,hk⟩)).1 (fun e=>by cases e;exact r7 i b hk f2)) (fun x _ _=>trivial) (fun b2 arr2 ty2 e2 e3=> ?_)
  rw [f2] at e2
  cases e2
  rw [s1] at e3
  cases e3
  exact⟨A,hheap,hAs,hAt,fun x _ _=>⟨_,hAm,h1,v2.mono (fun _ x=>x) hFw (fun _ _ e=>e)⟩⟩
 refine((hR.write hH' q1 f2 (QV w b A) (.nest (l.set m (.raw u))) hnest (fun i hi=> ?_)).put o.dst .any undef hdd (.any _)).fin rfl rfl (fun i hi=> .inl hi)
 rcases hi with hi |⟨j,hi⟩
 . exact .inl hi
 . exact .inr ⟨j,(Jek (fun _ e=>by cases e) hi).1⟩
theorem Jlr {P:Program} (hT:J0 P tab) {σ:ASt} {l c:Operand} {k k':IntKind} 
  (ho:o.op= .makeSlice t l c) (ht:tab t=some ti) (hd:ti.d= .slc e 1 eb [.nils]) (hl:ev σ.env l= .int k m) (hc:ev σ.env c= .int k' m) (hb:eb*m<=281474976710656) (h63:m<=maxLen):
  YD P g o σ ⟨.osl σ.n,[(σ.n,some (.nest (List.replicate m (.hid []))))],[],σ.n+1⟩:=by
 refine⟨Nat.le_succ _,fun C I σ2 a w K Q hC hxs hH hI hdd hR hK=> ?_⟩
 obtain⟨β,F,hR⟩:=hR
 have hn:¬I σ.n:=hI σ.n (Nat.le_refl _) (Wn _)
 have v1:=hxs l (by simp [ho,Op.operands]) _ _ _ _ (hR.ev l)
 have v2:=hxs c (by simp [ho,Op.operands]) _ _ _ _ (hR.ev c)
 rw [hl] at v1
 rw [hc] at v2
 generalize hvl:a.eval l=vl at v1
 generalize hvc:a.eval c=vc at v2
 cases v1
 cases v2
 obtain⟨i0,d0,z0,_,k1,_,_,_,_,k2⟩:=JP (hT t ti ht)
 rw [hd] at k2
 obtain⟨i,z,rfl,k3,ki,rfl,k4,kz⟩:=JaD k2.symm
 have hzs:z.cells.size=1:=by have:=congrArg List.length kz;simpa using this.symm
 have hzv:z.cells.toList=[.slice none 0 0]:=by
  obtain⟨zv,hz⟩:∃zv,z.cells.toList=[zv]:=by
   cases hq:z.cells.toList with
   |nil=>have:=congrArg List.length hq;simp [hzs] at this
   |cons y r=>cases r with
    |nil=>exact⟨y,rfl⟩
    |cons _ _=>have:=congrArg List.length hq;simp [hzs] at this
  rw [hz] at kz ⊢
  have kz:AV.nils=avc zv:=by simpa using kz
  have h0:=RV.const w F β zv
  rw [<-kz] at h0
  cases h0
  rfl
 have hrun:=run_make (P:=P) w t e i z k1 k3 k4 k k' m m (by omega) (by omega) (by have:((i.bytes*m:Nat):Int)<=((281474976710656:Nat):Int):=Int.ofNat_le.2 hb;simpa using this) (by simp only [maxLen] at h63;omega)
 simp only [Int.toNat_natCast,ki,Nat.mul_one] at hrun
 have hns:=Ja5 w (.cells (madeCells z.cells m) e)
 have hcell:∀j,j<m->(madeCells z.cells m)[j]? =some (.slice none 0 0):=fun j hj=>by
  have hfl:=Je9 (w:=w) (F:=F) (β:=β) (z:=z) (sz:=1) hzs (by rw [<-kz];rfl) m
  rw [<-kz] at hfl
  obtain⟨v,e1,e2⟩:=hfl.2.2 j [.nils] 0 .nils (by rw [List.getElem?_replicate,if_pos hj]) rfl
  cases e2
  simpa using e1
 let gk:Hdr:=⟨some w.heap.size,m,m,List.replicate m (none,0,0)⟩
 have rep:∀{α:Type} {n i:Nat} {x y:α},(List.replicate n x)[i]? =some y->y=x∧i<n:=fun {α n i x y} h=>by
  rw [List.getElem?_replicate] at h
  split at h
  . exact⟨(Wi h).symm,‹_›⟩
  . cases h
 have hnest:JfY (w.alloc (.cells (madeCells z.cells m) e)) F (Yg β σ.n gk) gk (List.replicate m (.hid [])):=by
  refine⟨by simp [gk],by simp [gk],h63,(fun e=>by cases e),by simp [gk],fun i j b ⟨xs,x,q1,q2,q3⟩=> ?_,fun i b ⟨xs,x,q1,q2,q3⟩=> ?_,fun i e x hi hx=> ?_,fun b hb=> ?_⟩
  . rw [(rep q2).1] at q3;cases q3
  . rw [(rep q2).1] at q3;cases q3
  .
   rw [(rep hi).1,(rep hx).1]
   exact⟨rfl,Nat.le_refl _,by simp [maxLen],fun _=>rfl,fun b e=>by cases e⟩
  .
   cases hb
   refine⟨_,_,heap_alloc_new w _,by rw [size_madeCells];exact Nat.le_refl _,fun i e x hi hx=> ?_⟩
   obtain⟨rfl,him⟩:=rep hi
   obtain⟨rfl,_⟩:=rep hx
   exact⟨_,hcell i him,rfl⟩
 have h2:=hR.new hn hns gk (fun j e=>by cases e;exact⟨Nat.le_refl _,by simp⟩) (.nest (List.replicate m (.hid []))) hnest (fun i hi=>by
  rcases hi with hi |⟨j,xs,x,q1,q2,q3⟩
  . exact hi
  . rw [(rep q2).1] at q3;cases q3)
 refine upon_value (u:= .slice (some ⟨w.heap.size,0,none⟩) m m) (w':=w.alloc (.cells (madeCells z.cells m) e)) (by simp [execOp,ho,hvl,hvc,hrun]) (hK _ _ ⟨Yg β σ.n gk,F,?_⟩)
 exact(h2.put o.dst (.osl σ.n) _ hdd (.osl σ.n gk (J7 _ _ _))).fin rfl rfl (fun i hi=>Jcs hi)
end Go.Proofs.YtehhohbnhcogkaaGreatDoor.Ax
namespace Go.Proofs.YtehhohbnhcogkaaGreatDoor.Ex
open Go.RowKit Go.Proofs.YtehhohbnhcogkaaGreatDoor.Ax
variable {x:Operand} {k m:Nat} {i:Int} {q:NE}
section
variable {P:Program} {tab:Tab} (hT:J0 P tab) {g:Nat} {o:Oper} {σ:ASt} {t e:TypeId} {ti:TI} {eb:Nat} {ez:List AV} {L n:List (List Int)} {r:List Int}
include hT
theorem Jnr {s:Operand} {id id2:Nat} (ho:o.op= .call { callee:= .builtin .append,args:= #[s,x],argTypes:= #[t,t] }) (ht:tab t=some ti) (hd:ti.d= .slc e 1 eb ez) (hez:ez.length=1)
  (hs:ev σ.env s= .osl id) (hs2:σ.H id=some (.nest (L.map NE.hid))) (hx:ev σ.env x= .osl id2) (hx2:σ.H id2=some (.row 1 [[.osl k]])) (h:apL L [r]=some n) (heb:eb<=8388608):
  YD P g o σ ⟨.osl σ.n,[(id,none),(σ.n,some (.nest (L.map NE.hid++[.raw (.osl k)])))],[id2],σ.n+1⟩:=by
 obtain⟨h1,_⟩:=Jbr h
 simp only [List.length_singleton] at h1
 refine JmB hT ho ht hd hez (.inr ⟨id,hs,hs2,rfl⟩) (.inr (.inr (.inl ⟨id2,hx,hx2,rfl⟩))) ?_ ?_
 .
  rw [List.length_map]
  have:=Nat.mul_le_mul h1 heb
  omega
 . rw [List.length_map];simp only [maxLen];omega
theorem JuM {l c:Operand} {k k':IntKind} {z:Int} (ho:o.op= .makeSlice t l c) (ht:tab t=some ti) (hd:ti.d= .slc e 1 eb [.nils]) (hl:ev σ.env l= .int k z) (hc:ev σ.env c= .int k' z) (h:mkL z ([]:List Int)=some n) (heb:eb<=8388608):
  YD P g o σ ⟨.osl σ.n,[(σ.n,some (.nest (n.map NE.hid)))],[],σ.n+1⟩:=by
 unfold mkL at h
 split at h
 .
  rename_i hz
  cases h
  have e1:z=((z.toNat:Nat):Int):=by omega
  rw [e1] at hl hc
  rw [List.map_replicate]
  refine Jlr hT ho ht hd hl hc ?_ ?_
  .
   have:=Nat.mul_le_mul heb (show z.toNat<=16777216 by omega)
   omega
  . simp only [maxLen];omega
 . cases h
theorem Jd5 {ix:Operand} {id:Nat} {k:IntKind} (ho:o.op= .indexAddr t x ix) (ht:tab t=some ti) (hd:ti.d= .slc e 1 eb ez) (hx0:ev σ.env x= .osl id) (hi:ev σ.env ix= .int k i) (hH:σ.H id=some (.nest (L.map NE.hid))) (hm:i=(m:Int)) (hl:L[m]? =some r):
  YD P g o σ ⟨.eptr id 1 m 0,[],[id],σ.n⟩:=by
 subst hm
 exact Jjo hT ho ht hd hx0 hi hH (by rw [List.length_map];exact(List.getElem?_eq_some_iff.1 hl).1)
theorem JeB {ix:Operand} {id:Nat} {k:IntKind} (ho:o.op= .indexAddr t x ix) (ht:tab t=some ti) (hd:ti.d= .slc e 1 eb ez) (hx0:ev σ.env x= .osl id) (hi:ev σ.env ix= .int k i) (hH:σ.H id=some (.nest ((L.map NE.hid).set m q))) (hm:i=(m:Int)) (hl:L[m]? =some r):
  YD P g o σ ⟨.eptr id 1 m 0,[],[id],σ.n⟩:=by
 subst hm
 exact Jjo hT ho ht hd hx0 hi hH (by rw [List.length_set,List.length_map];exact(List.getElem?_eq_some_iff.1 hl).1)
theorem Jf6 {id:Nat} (ho:o.op= .load t x) (ht:tab t=some ti) (hg:ti.agg=false) (hx0:ev σ.env x= .eptr id 1 m 0) (hH0:σ.H id=some (.nest (L.map NE.hid))) (hm:L[m]? =some r):
  YD P g o σ ⟨.osl σ.n,[(id,some (.nest ((L.map NE.hid).set m (.ext σ.n)))),(σ.n,some (.row 1 (r.map iA)))],[],σ.n+1⟩:=
 Jlq hT ho ht hg hx0 hH0 (by rw [Wp,hm];rfl)
theorem JhP {id:Nat} (ho:o.op= .load t x) (ht:tab t=some ti) (hg:ti.agg=false) (hx0:ev σ.env x= .eptr id 1 m 0) (hH0:σ.H id=some (.nest ((L.map NE.hid).set m (.ext k)))) (hm:L[m]? =some r):
  YD P g o σ ⟨.osl k,[],[id],σ.n⟩:=
 Jj4 hT ho ht hg hx0 hH0 (by rw [List.getElem?_set_self (by rw [List.length_map];exact(List.getElem?_eq_some_iff.1 hm).1)])
theorem JmG {p:Operand} {id:Nat} (ho:o.op= .store t p x) (ht:tab t=some ti) (hs:ti.size=1) (hx0:ev σ.env p= .eptr id 1 m 0) (hu:ev σ.env x= .osl k) (hH0:σ.H id=some (.nest (L.map NE.hid))) (hm:L[m]? =some r):
  YD P g o σ ⟨.any,[(id,some (.nest ((L.map NE.hid).set m (.raw (.osl k)))))],[],σ.n⟩:=
 Jgp hT ho ht hs hx0 hu hH0 (by rw [List.length_map];exact(List.getElem?_eq_some_iff.1 hm).1) rfl
theorem Jnq {p:Operand} {id:Nat} (ho:o.op= .store t p x) (ht:tab t=some ti) (hs:ti.size=1) (hx0:ev σ.env p= .eptr id 1 m 0) (hu:ev σ.env x= .osl k) (hH0:σ.H id=some (.nest ((L.map NE.hid).set m q))) (hm:L[m]? =some r):
  YD P g o σ ⟨.any,[(id,some (.nest ((L.map NE.hid).set m (.raw (.osl k)))))],[],σ.n⟩:=by
 have:=Jgp (g:=g) hT ho ht hs hx0 hu hH0 (by rw [List.length_set,List.length_map];exact(List.getElem?_eq_some_iff.1 hm).1) rfl
 rwa [List.set_set] at this
theorem JsG {sz id:Nat} (ho:o.op= .call { callee:= .builtin .len,args:= #[x],argTypes:= #[t] }) (ht:tab t=some ti) (hd:ti.d= .slc e sz eb ez) (hx0:ev σ.env x= .osl id) (hH:σ.H id=some (.nest (L.map NE.hid))):YD P g o σ ⟨.int .i64 (L.length:Int),[],[id],σ.n⟩:=by
 have:=JmA hT (g:=g) ho ht hd hx0 hH
 rwa [List.length_map] at this
end
section
variable {g:Nat} {ab:List (Nat×Nat×Nat)} {H:Nat->Option ABlk} {gs zs bs:List Nat} {kk id:Nat} {L n:List (List Int)} {r:List Int}
theorem Qy (h1:gs[kk]? =some id) (h2:H id=some (.nest (L.map NE.hid))):JhI g ab H gs zs bs kk (.nest (L.map NE.hid)):=
 .inl ⟨id,_,h1,h2,rfl,fun j e e' q1 q2=>by
  rw [q1] at q2
  cases q2
  rw [Wp] at q1
  cases hx:L[j]? with
  |none=>rw [hx] at q1;cases q1
  |some y=>rw [hx] at q1;cases q1;exact .inl ⟨y,rfl,rfl⟩⟩
theorem JaW (h:zs.contains kk=true):JhI g ab H gs zs bs kk (.nest (([]:List (List Int)).map NE.hid)):= .inr ⟨List.contains_iff_mem.1 h,rfl⟩
theorem Jlt (h:apL L [r]=some n) (h1:gs[kk]? =some id) (h2:H id=some (.nest (L.map NE.hid++[.raw (.osl k)]))) (h3:H k=some (.row 1 (r.map iA))) (h4:g<=kk) (h5:abL ab kk=some (L.length,k)):JhI g ab H gs zs bs kk (.nest (n.map NE.hid)):=by
 obtain⟨_,rfl⟩:=Jbr h
 refine .inl ⟨id,_,h1,h2,by simp,fun j e e' q1 q2=> ?_⟩
 rw [List.map_append] at q2
 by_cases hj:j<L.length
 .
  rw [Wc (by simpa using hj),Wp] at q1 q2
  rw [q1] at q2
  cases q2
  cases hx:L[j]? with
  |none=>rw [hx] at q1;cases q1
  |some y=>rw [hx] at q1;cases q1;exact .inl ⟨y,rfl,rfl⟩
 .
  rw [List.getElem?_append_right (by simp;omega)] at q1 q2
  have h0:=(List.getElem?_eq_some_iff.1 q1).1
  simp only [List.length_map,List.length_singleton] at h0 q1 q2
  have hjl:j=L.length:=by omega
  subst hjl
  rw [Nat.sub_self] at q1 q2
  cases q1
  cases q2
  exact .inr (.inr (.inr ⟨k,r,h5,.inr ⟨rfl,h4⟩,rfl,h3⟩))
theorem Jef (h1:gs[kk]? =some id) (h2:H id=some (.nest ((L.map NE.hid).set m q))) (h3:H k=some (.row 1 (r.map iA))) (hq:q= .ext k∨q= .raw (.osl k)∧g<=kk) (h5:abL ab kk=some (m,k)):JhI g ab H gs zs bs kk (.nest ((L.set m r).map NE.hid)):=by
 refine .inl ⟨id,_,h1,h2,by simp,fun j e e' q1 q2=> ?_⟩
 rw [List.map_set] at q2
 by_cases hj:m=j
 .
  subst hj
  by_cases hl:m<L.length
  .
   rw [List.getElem?_set_self (by simpa using hl)] at q1 q2
   cases q1
   cases q2
   exact .inr (.inr (.inr ⟨k,r,h5,hq,rfl,h3⟩))
  .
   rw [List.getElem?_eq_none (by simp;omega)] at q1
   cases q1
 .
  rw [List.getElem?_set_ne hj,Wp] at q1 q2
  rw [q1] at q2
  cases q2
  cases hx:L[j]? with
  |none=>rw [hx] at q1;cases q1
  |some y=>rw [hx] at q1;cases q1;exact .inl ⟨y,rfl,rfl⟩
theorem Jfa (hm:i=(m:Int)) (h1:gs[kk]? =some id) (h2:H id=some (.nest ((L.map NE.hid).set m (.raw (.osl k))))) (h3:H k=some (.row 1 (r.map iA))) (h4:g<=kk) (h5:abL ab kk=some (m,k)):JhI g ab H gs zs bs kk (.nest ((L.set i.toNat r).map NE.hid)):=by
 subst hm
 exact Jef h1 h2 h3 (.inr ⟨rfl,h4⟩) h5
theorem Jeg (hm:i=(m:Int)) (h1:gs[kk]? =some id) (h2:H id=some (.nest ((L.map NE.hid).set m (.ext k)))) (h3:H k=some (.row 1 (r.map iA))) (h5:abL ab kk=some (m,k)):JhI g ab H gs zs bs kk (.nest ((L.set i.toNat r).map NE.hid)):=by
 subst hm
 exact Jef h1 h2 h3 (.inl rfl) h5
theorem JgR (hm:L[m]? =some r) (h1:gs[kk]? =some id) (h2:H id=some (.nest ((L.map NE.hid).set m (.ext k)))) (h3:H k=some (.row 1 (r.map iA))) (h5:abL ab kk=some (m,k)):JhI g ab H gs zs bs kk (.nest (L.map NE.hid)):=by
 have:=Jef (g:=g) (ab:=ab) (zs:=zs) (bs:=bs) h1 h2 h3 (.inl rfl) h5
 rwa [show L.set m r=L from ?_] at this
 obtain⟨hl,rfl⟩:=List.getElem?_eq_some_iff.1 hm
 exact List.set_getElem_self hl
end
theorem Jgk {ρ:Nat->Nat} {L:List (List Int)}:ABlk.ren ρ (.nest (L.map NE.hid))= .nest (L.map NE.hid):=by
 simp only [ABlk.ren,List.map_map]
 rfl
theorem grN {ρ:Nat->Nat} {L:List (List Int)} {o:Option ABlk} (h:o=some (.nest (L.map NE.hid))):o=some (ABlk.ren ρ (.nest (L.map NE.hid))):=by rw [Jgk];exact h
end Go.Proofs.YtehhohbnhcogkaaGreatDoor.Ex
namespace Go.Proofs.YtehhohbnhcogkaaGreatDoor.Ex
open Go.RowKit Go.Proofs.YtehhohbnhcogkaaGreatDoor.Ax Go.Maps
variable {g:Nat} {o:Oper} {σ:ASt}
def Jb1 (E:List (Int×Int)):Obj->Prop:=MvR Tryz.prog 3 3 JoB (fun y=> .int .i64 y) E
theorem Jqn (ho:o.op= .makeMap 182 none):YD Tryz.prog g o σ ⟨.mp σ.n,[(σ.n,some (.obj (Jb1 [])))],[],σ.n+1⟩:=Jf5 ho _ (Jkc _ _ _ _ _)
theorem Jlx {m kx vx:Operand} {id:Nat} {x:Int} {y:Int} {E E':List (Int×Int)} (ho:o.op= .mapUpdate 182 m kx vx) (hm:ev σ.env m= .mp id) (hH:σ.H id=some (.obj (Jb1 E))) (hk:ev σ.env kx= .int .i64 x) (hv:ev σ.env vx= .int .i64 y) (h:JcY wI wI E x y=some E'):YD Tryz.prog g o σ ⟨.any,[(id,some (.obj (Jb1 E')))],[],σ.n⟩:=
 Jqm (int_keyed Tryz.underlying3) Tryz.underlying182 (akI Tryz.underlying3 x) (avI Tryz.underlying3 y) ho hm hH hk hv h
theorem Jf8 {m kx:Operand} {id:Nat} {x:Int} {n:Int} {E:List (Int×Int)} (ho:o.op= .lookup 182 m kx false) (hm:ev σ.env m= .mp id) (hH:σ.H id=some (.obj (Jb1 E))) (hk:ev σ.env kx= .int .i64 x) (h:Jb0 wI E x 0=some n):YD Tryz.prog g o σ ⟨.int .i64 n,[],[id],σ.n⟩:=by
 obtain⟨h1,rfl⟩:=Jhi h
 exact Jqu (int_keyed Tryz.underlying3) Tryz.underlying182 Jnx JlE (akI Tryz.underlying3 x) Tryz.underlying3 Tryz.zeroValue3 ho hm hH hk h1
end Go.Proofs.YtehhohbnhcogkaaGreatDoor.Ex
namespace Go.Proofs.YtehhohbnhcogkaaGreatDoor.Ex
def JhA:Go.Shelf.Ren:=⟨fun |20=>116 |n=>n,fun |22=>22 |3=>3 |4=>4 |0=>0 |n=>n,fun |n=>n⟩
theorem JlC:Go.Proofs.Lays2.n20 Tryz.prog JhA:={
 mixed:=by kernel_rfl
 f20:=Tryz.func116.trans (congrArg some (by kernel_rfl))
 t0:=Tryz.underlying0
 a0:=Tryz.isAgg0
 z0:=Tryz.sizeOf0
 v0:=Tryz.zeroValue0
 t3:=Tryz.underlying3
 a3:=Tryz.isAgg3
 z3:=Tryz.sizeOf3
 v3:=Tryz.zeroValue3
 t4:=Tryz.underlying4
 a4:=Tryz.isAgg4
 z4:=Tryz.sizeOf4
 v4:=Tryz.zeroValue4
 t22:=Tryz.underlying22
 a22:=Tryz.isAgg22
 z22:=Tryz.sizeOf22
 v22:=Tryz.zeroValue22
 i3:=by kernel_rfl }
end Go.Proofs.YtehhohbnhcogkaaGreatDoor.Ex
namespace Go.Proofs.YtehhohbnhcogkaaGreatDoor.Ex
def Jkk:Go.Shelf.Ren:=⟨fun |189=>57 |125=>92 |257=>100 |128=>135 |129=>136 |294=>143 |295=>144 |296=>145 |297=>146 |298=>147 |299=>148 |216=>149 |300=>150 |301=>151 |328=>181 |329=>177 |330=>178 |331=>182 |332=>183 |215=>184 |343=>200 |n=>n,fun |28=>22 |3=>3 |46=>165 |0=>0 |51=>219 |53=>221 |4=>4 |183=>213 |182=>212 |131=>53 |5=>5 |9=>9 |218=>246 |222=>250 |228=>265 |229=>266 |n=>n,fun |n=>n⟩
theorem Jqz:Go.Proofs.Lays.n189 Tryz.prog Jkk:={
 mixed:=by kernel_rfl
 f125:=Tryz.func92.trans (congrArg some (by kernel_rfl))
 f128:=Tryz.func135.trans (congrArg some (by kernel_rfl))
 f129:=Tryz.func136.trans (congrArg some (by kernel_rfl))
 f189:=Tryz.func57.trans (congrArg some (by kernel_rfl))
 f215:=Tryz.func184.trans (congrArg some (by kernel_rfl))
 f216:=Tryz.func149.trans (congrArg some (by kernel_rfl))
 f257:=Tryz.func100.trans (congrArg some (by kernel_rfl))
 f294:=Tryz.func143.trans (congrArg some (by kernel_rfl))
 f295:=Tryz.func144.trans (congrArg some (by kernel_rfl))
 f296:=Tryz.func145.trans (congrArg some (by kernel_rfl))
 f297:=Tryz.func146.trans (congrArg some (by kernel_rfl))
 f298:=Tryz.func147.trans (congrArg some (by kernel_rfl))
 f299:=Tryz.func148.trans (congrArg some (by kernel_rfl))
 f300:=Tryz.func150.trans (congrArg some (by kernel_rfl))
 f301:=Tryz.func151.trans (congrArg some (by kernel_rfl))
 f328:=Tryz.func181.trans (congrArg some (by kernel_rfl))
 f329:=Tryz.func177.trans (congrArg some (by kernel_rfl))
 f330:=Tryz.func178.trans (congrArg some (by kernel_rfl))
 f331:=Tryz.func182.trans (congrArg some (by kernel_rfl))
 f332:=Tryz.func183.trans (congrArg some (by kernel_rfl))
 f343:=Tryz.func200.trans (congrArg some (by kernel_rfl))
 t0:=Tryz.underlying0
 a0:=Tryz.isAgg0
 z0:=Tryz.sizeOf0
 v0:=Tryz.zeroValue0
 t3:=Tryz.underlying3
 a3:=Tryz.isAgg3
 z3:=Tryz.sizeOf3
 v3:=Tryz.zeroValue3
 t4:=Tryz.underlying4
 a4:=Tryz.isAgg4
 z4:=Tryz.sizeOf4
 v4:=Tryz.zeroValue4
 t5:=Tryz.underlying5
 a5:=Tryz.isAgg5
 z5:=Tryz.sizeOf5
 v5:=Tryz.zeroValue5
 t9:=Tryz.underlying9
 a9:=Tryz.isAgg9
 z9:=Tryz.sizeOf9
 v9:=Tryz.zeroValue9
 t28:=Tryz.underlying22
 a28:=Tryz.isAgg22
 z28:=Tryz.sizeOf22
 v28:=Tryz.zeroValue22
 t46:=Tryz.underlying165
 a46:=Tryz.isAgg165
 z46:=Tryz.sizeOf165
 v46:=Tryz.zeroValue165
 t51:=Tryz.underlying219
 a51:=Tryz.isAgg219
 z51:=Tryz.sizeOf219
 v51:=Tryz.zeroValue219
 t53:=Tryz.underlying221
 a53:=Tryz.isAgg221
 z53:=Tryz.sizeOf221
 v53:=Tryz.zeroValue221
 t131:=Tryz.underlying53
 a131:=Tryz.isAgg53
 z131:=Tryz.sizeOf53
 v131:=Tryz.zeroValue53
 t182:=Tryz.underlying212
 a182:=Tryz.isAgg212
 z182:=Tryz.sizeOf212
 v182:=Tryz.zeroValue212
 t183:=Tryz.underlying213
 a183:=Tryz.isAgg213
 z183:=Tryz.sizeOf213
 v183:=Tryz.zeroValue213
 t218:=Tryz.underlying246
 a218:=Tryz.isAgg246
 z218:=Tryz.sizeOf246
 v218:=Tryz.zeroValue246
 t222:=Tryz.underlying250
 a222:=Tryz.isAgg250
 z222:=Tryz.sizeOf250
 v222:=Tryz.zeroValue250
 t228:=Tryz.underlying265
 a228:=Tryz.isAgg265
 z228:=Tryz.sizeOf265
 v228:=Tryz.zeroValue265
 t229:=Tryz.underlying266
 a229:=Tryz.isAgg266
 z229:=Tryz.sizeOf266
 v229:=Tryz.zeroValue266 }
end Go.Proofs.YtehhohbnhcogkaaGreatDoor.Ex
namespace Go.Proofs.YtehhohbnhcogkaaGreatDoor.Ex
open Go.RowKit Go.Proofs.YtehhohbnhcogkaaGreatDoor.Ax Go.Maps
variable {g:Nat} {o:Oper} {σ:ASt}
instance :LawfulBEq ByteArray where
 eq_of_beq:=by
  rintro⟨a⟩ ⟨b⟩ h
  have h:(a==b)=true:=h
  rw [eq_of_beq h]
 rfl:=by
  rintro⟨a⟩
  show (a==a)=true
  exact beq_self_eq_true a
def YR (E:List (ByteArray×Int)):Obj->Prop:=MvR Tryz.prog 9 3 JqF (fun y=> .int .i64 y) E
theorem Jly (ho:o.op= .makeMap 141 none):YD Tryz.prog g o σ ⟨.mp σ.n,[(σ.n,some (.obj (YR [])))],[],σ.n+1⟩:=Jf5 ho _ (Jkc _ _ _ _ _)
theorem Jqo {m kx vx:Operand} {id:Nat} {x:ByteArray} {y:Int} {E E':List (ByteArray×Int)} (ho:o.op= .mapUpdate 141 m kx vx) (hm:ev σ.env m= .mp id) (hH:σ.H id=some (.obj (YR E))) (hk:ev σ.env kx= .str x) (hv:ev σ.env vx= .int .i64 y) (h:JcY wS wI E x y=some E'):YD Tryz.prog g o σ ⟨.any,[(id,some (.obj (YR E')))],[],σ.n⟩:=
 Jqm (string_keyed Tryz.underlying9) Tryz.underlying141 (akS Tryz.underlying9 x) (avI Tryz.underlying3 y) ho hm hH hk hv h
theorem Jlz {m kx:Operand} {id:Nat} {x:ByteArray} {n:Int×Bool} {E:List (ByteArray×Int)} (ho:o.op= .lookup 141 m kx true) (hm:ev σ.env m= .mp id) (hH:σ.H id=some (.obj (YR E))) (hk:ev σ.env kx= .str x) (h:Jgq wS E x 0=some n):YD Tryz.prog g o σ ⟨.tup [.int .i64 n.1,.bool n.2],[],[id],σ.n⟩:=by
 obtain⟨h1,rfl⟩:=Jkd h
 exact JmJ (string_keyed Tryz.underlying9) Tryz.underlying141 JsR JqE (akS Tryz.underlying9 x) Tryz.underlying3 Tryz.zeroValue3 ho hm hH hk h1
end Go.Proofs.YtehhohbnhcogkaaGreatDoor.Ex
namespace Go.Proofs.YtehhohbnhcogkaaGreatDoor.Ex
open Go.RowKit Go.Proofs.YtehhohbnhcogkaaGreatDoor.Ax Go.Maps
variable {g:Nat} {o:Oper} {σ:ASt}
def Jeh (E:List (Int×Bool)):Obj->Prop:=MvR Tryz.prog 3 4 JoB (fun y=> .bool y) E
theorem JsN (ho:o.op= .makeMap 91 none):YD Tryz.prog g o σ ⟨.mp σ.n,[(σ.n,some (.obj (Jeh [])))],[],σ.n+1⟩:=Jf5 ho _ (Jkc _ _ _ _ _)
theorem JsM {m kx vx:Operand} {id:Nat} {x:Int} {y:Bool} {E E':List (Int×Bool)} (ho:o.op= .mapUpdate 91 m kx vx) (hm:ev σ.env m= .mp id) (hH:σ.H id=some (.obj (Jeh E))) (hk:ev σ.env kx= .int .i64 x) (hv:ev σ.env vx= .tru) (h:JcY wI wT E x true=some E'):YD Tryz.prog g o σ ⟨.any,[(id,some (.obj (Jeh E')))],[],σ.n⟩:=
 Jqm (int_keyed Tryz.underlying3) Tryz.underlying91 (akI Tryz.underlying3 x) (avB Tryz.underlying4) ho hm hH hk hv h
theorem JgU {m kx:Operand} {id:Nat} {x:Int} {n:Bool} {E:List (Int×Bool)} (ho:o.op= .lookup 91 m kx false) (hm:ev σ.env m= .mp id) (hH:σ.H id=some (.obj (Jeh E))) (hk:ev σ.env kx= .int .i64 x) (h:Jb0 wI E x false=some n):YD Tryz.prog g o σ ⟨.bool n,[],[id],σ.n⟩:=by
 obtain⟨h1,rfl⟩:=Jhi h
 exact Jow (int_keyed Tryz.underlying3) Tryz.underlying91 Jnx JlE (akI Tryz.underlying3 x) Tryz.underlying4 Tryz.zeroValue4 ho hm hH hk h1
end Go.Proofs.YtehhohbnhcogkaaGreatDoor.Ex
namespace Go.Proofs.YtehhohbnhcogkaaGreatDoor.Ax
open Go.RowKit
variable {ps:Array Tmp} {env:Nat->AV} {n nt m t:Nat} {tab:Tab} {df:List Deferred} {P:Program} {r:List Oper}
variable {C:Ctx} {I I':Nat->Prop} {σ σ':ASt} {a a':Act} {w w':World} {β β':Nat->Option Hdr} {F F':Nat->Prop}
def reb (C:Ctx) (γ:List Hdr) (σ:ASt) (w:World) (β:Nat->Option Hdr) (F:Nat->Prop):Ctx:=
 { C with w0:=w,γ:=γ,F0:=F,M:=fun b=>∃id k g,σ.H id=some k∧β id=some g∧QS g k b }
theorem RelB.rebase (h:RelB C I σ a w β F) (γ:List Hdr) (hγ:∀(i:Nat) (g:Hdr),γ[i]? =some g->β i=some g):RelB (reb C γ σ w β F) I σ a w β F where
 env:=h.env
 size:=h.size
 defers:=h.defers
 live:=fun id k e=>let ⟨g,h1,h2,h3⟩:=h.live id k e;⟨g,h1,h2,fun b hb=>⟨(h3 b hb).1,(h3 b hb).2.1,.inl ⟨id,k,g,e,h1,hb⟩⟩⟩
 inj:=h.inj
 dom:=h.dom
 gr:=hγ
 sub:=fun b hb=>hb
 news:=fun b hb=>⟨(h.news b hb).1,.inl hb⟩
 os:=rfl
 tape:= .it
 output:=rfl
 grow:=Nat.le_refl _
 block:=fun b _ _=>rfl
 glo:=h.glo
theorem RelB.unbase {γ:List Hdr} {d:List Deferred} (h:RelB C I σ a w β F) (hγ:∀(i:Nat) (g:Hdr),C.γ[i]? =some g->γ[i]? =some g) (k:RelB { reb C γ σ w β F with df:=d } I' σ' a' w' β' F'):RelB { C with df:=d } I' σ' a' w' β' F':=by
 have hM:∀b,(∃id k g,σ.H id=some k∧β id=some g∧QS g k b)->C.Mine b:=fun b ⟨id,k,g,e1,e2,e3⟩=>by
  obtain⟨g',h1,_,h3⟩:=h.live id k e1
  rw [e2] at h1
  cases h1
  exact(h3 b e3).2.2
 have hMine:∀b,Ctx.Mine { reb C γ σ w β F with df:=d } b->C.Mine b:=fun b hb=>by
  rcases hb with hb |hb
  . exact hM b hb
  . exact .inr (Nat.le_trans h.grow hb)
 exact {
  env:=k.env
  size:=k.size
  defers:=k.defers
  live:=fun id k' e=>let ⟨g,h1,h2,h3⟩:=k.live id k' e;⟨g,h1,h2,fun b hb=>⟨(h3 b hb).1,(h3 b hb).2.1,hMine b (h3 b hb).2.2⟩⟩
  inj:=k.inj
  dom:=k.dom
  gr:=fun i g e=>k.gr i g (hγ i g e)
  sub:=fun b hb=>k.sub b (h.sub b hb)
  news:=fun b hb=>⟨(k.news b hb).1,by
   rcases(k.news b hb).2 with q |q
   . exact(h.news b q).2
   . exact .inr (hMine b q)⟩
  os:=k.os.trans h.os
  tape:=k.tape.trans h.tape
  output:=k.output.trans h.output
  grow:=Nat.le_trans h.grow k.grow
  block:=fun b hb hn=>(k.block b (Nat.lt_of_lt_of_le hb h.grow) (fun hm=>by
   rcases hM b hm with q |q
   . exact hn q
   . exact absurd hb (Nat.not_lt.2 q))).trans (h.block b hb hn)
  glo:=k.glo }
def Out (σ:ASt) (β:Nat->Option Hdr) (F:Nat->Prop) (b:Nat):Prop:=¬F b∧∀id k g,σ.H id=some k->β id=some g->¬QS g k b
theorem Out.keep {γ:List Hdr} {d:List Deferred} {b:Nat} (h:RelB C I σ a w β F) (hb:b<w.heap.size) (ho:Out σ β F b) (k:RelB { reb C γ σ w β F with df:=d } I' σ' a' w' β' F'):Out σ' β' F' b∧w'.heap[b]? =w.heap[b]? :=by
 have hM:¬Ctx.Mine { reb C γ σ w β F with df:=d } b:=fun hm=>by
  rcases hm with⟨id,k,g,e1,e2,e3⟩|q
  . exact ho.2 id k g e1 e2 e3
  . exact absurd hb (Nat.not_lt.2 q)
 refine⟨⟨fun hF=> ?_,fun id k' g e1 e2 e3=> ?_⟩,k.block b hb (fun hm=>hM (.inl hm))⟩
 .
  rcases(k.news b hF).2 with q |q
  . exact ho.1 q
  . exact hM q
 .
  obtain⟨g',h1,_,h3⟩:=k.live id k' e1
  rw [e2] at h1
  cases h1
  exact hM (h3 b e3).2.2
def Je3:(Nat->AV)->List Nat->List AV->Nat->AV
 |env,p::ps,v::vs=>Je3 (Je4 env p v) ps vs
 |env,[],_=>env
 |env,_::_,[]=>env
theorem Jlc {nt:Nat}:∀(ps:List Nat) (vs:List AV) (us:List Value) (env:Nat->AV) (T:Array Value),T.size=nt->(∀p∈ps,p<nt)->vs.length=us.length->(∀(j:Nat) (u:AV) (v:Value),vs[j]? =some u->us[j]? =some v->RV w F β u v)->(∀t,RV w F β (env t) (T.getD t undef))->
  ((ps.zip us).foldl (fun t (x:Nat×Value)=>t.setIfInBounds x.1 x.2) T).size=nt∧∀t,RV w F β (Je3 env ps vs t) (((ps.zip us).foldl (fun t (x:Nat×Value)=>t.setIfInBounds x.1 x.2) T).getD t undef)
 |[],vs,us,env,T,hT,_,_,_,h=>⟨hT,by simpa [Je3] using h⟩
 |p::ps,[],[],env,T,hT,_,_,_,h=>⟨hT,by simpa [Je3] using h⟩
 |p::ps,[],u::us,env,T,hT,_,hl,_,h=>by simp at hl
 |p::ps,v::vs,[],env,T,hT,_,hl,_,h=>by simp at hl
 |p::ps,v::vs,u::us,env,T,hT,hp,hl,hv,h=>by
  simp only [List.zip_cons_cons,List.foldl_cons,Je3]
  refine Jlc ps vs us (Je4 env p v) (T.setIfInBounds p u) (by simp [hT]) (fun q hq=>hp q (List.mem_cons_of_mem _ hq)) (by simpa using hl) (fun j u' v' h1 h2=>hv (j+1) u' v' (by simpa using h1) (by simpa using h2)) (fun t=> ?_)
  have hpT:p<T.size:=hT▸hp p (List.mem_cons_self ..)
  by_cases ht:t=p
  .
   subst ht
   rw [Jdf]
   have:(T.setIfInBounds t u).getD t undef=u:=by simp [Array.getD,hpT]
   rw [this]
   exact hv 0 v u rfl rfl
  .
   rw [Jc6 _ _ ht]
   have:(T.setIfInBounds p u).getD t undef=T.getD t undef:=by
    simp only [Wa]
    rw [Array.getElem?_setIfInBounds_ne (Ne.symm ht)]
   rw [this]
   exact h t
def JrF (P:Program) (it:FuncId) (caps:List AV) (ys:List (List AV)):Prop:=
 ∀(l m:Nat) (cs:Array Value) (J:Nat->(Nat->Prop)->World->Prop) (Jx:World->Prop),
  (∀k S W W',J k S W->Same W W' none->J k S W')->(∀W W',Jx W->Same W W' none->Jx W')->(∀k S W b,J k S W->S b->b<W.heap.size)->
  (∀k S W args vs,J k S W->ys[k]? =some args->RVs W (fun _=>False) noB args vs->YieldAt Fence.wide m P l vs W fun e W'=>
   (e= .returned (.bool true)∧W.heap.size<=W'.heap.size∧(∀b,b<W.heap.size->¬S b->W'.heap[b]? =W.heap[b]?)∧∃S',J (k+1) S' W'∧∀b,S' b->S b∨W.heap.size<=b)∨(e= .returned (.bool false)∧Jx W'))->
  ∀(W:World) (S F:Nat->Prop),J 0 S W->RVs W F noB caps cs->Ji6 W F->(∀b,F b->b<W.heap.size∧¬S b)->
   Calls P it (#[.func (.yield l) #[] #[]]++cs) W fun e W'=>(∃v,e= .returned v)∧((∃S,J ys.length S W')∨Jx W')
def JvW {α:Type} (n:Nat) (env:Nat->AV) (Hx:α->Nat->Option ABlk) (I:Nat->α->Prop) (K:Exit->ASt->Prop) (k:Nat) (e:Exit) (σ:ASt):Prop:=match e with
 | .normal=>∃y gs zs bs,I (k+1) y∧Wk n σ ⟨eL [],Hx y,n⟩ gs zs bs
 | .ret=>∃Hy gs zs bs,Wk n σ ⟨eL [],Hy,n⟩ gs zs bs∧K .ret ⟨env,Hy,n⟩
 | .exit id=>∃Hy gs zs bs,Wk n σ ⟨eL [],Hy,n⟩ gs zs bs∧K (.exit id) ⟨env,Hy,n⟩
 |_=>False
def noK (e:Exit) (σ:ASt):Prop:=False
theorem Jos {ro:Option Nat} {g:Operand} {x y:Code} (h:ro.isSome=true->noR (.rangeFunc g ps x y)=true):ro=none:=by
 cases ro with
 |none=>rfl
 |some l=>exact absurd (h rfl) (by simp [noR])
theorem Jld (w:World) (o o':Obj):Same w ((w.alloc o).alloc o') none:=⟨rfl,.it,rfl,by simp;omega,fun i hi _=>by rw [Below.heap_alloc _ _ _ (by simp;omega),Below.heap_alloc _ _ _ hi]⟩
theorem RelB.same (h:RelB C I σ a w β F) (hs:Same w w' none):RelB C I σ a w' β F:=
 h.step hs (fun i e=>by cases e) I (fun _ x=>x) σ.H β (fun _ _ e=>e) h.dom (fun id k e=> .inl ⟨e,fun _ _ _ _ e=>by cases e⟩) h.inj
structure RngJ (C:Ctx) (T:Array Value) (env:Nat->AV) (n L D:Nat) (H:Nat->Option ABlk) (o:Obj) (W:World) (β:Nat->Option Hdr) (F:Nat->Prop):Prop where
 rel:RelB { C with df:=[] } (Qj n) ⟨env,H,n⟩ ⟨T,[]⟩ W β F
 outL:Out ⟨env,H,n⟩ β F L
 outD:Out ⟨env,H,n⟩ β F D
 atL:W.heap[L]? =some o
 atD:W.heap[D]? =some (.deferred (some []))
theorem RngJ.same {C:Ctx} {T:Array Value} {L D:Nat} {H:Nat->Option ABlk} {o:Obj} {W W':World} {β:Nat->Option Hdr} {F:Nat->Prop} (h:RngJ C T env n L D H o W β F) (hs:Same W W' none):RngJ C T env n L D H o W' β F:=
 ⟨h.rel.same hs,h.outL,h.outD,(hs.block _ (Array.getElem?_eq_some_iff.1 h.atL).1 (by simp)).trans h.atL,(hs.block _ (Array.getElem?_eq_some_iff.1 h.atD).1 (by simp)).trans h.atD⟩
set_option maxHeartbeats 4000000 in
theorem Jp0 {P:Program} (hT:J0 P tab) (hP:P.follows .mixedOrders=true) {α:Type} {L D:Nat} {C:Ctx} {T:Array Value} {H:Nat->Option ABlk} {Hx:α->Nat->Option ABlk} {Iv:Nat->α->Prop} {K:Exit->ASt->Prop} {k:Nat} {assign body:Code} {rec:LoopState->Option Code->Loop} {fn:FuncId} (m:Nat)
  (hn1:noR assign=true) (hn2:noR body=true) (hnt:C.nt=nt) (hps:∀p∈ps.toList,p<nt) (hlive:∀id,id<n->∃b,H id=some b) (hLD:L≠D) (hLC:C.w0.heap.size<=L)
  (hrec:∀st pe,(rec st pe).state=st) (hrb:∀st pe st',{ rec st pe with state:=st' }=rec st' pe) (hre:∀st pe st' pe',{ rec st pe with state:=st',pending:=pe' }=rec st' pe')
  {args:List AV} {vs:Array Value} {W:World} {β:Nat->Option Hdr} {F:Nat->Prop} (hJ:RngJ C T env n L D H (.loop (rec .ready none)) W β F) (hvs:RVs W (fun _=>False) noB args vs)
  (hround:awp P tab n nt assign (Jjb (awp P tab n nt body (JvW n env Hx Iv K k)) noK) ⟨Je3 env ps.toList args,H,n⟩):
  RoundIn Fence.wide m P L fn ((ps.zip vs).foldl (fun t (x:Tmp×Value)=>t.setIfInBounds x.1 x.2) T) assign body W fun e W'=>
   (e= .returned (.bool true)∧W.heap.size<=W'.heap.size∧(∀b,b<W.heap.size->¬(b=L∨∃id k g,H id=some k∧β id=some g∧QS g k b)->W'.heap[b]? =W.heap[b]?)∧∃y β' F',Iv (k+1) y∧RngJ C T env n L D (Hx y) (.loop (rec .ready none)) W' β' F'∧
    ∀b,(b=L∨∃id k g,Hx y id=some k∧β' id=some g∧QS g k b)->(b=L∨∃id k g,H id=some k∧β id=some g∧QS g k b)∨W.heap.size<=b)∨
   (e= .returned (.bool false)∧∃Hy β' F' c,RngJ C T env n L D Hy (.loop (rec .done (some c))) W' β' F'∧((c= .ret∧K .ret ⟨env,Hy,n⟩)∨∃id,c= .exit id∧K (.exit id) ⟨env,Hy,n⟩)):=by
 obtain⟨hB,oL,oD,aL,aD⟩:=hJ
 have lL:L<W.heap.size:=(Array.getElem?_eq_some_iff.1 aL).1
 have lD:D<W.heap.size:=(Array.getElem?_eq_some_iff.1 aD).1
 obtain⟨γ,hγ⟩:∃γ:List Hdr,γ=(List.range n).map fun i=>(β i).getD (YN none 0 0):=⟨_,rfl⟩
 have γl:γ.length=n:=by rw [hγ];simp
 have γat:∀(i:Nat) (g:Hdr),γ[i]? =some g↔i<n∧β i=some g:=fun i g=>by
  constructor
  .
   intro e
   have hi:i<n:=by rw [<-γl];exact(List.getElem?_eq_some_iff.1 e).1
   obtain⟨b,hb⟩:=hlive i hi
   obtain⟨h,h1,_⟩:=hB.live i b hb
   rw [hγ,Wp,List.getElem?_range hi] at e
   simp [h1] at e
   exact⟨hi,by rw [h1,e]⟩
  .
   rintro⟨hi,e⟩
   rw [hγ,Wp,List.getElem?_range hi]
   simp [e]
 have hdomβ:∀id g,β id=some g->γ[id]? =some g:=fun id g e=>(γat id g).2 ⟨hB.dom id g e,e⟩
 obtain⟨T1,hT1⟩:∃T1,(ps.zip vs).foldl (fun t (x:Tmp×Value)=>t.setIfInBounds x.1 x.2) T=T1:=⟨_,rfl⟩
 rw [hT1]
 have hTT:T1=(ps.toList.zip vs.toList).foldl (fun t (x:Nat×Value)=>t.setIfInBounds x.1 x.2) T:=by
  rw [<-hT1,<-Array.foldl_toList,Array.toList_zip]
 have hset:=Jlc (F:=F) (β:=β) (w:=W) ps.toList args vs.toList env T (by rw [<-hnt];exact hB.size) hps (by simpa using hvs.1) (fun j u v h1 h2=>((hvs.2 j u v h1 (by simpa using h2)).mono (fun b h=>h.elim) (fun b h=>h.elim) (fun id g e=>by cases e))) hB.env
 rw [<-hTT] at hset
 have hB1:RelB { C with df:=[] } (Qj n) ⟨Je3 env ps.toList args,H,n⟩ ⟨T1,[]⟩ W β F:=
  { hB with env:=hset.2,size:=by show T1.size=C.nt;rw [hset.1,hnt],live:=hB.live,inj:=hB.inj }
 have hA:=hB1.rebase γ (fun i g e=>((γat i g).1 e).2)
 obtain⟨Ca,hCa⟩:∃Ca,Ca=reb { C with df:=[] } γ ⟨Je3 env ps.toList args,H,n⟩ W β F:=⟨_,rfl⟩
 have hCaγ:Ca.γ=γ:=by rw [hCa];rfl
 have hCant:Ca.nt=nt:=by rw [hCa];exact hnt
 have oL1:Out ⟨Je3 env ps.toList args,H,n⟩ β F L:=oL
 have oD1:Out ⟨Je3 env ps.toList args,H,n⟩ β F D:=oD
 refine roundIn_of_wpIn trivial ?_
 refine wpIn_mono (Jcj hT hP assign hround (some L) m Ca ⟨T1,[]⟩ W (fun _=>hn1) (by rw [hCaγ,γl]) hCant ⟨β,F,by rw [hCa];exact hA⟩) ?_
 rintro e a1 W2 ⟨σ1,C1,hK1,hE1,β1,F1,hR1⟩
 cases e with
 |normal=>
  have q1:=(hE1.ext.choose_spec.2.2.2 (d:=C1.df) hR1).1
  rw [hCa] at q1
  obtain⟨oL2,bL2⟩:=Out.keep hB1 lL oL1 q1
  obtain⟨oD2,bD2⟩:=Out.keep hB1 lD oD1 q1
  have u1:=hB1.unbase (fun i g e=>(γat i g).2 ⟨hB1.dom i g (hB1.gr i g e),hB1.gr i g e⟩) q1
  have aL2:W2.heap[L]? =some (.loop (rec .ready none)):=bL2.trans aL
  have hbeg:=run_beginRound (P:=P) aL2 (hrec _ _)
  rw [hrb] at hbeg
  refine⟨_,hbeg,?_⟩
  obtain⟨W3,hW3⟩:∃W3,W3=W2.putObj L (.loop (rec .busy none)):=⟨_,rfl⟩
  rw [<-hW3]
  have g3:Same W2 W3 (some L):=by rw [hW3];exact JdO W2 L _
  have hs12:W.heap.size<=W2.heap.size:=q1.grow
  have hs23:W2.heap.size=W3.heap.size:=by rw [hW3];simp
  have aL3:W3.heap[L]? =some (.loop (rec .busy none)):=by rw [hW3];exact World.putObj_heap_same (by omega)
  have hR3:RelB { C with df:=C1.df } (Qj σ1.n) σ1 a1 W3 β1 F1:=u1.other g3 oL2.1 hLC oL2.2
  have hγ1:∀(i:Nat) (g:Hdr),γ[i]? =some g->β1 i=some g:=fun i g e=>q1.gr i g e
  have hB3:=hR3.rebase γ hγ1
  obtain⟨Cb,hCb⟩:∃Cb,Cb=reb { C with df:=C1.df } γ σ1 W3 β1 F1:=⟨_,rfl⟩
  have hCbγ:Cb.γ=γ:=by rw [hCb];rfl
  have hCbnt:Cb.nt=nt:=by rw [hCb];exact hnt
  refine wpIn_mono (Jcj hT hP body hK1 (some L) m Cb a1 W3 (fun _=>hn2) (by rw [hCbγ,γl]) hCbnt ⟨β1,F1,by rw [hCb];exact hB3⟩) ?_
  rintro e2 a2 W4 ⟨σ2,C2,hK2,hE2,hR2⟩
  have key:∀(Hy:Nat->Option ABlk) (gs zs bs:List Nat),Wk n σ2 ⟨eL [],Hy,n⟩ gs zs bs->W4.heap[L]? =some (.loop (rec .busy none))∧∀st pe,∃β' F',RngJ C T env n L D Hy (.loop (rec st pe)) (W4.putObj L (.loop (rec st pe))) β' F'∧W.heap.size<=W4.heap.size∧
    (∀b,b<W.heap.size->¬(b=L∨∃id k g,H id=some k∧β id=some g∧QS g k b)->W4.heap[b]? =W.heap[b]?)∧∀b,(∃id k g,Hy id=some k∧β' id=some g∧QS g k b)->(∃id k g,H id=some k∧β id=some g∧QS g k b)∨W.heap.size<=b:=by
   intro Hy gs zs bs hw
   have hC2:C2.γ.length=n:=by rw [hE2.γ,hCbγ,γl]
   obtain⟨β',F',hR4⟩:=hw.rel hC2 hR2
   have q2:=(hE2.ext.choose_spec.2.2.2 (d:=C2.df) hR4).1
   rw [hCb] at q2
   obtain⟨oL4,bL4⟩:=Out.keep hR3 (by omega) oL2 q2
   obtain⟨oD4,bD4⟩:=Out.keep hR3 (by omega) oD2 q2
   have hs34:W3.heap.size<=W4.heap.size:=q2.grow
   have aL4:W4.heap[L]? =some (.loop (rec .busy none)):=bL4.trans aL3
   refine⟨aL4,fun st pe=>⟨β',F',?_,by omega,fun b hb hn=> ?_,fun b hb=> ?_⟩⟩
   .
    have u2:=hR3.unbase (fun i g e=>hdomβ i g (hB.gr i g e)) q2
    have hFF:∀b,F b->F' b∧W4.heap[b]? =W.heap[b]? :=fun b hb=>by
     have hb1:=(hB1.news b hb).1
     have n1:¬ ∃id k g,H id=some k∧β id=some g∧QS g k b:=fun⟨id,k,g,e1,e2,e3⟩=>by
      obtain⟨g',h1,_,h3⟩:=hB1.live id k e1
      rw [e2] at h1
      cases h1
      exact(h3 b e3).2.1 hb
     have n2:F1 b:=q1.sub b hb
     have n3:¬ ∃id k g,σ1.H id=some k∧β1 id=some g∧QS g k b:=fun⟨id,k,g,e1,e2,e3⟩=>by
      obtain⟨g',h1,_,h3⟩:=q1.live id k e1
      rw [e2] at h1
      cases h1
      exact(h3 b e3).2.1 n2
     have hbL:b≠L:=fun e=>oL.1 (e▸hb)
     exact⟨q2.sub b n2,(q2.block b (by show b<W3.heap.size;omega) n3).trans ((g3.block b (by omega) (by simp;exact hbL)).trans (q1.block b hb1 n1))⟩
    have hββ:∀id g,β id=some g->β' id=some g:=fun id g e=>q2.gr id g (hdomβ id g e)
    have r4:RelB { C with df:=[] } (Qj n) ⟨env,Hy,n⟩ ⟨T,[]⟩ W4 β' F':={
     env:=fun t=>(hB.env t).mono (fun b h=>(hFF b h).1) (fun b h=>(hFF b h).2) hββ
     size:=hB.size
     defers:=rfl
     live:=u2.live
     inj:=u2.inj
     dom:=u2.dom
     gr:=u2.gr
     sub:=u2.sub
     news:=u2.news
     os:=u2.os
     tape:=u2.tape
     output:=u2.output
     grow:=u2.grow
     block:=u2.block
     glo:=u2.glo }
    refine⟨r4.other (JdO W4 L _) oL4.1 hLC oL4.2,oL4,oD4,World.putObj_heap_same (by omega),?_⟩
    rw [World.putObj_heap_other (Ne.symm hLD)]
    exact bD4.trans ((g3.block D (by omega) (by simp;exact Ne.symm hLD)).trans (bD2.trans aD))
   .
    have n1:¬ ∃id k g,H id=some k∧β id=some g∧QS g k b:=fun h=>hn (.inr h)
    have hbL:b≠L:=fun e=>hn (.inl e)
    have n3:¬ ∃id k g,σ1.H id=some k∧β1 id=some g∧QS g k b:=fun⟨id,k,g,e1,e2,e3⟩=>by
     obtain⟨g',h1,_,h3⟩:=q1.live id k e1
     rw [e2] at h1
     cases h1
     rcases(h3 b e3).2.2 with q |q
     . exact n1 q
     . exact absurd hb (Nat.not_lt.2 q)
    exact(q2.block b (by show b<W3.heap.size;omega) n3).trans ((g3.block b (by omega) (by simp;exact hbL)).trans (q1.block b hb n1))
   .
    obtain⟨id,k,g,e1,e2,e3⟩:=hb
    obtain⟨g',h1,_,h3⟩:=q2.live id k e1
    rw [e2] at h1
    cases h1
    rcases(h3 b e3).2.2 with⟨id,k,g,e1,e2,e3⟩|q
    .
     obtain⟨g',h1,_,h3⟩:=q1.live id k e1
     rw [e2] at h1
     cases h1
     rcases(h3 b e3).2.2 with q |q
     . exact .inl q
     . exact .inr q
    .
     have:W3.heap.size<=b:=q
     exact .inr (by omega)
  cases e2 with
  |normal=>
   obtain⟨y,gs,zs,bs,hI,hw⟩:=hK2
   obtain⟨aL4,h4⟩:=key _ gs zs bs hw
   obtain⟨β',F',hJ',hsz,hsame,hown⟩:=h4 .ready none
   have hend:=run_endRound (P:=P) none aL4
   simp only [Option.isNone_none,if_true] at hend
   rw [hre] at hend
   refine⟨_,_,hend,.inl ⟨rfl,by simpa using hsz,fun b hb hn=> ?_,y,β',F',hI,hJ',fun b hb=> ?_⟩⟩
   .
    rw [World.putObj_heap_other (fun e=>hn (.inl e))]
    exact hsame b hb hn
   .
    rcases hb with hb |hb
    . exact .inl (.inl hb)
    .
     rcases hown b hb with q |q
     . exact .inl (.inr q)
     . exact .inr q
  |ret=>
   obtain⟨Hy,gs,zs,bs,hw,hK⟩:=hK2
   obtain⟨aL4,h4⟩:=key _ gs zs bs hw
   obtain⟨β',F',hJ',_,_,_⟩:=h4 .done (some .ret)
   have hend:=run_endRound (P:=P) (some .ret) aL4
   simp only [Option.isNone_some,Bool.false_eq_true,if_false] at hend
   rw [hre] at hend
   exact⟨_,_,hend,.inr ⟨rfl,Hy,β',F',_,hJ',.inl ⟨rfl,hK⟩⟩⟩
  |exit id=>
   obtain⟨Hy,gs,zs,bs,hw,hK⟩:=hK2
   obtain⟨aL4,h4⟩:=key _ gs zs bs hw
   obtain⟨β',F',hJ',_,_,_⟩:=h4 .done (some (.exit id))
   have hend:=run_endRound (P:=P) (some (.exit id)) aL4
   simp only [Option.isNone_some,Bool.false_eq_true,if_false] at hend
   rw [hre] at hend
   exact⟨_,_,hend,.inr ⟨rfl,Hy,β',F',_,hJ',.inr ⟨id,rfl,hK⟩⟩⟩
  |goto l=>exact hK2.elim
  |panic ch=>exact hK2.elim
  |outgrown=>exact hK2.elim
 |ret=>exact hK1.elim
 |exit id=>exact hK1.elim
 |goto l=>exact hK1.elim
 |panic ch=>exact hK1.elim
 |outgrown=>exact hK1.elim
set_option maxHeartbeats 4000000 in
theorem Jk3 {P:Program} (hT:J0 P tab) (hP:P.follows .mixedOrders=true) {α:Type} {g:Nat} {gop:Operand} {assign body:Code} {K:Exit->ASt->Prop} {σ:ASt} (env:Nat->AV) (n:Nat) (Hx:α->Nat->Option ABlk) (Iv:Nat->α->Prop) (x0:α) (h0:Iv 0 x0) {gs zs bs:List Nat} (hw:Wk g σ ⟨env,Hx x0,n⟩ gs zs bs)
  {it:FuncId} {caps:List AV} {ys:List (List AV)} (hg:ev env gop= .fn it caps) (hcap:AV.niL caps=true) (hit:JrF P it caps ys) (hent:∀args w,(callFunc it args).run P w= .ok (.enter it args) w) (hn1:noR assign=true) (hn2:noR body=true)
  (hps:∀p∈ps.toList,p<nt) (hys:∀args∈ys,args.length=ps.size) (hlive:∀x id,id<n->∃b,Hx x id=some b)
  (round:∀k x args,Iv k x->ys[k]? =some args->awp P tab n nt assign (Jjb (awp P tab n nt body (JvW n env Hx Iv K k)) noK) ⟨Je3 env ps.toList args,Hx x,n⟩)
  (done:∀x,Iv ys.length x->K .normal ⟨env,Hx x,n⟩):SW P g nt (.rangeFunc gop ps assign body) K σ:=by
 intro ro m C a w hnr hC hnt hR
 have hro:=Jos hnr
 subst hro
 obtain⟨β,F,hB⟩:=hw.rel hC hR
 obtain⟨T,dfs⟩:=a
 have hdf:dfs=C.df:=hB.defers
 have hev:=hB.ev gop
 simp only at hev
 rw [hg] at hev
 obtain⟨cs,hcs,hrv⟩:∃cs,Act.eval ⟨T,dfs⟩ gop= .func (.func it) #[] cs∧RVs w F noB caps cs:=by
  generalize Act.eval ⟨T,dfs⟩ gop=v at hev
  cases hev with
  |fn _ _ cs h1 h2=>exact⟨cs,rfl,h1,fun j u v hu hv=>(h2 j u v hu hv).noIds (Jbe hcap (Wm hu))⟩
 refine wpIn_rangeFunc (fun fn hfn=> ?_)
 obtain⟨L,hL⟩:∃L,L=w.heap.size+1:=⟨_,rfl⟩
 obtain⟨D,hD⟩:∃D,D=w.heap.size:=⟨_,rfl⟩
 obtain⟨rec,hrec⟩:∃rec:LoopState->Option Code->Loop,rec=fun st pe=>{ state:=st,pending:=pe,fn,tmps:=T,params:=ps,assign,body,defers:=D }:=⟨_,rfl⟩
 obtain⟨W1,hW1⟩:∃W1,W1=(w.alloc (.deferred (some []))).alloc (.loop (rec .ready none)):=⟨_,rfl⟩
 have hsame:Same w W1 none:=by rw [hW1];exact Jld w _ _
 have hs1:W1.heap.size=w.heap.size+2:=by rw [hW1];simp
 have aL1:W1.heap[L]? =some (.loop (rec .ready none)):=by
  rw [hW1,hL]
  have:=World.alloc_heap_new (w.alloc (.deferred (some []))) (.loop (rec .ready none))
  rwa [World.size_alloc] at this
 have aD1:W1.heap[D]? =some (.deferred (some [])):=by
  rw [hW1,hD,Below.heap_alloc _ _ _ (by simp)]
  exact World.alloc_heap_new w _
 have hCw:=hB.grow
 have hB1:RelB { C with df:=[] } (Qj n) ⟨env,Hx x0,n⟩ ⟨T,[]⟩ w β F:=hB.dfr (d:=C.df)
 have hout:∀b,w.heap.size<=b->Out ⟨env,Hx x0,n⟩ β F b:=fun b hb=>⟨fun h=>by have:=(hB.news b h).1;omega,fun id k g' e1 e2 e3=>by
  obtain⟨g2,r1,_,r3⟩:=hB.live id k e1
  rw [e2] at r1
  cases r1
  have:=(r3 b e3).1
  omega⟩
 have hJ1:RngJ C T env n L D (Hx x0) (.loop (rec .ready none)) W1 β F:=⟨hB1.same hsame,hout L (by omega),hout D (by omega),aL1,aD1⟩
 have hLD:L≠D:=by omega
 have fin:∀(H:Nat->Option ABlk) (β':Nat->Option Hdr) (F':Nat->Prop) (st:LoopState) (pe:Option Code) (W:World),RngJ C T env n L D H (.loop (rec st pe)) W β' F'->∃C',CExt C C'∧Rel C' (Qj n) ⟨env,H,n⟩ ⟨T,[mkD D]++dfs⟩ (W.putObj L (.loop (rec .exhausted pe))):=by
  intro H β' F' st pe W hJ
  obtain⟨r1,oL,oD,qL,qD⟩:=hJ
  have lL:L<W.heap.size:=(Array.getElem?_eq_some_iff.1 qL).1
  have lD:D<W.heap.size:=(Array.getElem?_eq_some_iff.1 qD).1
  have r2:=r1.other (JdO W L (.loop (rec .exhausted pe))) oL.1 (by show C.w0.heap.size<=L;omega) oL.2
  have qD2:(W.putObj L (.loop (rec .exhausted pe))).heap[D]? =some (.deferred (some [])):=by rw [World.putObj_heap_other (Ne.symm hLD)];exact qD
  have lD2:D<(W.putObj L (.loop (rec .exhausted pe))).heap.size:=(Array.getElem?_eq_some_iff.1 qD2).1
  generalize W.putObj L (.loop (rec .exhausted pe))=W5 at r2 qD2 lD2
  have r3:=(r2.rebase C.γ r2.gr).dfr (C:=reb { C with df:=[] } C.γ ⟨env,H,n⟩ W5 β' F') (d:=[]) (d':=mkD D::C.df)
  refine⟨{ reb { C with df:=[] } C.γ ⟨env,H,n⟩ W5 β' F' with df:=mkD D::C.df },⟨rfl,rfl,r2.grow,[D],rfl,by simp,fun E hE=> ?_,fun {d I σ a w β F} h=>⟨r2.unbase (d:=d) (fun i g e=>e) h,fun E hE=> ?_⟩⟩,⟨β',F',by rw [hdf];exact r3⟩⟩
  .
   simp at hE
   subst hE
   exact⟨by omega,lD2⟩
  .
   simp at hE
   subst hE
   obtain⟨p1,p2⟩:=Out.keep r2 lD2 oD h
   exact⟨p2.trans qD2,p1.1,p1.2⟩
 refine⟨L,[mkD D],W1,{ target:= .fn (.func it) cs,args:= #[.func (.yield L) #[] #[]] },W1,it,#[.func (.yield L) #[] #[]]++cs,W1,?_,?_,?_,?_,fun h=>by simp [wR,Fence.wide] at h,?_⟩
 .
  have:=run_enterLoop_outer (P:=P) (w:=w) fn T ps assign body
  rw [hW1,hrec,hL,hD]
  exact this
 .
  simp only [resolve]
  rw [show Act.eval { tmps:=T,defers:=dfs } gop= .func (.func it) #[] cs from hcs]
  simp [go_sem]
 . intro f' hf';trivial
 . simp [invoke,go_sem,hent]
 .
  refine(callsIn_wide (n:=m - 1)).2 ?_
  refine Calls.mono (hit L (m - 1) cs (fun k S W=>∃x β' F',Iv k x∧RngJ C T env n L D (Hx x) (.loop (rec .ready none)) W β' F'∧∀b,S b↔(b=L∨∃id k g,Hx x id=some k∧β' id=some g∧QS g k b))
   (fun W=>∃Hy β' F' c,RngJ C T env n L D Hy (.loop (rec .done (some c))) W β' F'∧((c= .ret∧K .ret ⟨env,Hy,n⟩)∨∃id,c= .exit id∧K (.exit id) ⟨env,Hy,n⟩)) ?_ ?_ ?_ ?_ W1 (fun b=>b=L∨∃id k g,Hx x0 id=some k∧β id=some g∧QS g k b) F ?_ ?_ ?_ ?_) ?_
  .
   rintro k S W W' ⟨x,β',F',q1,q2,q3⟩ hs
   exact⟨x,β',F',q1,q2.same hs,q3⟩
  .
   rintro W W' ⟨Hy,β',F',c,q1,q2⟩ hs
   exact⟨Hy,β',F',c,q1.same hs,q2⟩
  .
   rintro k S W b ⟨x,β',F',q1,q2,q3⟩ hb
   rcases(q3 b).1 hb with rfl |⟨id,k,g',e1,e2,e3⟩
   . exact(Array.getElem?_eq_some_iff.1 q2.atL).1
   .
    obtain⟨g2,r1,_,r3⟩:=q2.rel.live id k e1
    rw [e2] at r1
    cases r1
    exact(r3 b e3).1
  .
   rintro k S W args vs ⟨x,β',F',q1,q2,q3⟩ hargs hvs
   have hsz:vs.size=ps.size:=by rw [<-hvs.1];exact hys args (Wm hargs)
   have hy:=run_yield (P:=P) (args:=vs) q2.atL (by rw [hrec];exact hsz)
   rw [hrec] at hy
   refine⟨fn,_,assign,body,hy,RoundIn.mono (Jp0 hT hP (rec:=rec) (α:=α) (Hx:=Hx) (Iv:=Iv) (K:=K) (k:=k) (m - 1) hn1 hn2 hnt hps (hlive x) hLD (by show C.w0.heap.size<=L;omega) (fun st pe=>by rw [hrec]) (fun st pe st'=>by rw [hrec]) (fun st pe st' pe'=>by rw [hrec]) q2 hvs (round k x args q1 hargs)) ?_⟩
   rintro e W' (⟨rfl,h1,h2,y,β2,F2,h3,h4,h5⟩|⟨rfl,h1⟩)
   .
    refine .inl ⟨rfl,h1,fun b hb hn=>h2 b hb (fun h=>hn ((q3 b).2 h)),_,⟨y,β2,F2,h3,h4,fun b=>Iff.rfl⟩,fun b hb=> ?_⟩
    rcases h5 b hb with h |h
    . exact .inl ((q3 b).2 h)
    . exact .inr h
   . exact .inr ⟨rfl,h1⟩
  . exact⟨x0,β,F,h0,hJ1,fun b=>Iff.rfl⟩
  . exact hrv.mono (fun _ h=>h) (fun b hb=>hsame.block b (hB.news b hb).1 (by simp)) (fun _ _ h=>h)
  . exact fun gl=>(hB.glo gl).mono (fun _ h=>h) (fun b hb=>hsame.block b (hB.news b hb).1 (by simp)) (fun _ _ h=>h)
  .
   intro b hb
   refine⟨by have:=(hB.news b hb).1;omega,fun h=> ?_⟩
   rcases h with rfl |⟨id,k,g',e1,e2,e3⟩
   . exact hJ1.outL.1 hb
   .
    obtain⟨g2,r1,_,r3⟩:=hB.live id k e1
    rw [e2] at r1
    cases r1
    exact(r3 b e3).2.1 hb
  .
   rintro e W ⟨⟨v,rfl⟩,⟨S,x,β',F',q1,q2,q3⟩|⟨Hy,β',F',c,q1,q2⟩⟩
   .
    obtain⟨C',hE,hR'⟩:=fin _ _ _ _ _ _ q2
    have hend:(Instr.endLoop L).run P W= .ok none (W.putObj L (.loop (rec .exhausted none))):=by
     have:=run_endLoop (P:=P) q2.atL (by rw [hrec];simp)
     rw [hrec] at this ⊢
     exact this
    refine⟨_,_,hend,?_⟩
    exact⟨⟨env,Hx x,n⟩,C',done x q1,hE,hR'⟩
   .
    obtain⟨C',hE,hR'⟩:=fin _ _ _ _ _ _ q1
    have hend:(Instr.endLoop L).run P W= .ok (some c) (W.putObj L (.loop (rec .exhausted (some c)))):=by
     have:=run_endLoop (P:=P) q1.atL (by rw [hrec];simp)
     rw [hrec] at this ⊢
     exact this
    refine⟨_,_,hend,?_⟩
    rcases q2 with⟨rfl,hk⟩|⟨id,rfl,hk⟩
    . exact wpIn_ret ⟨⟨env,Hy,n⟩,C',hk,hE,hR'⟩
    . exact wpIn_exit ⟨⟨env,Hy,n⟩,C',hk,hE,hR'⟩
theorem JnG {l:List (Nat×ABlk)} (h:(List.range n).all (fun i=>JcT l i)=true):∀id,id<n->∃b,hL l id=some b:=by
 intro id hid
 have h1:=List.all_eq_true.1 h id (List.mem_range.2 hid)
 clear h
 induction l with
 |nil=>simp [JcT] at h1
 |cons p l ih=>
  obtain⟨i,b⟩:=p
  unfold hL
  unfold JcT at h1
  cases e:Nat.beq id i with
  |true=>exact⟨b,rfl⟩
  |false=>
   have e2:Nat.beq i id=false:=by
    cases h2:Nat.beq i id with
    |false=>rfl
    |true=>rw [Nat.eq_of_beq_eq_true h2] at e;rw [show Nat.beq id id=true from by simp] at e;cases e
   rw [e2] at h1
   exact ih h1
structure IVd (df:List Deferred) (nt:Nat) (env:Nat->AV) (F:Nat->Prop) (a:Act) (w:World):Prop where
 size:a.tmps.size=nt
 defers:a.defers=df
 env:∀t,RV w F noB (env t) (a.tmps.getD t undef)
 fr:∀b,F b->b<w.heap.size
 glo:Ji6 w F
abbrev IV:=IVd []
theorem IVd.rel (h:IVd df nt env F a w):Rel ⟨w,[],F,nt,fun _=>False,df⟩ (Qj 0) ⟨env,fun _=>none,0⟩ a w:=
 ⟨noB,F,⟨h.env,h.size,h.defers,fun id k e=>(by cases e),fun id id' k k' g g' b e=>(by cases e),fun id g e=>(by cases e),fun i g e=>(by simp at e),fun b hb=>hb,fun b hb=>⟨h.fr b hb,.inl hb⟩,rfl,.it,rfl,Nat.le_refl _,fun _ _ _=>rfl,h.glo⟩⟩
theorem IVd.ops (hT:J0 P tab) {ro:Option Nat} {ops:Array Oper} {l:List Oper} {K:ASt->Prop} {Q:Exit->Act->World->Prop} (h:IVd df nt env F a w) (hp:JkL P tab 0 nt ops.toList l ⟨env,fun _=>none,0⟩ K)
  (hq:∀σ' a' w' F',K σ'->(∀env',(∀t,env' t= .any∨(env' t=σ'.env t∧(σ'.env t).ni=true))->IVd df nt env' F' a' w')->Same w w' none->(∀b,F b->F' b)->(∀b,F' b->F b∨w.heap.size<=b)->wpListIn (wR ro) m P ops Q r a' w'):wpListIn (wR ro) m P ops Q (l++r) a w:=by
 refine JgE (C:=⟨w,[],F,nt,fun _=>False,df⟩) hT ro m rfl rfl hp h.rel (fun σ' a' w' hK hR=> ?_)
 obtain⟨β,F',hB⟩:=hR
 refine hq σ' a' w' F' hK (fun env' he=> ?_) ⟨hB.os,hB.tape,hB.output,hB.grow,fun b hb _=>hB.block b hb (fun x=>x)⟩ hB.sub (fun b hb=> ?_)
 .
  refine⟨hB.size,hB.defers,fun t=> ?_,fun b hb=>(hB.news b hb).1,hB.glo⟩
  rcases he t with e |⟨e1,e2⟩
  . rw [e];exact .any _
  . rw [e1];exact(hB.env t).noIds e2
 .
  rcases(hB.news b hb).2 with q |q |q
  . exact .inl q
  . exact q.elim
  . exact .inr q
theorem IVd.reg (hT:J0 P tab) {ro:Option Nat} {nt m id:Nat} {ops:Array Oper} {K:ASt->Prop} {Q:Exit->Act->World->Prop} (h:IVd df nt env F a w) (hp:JkL P tab 0 nt ops.toList ops.toList ⟨env,fun _=>none,0⟩ K)
  (hq:∀σ' a' w' F',K σ'->(∀env',(∀t,env' t= .any∨(env' t=σ'.env t∧(σ'.env t).ni=true))->IVd df nt env' F' a' w')->Same w w' none->(∀b,F b->F' b)->(∀b,F' b->F b∨w.heap.size<=b)->Q .normal a' w'):(Code.region id ops false).wpIn (wR ro) m P Q a w:=by
 have:=h.ops (ro:=ro) (r:=[]) hT hp (m:=m) hq
 rw [List.append_nil] at this
 exact wpIn_region_list this
theorem JbD {l:List (Nat×AV)} (h:∀p∈l,env p.1=p.2∧p.2.ni=true):∀t,eL l t= .any∨(eL l t=env t∧(env t).ni=true):=by
 intro t
 rcases Jbq l t with e |⟨p,hp,rfl,e⟩
 . exact .inl e
 . exact .inr ⟨by rw [e,(h p hp).1],by rw [(h p hp).1];exact(h p hp).2⟩
theorem JkT {ops:Array Oper} {o:Oper} {x:Operand} {xs:Array Operand} {ts:Array TypeId} {l:Nat} {vs:Array Value} {R:Ending->World->Prop} {Q:Exit->Act->World->Prop} (hg:o.guard=none) (ho:o.op= .call { callee:= .value x,args:=xs,argTypes:=ts })
  (hx:a.eval x= .func (.yield l) #[] #[]) (hv:xs.map a.eval=vs) (hY:YieldAt Fence.wide m P l vs w R) (hR:∀e W',R e W'->∃b,e= .returned (.bool b)∧wpListIn (wR none) (m+1) P ops Q r (a.put o.dst (.bool b)) W'):wpListIn (wR none) (m+1) P ops Q (o::r) a w:=by
 obtain⟨fn,tmps,assign,body,hy,hround⟩:=hY
 refine wpListIn_plain hg fun K hK=> ?_
 unfold Oper.wpIn
 refine⟨fun _ _=>trivial,?_⟩
 rw [Oper.semAt_eq _ _ _ (by rw [ho];intro c hc;cases hc)]
 have hrun:(execOp a.eval o).run P w= .ok (.round l fn tmps assign body) w:=by
  simp only [execOp,ho,resolve,hx,hv]
  simp [invoke,hy,Deferred.ofValue]
 rw [hrun]
 refine⟨fun e=>by simp [wR,Fence.wide] at e,hround.mono (fun e W' hr=> ?_)⟩
 obtain⟨b,rfl,hk⟩:=hR e W' hr
 exact hK _ _ hk
theorem Jj7 {ops:Array Oper} {o:Oper} {x:Operand} {t:TypeId} {b:Bool} {Q:Exit->Act->World->Prop} (hg:o.guard=none) (ho:o.op= .unOp .not t x) (hx:a.eval x= .bool b)
  (hk:wpListIn (wR none) m P ops Q r (a.put o.dst (.bool (!b))) w):wpListIn (wR none) m P ops Q (o::r) a w:=by
 refine wpListIn_plain hg fun K hK=>Jol (by rw [ho];intro c hc;cases hc) none m (upon_value (u:= .bool (!b)) (w':=w) ?_ (hK _ _ hk))
 cases b<;>simp [execOp,ho,hx,Op.unary]
theorem IVd.put (h:IVd df nt env F a w) {d:Nat} {x:AV} {v:Value} (hd:d<nt) (hx:RV w F noB x v):IVd df nt (Je4 env d x) F (a.put (some d) v) w:=by
 refine⟨by simp [Act.put,h.size],h.defers,fun t=> ?_,h.fr,h.glo⟩
 have hdT:d<a.tmps.size:=by rw [h.size];exact hd
 by_cases ht:t=d
 .
  subst ht
  rw [Jdf]
  have:(a.put (some t) v).tmps.getD t undef=v:=by simp [Act.put,Array.getD,hdT]
  rw [this]
  exact hx
 .
  rw [Jc6 _ _ ht]
  have:(a.put (some d) v).tmps.getD t undef=a.tmps.getD t undef:=by
   simp only [Act.put,Wa]
   rw [Array.getElem?_setIfInBounds_ne (Ne.symm ht)]
  rw [this]
  exact h.env t
theorem IVd.world (h:IVd df nt env F a w) (hs:w.heap.size<=w'.heap.size) (hF:∀b,F b->w'.heap[b]? =w.heap[b]?):IVd df nt env F a w':=
 ⟨h.size,h.defers,fun t=>(h.env t).mono (fun _ x=>x) hF (fun _ _ e=>e),fun b hb=>Nat.lt_of_lt_of_le (h.fr b hb) hs,fun g=>(h.glo g).mono (fun _ x=>x) hF (fun _ _ e=>e)⟩
theorem IVd.bool (h:IVd df nt env F a w) {b:Bool} (e:env t= .bool b):a.tmps.getD t undef= .bool b:=by
 have:=h.env t
 rw [e] at this
 generalize a.tmps.getD t undef=v at this
 cases this
 rfl
theorem IVd.int (h:IVd df nt env F a w) {k:IntKind} {n:Int} (e:env t= .int k n):a.tmps.getD t undef= .int k n:=by
 have:=h.env t
 rw [e] at this
 generalize a.tmps.getD t undef=v at this
 cases this
 rfl
theorem IVd.val (h:IVd df nt env F a w) {u:Value} (e:env t= .val u):a.tmps.getD t undef=u:=by
 have:=h.env t
 rw [e] at this
 generalize a.tmps.getD t undef=v at this
 cases this
 rfl
theorem JfD {d:Nat} {v:Value} (h:d<a.tmps.size):(a.put (some d) v).tmps.getD d undef=v:=by simp [Act.put,Array.getD,h]
theorem JfZ {F:Fence} {Q:Exit->Act->World->Prop} {a:Act} {w:World} {c:Code} (I:Nat->Act->World->Prop) (n0:Nat) (h₀:I n0 a w)
  (round:∀n a w,I n a w->c.wpIn F m P (Exit.then (fun a' w'=>∃n',n'<n∧I n' a' w') Q) a w):(Code.loop c).wpIn F m P Q a w:=by
 intro b k cs hro hb hr
 have key:∀j a w,I j a w->
   ∃e a' w',Q e a' w'∧ArrivesIn (Machine.fenced P F) P (lone (b.atR a (.code c:: .inLoop c::k)) cs w) b k cs e a' w':=by
  intro j
  induction j using Nat.strongRecOn with
  |_ j ih=>
   intro a w hI
   obtain⟨e,a₁,w₁,hq,harr⟩:=round j a w hI b (.inLoop c::k) cs hro hb hr
   cases e with
   |normal=>
    obtain⟨n',hlt,hI₁⟩:=hq
    obtain⟨e₂,a₂,w₂,hq₂,harr₂⟩:=ih n' hlt a₁ w₁ hI₁
    exact⟨e₂,a₂,w₂,hq₂,.of_steps (StepsIn.trans harr (.one (fenced_calm hb hr rfl) stepR_inLoop)) harr₂⟩
   |exit id=>exact⟨_,a₁,w₁,hq,.pass (x:= .inLoop c) rfl (fun _ _=> .inl (by simp)) harr⟩
   |goto l=>exact⟨_,a₁,w₁,hq,.pass (x:= .inLoop c) rfl (fun _ _=> .inl (by simp)) harr⟩
   |ret=>exact⟨_,a₁,w₁,hq,.pass (x:= .inLoop c) rfl (fun _ _=> .inl (by simp)) harr⟩
   |panic ch=>exact⟨_,a₁,w₁,hq,.pass (x:= .inLoop c) rfl (fun _ _=> .inl (by simp)) harr⟩
   |outgrown=>exact⟨_,a₁,w₁,hq,.pass (x:= .inLoop c) rfl (fun _ _=> .inl (by simp)) harr⟩
 obtain⟨e,a',w',hq,harr⟩:=key _ a w h₀
 exact⟨e,a',w',hq,.of_steps (.one (fenced_calm hb hr rfl) stepR_loop) harr⟩
theorem IVd.re {F:Nat->Prop} {a:Act} {w:World} (h:IVd df nt env F a w) {l:List (Nat×AV)} (hl:∀p∈l,env p.1=p.2):IVd df nt (eL l) F a w:=
 ⟨h.size,h.defers,fun t=>by
  rcases Jbq l t with e |⟨p,hp,rfl,e⟩
  . rw [e];exact .any _
  . rw [e,<-hl p hp];exact h.env p.1,h.fr,h.glo⟩
theorem Yt {α:Type} {l:List α} {k:Nat} {x:α} (h:l[k]? =some x):k+1<=l.length:=(List.getElem?_eq_some_iff.1 h).1
end Go.Proofs.YtehhohbnhcogkaaGreatDoor.Ax
namespace Go.Proofs.YtehhohbnhcogkaaGreatDoor.Ax
open Go.RowKit
variable {env:Nat->AV} {P:Program} {nt:Nat} {df:List Deferred}
variable {C:Ctx} {I I':Nat->Prop} {σ σ':ASt} {a a':Act} {w w':World} {β β':Nat->Option Hdr} {F F':Nat->Prop}
theorem RelB.hand (hR:RelB C I σ a w β F) {id:Nat} {k:ABlk} (h2:σ.H id=some k) {g:Hdr} (h3:β id=some g) {b:Nat} (hb:g.blk=some b) (hs:Same w w' (some b)) (hsz:a'.tmps.size=C.nt) (hdf:a'.defers=C.df) (henv:∀t,RV w' F β (env t) (a'.tmps.getD t undef)):
  RelB C I ⟨env,ZI σ.H id none,σ.n⟩ a' w' β F:=by
 obtain⟨_,d1,_,d3⟩:=hR.live id k h2
 rw [h3] at d1
 cases d1
 obtain⟨d4,d5,d6⟩:=d3 b (.inl hb)
 have hkill:=hR.kill id
 have hstep:RelB C I { σ with H:=ZI σ.H id none } a w' β F:=by
  refine hkill.step hs (fun j e=> ?_) I (fun _ x=>x) _ β (fun _ _ x=>x) (fun id g e=>hR.dom id g e) (fun id1 k1 e1=> ?_) hkill.inj
  .
   cases e
   refine⟨d5,fun hlt=> ?_⟩
   rcases d6 with d6 |d6
   . exact d6
   . omega
  .
   refine .inl ⟨e1,fun g1 j s1 s2 s3=> ?_⟩
   cases s3
   by_cases hid:id1=id
   . subst hid;rw [Qk] at e1;cases e1
   .
    rw [YW _ _ hid] at e1
    exact hid (hR.inj id1 id k1 k g1 _ _ e1 h2 s1 h3 s2 (.inl hb))
 exact⟨henv,hsz,hdf,hstep.live,hstep.inj,hstep.dom,hstep.gr,hstep.sub,hstep.news,hstep.os,hstep.tape,hstep.output,hstep.grow,hstep.block,hstep.glo⟩
theorem Jnd {tab:Tab} (hT:J0 P tab) (hP:P.follows .mixedOrders=true) {g:Nat} {x y:Code} {K:Exit->ASt->Prop} {σ:ASt} (S:ASt->Prop) (h1:awp P tab g nt x (fun e σ'=>e= .normal∧S σ') σ) (h2:∀σ',S σ'->SW P g nt y K σ'):SW P g nt (.seq x y) K σ:=fun ro m C a w hnr hC hnt hR=>by
 refine wpIn_seq (wpIn_mono (Jcj hT hP x h1 ro m C a w (fun e=>(JdP hnr).1 e) hC hnt hR) (fun e a' w' ⟨σ',C',q,hE,r⟩=> ?_))
 obtain⟨rfl,q⟩:=q
 exact wpIn_mono (h2 σ' q ro m C' a' w' (JdP hnr).2 (by rw [hE.γ];exact hC) (by rw [hE.nt];exact hnt) r) (fun e a' w' ⟨σ',C2,q,hE2,r⟩=>⟨σ',C2,q,hE.trans hE2,r⟩)
def JqY:AV->Bool
 | .val _ | .int .. | .bool _ | .str _=>true
 |_=>false
theorem JqX {u:AV} (h:JqY u=true) {v:Value} (hv:RV w F noB u v):RV w' F' β u v:=by
 cases u<;>simp [JqY] at h<;>cases hv<;>constructor
theorem IVd.shrink {l:List (Nat×AV)} (h:IVd df nt (eL l) F' a w) (hl:l.all (fun p=>JqY p.2)=true) (hF:∀b,F b->b<w.heap.size) (hg:Ji6 w F):IVd df nt (eL l) F a w:=by
 refine⟨h.size,h.defers,fun t=> ?_,hF,hg⟩
 have h1:=h.env t
 rcases Jbq l t with e |⟨p,hp,rfl,e⟩
 . rw [e];exact .any _
 .
  rw [e] at h1 ⊢
  exact JqX (List.all_eq_true.1 hl p hp) h1
theorem IVd.with {l:List (Nat×AV)} (h:IVd df nt (eL l) F a w) (t:Nat) {u:AV} (hu:RV w F noB u (a.tmps.getD t undef)):IVd df nt (eL ((t,u)::l)) F a w:=by
 refine⟨h.size,h.defers,fun t'=> ?_,h.fr,h.glo⟩
 simp only [eL]
 split
 .
  rename_i e
  rw [Nat.eq_of_beq_eq_true e]
  exact hu
 . exact h.env t'
theorem JhV {ro:Option Nat} {m:Nat} {ops:Array Oper} {r:List Oper} {o:Oper} {f:FuncId} {xs:Array Operand} {ts:Array TypeId} {d:Nat} {vs:Array Value} {R:Ending->World->Prop} {Q:Exit->Act->World->Prop} (hg:o.guard=none) (hd:o.dst=some d) (ho:o.op= .call { callee:= .value (.func f),args:=xs,argTypes:=ts })
  (hent:∀args w,(callFunc f args).run P w= .ok (.enter f args) w) (hv:xs.map a.eval=vs) (hc:Calls P f vs w R) (hR:∀e W',R e W'->∃v,e= .returned v∧wpListIn (wR ro) m P ops Q r (a.put (some d) v) W'):wpListIn (wR ro) m P ops Q (o::r) a w:=by
 refine wpListIn_plain hg fun K hK=>Jol (by rw [ho];intro c hc;cases hc) ro m ?_
 have hexec:(execOp a.eval o).run P w= .ok (.enter f vs) w:=by
  simp [execOp,ho,resolve,Act.eval,Deferred.ofValue,invoke,hent,hv]
 unfold Oper.wp
 rw [hexec]
 simp only [Oper.upon_enter]
 refine Calls.mono hc fun e w' he=> ?_
 obtain⟨v,rfl,hk⟩:=hR e w' he
 rw [hd]
 exact hK _ _ hk
theorem IVd.ev (h:IVd df nt env F a w) (x:Operand):RV w F noB (ev env x) (a.eval x):=by
 cases x with
 |tmp t=>exact h.env t
 |const v=>exact .const w F noB v
 |global g=>exact(h.glo g).up
 |func f=>exact .fn f [] #[] rfl (fun j u v hu=>by simp at hu)
theorem IVd.give {env2:Nat->AV} (h:IVd df nt env F a w) (h2:IVd df nt env2 F a w) {ro:Option Nat} {m:Nat} {ops:Array Oper} {r:List Oper} {o:Oper} {d:Nat} {v:AV} {Q:Exit->Act->World->Prop} (hg:o.guard=none) (hd:o.dst=some d) (hdn:d<nt) (hnd:∀c,o.op≠ .defer c) (hgv:ZH P o env2 (fun _=>none) v [])
  (hk:∀u,RV w F noB v u->IVd df nt (Je4 env d v) F (a.put (some d) u) w->IVd df nt (Je4 env2 d v) F (a.put (some d) u) w->wpListIn (wR ro) m P ops Q r (a.put (some d) u) w):wpListIn (wR ro) m P ops Q (o::r) a w:=by
 obtain⟨u,r1,r2⟩:=hgv w F noB a (fun x _=>h2.ev x) (fun id hid=>by simp at hid)
 refine wpListIn_plain hg fun K hK=>Jol hnd ro m (upon_value r1 ?_)
 rw [hd]
 exact hK _ _ (hk u r2 (h.put hdn r2) (h2.put hdn r2))
theorem Jue {α β:Type} {f:α->β} {x y:α} {u v:β} (h1:f x=u) (h2:f y=v): #[x,y].map f= #[u,v]:=by simp [h1,h2]
theorem Juf {α β:Type} {f:α->β} {x:α} {u:β} (h1:f x=u): #[x].map f= #[u]:=by simp [h1]
theorem Jiy {a:Act} {t:Nat} {v:Value} (h:a.tmps.getD t undef=v):a.eval (.tmp t)=v:=h
end Go.Proofs.YtehhohbnhcogkaaGreatDoor.Ax
namespace Go.Proofs.YtehhohbnhcogkaaGreatDoor.Ex
open Go.RowKit
variable {w':World} {N b:Nat} {bs:List Value}
set_option maxHeartbeats 1000000 in
set_option maxRecDepth 100000 in
theorem Js8 (b:Nat) (w:World) (h0:w.cell? ⟨b,0,none⟩=some (.pointer (some ⟨b,0,none⟩))):
  Calls Tryz.prog 159 #[.pointer (some ⟨b,0,none⟩)] w fun e w'=>e= .returned (.tuple #[])∧w'=w:=by
 obtain⟨j,hj,_⟩:=Option.map_eq_some_iff.1 (show (Tryz.prog.info? 187).map (·.size)=some 2 by kernel_rfl)
 go_enter Tryz.func159,Tryz.ntmps159
 go_wp2
 rw [Lib.run_neq_ptr_same w _ Tryz.underlying185 hj]
 go_wp2
 go_end0
 exact⟨rfl,rfl⟩
set_option maxHeartbeats 1000000 in
set_option maxRecDepth 100000 in
theorem Jrk (b:Nat) (w:World) (h0:w.cell? ⟨b,0,none⟩=some (.pointer none)) (hsh:w.shape? b=some (187,2)) (hfz:w.frozen? ⟨b,0,none⟩=false):
  Calls Tryz.prog 159 #[.pointer (some ⟨b,0,none⟩)] w fun e w'=>e= .returned (.tuple #[])∧w'=w.setCell ⟨b,0,none⟩ (.pointer (some ⟨b,0,none⟩)):=by
 obtain⟨j,hj,hjs⟩:=Option.map_eq_some_iff.1 (show (Tryz.prog.info? 187).map (·.size)=some 2 by kernel_rfl)
 go_enter Tryz.func159,Tryz.ntmps159
 go_wp2
 rw [Lib.run_to_unsafe w ⟨b,0,none⟩ Tryz.underlying185 Tryz.underlying254 hj (by rw [hjs];decide) hsh (Nat.zero_lt_succ 1)]
 simp only [Result.andThen]
 rw [Oper.upon_value]
 go_wp2
 rw [run_callFunc_extern Tryz.func185 (by kernel_rfl) (by kernel_rfl) (by kernel_rfl) (e:=Extern.AbiNoEscape.same) (by kernel_rfl)]
 rw [Lib.run_noEscape]
 simp only [Result.andThen]
 rw [Oper.upon_value]
 go_wp2
 rw [Lib.run_from_unsafe w ⟨b,0,none⟩ Tryz.underlying254 Tryz.underlying185 hj hsh (by kernel_rfl)]
 simp only [Result.andThen]
 rw [Oper.upon_value]
 go_wp2
 go_end0
 exact⟨rfl,rfl⟩
theorem Je5 (w:World) (b:Nat):∀(o:Nat) (l:List Value),(w.setCells b o l).drawn=w.drawn
 |_,[]=>rfl
 |o,v::r=>by
  unfold World.setCells
  exact(Je5 _ b (o+1) r).trans rfl
theorem JjP {P:Program} {w:World} {t tx ty e:TypeId} {i:TypeInfo} {z:Value} (ht:P.underlying t=some (.slice e)) (hi:P.info? e=some i) (hz:i.zero=some z) (hs1:i.size=1) (hby:i.bytes=1) {v:Value} {n:Nat} {xs:List Value} (hown:w.ownsRowF N e 1 v n xs)
  {x:Value} {m:Nat} {news:List Value} (hs:Go.Src P i.size tx x m news w) (hlen:n+m<=140737488355328) {v':Value} (hr:(Builtin.append_ #[t,tx] ty #[v,x]).run P w= .ok v' w'):w.drawn<=w'.drawn:=by
 have fit:∀cap,cap<n+m->Builtin.nextslicecap (n+m) cap*i.bytes<=281474976710656:=fun cap h=>growslice_fits h (by rw [hby];omega)
 rcases hown.2 with⟨rfl,rfl⟩|⟨g,cap,cur,fz,rfl,hbg,hg,hfz,hnc,hcm,hcs,htake⟩
 .
  by_cases h0:m=0
  .
   subst h0
   have h1:(Builtin.append_ #[t,tx] ty #[.slice none 0 0,x]).run P w= .ok (.slice none 0 0) w:=by
    rcases hs.kind with⟨e',hk⟩|hk<;>simp [Builtin.append_,run_underlying ht,run_underlying hk,sizeOf,typeInfo,hi,hs.len,hs.cells]
   rw [h1] at hr
   cases hr
   exact Nat.le_refl _
  .
   have h1:=run_append_grow_src (P:=P) w t tx ty e i z ht hi hz none 0 0 [] (by simp [Builtin.firstCells]) x m news hs (by omega) (by omega) (fit 0 (by omega))
   rw [h1] at hr
   cases hr
   exact Nat.le_succ _
 .
  by_cases hroom:n+m<=cap
  .
   have hl:news.length=m:=by rw [hs.newsLen,hs1,Nat.mul_one]
   have h1:=run_append_room_src (P:=P) w t tx ty e i ht hi g 0 n cap x m news hs hroom (fun j hj=>by
    rw [hs1]
    have:n+j<cur.size:=by omega
    simp [World.cell?,hg,this]) (fun j hj=>by
    rw [hs1]
    obtain⟨lo,hi2⟩:=fz
    simp only at hfz
    simp [World.frozen?,hg]
    omega)
   rw [h1] at hr
   cases hr
   exact Nat.le_of_eq (Je5 _ _ _ _).symm
  .
   have h1:=run_append_grow_src (P:=P) w t tx ty e i z ht hi hz (some ⟨g,0,none⟩) n cap xs (run_firstCells_some (P:=P) w.drew i.size n ⟨g,0,none⟩ n cap xs (by rw [hs1];exact hown.1) (by intro j u hj;rw [World.cell?_drew];exact hown.cells (g:=g) rfl j u hj)) x m news hs (by omega) (by omega) (fit cap (by omega))
   rw [h1] at hr
   cases hr
   exact Nat.le_succ _
section
variable {P:Program} {w:World}
theorem JkV {ops:Array Oper} {rest:List Oper} {o:Oper} {a:Act} {Q:Exit->Act->World->Prop} (hgd:o.guard=none) (sl x:Operand) (t u:TypeId)
  (ho:o.op= .call { callee:= .builtin .append,args:= #[sl,x],argTypes:= #[t,u] })
  (base:Nat) (e:TypeId) (i:TypeInfo) (ht:P.underlying t=some (.slice e)) (hu:P.underlying u=some .string) (hi:P.info? e=some i) (hz:i.zero=some (.int .u8 0))
  (hsize:i.size=1) (hby:i.bytes=1)
  (v:Value) (n:Nat) (xs:List Value) (hs:a.eval sl=v) (hown:w.ownsRowF base e 1 v n xs) (s:ByteArray) (hx:a.eval x= .string s)
  (h63:n+s.size<=maxLen) (hbytes:n+s.size<=140737488355328) (hbase:base<=w.heap.size)
  (h:∀v' w',w'.ownsRowF base e 1 v' (n+s.size) (xs++Lib.strCells s)->w.grownBy w' v.ownBlock->w.drawn<=w'.drawn->wpList P ops Q rest (a.put o.dst v') w'):wpList P ops Q (o::rest) a w:=by
 refine wpList_plain hgd fun K hK=> ?_
 obtain⟨v',w',hr,h2,h3,_⟩:=Lib.run_append_own_stringF (P:=P) w base t u o.type e i ht hu hi hz hsize hby v n xs hown s h63 hbytes hbase
 have hd:=JjP ht hi hz hsize hby hown (by rw [hsize];exact Go.Src.ofString w hu s) hbytes hr
 unfold Oper.wp execOp
 simp only [ho,resolve,invoke,builtin,Sem.run_bind,Sem.run_pure,Result.andThen_ok,List.map_toArray,List.map_cons,List.map_nil,hs,hx,hr]
 exact hK _ _ (h v' w' h2 h3 hd)
theorem JkW {ops:Array Oper} {rest:List Oper} {o:Oper} {a:Act} {Q:Exit->Act->World->Prop} (hgd:o.guard=none) (s x:Operand) (t:TypeId)
  (ho:o.op= .call { callee:= .builtin .append,args:= #[s,x],argTypes:= #[t,t] })
  (base:Nat) (e:TypeId) (i:TypeInfo) (z:Value) (ht:P.underlying t=some (.slice e)) (hi:P.info? e=some i) (hz:i.zero=some z)
  (hsize:i.size=1) (hby:i.bytes=1) (hzs:z.cells.size=1)
  (v:Value) (n:Nat) (xs:List Value) (hs:a.eval s=v) (hown:w.ownsRowF base e 1 v n xs)
  (ad:Addr) (m c:Nat) (news:List Value) (hx:a.eval x= .slice (some ad) m c) (hl:news.length=m*1) (hnews:∀j u,news[j]? =some u->w.cell? (ad.add j)=some u) (h1:∀u∈news,u.oneCell'=true)
  (h63:n+m<=maxLen) (hbytes:n+m<=140737488355328) (hbase:base<=w.heap.size)
  (h:∀v' w',w'.ownsRowF base e 1 v' (n+m) (xs++news)->w.grownBy w' v.ownBlock->w.drawn<=w'.drawn->wpList P ops Q rest (a.put o.dst v') w'):wpList P ops Q (o::rest) a w:=by
 refine wpList_plain hgd fun K hK=> ?_
 obtain⟨v',w',hr,h2,h3,_⟩:=run_append_ownF (P:=P) w base t o.type e i z 1 1 ht hi hz hsize hby hzs (by decide) v n xs hown ad m c news hl hnews h1 h63 (by omega) hbase
 have hd:=JjP ht hi hz hsize hby hown (by rw [hsize];exact Go.Src.ofSlice w ht ad m c news hl hnews h1) hbytes hr
 unfold Oper.wp execOp
 simp only [ho,resolve,invoke,builtin,Sem.run_bind,Sem.run_pure,Result.andThen_ok,List.map_toArray,List.map_cons,List.map_nil,hs,hx,hr]
 exact hK _ _ (h v' w' h2 h3 hd)
end
def Bl (N b:Nat) (bs:List Value) (w:World):Prop:=b<N∧N<=w.heap.size∧∃p v,(p= .pointer none∨p= .pointer (some ⟨b,0,none⟩))∧w.heap[b]? =some (.cells #[p,v] 187 (0,0))∧w.ownsRowF N 5 1 v bs.length bs
structure KeptB (N b:Nat) (w w':World):Prop where
 os:w'.os=w.os
 tape:w'.tape=w.tape
 output:w'.output=w.output
 drawn:w.drawn<=w'.drawn
 size:w.heap.size<=w'.heap.size
 block:∀k,k<N->k≠b->w'.heap[k]? =w.heap[k]?
theorem KeptB.refl (N b:Nat) (w:World):KeptB N b w w:=⟨rfl,rfl,rfl,Nat.le_refl _,Nat.le_refl _,fun _ _ _=>rfl⟩
theorem KeptB.trans {w w'':World} (h:KeptB N b w w') (g:KeptB N b w' w''):KeptB N b w w'':=
 ⟨g.os.trans h.os,g.tape.trans h.tape,g.output.trans h.output,Nat.le_trans h.drawn g.drawn,Nat.le_trans h.size g.size,fun k h1 h2=>(g.block k h1 h2).trans (h.block k h1 h2)⟩
theorem KeptB.setCell {w:World} (h:KeptB N b w w') (j:Nat) (v:Value):KeptB N b w (w'.setCell ⟨b,j,none⟩ v):=
 ⟨h.os,h.tape,h.output,h.drawn,by simpa [World.setCell] using h.size,fun k h1 h2=>(Below.heap_setCell w' ⟨b,j,none⟩ v k h2).trans (h.block k h1 h2)⟩
theorem KeptB.alloc {w:World} (h:KeptB N b w w') (hN:N<=w'.heap.size) (o:Obj):KeptB N b w (w'.alloc o):=
 ⟨h.os,h.tape,h.output,h.drawn,by have:=h.size;simp;omega,fun k h1 h2=>(Below.heap_alloc w' o k (by omega)).trans (h.block k h1 h2)⟩
theorem KeptB.drew {w:World} (h:KeptB N b w w'):KeptB N b w w'.drew:=⟨h.os,h.tape,h.output,Nat.le_succ_of_le h.drawn,h.size,h.block⟩
theorem KeptB.grown {w w'':World} {r:Option Nat} (h:KeptB N b w w') (hN:N<=w'.heap.size) (g:w'.grownBy w'' r) (hd:w'.drawn<=w''.drawn) (hr:∀k,r=some k->N<=k):KeptB N b w w'':=
 ⟨g.os.trans h.os,g.tape.trans h.tape,g.output.trans h.output,Nat.le_trans h.drawn hd,Nat.le_trans h.size g.size,fun k h1 h2=>(g.block k (by omega) (fun e=>by have:=hr k e.symm;omega)).trans (h.block k h1 h2)⟩
theorem Bl.put {p v v':Value} {w:World} (h1:b<N) (h2:N<=w.heap.size) (hp:p= .pointer none∨p= .pointer (some ⟨b,0,none⟩)) (hb:w.heap[b]? =some (.cells #[p,v] 187 (0,0))) (hown:w.ownsRowF N 5 1 v' bs.length bs):
  Bl N b bs (w.setCell ⟨b,1,none⟩ v'):=by
 have hne:=Lib.ownBlock_neF hown hb (by decide)
 refine⟨h1,by simpa [World.setCell] using h2,p,v',hp,?_,?_⟩
 . simp [World.setCell,Array.getElem?_modify,hb]
 . exact hown.kept (row:=some b) ⟨rfl,rfl,rfl,by simp [World.setCell],fun k _ hk=>Below.heap_setCell _ _ _ _ (fun e=>hk (by simp [e]))⟩ (Or.inr hne)
theorem Jrl {w:World} (h:Bl N b bs w):
  Calls Tryz.prog 159 #[.pointer (some ⟨b,0,none⟩)] w fun e w'=>e= .returned (.tuple #[])∧KeptB N b w w'∧b<N∧N<=w'.heap.size∧∃v,w'.heap[b]? =some (.cells #[.pointer (some ⟨b,0,none⟩),v] 187 (0,0))∧w'.ownsRowF N 5 1 v bs.length bs:=by
 obtain⟨h1,h2,p,v,hp,hb,hown⟩:=h
 rcases hp with rfl |rfl
 .
  refine(Jrk b w (by simp [World.cell?,hb]) (by simp [World.shape?,hb]) (by simp [World.frozen?,hb])).mono ?_
  rintro e w' ⟨rfl,rfl⟩
  have hne:=Lib.ownBlock_neF hown hb (by decide)
  exact⟨rfl,(KeptB.refl N b w).setCell 0 _,h1,by simpa [World.setCell] using h2,v,by simp [World.setCell,Array.getElem?_modify,hb],hown.kept (row:=some b) ⟨rfl,rfl,rfl,by simp [World.setCell],fun k _ hk=>Below.heap_setCell _ _ _ _ (fun e=>hk (by simp [e]))⟩ (Or.inr hne)⟩
 .
  refine(Js8 b w (by simp [World.cell?,hb])).mono ?_
  rintro e w' ⟨rfl,rfl⟩
  exact⟨rfl,KeptB.refl N b _,h1,h2,v,hb,hown⟩
theorem Jul:(Tryz.prog.info? 5).map (fun i=>(i.zero,i.size,i.bytes))=some (some (.int .u8 0),1,1):=by kernel_rfl
set_option maxHeartbeats 2000000 in
set_option maxRecDepth 100000 in
theorem Juu {w:World} (c:Int) (h:Bl N b bs w) (hlen:bs.length+1<=140737488355328):
  Calls Tryz.prog 110 #[.pointer (some ⟨b,0,none⟩),.int .u8 c] w fun e w'=>e= .returned .nilIface∧Bl N b (bs++[.int .u8 c]) w'∧KeptB N b w w':=by
 obtain⟨i0,hi,hz0,hz1,hz2⟩:=info_parts Jul
 go_enter Tryz.func110,Tryz.ntmps110
 go_wp2_with (go_at_call 159;refine(Jrl h).mono ?_)
 rintro e w1 ⟨rfl,hk1,hbN,hN1,v,hbk,hown⟩
 have c0:w1.cell? ⟨b,0,none⟩=some (.pointer (some ⟨b,0,none⟩)):=by rw [Lib.cell_of_heap hbk];rfl
 have c1:w1.cell? ⟨b,1,none⟩=some v:=by rw [Lib.cell_of_heap hbk];rfl
 go_wp2_with (at_builtin;refine JkW rfl _ _ 73 rfl N 5 i0 (.int .u8 0) Tryz.underlying73 hi hz0 hz1 hz2 rfl _ _ _ rfl (hown.alloc _) ⟨w1.heap.size,0,none⟩ 1 1 [.int .u8 c] rfl rfl ?c1 ?c2 ?c3 ?c4 ?c5 ?_)
 case c1=>
  intro j u hj
  match j,hj with
  |0,hj=>simp at hj;subst hj;simp [Addr.add]
 case c2=>intro u hu;simp at hu;subst hu;rfl
 case c3=>unfold maxLen;omega
 case c4=>omega
 case c5=>simp;omega
 intro v' w2 hown' hgrow hdr
 have hlt:b<w1.heap.size:=by omega
 have hne:=Lib.ownBlock_neF hown hbk (by decide)
 have hb2:w2.heap[b]? =some (.cells #[.pointer (some ⟨b,0,none⟩),v] 187 (0,0)):=by
  rw [hgrow.block b (by simp;omega) (fun e=>hne e.symm),Lib.alloc_old w1 _ b hlt]
  exact hbk
 have d0:w2.cell? ⟨b,0,none⟩=some (.pointer (some ⟨b,0,none⟩)):=by rw [Lib.cell_of_heap hb2];rfl
 have d1:w2.cell? ⟨b,1,none⟩=some v:=by rw [Lib.cell_of_heap hb2];rfl
 have f1:w2.frozen? ⟨b,1,none⟩=false:=Lib.frozen_of_heap hb2 1
 obtain⟨g,cap,rfl⟩:∃g cap,v'= .slice (some ⟨g,0,none⟩) (bs.length+1) cap:=by
  rcases hown'.2 with⟨_,h0⟩|⟨g,cap,cur,fz,hv,_⟩
  . omega
  . exact⟨g,cap,hv⟩
 have hN2:N<=w2.heap.size:=by have:=hgrow.size;simp at this;omega
 go_wp2
 go_ret
 refine⟨rfl,?_,?_⟩
 . exact Bl.put hbN hN2 (.inr rfl) hb2 (by simpa using hown')
 . exact((hk1.alloc hN1 _).grown (by simp;omega) hgrow hdr (fun k hk=>(hown.lt k hk).1)).setCell 1 _
set_option maxHeartbeats 2000000 in
set_option maxRecDepth 100000 in
theorem Jvd {w:World} (s:ByteArray) (h:Bl N b bs w) (hlen:bs.length+s.size<=140737488355328):
  Calls Tryz.prog 108 #[.pointer (some ⟨b,0,none⟩),.string s] w fun e w'=>e= .returned (.tuple #[.int .i64 s.size,.nilIface])∧Bl N b (bs++Lib.strCells s) w'∧KeptB N b w w':=by
 obtain⟨i0,hi,hz0,hz1,hz2⟩:=info_parts Jul
 go_enter Tryz.func108,Tryz.ntmps108
 go_wp2_with (go_at_call 159;refine(Jrl h).mono ?_)
 rintro e w1 ⟨rfl,hk1,hbN,hN1,v,hbk,hown⟩
 have c0:w1.cell? ⟨b,0,none⟩=some (.pointer (some ⟨b,0,none⟩)):=by rw [Lib.cell_of_heap hbk];rfl
 have c1:w1.cell? ⟨b,1,none⟩=some v:=by rw [Lib.cell_of_heap hbk];rfl
 go_wp2_with (at_builtin;refine JkV rfl _ _ 73 9 rfl N 5 i0 Tryz.underlying73 Tryz.underlying9 hi hz0 hz1 hz2 _ _ _ rfl hown s rfl ?c3 ?c4 ?c5 ?_)
 case c3=>unfold maxLen;omega
 case c4=>omega
 case c5=>omega
 intro v' w2 hown' hgrow hdr
 have hlt:b<w1.heap.size:=by omega
 have hne:=Lib.ownBlock_neF hown hbk (by decide)
 have hb2:w2.heap[b]? =some (.cells #[.pointer (some ⟨b,0,none⟩),v] 187 (0,0)):=by
  rw [hgrow.block b hlt (fun e=>hne e.symm)]
  exact hbk
 have d0:w2.cell? ⟨b,0,none⟩=some (.pointer (some ⟨b,0,none⟩)):=by rw [Lib.cell_of_heap hb2];rfl
 have d1:w2.cell? ⟨b,1,none⟩=some v:=by rw [Lib.cell_of_heap hb2];rfl
 have f1:w2.frozen? ⟨b,1,none⟩=false:=Lib.frozen_of_heap hb2 1
 obtain⟨ao,n',cap,rfl⟩:∃ao n' cap,v'= .slice ao n' cap:=by
  rcases hown'.2 with⟨hv,_⟩|⟨g,cap,cur,fz,hv,_⟩
  . exact⟨_,_,_,hv⟩
  . exact⟨_,_,_,hv⟩
 have hN2:N<=w2.heap.size:=by have:=hgrow.size;omega
 go_wp2
 go_ret2
 refine⟨rfl,?_,?_⟩
 . exact Bl.put hbN hN2 (.inr rfl) hb2 (by simpa [Lib.strCells_length] using hown')
 . exact(hk1.grown hN1 hgrow hdr (fun k hk=>(hown.lt k hk).1)).setCell 1 _
set_option maxHeartbeats 2000000 in
set_option maxRecDepth 100000 in
theorem Ju2 {l:List UInt8} {w:World} (h:Bl N b (Lib.byteCells l) w) (h0:l≠[]):
  Calls Tryz.prog 111 #[.pointer (some ⟨b,0,none⟩)] w fun e w'=>e= .returned (.string ⟨l.toArray⟩)∧KeptB N b w w':=by
 obtain⟨hbN,hN,p,v,hp,hbk,hown⟩:=h
 have hl0:l.length≠0:=by simpa using h0
 rw [Lib.byteCells_length] at hown
 obtain⟨g,cap,cur,fz,rfl,hbg,hg,hfz,hnc,hcm,hcs,htake⟩:∃g cap cur fz,v= .slice (some ⟨g,0,none⟩) l.length cap∧N<=g∧w.heap[g]? =some (.cells cur 5 fz)∧fz.2<=l.length*1∧l.length<=cap∧cap<=maxLen∧cur.size=cap*1∧cur.toList.take (l.length*1)=Lib.byteCells l:=by
  rcases hown.2 with⟨_,hz⟩|⟨g,cap,cur,fz,hv,r⟩
  . exact absurd hz hl0
  . exact⟨g,cap,cur,fz,hv,r⟩
 have c1:w.drew.cell? ⟨b,1,none⟩=some (.slice (some ⟨g,0,none⟩) l.length cap):=by
  have:w.drew.heap[b]? =some (.cells #[p,.slice (some ⟨g,0,none⟩) l.length cap] 187 (0,0)):=hbk
  rw [Lib.cell_of_heap this];rfl
 have hSD:(Builtin.unsafeSliceData_ #[73] 237 #[.slice (some ⟨g,0,none⟩) l.length cap]).run Tryz.prog w.drew= .ok (.pointer (some ⟨g,0,none⟩)) w.drew:=
  Lib.run_unsafeSliceData_row _ _ _ _ _ _ (by omega)
 have hUS:(Builtin.unsafeString_ #[237,3] 9 #[.pointer (some ⟨g,0,none⟩),.int .i64 l.length]).run Tryz.prog w.drew= .ok (.string ⟨l.toArray⟩) (w.drew.freeze ⟨g,0,none⟩ l.length):=by
  refine Lib.run_unsafeString_row w.drew 237 3 9 5 Tryz.underlying237 (by kernel_rfl) g cur.size (by have hg':w.drew.heap[g]? =some (.cells cur 5 fz):=hg;simp [World.shape?,hg']) l h0 (by omega) (by unfold maxLen at hcm;omega) ?_
  intro j x hx
  have:=hown.cells (g:=g) rfl j (.int .u8 x.toNat) (by simp [Lib.byteCells,hx])
  exact this
 have hkf:KeptB N b w (w.drew.freeze ⟨g,0,none⟩ l.length):=by
  refine⟨?_,?_,?_,?_,?_,fun k h1 h2=> ?_⟩<;>unfold World.freeze<;>split<;>(try rfl)<;>(try exact Nat.le_succ _)<;>(try (simp;done))
  rw [Array.getElem?_modify,if_neg (by show ¬g=k;omega)]
  rfl
 go_enter Tryz.func111,Tryz.ntmps111
 go_wp2
 go_region
 all_goals (go_wp2;go_ret;exact⟨rfl,hkf⟩)
set_option maxHeartbeats 2000000 in
set_option maxRecDepth 100000 in
theorem Jtc {p:Value} {w:World} (hbk:w.heap[b]? =some (.cells #[p,.slice none 0 0] 187 (0,0))):
  Calls Tryz.prog 111 #[.pointer (some ⟨b,0,none⟩)] w fun e w'=>e= .returned (.string ⟨#[]⟩)∧KeptB N b w w':=by
 have hUS:∀W:World,(Builtin.unsafeString_ #[237,3] 9 #[.pointer none,.int .i64 0]).run Tryz.prog W= .ok (.string .empty) W:=fun W=>Lib.run_unsafeString_none W _ _ _ none
 have c1:w.drew.cell? ⟨b,1,none⟩=some (.slice none 0 0):=by
  have:w.drew.heap[b]? =some (.cells #[p,.slice none 0 0] 187 (0,0)):=hbk
  rw [Lib.cell_of_heap this];rfl
 have hSD:(Builtin.unsafeSliceData_ #[73] 237 #[.slice none 0 0]).run Tryz.prog w.drew= .ok (.pointer none) w.drew:=rfl
 go_enter Tryz.func111,Tryz.ntmps111
 go_wp2
 go_region
 all_goals (go_wp2;go_ret;exact⟨rfl,(KeptB.refl N b w).drew⟩)
end Go.Proofs.YtehhohbnhcogkaaGreatDoor.Ex
namespace Go.Proofs.YtehhohbnhcogkaaGreatDoor.Ex
def JlB:Go.Shelf.Ren:=⟨fun |171=>109 |243=>160 |246=>186 |283=>201 |284=>202 |285=>203 |286=>204 |129=>136 |317=>209 |318=>210 |319=>211 |320=>121 |337=>168 |338=>169 |n=>n,fun |3=>3 |9=>9 |2=>2 |4=>4 |171=>269 |0=>0 |53=>221 |37=>73 |5=>5 |173=>271 |212=>276 |51=>219 |20=>20 |213=>277 |46=>165 |232=>263 |233=>264 |n=>n,fun |17=>2 |18=>0 |19=>1 |n=>n⟩
theorem JsP:Go.Proofs.Lays.n171 Tryz.prog JlB:={
 mixed:=by kernel_rfl
 f129:=Tryz.func136.trans (congrArg some (by kernel_rfl))
 f171:=Tryz.func109.trans (congrArg some (by kernel_rfl))
 f243:=Tryz.func160.trans (congrArg some (by kernel_rfl))
 f246:=Tryz.func186.trans (congrArg some (by kernel_rfl))
 f283:=Tryz.func201.trans (congrArg some (by kernel_rfl))
 f284:=Tryz.func202.trans (congrArg some (by kernel_rfl))
 f285:=Tryz.func203.trans (congrArg some (by kernel_rfl))
 f286:=Tryz.func204.trans (congrArg some (by kernel_rfl))
 f317:=Tryz.func209.trans (congrArg some (by kernel_rfl))
 f318:=Tryz.func210.trans (congrArg some (by kernel_rfl))
 f319:=Tryz.func211.trans (congrArg some (by kernel_rfl))
 f320:=Tryz.func121.trans (congrArg some (by kernel_rfl))
 f337:=Tryz.func168.trans (congrArg some (by kernel_rfl))
 f338:=Tryz.func169.trans (congrArg some (by kernel_rfl))
 t0:=Tryz.underlying0
 a0:=Tryz.isAgg0
 z0:=Tryz.sizeOf0
 v0:=Tryz.zeroValue0
 t2:=Tryz.underlying2
 a2:=Tryz.isAgg2
 z2:=Tryz.sizeOf2
 v2:=Tryz.zeroValue2
 t3:=Tryz.underlying3
 a3:=Tryz.isAgg3
 z3:=Tryz.sizeOf3
 v3:=Tryz.zeroValue3
 t4:=Tryz.underlying4
 a4:=Tryz.isAgg4
 z4:=Tryz.sizeOf4
 v4:=Tryz.zeroValue4
 t5:=Tryz.underlying5
 a5:=Tryz.isAgg5
 z5:=Tryz.sizeOf5
 v5:=Tryz.zeroValue5
 t9:=Tryz.underlying9
 a9:=Tryz.isAgg9
 z9:=Tryz.sizeOf9
 v9:=Tryz.zeroValue9
 t20:=Tryz.underlying20
 a20:=Tryz.isAgg20
 z20:=Tryz.sizeOf20
 v20:=Tryz.zeroValue20
 t37:=Tryz.underlying73
 a37:=Tryz.isAgg73
 z37:=Tryz.sizeOf73
 v37:=Tryz.zeroValue73
 t46:=Tryz.underlying165
 a46:=Tryz.isAgg165
 z46:=Tryz.sizeOf165
 v46:=Tryz.zeroValue165
 t51:=Tryz.underlying219
 a51:=Tryz.isAgg219
 z51:=Tryz.sizeOf219
 v51:=Tryz.zeroValue219
 t53:=Tryz.underlying221
 a53:=Tryz.isAgg221
 z53:=Tryz.sizeOf221
 v53:=Tryz.zeroValue221
 t171:=Tryz.underlying269
 a171:=Tryz.isAgg269
 z171:=Tryz.sizeOf269
 v171:=Tryz.zeroValue269
 t173:=Tryz.underlying271
 a173:=Tryz.isAgg271
 z173:=Tryz.sizeOf271
 v173:=Tryz.zeroValue271
 t212:=Tryz.underlying276
 a212:=Tryz.isAgg276
 z212:=Tryz.sizeOf276
 v212:=Tryz.zeroValue276
 t213:=Tryz.underlying277
 a213:=Tryz.isAgg277
 z213:=Tryz.sizeOf277
 t232:=Tryz.underlying263
 a232:=Tryz.isAgg263
 z232:=Tryz.sizeOf263
 v232:=Tryz.zeroValue263
 t233:=Tryz.underlying264
 a233:=Tryz.isAgg264
 z233:=Tryz.sizeOf264
 v233:=Tryz.zeroValue264
 g17:=by kernel_rfl
 g18:=by kernel_rfl
 g19:=by kernel_rfl }
end Go.Proofs.YtehhohbnhcogkaaGreatDoor.Ex
namespace Go.Proofs.YtehhohbnhcogkaaGreatDoor.Ex
open Go.RowKit Go.Proofs.YtehhohbnhcogkaaGreatDoor.Ax Go.Shelf
variable {b:Nat} {w w':World}
theorem Jwd (i:Nat) (h:i<100):Lib.decDigits i=bif decide (i<10) then [UInt8.ofNat (48+i)] else [UInt8.ofNat (48+i / 10),UInt8.ofNat (48+i % 10)]:=by
 rw [Lib.decDigits]
 by_cases h10:i<10
 . rw [dif_pos h10,Wd h10];rfl
 . rw [dif_neg h10,Lib.decDigits,dif_pos (by omega),We h10];rfl
theorem JmM {n:Int} {d:List UInt8} (h:JnD n=some d) (w:World):Calls Tryz.prog 109 #[.int .i64 n] w fun e w'=>e= .returned (.string ⟨d.toArray⟩)∧w'=w:=by
 unfold JnD at h
 cases hc:(decide (0<=n)&&decide (n<100)) with
 |false=>rw [hc] at h;cases h
 |true=>
  rw [hc] at h
  simp only [Bool.and_eq_true,decide_eq_true_eq] at hc
  obtain⟨i,rfl⟩:∃i:Nat,n=(i:Int):=⟨n.toNat,by omega⟩
  have hi:i<100:=by omega
  have hd:d=Lib.decDigits i:=by
   rw [Jwd i hi]
   have h:=Wi h
   rw [<-h]
   simp only [Int.toNat_natCast]
   congr 1
   by_cases h10:i<10
   . rw [Wd h10,Wd (by omega)]
   . rw [We h10,We (by omega)]
  subst hd
  exact Any.strconv_Itoa_small JsP i hi w
theorem JmZ (d:List UInt8):Lib.strCells ⟨d.toArray⟩=Lib.byteCells d:=by
 simp [Lib.strCells,Lib.byteCells]
def Jmi (o:Obj):Prop:=o= .cells #[.pointer none,.slice none 0 0] 187 (0,0)
theorem Jor {g:Nat} {o:Oper} {σ:ASt} (ho:o.op= .alloc 187):YD Tryz.prog g o σ ⟨.ptr σ.n 0,[(σ.n,some (.obj Jmi))],[],σ.n+1⟩:=by
 refine⟨Nat.le_succ _,fun C I σ2 a w K Q hC hxs hH hI hd hR hK=> ?_⟩
 obtain⟨β,F,hR⟩:=hR
 have hn:¬I σ.n:=hI σ.n (Nat.le_refl _) (Wn _)
 have hz:=Tryz.zeroValue187 w
 refine upon_value (u:= .pointer (some ⟨w.heap.size,0,none⟩)) (w':=w.alloc (.cells #[.pointer none,.slice none 0 0] 187)) (by simp [execOp,ho,Instr.alloc,hz,newVar,JbH];rfl) (hK _ _ ?_)
 have h2:=hR.new hn (Ja5 w (.cells #[.pointer none,.slice none 0 0] 187)) (YN (some w.heap.size) 0 0) (fun i e=>by cases e;simp) (.obj Jmi) ⟨w.heap.size,_,rfl,World.alloc_heap_new w _,rfl⟩
 exact⟨_,F,(h2.put o.dst (.ptr σ.n 0) _ hd (.ptr σ.n 0 w.heap.size _ (J7 _ _ _) rfl)).fin rfl rfl (fun i hi=>Jcs hi)⟩
theorem Bl.same {N:Nat} {bs:List Value} (h:Bl N b bs w) (hs:Same w w' none):Bl N b bs w':=by
 obtain⟨h1,h2,p,v,hp,hb,hown⟩:=h
 refine⟨h1,Nat.le_trans h2 hs.size,p,v,hp,(hs.block b (by omega) (by simp)).trans hb,?_⟩
 exact hown.kept (row:=none) ⟨hs.os,hs.tape.eq,hs.output,hs.size,hs.block⟩ (by cases hv:v.ownBlock<;>simp)
theorem KeptB.same {N:Nat} {w'':World} (h:KeptB N b w w') (hN:N<=w'.heap.size) (hs:Same w' w'' none):KeptB N b w w'':=
 ⟨hs.os.trans h.os,hs.tape.eq.trans h.tape,hs.output.trans h.output,Nat.le_trans h.drawn hs.tape.le,Nat.le_trans h.size hs.size,fun k h1 h2=>(hs.block k (by omega) (by simp)).trans (h.block k h1 h2)⟩
theorem KeptB.toSame (h:KeptB w.heap.size b w w'):Same w w' (some b):=
 ⟨h.os,⟨h.tape,h.drawn⟩,h.output,h.size,fun k h1 h2=>h.block k h1 (fun e=>h2 (by rw [e]))⟩
end Go.Proofs.YtehhohbnhcogkaaGreatDoor.Ex
