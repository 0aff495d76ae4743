/-
  Of any bytes as a log, with any pages, a mailbox is made that is what layer 10 says, or it has too many messages: cubbylaw20.RepairLogs answers true, for all bytes and all harms.
-/
import Derived.Test.YtclcfkaphlopeaaGreatDoorRepf
import Derived.Deep.Slices
import Derived.Deep.Fields
import Derived.ChangeSlices
import Derived.Carry
import Derived.SizedLaws
import Derived.Lib.SmallJoins
import Derived.LaidSub
import Derived.Lib.LaidTab
import Derived.MakeChecks
import Derived.Stop.LaidErr
import Derived.Test.YtclcfkaphlopeaaGreatDoorCards
import Derived.Test.YtclcfkaphlopeaaGreatDoorTie
import Derived.SevenTiedAt
set_option linter.unusedSimpArgs false
set_option linter.unusedVariables false
set_option maxRecDepth 100000
set_option maxHeartbeats 16000000
namespace Go.Proofs.YtclcfkaphlopeaaGreatDoor
open Go.ChangeShapes Go.WideShapes Go.Deep Go.RowKit
theorem Dr {w:World} {a:Addr} {v:Value} (h:w.cell? a=some v):a.block<w.heap.size:=by
 rcases Nat.lt_or_ge a.block w.heap.size with hlt|hge
 ·exact hlt
 ·unfold World.cell? at h
  simp[Array.getElem?_eq_none hge] at h
def Gh {H:Type} (enc:TypeId×Value→H) (P:Program) (w:World) (t:TypeId) (cs:List Value):Prop:=∃base spare held fuel x,DataW.trod enc P w base spare held fuel t cs=some x
section
variable {H:Type} {enc:TypeId×Value→H} {P:Program} {w:World} {t e:TypeId} {cs:List Value}
theorem wE {k:IntKind} (h:Gh enc P w t cs) (ht:P.underlying t=some (.int k)):∃n,cs=[.int k n]∧(Lit.int k n).wf=true:=by
 obtain⟨_,_,_,_,_,h⟩:=h
 obtain⟨n,e,_,hw⟩:=DataW.trod_int ht h
 exact⟨n,e,hw⟩
theorem sw (h:Gh enc P w t cs) (ht:P.underlying t=some .bool):∃b,cs=[.bool b]:=by
 obtain⟨_,_,_,_,_,h⟩:=h
 obtain⟨s,e,_⟩:=DataW.trod_bool ht h
 exact⟨s,e⟩
theorem B5 (k:Nat):∀(L:List (List Value)) (i j:Nat) (x:List Value),(∀x∈L,x.length=k)→L[i]?=some x→j<k→L.flatten[i*k+j]?=x[j]?
 |y::r,0,j,x,hL,h,hj=>by
  have e:y=x:=by simpa using h
  subst e
  have:=hL y List.mem_cons_self
  rw[List.flatten_cons,Nat.zero_mul,Nat.zero_add,List.getElem?_append_left (by omega)]
 |y::r,i+1,j,x,hL,h,hj=>by
  have ih:=B5 k r i j x (fun z hz=>hL z (List.mem_cons_of_mem _ hz)) (by simpa using h) hj
  have:=hL y List.mem_cons_self
  have hm:k≤(i+1)*k+j:=by rw[Nat.succ_mul];omega
  rw[List.flatten_cons,List.getElem?_append_right (by omega)]
  have e:(i+1)*k+j - y.length=i*k+j:=by rw[Nat.succ_mul];omega
  rw[e];exact ih
theorem r0 (k:Nat):∀(L:List (List Value)),(∀x∈L,x.length=k)→L.flatten.length=L.length*k
 |[],_=>by simp
 |y::r,h=>by
  have:=r0 k r fun z hz=>h z (List.mem_cons_of_mem _ hz)
  rw[List.flatten_cons,List.length_append,this,h y List.mem_cons_self,List.length_cons,Nat.succ_mul];omega
theorem kv {M:Type} {f:M→List Value} {Q:M→Prop}:∀{L:List (List Value)},(∀x∈L,∃m,x=f m∧Q m)→∃l:List M,L=l.map f∧∀m∈l,Q m
 |[],_=>⟨[],rfl,by simp⟩
 |x::r,h=>by
  obtain⟨m,rfl,hm⟩:=h x List.mem_cons_self
  obtain⟨l,rfl,hl⟩:=kv (L:=r) fun y hy=>h y (List.mem_cons_of_mem _ hy)
  exact⟨m::l,rfl,fun y hy=>by
   rcases List.mem_cons.1 hy with e|e
   ·subst e;exact hm
   ·exact hl y e⟩
theorem sX (hl:laidOutB P=true) {W W':World} {sp:Nat→Bool}:∀{ts:List TypeId} {vs:List Value} {ds:List (DataW H)} {ps:List MemPlace},(ts.all fun t=>P.readableRec t&&decide (t<P.types.size))=true→
 DataW.TrodAll enc P W 0 (fun _=>true) true ts vs ds ps→(∀x∈ps,W.sameAt W' x)→(∀x∈ps,sp x.block=true)→DataW.TrodAll enc P W' 0 sp true ts vs ds ps
 |[],[],[],_,_,h,_,_=>h
 |_::_,_::_,_::_,_,ha,⟨p,q,h1,h2,e⟩,hsame,hs=>by
  rw[List.all_cons,Bool.and_eq_true,Bool.and_eq_true,decide_eq_true_eq] at ha
  subst e
  exact⟨p,q,WideElems.Trod_stays hl ha.1.1 ha.1.2 h1 (fun x hx=>hsame x (List.mem_append_left _ hx)) (fun x hx=>hs x (List.mem_append_left _ hx)),
   sX hl ha.2 h2 (fun x hx=>hsame x (List.mem_append_right _ hx)) (fun x hx=>hs x (List.mem_append_right _ hx)),rfl⟩
end
def iQ {H:Type} (R:Nat) (enc:TypeId×Value→H) (P:Program) (w:World) (t:TypeId) (cs:List Value):Prop:=∃base spare held fuel d ps,DataW.trod enc P w base spare held fuel t cs=some (d,ps)∧∀k∈d.weights P t,k≤R
section
variable {H:Type} {enc:TypeId×Value→H} {P:Program} {w:World} {t e:TypeId} {cs:List Value} {R:Nat}
theorem iQ.fits (h:iQ R enc P w t cs):Gh enc P w t cs:=by
 obtain⟨b,s,hd,f,d,ps,h,_⟩:=h
 exact⟨b,s,hd,f,_,h⟩
theorem lL {e:TypeId} {dd:DataW H} {k:Nat}:∀{l:List (DataW H)},dd∈l→k∈dd.weights P e→k∈DataW.weightsAll P e l
 |y::r,h,hk=>by
  unfold DataW.weightsAll
  rw[List.mem_append]
  rcases List.mem_cons.1 h with rfl|h
  ·exact .inl hk
  ·exact .inr (lL h hk)
theorem pW (h:iQ R enc P w t cs) (ht:P.underlying t=some (.slice e)) (hk:0<P.cellsOf e) (heb:1≤P.bytesOf e):
 ∃(A:Option Addr) (n c:Nat) (L:List (List Value)),cs=[.slice A n c]∧n≤c∧c≤maxLen∧n≤R∧L.length=n∧(∀x∈L,x.length=P.cellsOf e∧iQ R enc P w e x)∧aE w w.heap.size (P.cellsOf e) A n L.flatten:=by
 obtain⟨base,spare,held,fuel,d,ps,hf,hz⟩:=h
 rcases open_slice ht hf with⟨hcs,_⟩|⟨a,len,cap,m,n0,D,Pl,hcs,_,hl,hm,hmm,hdx,hx⟩
 ·exact⟨none,0,0,[],hcs,Nat.le_refl _,Nat.zero_le _,Nat.zero_le _,rfl,fun x hx=>(by cases hx),by simp,fun hn=>absurd hn (by simp)⟩
 ·have hml:len≤m:=by rw[hmm];split<;>omega
  have hdw:d= .slice ((List.range len).map D) ((List.range (m - len)).map fun j=>D (len+j)):=congrArg Prod.fst hdx
  have hall:∀n,n≤len→∃L:List (List Value),L.length=n∧(∀x∈L,x.length=P.cellsOf e∧iQ R enc P w e x)∧∀i x,L[i]?=some x→∀j u,x[j]?=some u→w.cell? (a.add (i*P.cellsOf e+j))=some u:=by
   intro n
   induction n with
   |zero=>intro _;exact⟨[],rfl,by simp,by simp⟩
   |succ n ih=>
    intro hnl
    obtain⟨L,hl1,hl2,hl3⟩:=ih (by omega)
    obtain⟨cs',hcc,htr⟩:=hx n (by omega)
    obtain⟨_,hlen,hat⟩:=World.cells?_some hcc
    refine⟨L++[cs'],by simp[hl1], ?_, ?_⟩
    ·intro y hy
     rcases List.mem_append.1 hy with h|h
     ·exact hl2 y h
     ·rw[List.mem_singleton] at h
      subst h
      refine⟨hlen,base,spare,held,n0,_,_,htr,fun k hk'=>hz k ?_⟩
      rw[hdw]
      unfold DataW.weights
      rw[ht]
      simp only[List.mem_cons,List.mem_append]
      exact .inr (.inl (lL (List.mem_map.2 ⟨n,List.mem_range.2 (by omega),rfl⟩) hk'))
    ·intro i y hi' j u hj
     rcases Nat.lt_or_ge i L.length with h|h
     ·rw[List.getElem?_append_left h] at hi';exact hl3 i y hi' j u hj
     ·rw[List.getElem?_append_right h] at hi'
      have h0:i - L.length=0:=by
       rcases Nat.eq_zero_or_pos (i - L.length) with h'|h'
       ·exact h'
       ·rw[List.getElem?_eq_none (by simp;omega)] at hi';cases hi'
      rw[h0] at hi'
      have hy:cs'=y:=by simpa using hi'
      subst hy
      obtain rfl:i=n:=by omega
      have hj2:j<P.cellsOf e:=by
       have:=(List.getElem?_eq_some_iff.1 hj).1
       omega
      have:=hat j hj2
      rw[hj,Go.Deep.add_add] at this
      exact this
  obtain⟨L,hL1,hL2,hL3⟩:=hall len (Nat.le_refl _)
  refine⟨some a,len,cap,L,hcs,hl,hm, ?_,hL1,hL2, ?_,fun hn=>⟨a,rfl, ?_, ?_⟩⟩
  ·have hq:=hz ((len+(m - len))*P.bytesOf e) (by rw[hdw];simp[DataW.weights,ht])
   have e2:(len+(m - len))*1≤(len+(m - len))*P.bytesOf e:=Nat.mul_le_mul_left _ heb
   omega
  ·rw[r0 _ L fun x hx=>(hL2 x hx).1,hL1]
  ·obtain⟨x,hx0⟩:∃x,L[0]?=some x:=⟨_,List.getElem?_eq_getElem (by omega)⟩
   have hxl:=(hL2 x (List.mem_of_getElem? hx0)).1
   obtain⟨u,hu⟩:∃u,x[0]?=some u:=⟨_,List.getElem?_eq_getElem (by omega)⟩
   have:=Dr (hL3 0 x hx0 0 u hu)
   rwa [aD] at this
  ·intro j u hj
   have hjl:=(List.getElem?_eq_some_iff.1 hj).1
   rw[r0 _ L fun x hx=>(hL2 x hx).1] at hjl
   have hq:j/P.cellsOf e<L.length:=Nat.div_lt_of_lt_mul (by rw[Nat.mul_comm];exact hjl)
   have he2:j/P.cellsOf e*P.cellsOf e+j%P.cellsOf e=j:=by rw[Nat.mul_comm];exact Nat.div_add_mod j _
   have hp:=B5 (P.cellsOf e) L (j/P.cellsOf e) (j%P.cellsOf e) _ (fun x hx=>(hL2 x hx).1) (List.getElem?_eq_getElem hq) (Nat.mod_lt _ hk)
   rw[he2,hj] at hp
   have:=hL3 _ _ (List.getElem?_eq_getElem hq) _ u hp.symm
   rw[he2] at this
   exact this
theorem xy {ts:List TypeId} {ds:List (DataW H)} (h:(DataW.weightsEach P ts ds).all (·≤reachBytes)=true) {j:Nat} {t:TypeId} {d:DataW H} (ht:ts[j]?=some t) (hd:ds[j]?=some d):∀k∈d.weights P t,k≤140737488355328:=by
 intro k hk
 have:=List.all_eq_true.1 h _ (DataW.weights_mem_each ht hd k hk)
 have h2:reachBytes<2^47:=reachBytes_lt
 simp only[decide_eq_true_eq] at this
 omega
theorem CG {base0:Nat} {spare:Nat→Bool} {held:Bool} {v:Value} {d:DataW H} {ps:List MemPlace} (h:DataW.Trod enc P w base0 spare held t v d ps) (hz:∀k∈d.weights P t,k≤R):iQ R enc P w t v.cells.toList:=by
 obtain⟨fuel,hf⟩:=h
 exact⟨_,_,_,fuel,_,_,hf,hz⟩
theorem pV {base0:Nat} {spare:Nat→Bool} {held:Bool} {v:Value} {d:DataW H} {ps:List MemPlace} (h:DataW.Trod enc P w base0 spare held t v d ps) (hc:v.cells=#[v]) (hz:∀k∈d.weights P t,k≤R):iQ R enc P w t [v]:=by
 have:=CG h hz
 rwa [hc] at this
end
end Go.Proofs.YtclcfkaphlopeaaGreatDoor
namespace Go.Proofs.YtclcfkaphlopeaaGreatDoor
open Go.RowKit
theorem FO {n:Int} (h:(Lit.int .u8 n).wf=true):∃k:UInt8,n=(k.toNat:Nat):=by
 simp[Lit.wf,IntKind.min,IntKind.max,IntKind.signed,IntKind.bits] at h
 refine⟨UInt8.ofNat n.toNat, ?_⟩
 rw[UInt8.toNat_ofNat']
 omega
theorem CT {n:Int} (h:(Lit.int .i64 n).wf=true): -9223372036854775808≤n∧n≤9223372036854775807:=by
 simp[Lit.wf,IntKind.min,IntKind.max,IntKind.signed,IntKind.bits] at h
 omega
theorem EV {M:Type} (f:M→List Value) (l:List M):(l.map f).flatten=l.flatMap f:=by
 induction l with
 |nil=>rfl
 |cons x r ih=>rw[List.map_cons,List.flatten_cons,List.flatMap_cons,ih]
theorem EB {M:Type} (f:M→Value) (l:List M):(l.map fun x=>[f x]).flatten=l.map f:=by
 induction l with
 |nil=>rfl
 |cons x r ih=>rw[List.map_cons,List.flatten_cons,ih];rfl
theorem IH {α:Type} {x:List α} (h:x.length=1):∃a,x=[a]:=by
 match x,h with
 |[a],_=>exact⟨a,rfl⟩
theorem II {α:Type} {x:List α} (h:x.length=4):∃a b c d,x=[a,b,c,d]:=by
 match x,h with
 |[a,b,c,d],_=>exact⟨a,b,c,d,rfl⟩
section
variable {H:Type} {enc:TypeId×Value→H} {w:World} {R:Nat}
theorem pi {c1:Value} (h:iQ R enc Tryz.prog w 22 [c1]):∃(A:Option Addr) (c:Nat) (l:List UInt8),c1= .slice A l.length c∧l.length≤c∧c≤maxLen∧l.length≤R∧aE w w.heap.size 1 A l.length (ar l):=by
 have hk:Tryz.prog.cellsOf 5=1:=by kernel_rfl
 obtain⟨A,n,c,L,hcs,hn,hc,hR,hl,hL,hr⟩:=pW h Tryz.underlying22 (by rw[hk];omega) (Nat.le_of_ble_eq_true (by kernel_rfl))
 rw[hk] at hr
 obtain⟨l,rfl,_⟩:=kv (f:=fun b:UInt8=>[.int .u8 ((b.toNat:Nat):Int)]) (Q:=fun _=>True) fun x hx=>by
  obtain⟨hx1,hx2⟩:=hL x hx
  rw[hk] at hx1
  obtain⟨a,rfl⟩:=IH hx1
  obtain⟨u,e0,hu⟩:=wE hx2.fits Tryz.underlying5
  obtain⟨k,rfl⟩:=FO hu
  exact⟨k,e0,trivial⟩
 rw[List.length_map] at hl
 rw[EB (fun b:UInt8=> .int .u8 ((b.toNat:Nat):Int))] at hr
 subst hl
 simp only[List.cons.injEq,and_true] at hcs
 exact⟨A,c,l,hcs,hn,hc,hR,hr⟩
end
end Go.Proofs.YtclcfkaphlopeaaGreatDoor
namespace Go.Proofs.YtclcfkaphlopeaaGreatDoor
open Go.RowKit Go.ChangeShapes Go.WideShapes
section
variable {H:Type} {enc:TypeId×Value→H} {w:World} {R:Nat}
theorem zL {t:TypeId} {cs:List Value} {fs:Array Field} (h:iQ R enc Tryz.prog w t cs) (ht:Tryz.prog.underlying t=some (.struct fs)):cs.length=Tryz.prog.cellsOf t∧∀(j:Nat) (f:Field),fs[j]?=some f→iQ R enc Tryz.prog w f.type ((cs.drop f.offset).take (Tryz.prog.cellsOf f.type)):=by
 obtain⟨base,spare,held,fuel,d,ps,h,hz⟩:=h
 obtain⟨ys,n,_,hx,hl,hyl,hat⟩:=DataW.trod_struct ht h
 refine⟨hl,fun j f hf=> ?_⟩
 have h1:=hat j f hf
 have hj:=(Array.getElem?_eq_some_iff.1 hf).1
 have hy:ys[j]?=some (ys[j]'(by omega)):=List.getElem?_eq_getElem (by omega)
 rw[hy] at h1
 refine⟨base,spare,held,n,_,_,h1,fun k hk=>hz k ?_⟩
 rw[(Prod.mk.inj hx).1]
 unfold DataW.weights
 rw[ht]
 refine DataW.weights_mem_each (j:=j) (t:=f.type) (d:=(ys[j]'(by omega)).1) ?_ ?_ k hk
 ·rw[List.getElem?_map,Array.getElem?_toList,hf];rfl
 ·rw[List.getElem?_map,hy];rfl
end
section
variable {H:Type} {enc:TypeId×Value→H} {W:World} {base0 b0:Nat} {spare:Nat→Bool} {held:Bool} {r:Reach} {R:Nat}
theorem Bn {v:Value} {d:DataW H} {ps:List MemPlace} (hv:Value.okWide Tryz.prog W r b0 22 v) (h:DataW.Trod enc Tryz.prog W base0 spare held 22 v d ps) (hz:∀k∈d.weights Tryz.prog 22,k≤R):
 ∃(A:Option Addr) (c:Nat) (l:List UInt8),v= .slice A l.length c∧l.length≤c∧c≤maxLen∧l.length≤R∧aE W W.heap.size 1 A l.length (ar l):=by
 obtain⟨A,n,c,rfl⟩:=okWide_slice Tryz.underlying22 hv
 obtain⟨A',c',l,e,b⟩:=pi (pV h rfl hz)
 exact⟨A',c',l,e,b⟩
end
section
variable {H:Type} {enc:TypeId×Value→H} {w W:World} {R base0 b0:Nat} {spare:Nat→Bool} {held:Bool} {r:Reach}
theorem zu {x:List Value} (h:iQ R enc Tryz.prog w 32 x):∃q:fd,x=tI q∧(-9223372036854775808≤q.n∧q.n≤9223372036854775807)∧q.b.length≤R∧aE w w.heap.size 1 q.a q.b.length (ar q.b):=by
 obtain⟨hl,hx⟩:=zL h Tryz.underlying32
 rw[show Tryz.prog.cellsOf 32=4 by kernel_rfl] at hl
 obtain⟨a0,a1,a2,a3,rfl⟩:=II hl
 have c0:iQ R enc Tryz.prog w 3 [a0]:=hx 0 _ rfl
 have c1:iQ R enc Tryz.prog w 4 [a1]:=hx 1 _ rfl
 have c2:iQ R enc Tryz.prog w 4 [a2]:=hx 2 _ rfl
 have c3:iQ R enc Tryz.prog w 22 [a3]:=hx 3 _ rfl
 obtain⟨n,e0,hn⟩:=wE c0.fits Tryz.underlying3
 obtain⟨f1,e1⟩:=sw c1.fits Tryz.underlying4
 obtain⟨f2,e2⟩:=sw c2.fits Tryz.underlying4
 obtain⟨A,c,l,rfl,h1,h2,h3,h4⟩:=pi c3
 simp only[List.cons.injEq,and_true] at e0 e1 e2
 subst e0 e1 e2
 exact⟨⟨n,f1,f2,A,c,l⟩,rfl,CT hn,h3,h4⟩
theorem xJ {c1:Value} (h:iQ R enc Tryz.prog w 23 [c1]):∃(A:Option Addr) (c:Nat) (l:List fd),c1= .slice A l.length c∧l.length≤R∧aE w w.heap.size 4 A l.length (l.flatMap tI)∧∀m∈l,(-9223372036854775808≤m.n∧m.n≤9223372036854775807)∧m.b.length≤R∧aE w w.heap.size 1 m.a m.b.length (ar m.b):=by
 have hk:Tryz.prog.cellsOf 32=4:=by kernel_rfl
 obtain⟨A,n,c,L,hcs,hn,hc,hR,hl,hL,hr⟩:=pW h Tryz.underlying23 (by rw[hk];omega) (Nat.le_of_ble_eq_true (by kernel_rfl))
 rw[hk] at hr
 obtain⟨l,rfl,hq⟩:=kv (f:=tI) (Q:=fun m=>(-9223372036854775808≤m.n∧m.n≤9223372036854775807)∧m.b.length≤R∧aE w w.heap.size 1 m.a m.b.length (ar m.b)) fun x hx=>zu (hL x hx).2
 rw[List.length_map] at hl
 rw[EV] at hr
 subst hl
 simp only[List.cons.injEq,and_true] at hcs
 exact⟨A,c,l,hcs,hR,hr,hq⟩
theorem CR {v:Value} {d:DataW H} {ps:List MemPlace} (hv:Value.okWide Tryz.prog W r b0 23 v) (h:DataW.Trod enc Tryz.prog W base0 spare held 23 v d ps) (hz:∀k∈d.weights Tryz.prog 23,k≤140737488355328):
 ∃(A:Option Addr) (c:Nat) (l:List fd),v= .slice A l.length c∧l.length≤140737488355328∧vQ W A l:=by
 obtain⟨A,n,c,rfl⟩:=okWide_slice Tryz.underlying23 hv
 obtain⟨A',c',l,e,h1,h2,h3⟩:=xJ (pV h rfl hz)
 exact⟨A',c',l,e,h1,⟨h2,fun m hm=>(h3 m hm).2.2,fun m hm=>(h3 m hm).1,fun m hm=>(h3 m hm).2.1⟩⟩
end
end Go.Proofs.YtclcfkaphlopeaaGreatDoor
namespace Go.Proofs.YtclcfkaphlopeaaGreatDoor
open Go.RowKit
theorem FK {l:List (String×DataW Unit)} {W:World} (h:laidMetH Tryz.prog l W) (hl:l.filter (fun x=>x.1== "internal/strconv.uint64pow10")=[("internal/strconv.uint64pow10",Lib.tabData .u64 Lib.pow10Tab)]):
 Lib.TabIs Tryz.prog W "internal/strconv.uint64pow10" .u64 Lib.pow10Tab:=by
 have h1:=laidMetH.filter (fun x=>x.1== "internal/strconv.uint64pow10") h
 rw[hl,MakeChecks.laidMetH_plain _ _ _ (by kernel_rfl)] at h1
 exact Lib.tabIs_of_head (g:=1) (t:=237) (e:=109) (n:=20) (by kernel_rfl) (by kernel_rfl) Tryz.underlying237 Tryz.underlying109 (by kernel_rfl) (by kernel_rfl) h1
theorem Fg {l:List (String×DataW Unit)} {W:World} (h:laidMetH Tryz.prog l W) (hsh:W.ShapedOpen Tryz.prog)
 (hl:l.filter (fun x=>x.1== "internal/strconv.uint64pow10")=[("internal/strconv.uint64pow10",Lib.tabData .u64 Lib.pow10Tab)]):pu W:=by
 obtain⟨mx,hm⟩:=Go.Proofs.cell_of_shapedOpen_int (zero:=#[.int .i64 0]) (t:=3) (g:=0) hsh (of_decide_eq_true (by kernel_rfl)) (by kernel_rfl) rfl (by kernel_rfl) (by kernel_rfl) Tryz.underlying3
 exact⟨FK h hl,⟨mx,hm⟩,trivial,trivial,block_lt_of_cell hm⟩
end Go.Proofs.YtclcfkaphlopeaaGreatDoor
namespace Go.Proofs.YtclcfkaphlopeaaGreatDoor.RepairLogs
open Go.RowKit Go.ChangeShapes Go.WideShapes Go.ChangeAt
open Go.ChangeMaps (open_string shut_string)
theorem own :ownKnob Tryz.prog.godebug=none:=by kernel_rfl
set_option maxRecDepth 100000 in
theorem qS (H:Type) (enc:TypeId×Value→H) (W:World) (base:Nat) (args:Array Value) (ds gs:List (DataW H)) (before:List MemPlace)
 (hval:∀(j:Nat) t v,Tryz.f3.params[j]?=some t→args[j]?=some v→Value.okWide Tryz.prog W .any base t v)
 (hW:DataW.Whole enc Tryz.prog Tryz.f3.params.toList Rows.repairLogsSpec.vars false W args.toList ds gs before) (hz:(DataW.weightsEach Tryz.prog (Tryz.f3.params.toList++(OpenSpec.ofChange Rows.repairLogsSpec).bare.plain.varTypes Tryz.prog) (ds++gs)).all (·≤reachBytes)=true) (hL:laidMetH Tryz.prog Rows.repairLogsRow.laid W) (hsh:W.ShapedOpen Tryz.prog):
 Calls Tryz.prog 3 args W fun e W'=>∃v,e= .returned v∧Rows.repairLogsSpec.post enc Tryz.prog Tryz.f3 false true false false W args v W':=by
 have hW':=hW
 obtain⟨p,q,hA0,hV,rfl,hfz,hnd⟩:=hW
 have hA:DataW.TrodAll enc Tryz.prog W 0 (fun _=>true) true Tryz.f3.params.toList args.toList ds p:=hA0
 rw[Tryz.params3] at hA hval
 have hAk:=hA
 obtain⟨v0,v1,d0,d1,p0,p1,rfl,rfl,rfl,g0,g1⟩:=trodAll_two hA
 obtain⟨rfl,rfl⟩:=trodVars_none hV
 obtain⟨A,c,b,rfl,hbc,_,hbR,hrb⟩:=Bn (hval 0 22 v0 rfl rfl) g0 (xy hz (j:=0) (t:=22) (by kernel_rfl) rfl)
 obtain⟨Ah,ch,l,rfl,hlR,hh⟩:=CR (hval 1 23 v1 rfl rfl) g1 (xy hz (j:=1) (t:=23) (by kernel_rfl) rfl)
 have hw:pu W:=Fg hL hsh (by kernel_rfl)
 clear hA0
 refine(rU A Ah c ch b l W hw hbc hbR hlR hrb hh).mono fun e W' ⟨he,hb⟩=> ?_
 subst he
 exact⟨_,rfl,sO (pv:=[]) hW' (fun _ _ _=>trodAll_mk1 (shut_bool Tryz.underlying4 _)) (fun sp hsp=>sX (by kernel_rfl) (by kernel_rfl) hAk (fun x hx=>hb.same (by simpa using hW'.lt x (List.mem_append_left _ hx))) (fun x hx=>hsp x (List.mem_append_left _ hx))) (fun _ _=>rfl) rfl
  hb (ok_one (by kernel_rfl) rfl (okWide_bool_mk Tryz.underlying4 _))⟩
set_option maxRecDepth 100000 in
theorem reads (os:Os) {H:Type} (enc:TypeId×Value→H):∃places,DataW.whole enc Tryz.prog ((World.laidAll Tryz.prog os Rows.repairLogsRow.laid).forCall (fun _ _=>0) ⟨#[],#[.slice none 0 0, .slice none 0 0],[]⟩).memory Tryz.f3.params.toList Rows.repairLogsSpec.vars false #[Value.slice none 0 0,Value.slice none 0 0].toList 8=some ([.nil, .nil],[],places):=
 ⟨[],by kernel_rfl⟩
set_option maxRecDepth 100000 in
theorem H8 (os:Os) (started:os.Started) (H:Type) (enc:TypeId×Value→H) (F:Stop.Interp):
 ReturnsInHanded {} Tryz.checked os 3 .any ((OpenSpec.ofChange Rows.repairLogsSpec).preRow enc Tryz.prog Tryz.f3 Rows.repairLogsRow.domain false Rows.repairLogsRow.laid) (((OpenSpec.ofChange Rows.repairLogsSpec).at F).post enc Tryz.prog Tryz.f3 false true false false):=by
 obtain⟨places,hx⟩:=reads os enc
 refine returnsInHanded_of_row (C:=Tryz.checked) (s:=OpenSpec.ofChange Rows.repairLogsSpec) own started (by kernel_rfl) Tryz.func3
  (mz (enc:=enc) (C:=Tryz.checked) false (World.laidAll Tryz.prog os Rows.repairLogsRow.laid) #[.slice none 0 0, .slice none 0 0] (World.laidAll_os _ _ _) (World.shaped_of_ZipB (by kernel_rfl) (by kernel_rfl)) (by kernel_rfl)
   (OpenSpec.preRow_of_cond 8 hx (by kernel_rfl) (fun k hk=>by cases hk) (by kernel_rfl) (laidMet_laidAll _ (by kernel_rfl) (by kernel_rfl)))) ?_
 intro W base args ds gs before hval hW _ _ hz hL hsh _
 exact qS H enc W base args ds gs before hval hW hz hL hsh
set_option maxHeartbeats 8000000
theorem Gp {a b:Bool} (ha:a=true) (hb:b=true):(a&&b)=true:=by rw[ha,hb];rfl
theorem closed :joinedFacts Tryz.pinned.checked.prog 3 Tryz.f3 (OpenSpec.ofChange Rows.repairLogsSpec).bare Rows.repairLogsRow=true:=by
 unfold joinedFacts
 repeat' (with_reducible refine Gp ?_ ?_)
 all_goals (as_aux_lemma=>kernel_rfl)
theorem Ew :Rows.RepairLogsSaid:=
 OpenClaim.holds_of_cond 3 Tryz.f3 rfl rfl rfl rfl rfl rfl rfl ⟨rfl,rfl,rfl,rfl,rfl⟩ rfl rfl rfl rfl rfl (by as_aux_lemma=>kernel_rfl) Tryz.func3 closed
  (of_decide_eq_true (by as_aux_lemma=>kernel_rfl)) (by unfold Func.isWrapper;first|(rw[if_pos (by decide+kernel)];as_aux_lemma=>kernel_rfl)|(rw[if_neg (by decide+kernel)];exact⟨rfl,rfl⟩))
  (fun os started H enc _ F=>by rw[OpenClaim.pre_eq_preRow];exact H8 os started H enc F)
theorem plain (f:FuncId) (fn:Func) (hf:Tryz.pinned.checked.prog.funcNamed "cubby/cubbylaw20.RepairLogs" =some f) (hfn:Tryz.pinned.checked.prog.funcs[f]?=some fn):
 false=Tryz.pinned.checked.prog.looks []∧∀(j:Nat) t,fn.params[j]?=some t→Tryz.pinned.checked.prog.wantsStandIn t=false:=by
 obtain rfl:f=3:=Option.some.inj ((show Tryz.prog.funcNamed "cubby/cubbylaw20.RepairLogs" =some 3 by kernel_rfl).symm.trans hf)|>.symm
 obtain rfl:fn=Tryz.f3:=(Option.some.inj (Tryz.func3.symm.trans hfn)).symm
 refine⟨by kernel_rfl,fun j t ht=> ?_⟩
 rw[Tryz.params3] at ht
 have hm:t∈[22,23]:=by simpa using Array.mem_of_getElem? ht
 have hall:([22,23].all fun u=> !Tryz.prog.wantsStandIn u)=true:=by kernel_rfl
 exact(show Tryz.prog.wantsStandIn t=false by simpa using List.all_eq_true.1 hall t hm)
theorem holds :Rows.RepairLogsCardSaid:=
 Claim7.holds_tied_plain_at .later [] _ _ _ _ Ew (fun _ h=>by cases h) (by as_aux_lemma=>kernel_rfl) (fun _ h=>by cases h) repairLogs_row_tie rfl ⟨rfl,rfl⟩ (by as_aux_lemma=>kernel_rfl) rfl plain (by as_aux_lemma=>kernel_rfl)
#print axioms holds
end Go.Proofs.YtclcfkaphlopeaaGreatDoor.RepairLogs
