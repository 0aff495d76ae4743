/-
  Walk: repair.Aside.
-/
import Derived.Test.YtclcfkaphlopeaaGreatDoorRepe
import Derived.Lib.ItoaNum
import Derived.Sort.OwnSorted
import Derived.Deep.RegionHeld3
import Derived.Deep.DrawnRows
set_option linter.unusedSimpArgs false
set_option linter.unusedVariables false
set_option maxRecDepth 100000
set_option maxHeartbeats 16000000
namespace Go.Proofs.YtclcfkaphlopeaaGreatDoor
open Go.RowKit
theorem fT.below0 {w w':World} {p mb:Nat} {d:aN} (h:fT w p mb d) (hb:Below w.heap.size w w'):fT w' p mb d:=by
 obtain⟨es,hfi,h⟩:=h
 exact⟨es,hfi,h.below hb⟩
theorem zI :∀k:Fin 13,Lib.decDigits k.1=Gx k.1:=by decide+kernel
def zU (L:List (List UInt8)) (s:List UInt8):Int:=match L.findIdx? (·==s) with
 |some i=>(i:Int)
 |none=> -1
theorem Fm {L:List (List UInt8)} {s:List UInt8} {j:Nat} (hj:L[j]?=some s) (h:∀i,i<j→L[i]?≠some s):zU L s=(j:Int):=by
 unfold zU
 obtain⟨hlt,he⟩:=List.getElem?_eq_some_iff.1 hj
 rw[show L.findIdx? (·==s)=some j from List.findIdx?_eq_some_iff_getElem.2 ⟨hlt,by simp[he],fun i hi=>by
  have:=h i hi
  have hl:i<L.length:=by omega
  rw[List.getElem?_eq_getElem hl] at this
  simpa using this⟩]
theorem CV {L:List (List UInt8)} {s:List UInt8} (h:∀i,i<L.length→L[i]?≠some s):zU L s= -1:=by
 unfold zU
 rw[show L.findIdx? (·==s)=none from List.findIdx?_eq_none_iff.2 fun x hx=>by
  obtain⟨i,hi,rfl⟩:=List.getElem_of_mem hx
  have:=h i hi
  rw[List.getElem?_eq_getElem hi] at this
  simpa using this]
theorem zZ (L:List (List UInt8)) (s:List UInt8) (A:Option Addr) (c:Nat) (w:World) (hr:aE w w.heap.size 1 A L.length (L.map fun t=>Value.string (St t))) (hl:L.length≤1000000):Calls Tryz.prog 84 #[.slice A L.length c, .string (St s)] w fun ev w'=>ev= .returned (.int .i64 (zU L s))∧w'=w:=by
 refine aK 19 Tryz.func84 rfl rfl (Nat.le_of_ble_eq_true rfl) ?_
 intro a hA;replace hA:=hA.norm
 refine wS (wR ?_)
 revert a;refine wo rfl rfl (by decide) (fun ev e h=>by simp[go_sem,h]<;>rfl) ?_;intro a hA
 replace hA:=hA.keepN [0,1]
 refine wN (nT (wS (wS (wR ?_))))
 revert a;(iterate 3 refine wo rfl rfl (by decide) (fun ev e h=>by simp[go_sem,h]<;>rfl) ?_);intro a hA
 replace hA:=hA.keepN [0,1,7,8]
 refine wN (nT (wB ?_))
 refine aQ (fun k a wx=>∃j:Nat,j+k=L.length∧(∀i,i<j→L[i]?≠some s)∧w=wx∧At 19 [(0, .slice A L.length c),(1, .string (St s)),(7, .int .i64 (L.length:Nat)),(8, .int .i64 (j:Nat))] a) (L.length) ?_ ?_
 ·exact⟨0,by omega,fun i hi=>absurd hi (Nat.not_lt_zero _),rfl,hA⟩
 clear hA
 rintro k a wx ⟨j,hjk,hno,rfl,hA⟩
 refine wS (wR ?_)
 revert a;refine wo rfl rfl (by decide) (fun ev e h=>by simp[go_sem,h]<;>rfl) ?_;intro a hA
 replace hA:=hA.keepN [0,1,7,8,9]
 refine wN (nT (wS ?_))
 refine aH hA 9 _ rfl (fun hq=> ?yA) (fun hq=> ?nA)
 case nA=>
  have hjn:L.length≤j:=by simp at hq;omega
  replace hA:=hA.keepN []
  refine wp_exit (xT (xT (xB (nT (wS (wR ?_))))))
  revert a;refine wo rfl rfl (by decide) (fun ev e h=>by simp[go_sem,h]<;>rfl) ?_;intro a hA
  replace hA:=hA.keepN [4]
  refine wN (nT (wp_ret ?_))
  refine ab hA 4 rfl rfl ?_
  exact⟨by rw[CV fun i hi=>hno i (by omega)],rfl⟩
 case yA=>
  have hjn:j<L.length:=by simp at hq;omega
  obtain⟨x,hx⟩:∃x,L[j]?=some x:=⟨_,List.getElem?_eq_getElem hjn⟩
  obtain⟨ad,rfl,_,hcl⟩:=hr.2 (by omega)
  have hcell:=hcl j (.string (St x)) (by rw[List.getElem?_map,hx];rfl)
  have jj0:(0:Int)≤(j:Int):=by omega
  have jj1:(j:Int)<(L.length:Int):=by omega
  have i3:IntKind.i64.wrap (((j:Nat):Int)+1)=((j+1:Nat):Int):=by rw[IntWalk.i64_in _ (by omega)];omega
  refine wp_skip (nT (wS (wB (wS (wR ?_)))))
  revert a;(iterate 2 refine wo rfl rfl (by decide) (fun ev e h=>by simp[go_sem,h,hcell,jj0,jj1]<;>rfl) ?_);intro a hA
  replace hA:=hA.keepN [0,1,5,7,8]
  refine wN (nT (wS (wR ?_)))
  revert a;(iterate 6 refine wo rfl rfl (by decide) (fun ev e h=>by simp[go_sem,h,hcell,jj0,jj1]<;>rfl) ?_);intro a hA
  replace hA:=hA.keepN [0,1,5,7,8,16]
  refine wN (nT ?_)
  refine aH hA 16 _ rfl (fun hq2=> ?yB) (fun hq2=> ?nB)
  case nB=>
   have hn:x≠s:=by rintro rfl;simp at hq2
   refine wp_skip (nB (nT (wR ?_)))
   revert a;(iterate 2 refine wo rfl rfl (by decide) (fun ev e h=>by simp[go_sem,h,i3]<;>rfl) ?_);intro a hA
   replace hA:=hA.keepN [0,1,7,8]
   refine wN (nT ?_)
   refine⟨k - 1,by omega,j+1,by omega,fun i hi=> ?_,rfl,hA⟩
   by_cases e:i=j
   ·subst e
    rw[hx]
    intro e
    injection e with e
    exact hn e
   ·exact hno i (by omega)
  case yB=>
   have hn:x=s:=(by simpa using hq2:s=x).symm
   subst hn
   refine wS (wR ?_)
   revert a;(iterate 2 refine wo rfl rfl (by decide) (fun ev e h=>by simp[go_sem,h,hcell,jj0,jj1]<;>rfl) ?_);intro a hA
   replace hA:=hA.keepN [4]
   refine wN (nT (wp_ret (rB (rT (rT (rB (rT ?_)))))))
   refine ab hA 4 rfl rfl ?_
   exact⟨by rw[Fm hx hno],rfl⟩
theorem EM (L:List (List UInt8)) (s:List UInt8):decide (0≤zU L s)=decide (s∈L):=by
 unfold zU
 cases h:L.findIdx? (·==s) with
 |none=>
  have h0:=List.findIdx?_eq_none_iff.1 h
  have hn:s∉L:=fun hm=>by have:=h0 s hm;simp at this
  simp[hn]
 |some i=>
  obtain⟨hlt,he,_⟩:=List.findIdx?_eq_some_iff_getElem.1 h
  have hm:s∈L:=by
   have:L[i]=s:=by simpa using he
   rw[←this];exact List.getElem_mem hlt
  simp[hm]
theorem sv {k:ae}:∀{l:List (ae×aa)},(aV k l).isSome=decide (k∈l.map (·.1))
 |[]=>rfl
 |(y,u)::r=>by
  rw[gW]
  by_cases h:y=k
  ·rw[if_pos h,h];simp
  ·rw[if_neg h,sv]
   have h2:¬k=y:=fun e=>h e.symm
   simp[h2]
theorem zR (A:Option Addr) (c:Nat) (l:List (ae×aa)) (x:List UInt8) (w:World) (hl:l.length≤1000000) (hr:aE w w.heap.size 1 A l.length (jl l)):Calls Tryz.prog 43 #[.slice A l.length c, .string (St x)] w fun ev w'=>ev= .returned (.bool (aV x l).isSome)∧Below w.heap.size w w':=by
 have hr2:aE w w.heap.size 1 A (l.map (·.1)).length ((l.map (·.1)).map fun t=>Value.string (St t)):=by
  rw[List.length_map,List.map_map]
  exact hr
 have hlm:(l.map (·.1)).length=l.length:=List.length_map ..
 rw[←hlm]
 refine aK 9 Tryz.func43 rfl rfl (Nat.le_of_ble_eq_true rfl) ?_
 intro a hA;replace hA:=hA.norm
 refine wS (wR ?_)
 revert a;refine wo rfl rfl (by decide) (fun ev e h=>by simp[go_sem,h]<;>rfl) ?_;intro a hA
 replace hA:=hA.keepN [0,1]
 refine wN (nT (wS (wR ?_)))
 revert a;(iterate 2 refine wo rfl rfl (by decide) (fun ev e h=>by simp[go_sem,h]<;>rfl) ?_);intro a hA
 refine aC hA rfl rfl (by decide) (fun ev h=>aB Tryz.func84 (by kernel_rfl) rfl (h.f _) (by first|(simp only[mL,h.get 5 rfl,h.get 6 rfl,h.c]<;>rfl)|(simp[mL,h.get 5 rfl,h.get 6 rfl,h.c]<;>rfl))) (zZ (l.map (·.1)) x A c w hr2 (by omega)) ?_
 rintro e w1 ⟨rfl,rfl⟩
 refine⟨_,rfl,fun a hA=> ?_⟩
 revert a;(iterate 2 refine wo rfl rfl (by decide) (fun ev e h=>by simp[go_sem,h]<;>rfl) ?_);intro a hA
 replace hA:=hA.keepN [4]
 refine wN (nT (wp_ret ?_))
 refine ab hA 4 rfl rfl ?_
 exact⟨bH (by rw[EM,sv]),Below.refl _ _⟩
theorem CX (k:Nat) (hk:k≤12) (w:World):Calls Tryz.prog 44 #[.int .i64 (k:Nat)] w fun ev w'=>ev= .returned (.string (St (Gx k)))∧Below w.heap.size w w':=by
 refine(Tryz.strconv_Itoa_small k (by omega) w).mono ?_
 rintro e w' ⟨rfl,rfl⟩
 exact⟨by rw[zI ⟨k,by omega⟩],Below.refl _ _⟩
end Go.Proofs.YtclcfkaphlopeaaGreatDoor
namespace Go.Proofs.YtclcfkaphlopeaaGreatDoor
theorem Df {d:aN} {k:ae} (hl:d.lost=false) (h:aV k d.files=none):pQ d k=(0,d):=by
 have e:bo d k=(7,d):=by
  unfold bo
  rw[hl,if_neg (by decide),h]
 unfold pQ
 rw[e,if_pos rfl]
theorem DA :right cz=true:=by decide
end Go.Proofs.YtclcfkaphlopeaaGreatDoor
namespace Go.Proofs.YtclcfkaphlopeaaGreatDoor
open Go.RowKit
theorem vq {c:Nat} {l:List (ae×aa)} {k:ae} {b:List UInt8} (hr:right k=true) (hroom:b.length≤c - used l):d7 ⟨c,l, -1,false⟩ k b=(0,⟨c,bN k ⟨((aV k l).getD aa.none_).b++b,((aV k l).getD aa.none_).safe,((aV k l).getD aa.none_).ever⟩ l, -1,false⟩):=by
 unfold d7
 rw[if_neg (fun h=>by cases h),if_neg (by rw[hr];decide),if_neg (by show ¬c - used l<_;omega),if_neg (fun hh=>absurd hh.1 (by show ¬(-1:Int)=0;decide))]
 rfl
theorem Bq {c:Nat} {l:List (ae×aa)} {k:ae} {f:aa} (hg:aV k l=some f):fg ⟨c,l, -1,false⟩ k=(0,⟨c,bN k ⟨f.b,f.b.length,true⟩ l, -1,false⟩):=by
 unfold fg
 rw[if_neg (fun h=>by cases h)]
 show(match aV k l with|none=>_|some f=>_)=_
 rw[hg]
 rfl
theorem kt {c:Nat} {l:List (ae×aa)} {a b:ae} {f:aa} (hr:right b=true) (hne:a≠b) (hg:aV a l=some f) (hw:f.whole=true):cY ⟨c,l, -1,false⟩ a b=(0,⟨c,gO a (bN b f l), -1,false⟩):=by
 unfold cY
 rw[if_neg (fun h=>by cases h),if_neg (fun hh=>by
  rcases hh with hh|hh
  ·rw[hr] at hh;cases hh
  ·exact hne hh)]
 show(match aV a l with|none=>_|some f=>_)=_
 rw[hg]
 show(if f.whole=false then _ else _)=_
 rw[if_neg (by rw[hw];decide)]
 rfl
theorem qO {c:Nat} {l:List (ae×aa)} {k:ae} {b:List UInt8} (hup:Up l) (hn:aV cz l=none) (hr:right k=true) (hk:cz≠k) (hroom:b.length≤c - used l):jV ⟨c,l, -1,false⟩ k b=(0,⟨c,bN k ⟨b,b.length,true⟩ l, -1,false⟩):=by
 unfold jV
 rw[Df rfl hn,eg rfl]
 show gN (d7 ⟨c,l, -1,false⟩ cz b) _=_
 rw[vq DA hroom,hn,eg rfl]
 show gN (fg ⟨c,bN cz ⟨b,0,false⟩ l, -1,false⟩ cz) _=_
 rw[Bq (f:=⟨b,0,false⟩) (by rw[au,if_pos rfl]),eg rfl]
 show cY ⟨c,bN cz ⟨b,b.length,true⟩ (bN cz ⟨b,0,false⟩ l), -1,false⟩ cz k=_
 rw[kt hr hk (f:=⟨b,b.length,true⟩) (by rw[au,if_pos rfl]) (by simp[aa.whole])]
 have e:gO cz (bN k ⟨b,b.length,true⟩ (bN cz ⟨b,b.length,true⟩ (bN cz ⟨b,0,false⟩ l)))=bN k ⟨b,b.length,true⟩ l:=by
  refine vG (jO (bp (bp (bp hup))) _) (bp hup) fun j=> ?_
  rw[gX,au,au,au,au]
  by_cases h1:j=cz
  ·subst h1
   rw[if_pos rfl,if_neg hk,hn]
  ·rw[if_neg h1,if_neg h1,if_neg h1]
 rw[e]
theorem rE {nm:ByteArray} {ep:Nat}:∀{a p:Nat} {l:List aU},py a (l.map (·.uid))=true→(∀m∈l,m.uid<4294967295)→dx ep a (bh p (l.map (dB nm ep)))=true
 |_,_,[],_,_=>rfl
 |a,p,m::r,h,hu=>by
  rw[List.map_cons,kA,Bool.and_eq_true,decide_eq_true_eq] at h
  have h2:=hu m List.mem_cons_self
  show(ep==ep&&decide (a<m.uid)&& !(m.uid==4294967295)&&dx ep m.uid (bh _ (r.map (dB nm ep))))=true
  rw[rE h.2 fun x hx=>hu x (List.mem_cons_of_mem _ hx)]
  simp
  exact⟨h.1,by omega⟩
theorem yo {nm:ByteArray} {ep nx:Nat} {l:List aU} (h:dE nm ep nx l=true) (hun:∀m∈l,m.uid<nx) (h0:0<nx) (hx:nx<4294967296):
 ∃L,bG (bh 0 (dS nm ep nx l))=⟨nm,ep,nx,L⟩∧dx ep 0 L=true∧L.map dF=l.map fun m=>(m.uid,m.date,m.flags,m.b):=by
 have hu:∀m∈l,m.uid<4294967296:=fun m hm=>by have:=hun m hm;omega
 have hep:1≤ep:=by
  rw[rz] at h
  simp only[Bool.and_eq_true,decide_eq_true_eq] at h
  exact h.1.2
 have hr:dk nx 0 l=true:=by unfold dE at h;rw[Bool.and_eq_true] at h;exact h.1
 have hp:=mD hr
 unfold dS bh
 rw[lO]
 unfold bG
 rw[List.foldl_cons,List.foldl_append]
 have e0:dU wb ((fz nm ep).at_ 0)=⟨nm,ep,1,[]⟩:=by
  have hlt:0<ep:=hep
  unfold dU vN pT du ak.at_ fz wb
  simp[hlt]
 rw[e0,tv,List.nil_append]
 obtain⟨P,hP⟩:∃P,bh (0+(fz nm ep).frame.length) (l.map (dB nm ep))=P:=⟨_,rfl⟩
 have hb1:(1:Nat)=aW 0:=rfl
 rw[hP,hb1,BR hu hr]
 have hrise:dx ep 0 P=true:=by rw[←hP];exact rE (by have:=hr;rw[rZ,Bool.and_eq_true] at this;exact this.1) fun m hm=>by have:=hun m hm;omega
 have hbare:P.map dF=l.map fun m=>(m.uid,m.date,m.flags,m.b):=by rw[←hP];exact sb _ l
 unfold kh
 split
 ·rename_i hlt
  unfold bh bh
  rw[List.foldl_cons,List.foldl_nil]
  have hl1:dc 0 l<nx - 1:=by
   unfold aW at hlt
   split at hlt<;>omega
  have hfil:P.filter (fun x=> !fP ((iB ep (nx - 1)).at_ (0+(fz nm ep).frame.length+(bA (l.map (dB nm ep))).length)) x)=P:=by
   refine List.filter_eq_self.2 fun x hxm=> ?_
   rw[←hP] at hxm
   obtain⟨m,hm,e⟩:=yb hxm
   have:=(hp m hm).2.1
   unfold fP ak.at_ iB oA
   have hne:(x.u==nx - 1)=false:=by
    rw[e]
    simp
    omega
   show(!(x.ep==ep&&x.u==nx - 1))=true
   rw[hne]
   simp
  refine⟨P, ?_,hrise,hbare⟩
  have hbn:aW (nx - 1)=nx:=by unfold aW;split<;>omega
  have hmx:max (aW (dc 0 l)) nx=nx:=Nat.max_eq_right (by omega)
  have e1:du P ((iB ep (nx - 1)).at_ (0+(fz nm ep).frame.length+(bA (l.map (dB nm ep))).length))=P:=by
   unfold du
   show(bif (3:Int)==2 then _ else bif (3:Int)==3 then _ else _)=P
   exact hfil
  unfold dU
  rw[e1]
  unfold vN pT
  show fo.mk (bif (3:Int)==3 then nm else _) (if ep<ep then ep else ep) (if((if ep<ep then ep else ep)==ep&& !((3:Int)==1))=true then max (if ep<ep then 1 else aW (dc 0 l)) (aW (nx - 1)) else _) P=_
  simp[hbn,hmx]
 ·rename_i hlt
  unfold bh
  rw[List.foldl_nil]
  refine⟨P, ?_,hrise,hbare⟩
  have:aW (dc 0 l)=nx:=by
   cases l with
   |nil=>
    have e:dc 0 []=0:=rfl
    rw[e] at hlt ⊢
    unfold aW at hlt ⊢
    simp at hlt ⊢
    omega
   |cons x r=>
    have hl:dc 0 (x::r)<nx:=by
     rcases List.eq_nil_or_concat (x::r) with e|⟨l',m,e⟩
     ·cases e
     ·have hm:m∈x::r:=by rw[e];simp
      rw[e,List.concat_eq_append,mg]
      exact hun m hm
    unfold aW at hlt ⊢
    split at hlt<;>split<;>omega
  rw[this]
def jG (b:eU):List aU:=b.msgs.map kr
def bd (b:eU):List UInt8:=bA (dS b.nm b.ep b.nx (jG b))
theorem io {b:eU} (h:jb b):dE b.nm b.ep b.nx (jG b)=true:=by
 rw[rz,rZ]
 unfold jG
 rw[Aw,h.nm,h.rise,List.all_map,List.all_map]
 simp only[Bool.true_and,Bool.and_eq_true,decide_eq_true_eq,List.all_eq_true]
 refine⟨h.ep.1,fun m hm=> ?_,fun m hm=> ?_⟩
 ·obtain⟨h1,h2,h3⟩:=h.each m hm
  show(decide ((kr m).uid<b.nx)||b.nx==4294967295)=true
  rw[decide_eq_true (show(kr m).uid<b.nx from h1)]
  rfl
 ·obtain⟨h1,h2,h3⟩:=h.each m hm
  unfold Function.comp wD
  rw[Bool.and_eq_true,decide_eq_true_eq]
  exact⟨h2,h3⟩
theorem Aj {b:eU} (h:jb b):∃L,aT (bd b)=⟨⟨b.nm,b.ep,b.nx,L⟩,(bd b).length⟩∧al ⟨b.nm,b.ep,b.nx,L⟩=true∧L.map dF=b.msgs:=by
 have hw:=io h
 have hun:∀m∈jG b,m.uid<b.nx:=fun m hm=>by
  obtain⟨x,hx,rfl⟩:=List.mem_map.1 hm
  exact(h.each x hx).1
 have hnx:=h.nx
 obtain⟨L,h1,h2,h3⟩:=yo hw hun (by omega) h.nx.2
 have hs:=FB (dS b.nm b.ep b.nx (jG b)) (ni hw h.ep.2 h.nx.2 fun m hm=>by have:=hun m hm;omega)
 refine⟨L, ?_,h2, ?_⟩
 ·unfold aT bd
  rw[hs.1,hs.2,h1]
 ·rw[h3]
  unfold jG
  rw[List.map_map]
  conv=>rhs;rw[←List.map_id b.msgs]
  rfl
theorem bc {s:fo} (hc:al s=true):bQ s=⟨s.nm,s.ep,s.nx,s.live.map dF⟩:=by unfold bQ;rw[hc];rfl
def eH (ms:List aM):Prop:=∀m∈ms,0≤m.2∧m.2≤31
theorem tV :eH []:=fun m hm=>(by cases hm)
structure eC (l:dW):Prop where
 clean:al l.s=true
 good:jb (bQ l.s)
 at_:∀y∈l.s.live,y.at_≤4294967295
 torn:l.torn≤4294967295
theorem eC.no {l:dW} (h:eC l):iy (al l.s) l.s.nm=false:=by
 have hn:=h.good.nm
 rw[bc h.clean] at hn
 unfold iy
 rw[h.clean,Ca hn]
 rfl
theorem tR (L:List aX):(L.map dF).map (·.1)=L.map (·.u):=by rw[List.map_map];rfl
theorem eC.idx {l:dW} (h:eC l):dQ l=⟨l.s.nm,l.s.ep,l.s.nx,(l.torn:Int),l.s.live.map sK⟩:=by unfold dQ;rw[h.no];rfl
theorem eC.flg {l:dW} (h:eC l):gZ l=(l.s.ep,l.s.live.map uc):=by unfold gZ;rw[h.no];rfl
theorem eC.idxRight {l:dW} (h:eC l):bW (dQ l).nm (dQ l).e (dQ l).nx (dQ l).u (dQ l).l=true:=by
 have hg:=h.good
 rw[bc h.clean] at hg
 rw[h.idx]
 unfold bW
 rw[qy]
 have hr:=hg.rise
 have hlen:=hg.len
 have ht:=h.torn
 have hnm:ba l.s.nm=true:=hg.nm
 have hep:1≤l.s.ep:=hg.ep.1
 have hnx:1≤l.s.nx:=hg.nx.1
 rw[tR] at hr
 rw[List.length_map] at hlen
 simp only[Bool.and_eq_true,decide_eq_true_eq,List.all_eq_true,List.length_map]
 refine⟨⟨⟨⟨⟨⟨⟨?_, ?_⟩,hnm⟩,hep⟩,hnx⟩,by omega⟩,by omega⟩,hlen⟩
 ·rw[List.map_map];exact hr
 ·intro q hq
  obtain⟨y,hy,rfl⟩:=List.mem_map.1 hq
  have h1:=(hg.each (dF y) (List.mem_map.2 ⟨y,hy,rfl⟩)).1
  have h2:=h.at_ y hy
  unfold tG sK
  simp only[Bool.and_eq_true,Bool.or_eq_true,decide_eq_true_eq]
  exact⟨⟨.inl h1,by omega⟩,by omega⟩
theorem eC.err {l:dW} (h:eC l):(dQ l).err=0:=by
 unfold oS.err me
 rw[if_pos h.idxRight]
theorem GS {ms:List aM} (hm:eH ms) {q:aM} (hq:0≤q.2∧q.2≤31):0≤(iP ms q).2∧(iP ms q).2≤31:=by
 unfold iP
 cases hf:ms.find? (fun m=>m.1==q.1) with
 |none=>exact hq
 |some m=>exact hm m (List.mem_of_find?_eq_some hf)
theorem FF (ms:List aM) (q:aM):(iP ms q).1=q.1:=by
 unfold iP
 cases ms.find? (fun m=>m.1==q.1)<;>rfl
def dR (l:dW) (ms:List aM):List aM:=(l.s.live.map uc).map (iP ms)
theorem lI (l:dW) (ms:List aM):(dR l ms).map (·.1)=l.s.live.map (·.u):=by
 unfold dR
 rw[List.map_map,List.map_map]
 refine List.map_congr_left fun y _=> ?_
 exact FF ms (uc y)
theorem zM {d f:Int} (h:gD d f=true):0≤f∧f≤31:=by
 unfold gD at h
 simp only[Bool.and_eq_true,decide_eq_true_eq] at h
 exact⟨h.1.2,h.2⟩
theorem eC.marks {l:dW} (h:eC l) {ms:List aM} (hm:eH ms):eH (dR l ms):=by
 intro q hq
 unfold dR at hq
 rw[List.map_map] at hq
 obtain⟨y,hy,rfl⟩:=List.mem_map.1 hq
 have hg:=h.good
 rw[bc h.clean] at hg
 exact GS hm (zM (hg.each (dF y) (List.mem_map.2 ⟨y,hy,rfl⟩)).2.1)
theorem eC.flgRight {l:dW} (h:eC l) {ms:List aM} (hm:eH ms):aZ l.s.ep (dR l ms)=true:=by
 have hg:=h.good
 rw[bc h.clean] at hg
 have hr:=hg.rise
 have hlen:=hg.len
 have hep:1≤l.s.ep:=hg.ep.1
 rw[tR] at hr
 rw[List.length_map] at hlen
 have hlen2:(dR l ms).length=l.s.live.length:=by unfold dR;rw[List.length_map,List.length_map]
 unfold aZ
 rw[qy,lI,hr,hlen2]
 simp only[Bool.true_and,Bool.and_eq_true,decide_eq_true_eq,List.all_eq_true]
 refine⟨⟨fun q hq=> ?_,hep⟩,hlen⟩
 obtain⟨h1,h2⟩:=h.marks hm q hq
 unfold mT
 simp only[Bool.and_eq_true,decide_eq_true_eq]
 exact⟨h1,h2⟩
theorem eC.pages {l:dW} (h:eC l) {ms:List aM} (hm:eH ms):bP l ms=⟨cy 2 (eV l.s.ep (dR l ms)),cy 1 (iu l.s.nm l.s.ep l.s.nx (l.torn:Int) (l.s.live.map sK)),0⟩:=by
 have hf:=h.flgRight hm
 have hi:=h.idxRight
 have he:dq (gZ l).1 ((gZ l).2.map (iP ms))=0:=by
  rw[h.flg]
  unfold dq
  exact if_pos hf
 unfold bP
 rw[if_pos he,h.err]
 unfold oS.page dI jI
 rw[if_pos hi,h.idx,h.flg]
 rw[if_pos (show aZ l.s.ep ((l.s.live.map uc).map (iP ms))=true from hf)]
 rfl
theorem C7 (m:List aM):(m.flatMap fj).length=5*m.length:=by
 induction m with
 |nil=>rfl
 |cons x r ih=>
  rw[List.flatMap_cons,List.length_append,List.length_cons,ih]
  have:(fj x).length=5:=by unfold fj;simp[aO]
  omega
theorem Dy (m:List aM):(m.flatMap mM).length=8*m.length:=by
 induction m with
 |nil=>rfl
 |cons x r ih=>
  rw[List.flatMap_cons,List.length_append,List.length_cons,ih]
  have:(mM x).length=8:=by unfold mM;simp[aO]
  omega
theorem eC.sizes {l:dW} (h:eC l) {ms:List aM} (hm:eH ms):(bP l ms).b.length≤3000∧(bP l ms).c.length≤5000:=by
 have hg:=h.good
 rw[bc h.clean] at hg
 have hlen:=hg.len
 rw[List.length_map] at hlen
 have hlen2:(dR l ms).length=l.s.live.length:=by unfold dR;rw[List.length_map,List.length_map]
 have hn:=fk (show ba l.s.nm=true from hg.nm)
 rw[h.pages hm]
 refine⟨?_, ?_⟩
 ·show(cy 2 _).length≤_
  rw[mA]
  unfold eV
  simp only[List.length_append,aO,C7]
  omega
 ·show(cy 1 _).length≤_
  rw[mA]
  unfold iu iG
  have hsz:l.s.nm.data.toList.length=l.s.nm.size:=rfl
  simp only[List.length_append,aO,List.flatMap_cons,List.flatMap_nil,List.length_nil,Dy,List.length_map]
  omega
theorem tg :∀(fs:List aM) (ms:List mH),fs.length=ms.length→(lV fs ms).map (·.1)=ms.map (·.1)
 |[],[],_=>rfl
 |f::fs,m::ms,h=>by
  show m.1::(lV fs ms).map (·.1)=_
  rw[tg fs ms (by simpa using h)]
  rfl
theorem xR :∀{fs:List aM} {ms:List mH} {x:mH},x∈lV fs ms→∃m∈ms,∃f∈fs,x=(m.1,m.2.1,f.2,m.2.2.2)
 |[],ms,x,h=>by cases ms<;>cases h
 |f::fs,[],x,h=>by cases h
 |f::fs,m::ms,x,h=>by
  have h:x∈(m.1,m.2.1,f.2,m.2.2.2)::lV fs ms:=h
  rcases List.mem_cons.1 h with rfl|h
  ·exact⟨m,List.mem_cons_self,f,List.mem_cons_self,rfl⟩
  ·obtain⟨m',h1,f',h2,e⟩:=xR h
   exact⟨m',List.mem_cons_of_mem _ h1,f',List.mem_cons_of_mem _ h2,e⟩
theorem Em (fs:List aM) (ms:List mH) (h:fs.length=ms.length):(lV fs ms).length=ms.length:=by
 unfold lV
 rw[List.length_zipWith,h,Nat.min_self]
theorem jb.put {b:eU} (h:jb b) {fs:List aM} (hl:fs.length=b.msgs.length) (hf:eH fs):jb {b with msgs:=lV fs b.msgs}:=by
 refine⟨h.nm,h.ep,h.nx,by show(lV fs b.msgs).length≤_;rw[Em _ _ hl];exact h.len,by show py 0 ((lV fs b.msgs).map _)=_;rw[tg _ _ hl];exact h.rise,fun x hx=> ?_⟩
 obtain⟨m,hm,f,hfm,rfl⟩:=xR hx
 obtain⟨h1,h2,h3⟩:=h.each m hm
 obtain⟨h4,h5⟩:=hf f hfm
 refine⟨h1, ?_,h3⟩
 unfold gD at h2 ⊢
 simp only[Bool.and_eq_true,decide_eq_true_eq] at h2 ⊢
 exact⟨⟨h2.1.1,h4⟩,h5⟩
theorem eC.boxF {l:dW} (h:eC l) {ms:List aM} (hm:eH ms):jb (boxF l (dR l ms)):=by
 have hg:=h.good
 have hb:=bc h.clean
 refine hg.put ?_ (h.marks hm)
 rw[hb]
 unfold dR
 show _=(l.s.live.map dF).length
 rw[List.length_map,List.length_map,List.length_map]
theorem yg {d:aN} {n:Nat} {f g h:aa} {ms:List aM} (hl:d.lost=false) (h1:aV (aR bJ n) d.files=some f) (h2:aV (aR cV n) d.files=some g) (h3:aV (aR ct n) d.files=some h)
 (hg:eC (aT f.b)) (ht:(aT f.b).torn=f.b.length) (hm:eH ms) (h4:g.b=(bP (aT f.b) ms).b) (h5:h.b=(bP (aT f.b) ms).c):bS d n=(boxF (aT f.b) (dR (aT f.b) ms),0):=by
 have e1:ay d bJ n=(f.b,0):=by unfold ay bv;rw[hl,if_neg (by decide),h1]
 have e2:ay d cV n=(g.b,0):=by unfold ay bv;rw[hl,if_neg (by decide),h2]
 have e3:ay d ct n=(h.b,0):=by unfold ay bv;rw[hl,if_neg (by decide),h3]
 obtain⟨l,hle⟩:∃l,aT f.b=l:=⟨_,rfl⟩
 rw[hle] at hg ht h4 h5 ⊢
 have hp:=hg.pages hm
 rw[hp] at h4 h5
 have hep:=hg.good.ep
 rw[bc hg.clean] at hep
 have hfl:cJ d n=some (l.s.ep,dR l ms):=by
  unfold cJ
  rw[e2,h4]
  refine uW hep.2 (fun q hq=> ?_) (hg.flgRight hm)
  have hu:q.1∈(dR l ms).map (·.1):=List.mem_map.2 ⟨q,hq,rfl⟩
  rw[lI] at hu
  obtain⟨y,hy,e⟩:=List.mem_map.1 hu
  have hgg:=hg.good
  rw[bc hg.clean] at hgg
  have h9:y.u<l.s.nx:=(hgg.each (dF y) (List.mem_map.2 ⟨y,hy,rfl⟩)).1
  have h8:l.s.nx<4294967296:=hgg.nx.2
  omega
 have hor:b8 (cJ d n)=(l.s.ep,dR l ms):=by rw[hfl];rfl
 have hok:fX d n=true:=by
  unfold fX
  rw[e1,e3,hor,hfl,hle,hg.err,hg.clean,ht]
  have hpg:(dQ l).page=h.b:=by
   rw[h5]
   unfold oS.page jI
   rw[if_pos hg.idxRight,hg.idx]
  have hu:tz (dQ l) (l.s.ep,dR l ms)=true:=by
   unfold tz
   rw[hg.idx,lI,List.map_map]
   simp
   intro a _
   rfl
  rw[hpg,hu]
  simp[jT]
 have hb:=hg.boxF hm
 have hrb:=(rV hb.ep.2 hb.nx.2).2 hb
 unfold bS
 rw[e1,hor,hle,if_pos rfl,if_pos ⟨hok,hrb⟩]
theorem jB :∀n:Fin 16,right (aR bJ n.1)=true∧right (aR ct n.1)=true∧right (aR cV n.1)=true∧cz≠aR bJ n.1∧cz≠aR ct n.1∧cz≠aR cV n.1∧aR bJ n.1≠aR ct n.1∧aR bJ n.1≠aR cV n.1∧aR cV n.1≠aR ct n.1:=by decide+kernel
abbrev bB (b:List UInt8):aa:=⟨b,b.length,true⟩
theorem Cs {c n:Nat} {x:List (ae×aa)} {l:dW} {ms:List aM} (hup:Up x) (hnew:aV cz x=none) (hn:n<16) (hg:eC l) (hm:eH ms) (hroom:used x+8000≤c):
 ec ⟨c,x, -1,false⟩ n l ms=(0,⟨c,bN (aR ct n) (bB (bP l ms).c) (bN (aR cV n) (bB (bP l ms).b) x), -1,false⟩):=by
 obtain⟨r1,r2,r3,k1,k2,k3,k4,k5,k6⟩:=jB ⟨n,hn⟩
 have hs:=hg.sizes hm
 have he:(bP l ms).e=0:=by rw[hg.pages hm]
 unfold ec
 rw[if_pos he,qO hup hnew r3 k3 (by omega),eg rfl]
 show jV ⟨c,bN (aR cV n) (bB (bP l ms).b) x, -1,false⟩ (aR ct n) (bP l ms).c=_
 have hu:=eB (k:=aR cV n) (v:=bB (bP l ms).b) hup
 rw[qO (bp hup) (by rw[au,if_neg k3];exact hnew) r2 k2 (by
  have:(bB (bP l ms).b).b.length=(bP l ms).b.length:=rfl
  omega)]
def eI (k:ae) (j:Nat):ae:=[98,97,100,46]++Lib.decDigits j++[46]++k
def jf (l:List (ae×aa)) (k:ae):Nat→Nat→Nat
 |0,j=>j
 |f+1,j=>bif (aV (eI k j) l).isSome then jf l k f (j+1) else j
def gU (l:List (ae×aa)) (k:ae):Nat:=jf l k (l.length+1) 0
def zH (l:List UInt8):Nat:=l.foldl (fun a c=>a*10+(c.toNat - 48)) 0
theorem qW (n:Nat):zH (Lib.decDigits n)=n:=by
 induction n using Nat.strongRecOn with
 |ind n ih=>
  rw[Lib.decDigits]
  split
  ·rename_i h
   show 0*10+((UInt8.ofNat (48+n)).toNat - 48)=n
   rw[UInt8.toNat_ofNat']
   omega
  ·rename_i h
   have h2:=ih (n/10) (by omega)
   unfold zH at h2 ⊢
   rw[List.foldl_append,h2]
   show n/10*10+((UInt8.ofNat (48+n%10)).toNat - 48)=n
   rw[UInt8.toNat_ofNat']
   omega
theorem Di {k:ae} {i j:Nat} (h:eI k i=eI k j):i=j:=by
 unfold eI at h
 rw[List.append_left_inj,List.append_left_inj,List.append_right_inj] at h
 have:=congrArg zH h
 rwa [qW,qW] at this
theorem tY :∀{a b:List ae},a.Nodup→(∀x∈a,x∈b)→a.length≤b.length
 |[],_,_,_=>Nat.zero_le _
 |x::r,b,hn,hs=>by
  rw[List.nodup_cons] at hn
  have hx:=hs x List.mem_cons_self
  have h1:=tY (b:=b.erase x) hn.2 fun y hy=>(List.mem_erase_of_ne (fun e=>hn.1 (by rw[←e];exact hy))).2 (hs y (List.mem_cons_of_mem _ hy))
  rw[List.length_erase_of_mem hx] at h1
  have h2:0<b.length:=List.length_pos_of_mem hx
  rw[List.length_cons]
  omega
theorem Aq {l:List (ae×aa)} {k:ae} {j:Nat} (h:∀i,i<j→(aV (eI k i) l).isSome=true):j≤l.length:=by
 have h1:=tY (a:=(List.range j).map (eI k)) (b:=l.map (·.1)) ?_ ?_
 ·simpa using h1
 ·rw[List.nodup_iff_pairwise_ne]
  refine List.pairwise_map.2 ?_
  exact List.nodup_range.imp fun hne e=>hne (Di e)
 ·intro x hx
  obtain⟨i,hi,rfl⟩:=List.mem_map.1 hx
  exact tX.2 (h i (List.mem_range.1 hi))
theorem tF {l:List (ae×aa)} {k:ae}:∀(f j:Nat),(∀i,i<j→(aV (eI k i) l).isSome=true)→l.length<j+f→aV (eI k (jf l k f j)) l=none∧(∀i,i<jf l k f j→(aV (eI k i) l).isSome=true)∧jf l k f j≤l.length
 |0,j,h,hl=>by have:=Aq h;omega
 |f+1,j,h,hl=>by
  unfold jf
  cases hb:(aV (eI k j) l).isSome with
  |true=>
   rw[cond_true]
   refine tF f (j+1) (fun i hi=> ?_) (by omega)
   rcases Nat.lt_or_ge i j with h9|h9
   ·exact h i h9
   ·have:i=j:=by omega
    rw[this,hb]
  |false=>
   rw[cond_false]
   refine⟨?_,h,Aq h⟩
   cases hg:aV (eI k j) l with
   |none=>rfl
   |some v=>rw[hg] at hb;cases hb
theorem pN (l:List (ae×aa)) (k:ae):aV (eI k (gU l k)) l=none∧(∀i,i<gU l k→(aV (eI k i) l).isSome=true)∧gU l k≤l.length:=tF _ 0 (fun i hi=>absurd hi (Nat.not_lt_zero _)) (by omega)
def ra (d:aN) (k:ae):Bool:=match aV k d.files with|some f=>f.whole|none=>false
def fx (d:aN) (k:ae):Int×aN:=gN (if ra d k=true then(0,d) else fg d k) fun d'=>cY d' k (eI k (gU d.files k))
theorem Al (k:ae) (j:Nat):k≠eI k j:=fun e=>by
 have:=congrArg List.length e
 unfold eI at this
 simp only[List.length_append,List.length_cons,List.length_nil] at this
 omega
theorem yh {f:aa} (h:f.whole=true):f=bB f.b:=by
 obtain⟨b,s,e⟩:=f
 unfold aa.whole at h
 simp only[Bool.and_eq_true,decide_eq_true_eq] at h
 obtain⟨rfl,rfl⟩:=h
 rfl
def jS (x:List (ae×aa)) (k:ae) (b:List UInt8):List (ae×aa):=gO k (bN (eI k (gU x k)) (bB b) (bN k (bB b) x))
theorem yx {c:Nat} {x:List (ae×aa)} {k:ae} {f:aa} (hup:Up x) (hg:aV k x=some f) (hr:right (eI k (gU x k))=true):fx ⟨c,x, -1,false⟩ k=(0,⟨c,jS x k f.b, -1,false⟩):=by
 obtain⟨j,hj⟩:∃j,eI k (gU x k)=j:=⟨_,rfl⟩
 have hne:k≠j:=by rw[←hj];exact Al k _
 have hsd:ra ⟨c,x, -1,false⟩ k=f.whole:=by unfold ra;rw[hg]
 have hcalm:F6 ⟨c,x, -1,false⟩:=⟨rfl,rfl⟩
 unfold fx jS
 rw[hsd]
 show gN _ (fun d'=>cY d' k (eI k (gU x k)))=_
 rw[hj] at hr ⊢
 cases hw:f.whole with
 |true=>
  rw[if_pos rfl,eg rfl]
  show cY ⟨c,x, -1,false⟩ k j=_
  rw[kt hr hne hg hw]
  have e:bN k (bB f.b) x=x:=by
   refine vG (bp hup) hup fun i=> ?_
   rw[au]
   split
   ·rename_i h;rw[h,hg,←yh hw]
   ·rfl
  rw[e,←yh hw]
 |false=>
  rw[if_neg (by decide),FJ hcalm hg,eg rfl]
  show cY ⟨c,bN k (rs f.b) x, -1,false⟩ k j=_
  rw[kt hr hne (f:=rs f.b) (by rw[au,if_pos rfl]) (vJ _)]
  rfl
theorem yv {x:List (ae×aa)} {k:ae} {b:List UInt8} (j:ae):aV j (jS x k b)=if j=k then none else if j=eI k (gU x k) then some (bB b) else aV j x:=by
 unfold jS
 rw[gX]
 split
 ·rfl
 ·rename_i h
  rw[au,au,if_neg h]
theorem Bi {x:List (ae×aa)} {k:ae} {b:List UInt8} (h:Up x):Up (jS x k b):=jO (bp (bp h)) _
theorem vU {x:List (ae×aa)} {k:ae} {f:aa} (h:Up x) (hg:aV k x=some f):used (jS x k f.b)≤used x:=by
 have h1:=lZ (b:=eI k (gU x k)) (bp (k:=k) (v:=bB f.b) h) (show aV k (bN k (bB f.b) x)=some (bB f.b) by rw[au,if_pos rfl]) (Al k _)
 have h2:=eB (k:=k) (v:=bB f.b) h
 rw[hg] at h2
 simp only[Option.getD_some] at h2
 have h3:(bB f.b).b.length=f.b.length:=rfl
 unfold jS
 omega
theorem yw {x:List (ae×aa)} {k:ae} {f:aa} (h:Up x) (hg:aV k x=some f):(jS x k f.b).length≤x.length+1:=by
 have h1:=gF k (bN (eI k (gU x k)) (bB f.b) (bN k (bB f.b) x))
 have h2:=jJ (k:=eI k (gU x k)) (v:=bB f.b) (bp (k:=k) (v:=bB f.b) h)
 have h3:=jJ (k:=k) (v:=bB f.b) h
 rw[hg,if_pos (show(some f).isSome=true from rfl)] at h3
 unfold jS
 split at h2<;>omega
def p6 (k:ae):Bool:=k.take 4==[98,97,100,46]
theorem Dh (k:ae) (j:Nat):p6 (eI k j)=true:=by
 unfold p6 eI
 rfl
theorem EP :∀n:Fin 16,p6 (aR bJ n.1)=false∧p6 (aR ct n.1)=false∧p6 (aR cV n.1)=false∧(aR ct n.1).length≤6∧(aR cV n.1).length≤6∧(aR ct n.1).all gK=true∧(aR cV n.1).all gK=true:=by decide+kernel
theorem wv :p6 cz=false:=by decide
theorem uT :∀k:Fin 100,(Lib.decDigits k.1).all gK=true∧(Lib.decDigits k.1).length≤2:=by decide+kernel
theorem yz {k:ae} {j:Nat} (hj:j<100) (h1:k.length≤20) (h2:k.all gK=true):right (eI k j)=true:=by
 obtain⟨d1,d2⟩:=uT ⟨j,hj⟩
 unfold right eI
 simp only[List.all_append,d1,h2,Bool.and_eq_true,decide_eq_true_eq,List.length_append,List.length_cons,List.length_nil]
 refine⟨⟨?_,by omega⟩,by simp only at d2;omega⟩
 decide
theorem pX {b:List UInt8} {x:Nat×List aM} (h:bC b=some x):aZ x.1 x.2=true:=by
 unfold bC at h
 cases hp:dC 2 b with
 |none=>rw[hp] at h;cases h
 |some p=>
  rw[hp] at h
  simp only at h
  split at h
  ·rename_i hc
   injection h with h
   subst h
   exact hc.1
  ·cases h
theorem sz (b:List UInt8):(b8 (bC b)).2.length≤500:=by
 cases h:bC b with
 |none=>exact Nat.zero_le _
 |some x=>
  have:=pX h
  unfold aZ at this
  simp only[Bool.and_eq_true,decide_eq_true_eq] at this
  exact this.2
theorem wF (b:List UInt8):eH (b8 (bC b)).2:=by
 cases h:bC b with
 |none=>exact tV
 |some x=>
  have:=pX h
  unfold aZ at this
  rw[qy] at this
  simp only[Bool.and_eq_true,decide_eq_true_eq,List.all_eq_true] at this
  intro m hm
  have h2:=this.1.1.2 m hm
  unfold mT at h2
  simpa using h2
def BI (d:aN) (n:Nat) (l:dW):Bool:=jT (cJ d n)==0&&(b8 (cJ d n)).1==l.s.ep&&(b8 (cJ d n)).2.map (·.1)==(gZ l).2.map (·.1)
def oF (d:aN) (n:Nat) (l:dW) (whole:Bool):Int×aN:=if((ay d cV n).2==0&& !(BI d n l&&whole))=true then fx d (aR cV n) else(0,d)
def oG (d:aN) (n:Nat) (l:dW) (whole:Bool):Int×aN:=if((ay d ct n).2==0&& !((dQ l).err==0&&(ay d ct n).1==(dQ l).page&&whole))=true then fx d (aR ct n) else(0,d)
def dw (d:aN) (n:Nat) (l:dW) (whole:Bool):Int×aN:=gN (oF d n l whole) fun d=>oG d n l whole
def iM (d:aN) (n:Nat) (l:dW):List aM:=if(jT (cJ d n)==0&&(b8 (cJ d n)).1==l.s.ep&&al l.s)=true then(b8 (cJ d n)).2 else[]
def fK (l:dW) (len:Nat):Bool:=al l.s&&l.torn==len&& !l.s.nm.toList.isEmpty&&decide (1≤l.s.ep)
def iW (d:aN) (n:Nat) (l:dW) (ms:List aM):eU×Int×aN:=
 if(ec d n l ms).1=0 then((bS (ec d n l ms).2 n).1,(bS (ec d n l ms).2 n).2,(ec d n l ms).2) else(mJ,(ec d n l ms).1,(ec d n l ms).2)
def pK (b:eU):Int:=bif dE b.nm b.ep b.nx (jG b) then 0 else 1
def ls (d:aN) (n:Nat) (b:eU) (ms:List aM):eU×Int×aN:=
 if pK b=0 then(if(jV d (aR bJ n) (bd b)).1=0 then iW (jV d (aR bJ n) (bd b)).2 n (aT (bd b)) ms else(mJ,(jV d (aR bJ n) (bd b)).1,(jV d (aR bJ n) (bd b)).2)) else(mJ,pK b,d)
def qz (d:aN) (n:Nat) (b:List UInt8):eU×Int×aN:=
 if 500<(aT b).s.live.length then(mJ,5,d)
 else if(dw d n (aT b) (fK (aT b) b.length)).1=0 then
  (if fK (aT b) b.length=true then iW (dw d n (aT b) (fK (aT b) b.length)).2 n (aT b) (iM d n (aT b))
   else ls (dw d n (aT b) (fK (aT b) b.length)).2 n (cN (aT b).s n) (iM d n (aT b)))
 else(mJ,(dw d n (aT b) (fK (aT b) b.length)).1,(dw d n (aT b) (fK (aT b) b.length)).2)
def jr (d:aN) (n:Nat):eU×Int×aN:=if(bS d n).2=9 then qz d n (ay d bJ n).1 else((bS d n).1,(bS d n).2,d)
def lN :Sh ak:=⟨66,128,7,80, .agg #[.int .i64 0, .int .u32 0, .string ⟨#[]⟩, .int .u32 0, .int .i64 0, .int .i64 0, .slice none 0 0],eZ,fun x=>[(x.m.a,x.m.b)],fun _=>rfl,rG,Tryz.underlying128,by kernel_rfl,rfl,by decide,by decide⟩
theorem AG {nx j:Nat} {l:List aU} {x:aU} (hx:l[j]?=some x) (a:Nat):dk nx a (l.drop j)=(decide (a<x.uid)&&(decide (x.uid<nx)||nx==4294967295)&&dk nx x.uid (l.drop (j+1))):=by
 have hj:=(List.getElem?_eq_some_iff.1 hx).1
 rw[List.drop_eq_getElem_cons hj,(List.getElem?_eq_some_iff.1 hx).2]
 rfl
theorem mh {j:Nat} {l:List aU} {x:aU} (hx:l[j]?=some x) (a:Nat):dc a (l.take (j+1))=x.uid:=by
 rw[List.take_add_one,hx]
 exact mg a _ x
theorem AH (u a nx:Nat):(decide (u≤a)||(decide (nx≤u)&&(nx:Int) !=4294967295))= !(decide (a<u)&&(decide (u<nx)||nx==4294967295)):=by
 rw[Bool.eq_iff_iff]
 simp
 omega
theorem DB (nm:ByteArray) (e nx:Nat) (A:Option Addr) (n c:Nat) (l:List aU) (w:World) (hn:n≤16000000) (hms:sC w A n l):
 Calls Tryz.prog 64 #[.agg (mI nm e nx A n c)] w fun ev w'=>ev= .returned (.bool (dk nx 0 l))∧Below w.heap.size w w':=by
 have hl:=hms.len
 refine aK 32 Tryz.func64 rfl rfl (Nat.le_of_ble_eq_true rfl) ?_
 intro a hA;replace hA:=hA.norm
 refine wS (wR ?_)
 refine aP hA rfl rfl (by decide) (fun ev h=>by simp[go_sem,h.get 0 rfl];try first|exact⟨rfl,rfl⟩|rfl) fun w1 a (K:aI _ _ _ _) hz0 hb0 hA=> ?_
 replace hms:=hms.below hb0
 unfold mI at K
 revert a;refine wo rfl rfl (by decide) (fun ev e h=>by simp[go_sem,h,K.cell]<;>rfl) ?_;intro a hA
 replace hA:=hA.keepN [1]
 refine wN (nT (wS (wR ?_)))
 revert a;refine wo rfl rfl (by decide) (fun ev e h=>by simp[go_sem,h,K.cell]<;>rfl) ?_;intro a hA
 replace hA:=hA.keepN [1,3]
 refine wN (nT (wS (wS (wR ?_))))
 revert a;(iterate 4 refine wo rfl rfl (by decide) (fun ev e h=>by simp[go_sem,h,K.cell]<;>rfl) ?_);intro a hA
 replace hA:=hA.keepN [1,3,7,8,9]
 refine wN (nT (wB ?_))
 have HB:=Below.refl w1.heap.size w1
 refine aQ (fun kk a wx=>∃(j:Nat),j+kk=n∧At 32 [(1, .pointer (some ⟨w.heap.size,0,none⟩)),(3, .int .u32 (dc 0 (l.take j):Nat)),(7, .slice A n c),(8, .int .i64 (n:Nat)),(9, .int .i64 (j:Nat))] a∧dk nx 0 l=dk nx (dc 0 (l.take j)) (l.drop j)∧Below w1.heap.size w1 wx) (n) ?_ ?_
 ·exact⟨0,by omega,hA,rfl,HB⟩
 clear HB
 rintro kk a wx ⟨j,hjk,hA,hri,HB⟩
 refine wS (wR ?_)
 revert a;refine wo rfl rfl (by decide) (fun ev e h=>by simp[go_sem,h]<;>rfl) ?_;intro a hA
 replace hA:=hA.keepN [1,3,7,8,9,10]
 refine wN (nT (wS ?_))
 refine aH hA 10 _ rfl (fun hq=> ?yL) (fun hq=> ?nL)
 case yL=>
  have hlt:j<n:=by simp at hq;omega
  obtain⟨x,hx⟩:∃x,l[j]?=some x:=⟨_,List.getElem?_eq_getElem (by omega)⟩
  obtain⟨ad,rfl,hadl,k0,k1,k2,k3⟩:=hms.at_ hx
  have z0:=(HB.cell hadl).trans k0
  have z1:=(HB.cell (p:=⟨(ad.add (j*4)).block,(ad.add (j*4)).off+1,none⟩) hadl).trans k1
  have z2:=(HB.cell (p:=⟨(ad.add (j*4)).block,(ad.add (j*4)).off+2,none⟩) hadl).trans k2
  have z3:=(HB.cell (p:=⟨(ad.add (j*4)).block,(ad.add (j*4)).off+3,none⟩) hadl).trans k3
  have jj0:(0:Int)≤(j:Int):=by omega
  have jj1:(j:Int)<(n:Int):=by omega
  have hwj:IntKind.i64.wrap ((j:Int)+1)=(j:Int)+1:=IntWalk.i64_in _ (by omega)
  have Kx:=K.below HB K.lt
  refine wp_skip (nT (wS (wB (wS (wR ?_)))))
  revert a;(iterate 2 refine wo rfl rfl (by decide) (fun ev e h=>by simp[go_sem,h,z0,z1,z2,z3,jj0,jj1]<;>rfl) ?_);intro a hA
  refine ap [.int .u32 (x.uid:Nat), .int .i64 x.date, .int .i64 x.flags, .slice x.a x.b.length x.c] hA rfl rfl (by decide) (fun ev h=>by simp[go_sem,z0,z1,z2,z3,jj0,jj1];try first|exact⟨rfl,rfl⟩|rfl) rfl rfl (by rfl) (fun w1 g ev hb h=>by simp[go_sem,h.get 5 rfl,h.get 12 rfl,z0,z1,z2,z3,jj0,jj1,setAll,hb.cell,hb.frozen]) fun w5 a (K5:aI _ _ _ _) hz5 hb5 hA=> ?_
  replace Kx:=Kx.below hb5 Kx.lt
  replace HB:=HB.trans (hb5.mono HB.size)
  replace hA:=hA.keepN [1,3,5,7,8,9]
  refine wN (nT (wS (wS (wR ?_))))
  revert a;(iterate 5 refine wo rfl rfl (by decide) (fun ev e h=>by simp[go_sem,h,K5.cell,Kx.cell]<;>rfl) ?_);(iterate 5 refine wg _ rfl rfl rfl rfl (by decide) (fun hq ev e h=>by simp[go_sem,h,↓aL (aF hq),K5.cell,Kx.cell]<;>rfl) ?_);intro a hA
  replace hA:=hA.keepN [1,5,7,8,9,17,22]
  revert a;refine wg _ rfl rfl rfl rfl (by decide) (fun hq ev e h=>by simp[go_sem,h,↓aL (aF hq),K5.cell,Kx.cell]<;>rfl) ?_;(iterate 3 refine IC _ _ rfl rfl rfl rfl (by decide) (fun hq hr ev e h=>by simp[go_sem,h,↓aL (ax hq hr),↓aL hq,K5.cell,Kx.cell]<;>rfl) ?_);intro a hA
  refine az _ hA rfl rfl rfl rfl (by decide) (fun hq ev h=>by exact iz rfl (((h.get 23 rfl).trans (aL (aF hq)))) (((h.get 26 rfl).trans (wM (aF hq)))) (h.c _)) fun a hA=> ?_
  revert a;refine kj rfl rfl (by decide) rfl rfl rfl ?_;intro a hA
  replace hA:=hA.keepN [1,5,7,8,9,28]
  refine wN (nT ?_)
  have hst:=AH x.uid (dc 0 (l.take j)) nx
  rw[hst] at hA
  rw[AG hx] at hri
  refine aH hA 28 _ rfl (fun hq2=> ?yR) (fun hq2=> ?nR)
  case yR=>
   have hq2:(decide (dc 0 (l.take j)<x.uid)&&(decide (x.uid<nx)||nx==4294967295))=false:=by rw[Bool.not_eq_true'] at hq2;exact hq2
   rw[hq2,Bool.false_and] at hri
   refine wS (wR ?_)
   revert a;refine wo rfl rfl (by decide) (fun ev e h=>by simp[go_sem,h,K5.cell,Kx.cell]<;>rfl) ?_;intro a hA
   replace hA:=hA.keepN [2]
   refine wN (nT (wp_ret (rT (rB (rT (rT (rB (rT ?_))))))))
   refine ab hA 2 rfl rfl ?_
   exact⟨bH hri.symm,hb0.trans (HB.mono hb0.size)⟩
  case nR=>
   have hq2:(decide (dc 0 (l.take j)<x.uid)&&(decide (x.uid<nx)||nx==4294967295))=true:=by rw[Bool.not_eq_false'] at hq2;exact hq2
   rw[hq2,Bool.true_and,←mh hx 0] at hri
   refine wp_skip (nT (wR ?_))
   revert a;(iterate 3 refine wo rfl rfl (by decide) (fun ev e h=>by simp[go_sem,h,K5.cell,hwj]<;>rfl) ?_);intro a hA
   replace hA:=hA.keepN [1,3,7,8,9]
   refine wN (nB (nT (wR ?_)))
   revert a;(iterate 2 refine wo rfl rfl (by decide) (fun ev e h=>by simp[go_sem,h,K5.cell,hwj]<;>rfl) ?_);intro a hA
   replace hA:=hA.keepN [1,3,7,8,9]
   refine wN (nT ?_)
   rw[show((j:Int)+1)=((j+1:Nat):Int) by omega] at hA
   exact⟨kk - 1,by omega,j+1,by omega,by rw[mh hx 0];exact hA,hri,HB⟩
 case nL=>
  have hjn:j=n:=by simp at hq;omega
  rw[hjn,←hl,List.drop_length] at hri
  replace hA:=hA.keepN []
  refine wp_exit (xT (xT (xB (nT (wS (wR ?_))))))
  revert a;refine wo rfl rfl (by decide) (fun ev e h=>by simp[go_sem,h]<;>rfl) ?_;intro a hA
  replace hA:=hA.keepN [2]
  refine wN (nT (wp_ret ?_))
  refine ab hA 2 rfl rfl ?_
  exact⟨bH (by rw[hri];rfl),hb0.trans (HB.mono hb0.size)⟩
theorem Eg {M:Type} {s:Sh M} {B g:Nat} {w:World} {x:M} (K:aI w g s.T (s.f x).toArray) (hB:B≤g) (hp:∀p∈s.parts x,bj w p) (hoff:∀p∈s.parts x,jR g p):ac s B w (.slice (some ⟨g,0,none⟩) 1 1) [x]:=by
 have e:[x].flatMap s.f=s.f x:=by simp
 refine⟨⟨by rw[e,s.len];simp, .inr ⟨g,1,(s.f x).toArray,rfl,hB,K,by simp,by unfold maxLen;omega,by simp[s.len], ?_⟩⟩,fun m hm=> ?_,fun g' hg' m hm=> ?_⟩
 ·rw[e,List.length_singleton,Nat.one_mul]
  exact List.take_of_length_le (by simp[s.len])
 ·rw[List.mem_singleton.1 hm];exact hp
 ·rw[List.mem_singleton.1 hm]
  have:g=g':=by simpa[Value.ownBlock] using hg'
  rw[←this]
  exact hoff
theorem CL {n:ak} (h:iT n):n.frame.length≤121+n.m.b.length:=by
 obtain⟨_,h60,_,_,_⟩:=eJ h.ok
 have l1:=qa n.kind n.m
 have l2:=qb n.kind n.m
 have l3:=qc n.kind n.nm
 rw[tE]
 unfold fL
 simp only[List.length_append,aO]
 omega
def AX (l:List ak):Nat:=(l.map fun n=>n.m.b.length).sum
theorem lB :∀{l:List ak},(∀n∈l,iT n)→(bA l).length≤l.length*121+AX l
 |[],_=>Nat.zero_le _
 |n::l,h=>by
  have h1:=lB (l:=l) fun m hm=>h m (List.mem_cons_of_mem _ hm)
  have h2:=CL (h n List.mem_cons_self)
  unfold bA AX at h1 ⊢
  rw[List.flatMap_cons,List.length_append,List.length_cons,List.map_cons,List.sum_cons]
  omega
theorem DL (l:List ak) (j:Nat):AX (l.take j)≤AX l:=by
 unfold AX
 conv=>rhs;rw[←List.take_append_drop j l,List.map_append,List.sum_append]
 omega
theorem pq (nm:ByteArray) (e nx:Nat) (l:List aU):AX (dS nm e nx l)=(l.map fun m=>m.b.length).sum:=by
 unfold AX dS
 rw[List.map_cons,List.sum_cons,List.map_append,List.sum_append,List.map_map]
 have e1:((kh e nx (dc 0 l)).map fun n=>n.m.b.length).sum=0:=by unfold kh;split<;>rfl
 rw[e1]
 show 0+((l.map fun m=>m.b.length).sum+0)=_
 omega
theorem rJ (nm:ByteArray) (e nx:Nat) (l:List aU):(dS nm e nx l).length≤l.length+2:=by
 unfold dS kh
 rw[List.length_cons,List.length_append,List.length_map]
 split<;>simp
theorem Cg {nm:ByteArray} {e nx:Nat} {l:List aU} (he:e<4294967296) (hx:nx<4294967296) (hu:∀m∈l,m.uid<4294967296):∀n∈dS nm e nx l,n.ep<4294967296∧n.m.uid<4294967296∧n.nm.size≤nm.size:=by
 intro n hn
 unfold dS at hn
 rcases List.mem_cons.1 hn with e1|hn
 ·subst e1;exact⟨he,by show 0<_;omega,Nat.le_refl _⟩
 ·rcases List.mem_append.1 hn with hn|hn
  ·obtain⟨m,hm,rfl⟩:=List.mem_map.1 hn
   exact⟨he,hu m hm,Nat.le_refl _⟩
  ·unfold kh at hn
   split at hn
   ·rw[List.mem_singleton] at hn
    subst hn
    exact⟨he,by show nx - 1<_;omega,Nat.zero_le _⟩
   ·cases hn
theorem uV {l:List ak} {j:Nat} {x:ak} (hx:l[j]?=some x):bA (l.take (j+1))=bA (l.take j)++x.frame:=by
 unfold bA
 rw[List.take_add_one,hx,List.flatMap_append]
 simp
theorem DS (nm:ByteArray) (e nx:Nat) (A:Option Addr) (n c:Nat) (l:List aU) (w:World) (hm:cX w) (hg:0<w.heap.size) (htab:Lib.TabIs Tryz.prog w "internal/strconv.uint64pow10" .u64 Lib.pow10Tab) (hs:nm.size≤9223372036854775807)
 (hn:n≤60000) (hsm:(l.map fun m=>m.b.length).sum≤20000000) (he:e<4294967296) (hx:nx<4294967296) (hu:∀m∈l,m.uid<4294967296) (hms:sC w A n l):
 Calls Tryz.prog 28 #[.agg (mI nm e nx A n c)] w fun ev w'=>∃r,ev= .returned (.tuple #[r, .int .i64 (bif dE nm e nx l then 0 else 1)])∧ce w.heap.size w' r (bif dE nm e nx l then bA (dS nm e nx l) else[])∧Below w.heap.size w w':=by
 have Ht:=Lib.tabBelow_of_tabIs htab
 have hl:=hms.len
 have hms0:=hms
 refine aK 75 Tryz.func28 rfl rfl (Nat.le_of_ble_eq_true rfl) ?_
 intro a hA;replace hA:=hA.norm
 refine wS (wR ?_)
 refine aP hA rfl rfl (by decide) (fun ev h=>by simp[go_sem,h.get 0 rfl];try first|exact⟨rfl,rfl⟩|rfl) fun w1 a (K:aI _ _ _ _) hz0 hb0 hA=> ?_
 replace hms:=hms.below hb0
 unfold mI at K
 have HB:=hb0
 revert a;(iterate 2 refine wo rfl rfl (by decide) (fun ev e h=>by simp[go_sem,h,K.cell]<;>rfl) ?_);intro a hA
 replace hA:=hA.keepN [1]
 refine wN (nT (wS (wS (wR ?_))))
 revert a;refine wo rfl rfl (by decide) (fun ev e h=>by simp[go_sem,h,K.cell]<;>rfl) ?_;intro a hA
 refine aC hA rfl rfl (by decide) (fun ev h=>aB Tryz.func64 (by kernel_rfl) rfl (h.f _) (by first|(simp only[mL,h.get 13 rfl,h.c]<;>rfl)|(simp[mL,h.get 13 rfl,h.c,K.cell]<;>rfl))) (DB nm e nx A n c l _ (by omega) hms) ?_
 rintro e w2 ⟨rfl,hb2⟩
 refine⟨_,rfl,fun a hA=> ?_⟩
 replace HB:=HB.trans (hb2.mono HB.size)
 replace hms:=hms.below hb2
 replace K:=K.below hb2 K.lt
 have h12:w.heap.size<w2.heap.size:=by have:=hb2.size;omega
 revert a;refine wo rfl rfl (by decide) (fun ev e h=>by simp[go_sem,h,K.cell]<;>rfl) ?_;intro a hA
 replace hA:=hA.keepN [1,15]
 refine wN (nT ?_)
 refine aH hA 15 _ rfl (fun hq=> ?yA) (fun hq=> ?nA)
 case yA=>
  have hw:dE nm e nx l=false:=by
   have hq:dk nx 0 l=false:=by rw[Bool.not_eq_true'] at hq;exact hq
   unfold dE
   rw[hq]
   rfl
  refine wS (wR ?_)
  revert a;(iterate 2 refine wo rfl rfl (by decide) (fun ev e h=>by simp[go_sem,h,K.cell]<;>rfl) ?_);intro a hA
  replace hA:=hA.keepN [2,3]
  refine wN (nT (wp_ret (rT ?_)))
  refine gJ hA 2 3 rfl rfl rfl ?_
  rw[hw]
  exact⟨_,rfl,ce.nil _,HB⟩
 case nA=>
  have hrs:dk nx 0 l=true:=by rw[Bool.not_eq_false'] at hq;exact hq
  clear hms
  refine wp_skip (nT (wS (wR ?_)))
  revert a;(iterate 5 refine wo rfl rfl (by decide) (fun ev e h=>by simp[go_sem,h,K.cell]<;>rfl) ?_);intro a hA
  refine aP hA rfl rfl (by decide) (fun ev h=>by simp[go_sem,h.get 20 rfl,K.cell];try first|exact⟨rfl,rfl⟩|rfl) fun w3 a (K4:aI _ _ _ _) hz3 hb3 hA=> ?_
  replace HB:=HB.trans (hb3.mono HB.size)
  replace K:=K.below hb3 K.lt
  have ho0:ac lN w2.heap.size w3 _ [fz nm e]:=Eg (s:=lN) (x:=fz nm e) K4 (Nat.le_refl _) (fun p hp=>by rw[List.mem_singleton.1 hp];exact aE.none8) (fun p hp=>by rw[List.mem_singleton.1 hp];intro h;exact absurd h (Nat.lt_irrefl 0))
  clear K4
  revert a;refine wo rfl rfl (by decide) (fun ev e h=>by simp[go_sem,h,K.cell]<;>rfl) ?_;intro a hA
  replace hA:=hA.keepN [1,4]
  refine wN (nT (wS (wR ?_)))
  revert a;refine wo rfl rfl (by decide) (fun ev e h=>by simp[go_sem,h,K.cell]<;>rfl) ?_;intro a hA
  replace hA:=hA.keepN [1,4,5]
  refine wN (nT (wS (wS (wR ?_))))
  revert a;(iterate 4 refine wo rfl rfl (by decide) (fun ev e h=>by simp[go_sem,h,K.cell]<;>rfl) ?_);intro a hA
  replace hA:=hA.keepN [1,4,5,23,24,25]
  refine wN (nT (wB ?_))
  have HL:=Below.refl w2.heap.size w3
  refine aQ (fun kk a wx=>∃(j:Nat) (v:Value),j+kk=n∧At 75 [(1, .pointer (some ⟨w.heap.size,0,none⟩)),(4,v),(5, .int .u32 (dc 0 (l.take j):Nat)),(23, .slice A n c),(24, .int .i64 (n:Nat)),(25, .int .i64 (j:Nat))] a∧ac lN w2.heap.size wx v (fz nm e::(l.take j).map (dB nm e))∧Below w2.heap.size w3 wx) (n) ?_ ?_
  ·exact⟨0,_,by omega,hA,ho0,HL⟩
  clear HL ho0
  rintro kk a wx ⟨j,v,hjk,hA,ho,HL⟩
  have HBx:Below w.heap.size w wx:=HB.trans (HL.mono (Nat.le_of_lt h12))
  have hwx:w3.heap.size≤wx.heap.size:=HL.size
  have Kx:=K.below HL h12
  refine wS (wR ?_)
  revert a;refine wo rfl rfl (by decide) (fun ev e h=>by simp[go_sem,h]<;>rfl) ?_;intro a hA
  replace hA:=hA.keepN [1,4,5,23,24,25,26]
  refine wN (nT (wS ?_))
  refine aH hA 26 _ rfl (fun hq=> ?yL) (fun hq=> ?nL)
  case yL=>
   have hlt:j<n:=by simp at hq;omega
   obtain⟨x,hx⟩:∃x,l[j]?=some x:=⟨_,List.getElem?_eq_getElem (by omega)⟩
   obtain⟨ad,rfl,hadl,k0,k1,k2,k3⟩:=hms0.at_ hx
   have hxr0:=hms0.octs x (List.mem_of_getElem? hx)
   have z0:=(HBx.cell hadl).trans k0
   have z1:=(HBx.cell (p:=⟨(ad.add (j*4)).block,(ad.add (j*4)).off+1,none⟩) hadl).trans k1
   have z2:=(HBx.cell (p:=⟨(ad.add (j*4)).block,(ad.add (j*4)).off+2,none⟩) hadl).trans k2
   have z3:=(HBx.cell (p:=⟨(ad.add (j*4)).block,(ad.add (j*4)).off+3,none⟩) hadl).trans k3
   have jj0:(0:Int)≤(j:Int):=by omega
   have jj1:(j:Int)<(n:Int):=by omega
   have hwj:IntKind.i64.wrap ((j:Int)+1)=(j:Int)+1:=IntWalk.i64_in _ (by omega)
   refine wp_skip (nT (wS (wB (wS (wR ?_)))))
   revert a;(iterate 2 refine wo rfl rfl (by decide) (fun ev e h=>by simp[go_sem,h,z0,z1,z2,z3,jj0,jj1]<;>rfl) ?_);intro a hA
   refine ap [.int .u32 (x.uid:Nat), .int .i64 x.date, .int .i64 x.flags, .slice x.a x.b.length x.c] hA rfl rfl (by decide) (fun ev h=>by simp[go_sem,z0,z1,z2,z3,jj0,jj1];try first|exact⟨rfl,rfl⟩|rfl) rfl rfl (by rfl) (fun w1 g ev hb h=>by simp[go_sem,h.get 7 rfl,h.get 28 rfl,z0,z1,z2,z3,jj0,jj1,setAll,hb.cell,hb.frozen]) fun w5 a (K5:aI _ _ _ _) hz5 hb5 hA=> ?_
   replace Kx:=Kx.below hb5 Kx.lt
   replace ho:=ho.below hb5
   replace HL:=HL.trans (hb5.mono (by omega))
   replace hA:=hA.keepN [1,4,7,23,24,25]
   refine wN (nT (wS (wR ?_)))
   revert a;(iterate 7 refine wo rfl rfl (by decide) (fun ev e h=>by simp[go_sem,h,K5.cell,Kx.cell]<;>rfl) ?_);intro a hA
   refine aP hA rfl rfl (by decide) (fun ev h=>by simp[go_sem,h.get 35 rfl,K5.cell,Kx.cell];try first|exact⟨rfl,rfl⟩|rfl) fun w6 a (K6:aI _ _ _ _) hz6 hb6 hA=> ?_
   replace Kx:=Kx.below hb6 Kx.lt
   replace ho:=ho.below hb6
   replace K5:=K5.below hb6 K5.lt
   replace HL:=HL.trans (hb6.mono (by omega))
   have hxr:bj w6 (x.a,x.b):=bj.below (p:=(x.a,x.b)) hxr0 (HB.trans (HL.mono (Nat.le_of_lt h12)))
   have hrow:bu lN w6 _ [dB nm e x]:=ey (s:=lN) (x:=dB nm e x) K6 (fun p hp=>by rw[List.mem_singleton.1 hp];exact hxr)
   have hvlt:=World.ownsRow.lt ho.row
   obtain⟨r,w7,hr7,ho7,hg7, -⟩:=eT ho hrow (fun g hg m hm p hp=>by
    rw[List.mem_singleton.1 hm] at hp
    rw[List.mem_singleton.1 hp]
    intro hn' ad' ha he
    obtain⟨ad2,e2,hlt2,_⟩:=hxr0.2 hn'
    have h1:=(hvlt g hg).1
    have e3:x.a=some ad':=ha
    rw[e3] at e2
    injection e2 with e2
    subst e2
    omega) (by simp;omega) (by omega)
   refine a7 hA rfl rfl (by decide) (fun ev h=>ao rfl (h.get 29 rfl) (h.get 36 rfl) hr7) fun a hA=> ?_
   replace HL:=dN HL ho hg7 (Nat.le_refl _) (by omega)
   replace Kx:=Kx.grown hg7 (fun e=>by have:=(hvlt w.heap.size e.symm).1;omega)
   replace K5:=K5.grown hg7 (fun e=>eu ho.row K5 (by decide) _ e.symm rfl)
   revert a;refine wo rfl rfl (by decide) (fun ev e h=>by simp[go_sem,h,K5.cell,hwj]<;>rfl) ?_;intro a hA
   replace hA:=hA.keepN [1,4,7,23,24,25]
   refine wN (nT (wR ?_))
   revert a;(iterate 3 refine wo rfl rfl (by decide) (fun ev e h=>by simp[go_sem,h,K5.cell,hwj]<;>rfl) ?_);intro a hA
   replace hA:=hA.keepN [1,4,5,23,24,25]
   refine wN (nB (nT (wR ?_)))
   revert a;(iterate 2 refine wo rfl rfl (by decide) (fun ev e h=>by simp[go_sem,h,K5.cell,hwj]<;>rfl) ?_);intro a hA
   replace hA:=hA.keepN [1,4,5,23,24,25]
   refine wN (nT ?_)
   rw[show((j:Int)+1)=((j+1:Nat):Int) by omega] at hA
   refine⟨kk - 1,by omega,j+1,_,by omega,by rw[mh hx 0];exact hA, ?_,HL⟩
   rw[List.take_add_one,hx,List.map_append]
   exact ho7
  case nL=>
   have hjn:j=n:=by simp at hq;omega
   rw[List.take_of_length_le (by omega)] at ho hA
   obtain⟨la,hla⟩:∃x,dc 0 l=x:=⟨_,rfl⟩
   have hlau:la<4294967296:=by
    rw[←hla]
    rcases List.eq_nil_or_concat l with e|⟨l',m,e⟩
    ·rw[e];decide
    ·rw[e,List.concat_eq_append,mg]
     exact hu m (by rw[e];simp)
   rw[hla] at hA
   replace hA:=hA.keepN [1,4,5]
   have pD:=fun(wo:World) (hC:(fun wy=>Below wx.heap.size wx wy) wo)=>have Ky:=Kx.below hC Kx.lt;(Ky.cell)
   refine wp_exit (xT (xT (xB (nT (wS (wS ?_))))))
   refine bi hA [(.det ?dD0),(.det ?dD1),(.det ?dD2),(.det ?dD3),(.det ?dD4)] [] (fun wy=>Below wx.heap.size wx wy) (aG [] aA) (by kernel_rfl) rfl (by kernel_rfl) (by kernel_rfl) rfl ((Below.refl _ _).drew) (bF [] [true,true,true,true,true] [true,true,true,true,true] [] rfl rfl rfl (by kernel_rfl) ⟨trivial,trivial,trivial,trivial,trivial,trivial⟩ trivial) (fun _ h=>by cases h) (fun _ _ _ _ _ h=>by cases h) (fun _ h=>by cases h) ⟨?oD0, ?oD1, ?oD2, ?oD3, ?oD4,trivial⟩ (by kernel_rfl) ?fD
   case oD0=>intro ev wo hev hC hs hph;have x0:=se hA hs 1;exact od rfl rfl (by kernel_rfl) hC (aG.of rfl (aA.refl _)) (by simp[go_sem,x0]<;>rfl)
   case oD1=>intro ev wo hev hC hs hph;have x0:=sd hs 41 0;exact od rfl rfl (by kernel_rfl) hC (aG.of rfl (aA.refl _)) (by simp[go_sem,x0,pD _ hC]<;>rfl)
   case oD2=>intro ev wo hev hC hs hph;have x0:=se hA hs 5;exact od rfl rfl (by kernel_rfl) hC (aG.of rfl (aA.refl _)) (by simp[go_sem,x0]<;>rfl)
   case oD3=>
    intro ev wo hev hC hs hph
    have e43:=sd hs 43 2
    have Ky:=Kx.below hC Kx.lt
    exact bm (aJ rfl) rfl (by kernel_rfl) ((m7 la hlau wo).mono fun e' w' h=>⟨h.1,h.2▸Below.refl _ _⟩) (aB Tryz.func65 (by kernel_rfl) rfl (hev.func _) (by first|(simp only[mL,e43,hev.const]<;>rfl)|(simp[mL,e43,hev.const]<;>rfl))) (by rfl) (fun w3 hb3=>⟨hC.trans (hb3.mono hC.size),aG.of rfl hb3⟩)
   case oD4=>intro ev wo hev hC hs hph;have x0:=sd hs 42 1;have x1:=sd hs 44 3;exact od rfl rfl (by kernel_rfl) hC (aG.of rfl (aA.refl _)) (by simp[go_sem,x0,x1]<;>rfl)
   intro sg wf hC hph
   intro a hA
   replace hA:=hA.keepN [1,4,45]
   refine nT ?_
   replace Kx:=Kx.below hC Kx.lt
   replace ho:=ho.below hC
   replace HL:=HL.trans (hC.mono (by omega))
   have hwf:w3.heap.size≤wf.heap.size:=HL.size
   refine cd (fun a wx=>∃(v:Value),At 75 [(4,v)] a∧ac lN w2.heap.size wx v (dS nm e nx l)∧Below w2.heap.size w3 wx) ?jfX ?jrX
   case jfX=>
    refine aH hA 45 _ rfl (fun hq2=> ?yG) (fun hq2=> ?nG)
    case nG=>
     have hlt:¬aW (dc 0 l)<nx:=by rw[hla];simp at hq2;omega
     replace hA:=hA.keepN [4]
     refine wp_skip (nT ?_)
     refine⟨_,hA, ?_,HL⟩
     unfold dS kh
     rw[if_neg hlt,List.append_nil]
     exact ho
    case yG=>
     have hlt:aW (dc 0 l)<nx:=by rw[hla];simp at hq2;omega
     have hb1:=qK (dc 0 l)
     have hwu:IntKind.u32.wrap ((nx:Int) - 1)=((nx - 1:Nat):Int):=by rw[IntWalk.u32_in _ (by omega)];omega
     refine wR ?_
     revert a;(iterate 8 refine wo rfl rfl (by decide) (fun ev e h=>by simp[go_sem,h,Kx.cell,hwu]<;>rfl) ?_);intro a hA
     refine aP hA rfl rfl (by decide) (fun ev h=>by simp[go_sem,h.get 53 rfl,Kx.cell,hwu];try first|exact⟨rfl,rfl⟩|rfl) fun w6 a (K6:aI _ _ _ _) hz6 hb6 hA=> ?_
     replace ho:=ho.below hb6
     replace HL:=HL.trans (hb6.mono (by omega))
     have hrow:bu lN w6 _ [iB e (nx - 1)]:=ey (s:=lN) (x:=iB e (nx - 1)) K6 (fun p hp=>by rw[List.mem_singleton.1 hp];exact aE.none8)
     obtain⟨r,w7,hr7,ho7,hg7, -⟩:=eT ho hrow (fun g hg m hm p hp=>by
      rw[List.mem_singleton.1 hm] at hp
      rw[List.mem_singleton.1 hp]
      intro hn'
      exact absurd hn' (Nat.lt_irrefl 0)) (by simp;omega) (by omega)
     refine a7 hA rfl rfl (by decide) (fun ev h=>ao rfl (h.get 46 rfl) (h.get 54 rfl) hr7) fun a hA=> ?_
     replace HL:=dN HL ho hg7 (Nat.le_refl _) (by omega)
     revert a;refine wo rfl rfl (by decide) (fun ev e h=>by simp[go_sem,h,Kx.cell,hwu]<;>rfl) ?_;intro a hA
     replace hA:=hA.keepN [4]
     refine wN (nT ?_)
     refine⟨_,hA, ?_,HL⟩
     unfold dS kh
     rw[if_pos hlt]
     exact ho7
   clear Kx ho HL hC
   rintro a w9 ⟨v,hA,ho,HL⟩
   have HB9:Below w.heap.size w w9:=HB.trans (HL.mono (Nat.le_of_lt h12))
   obtain⟨NW,hNW⟩:∃N,dS nm e nx l=N:=⟨_,rfl⟩
   have hok:=Cg (nm:=nm) (e:=e) (nx:=nx) (l:=l) he hx hu
   have hsum:=pq nm e nx l
   have hlen:=rJ nm e nx l
   have hwo:dE nm e nx l=NW.all Cm:=by unfold dE;rw[hrs,hNW,Bool.true_and]
   rw[hNW] at ho hok hsum hlen
   rw[hNW,hwo]
   obtain⟨Av,cv,rfl,hrow,_⟩:=ho.reads
   refine wS (wR ?_)
   revert a;refine wo rfl rfl (by decide) (fun ev e h=>by simp[go_sem,h]<;>rfl) ?_;intro a hA
   replace hA:=hA.keepN [4,8]
   refine wN (nT (wS (wS (wR ?_))))
   revert a;(iterate 3 refine wo rfl rfl (by decide) (fun ev e h=>by simp[go_sem,h]<;>rfl) ?_);intro a hA
   replace hA:=hA.keepN [8,56,57,58]
   refine wN (nT (wB ?_))
   obtain⟨q,hq9⟩:∃q,NW.length=q:=⟨_,rfl⟩
   rw[hq9] at hA
   refine aQ (fun kk a wy=>∃(j:Nat) (vo:Value),j+kk=q∧At 75 [(8,vo),(56, .slice Av q cv),(57, .int .i64 (q:Nat)),(58, .int .i64 (j:Nat))] a∧ce w9.heap.size wy vo (bA (NW.take j))∧(∀y∈NW.take j,iT y)∧Below w9.heap.size w9 wy) (q) ?_ ?_
   ·exact⟨0,_,by omega,hA,ce.nil _,fun _ h=>(by cases h),Below.refl _ _⟩
   rintro kk2 a wy ⟨i,vo,hik,hA,ho8,hF,HY⟩
   have HBy:Below w.heap.size w wy:=HB9.trans (HY.mono HB9.size)
   have hwy:w9.heap.size≤wy.heap.size:=HY.size
   have h99:w.heap.size≤w9.heap.size:=HB9.size
   refine wS (wR ?_)
   revert a;refine wo rfl rfl (by decide) (fun ev e h=>by simp[go_sem,h]<;>rfl) ?_;intro a hA
   replace hA:=hA.keepN [8,56,57,58,59]
   refine wN (nT (wS ?_))
   refine aH hA 59 _ rfl (fun hq3=> ?yI) (fun hq3=> ?nI)
   case nI=>
    have hin:i=q:=by simp at hq3;omega
    rw[List.take_of_length_le (by omega)] at ho8 hF
    have hall:NW.all Cm=true:=List.all_eq_true.2 fun y hy=>(hF y hy).ok
    rw[hall]
    replace hA:=hA.keepN [8]
    refine wp_exit (xT (xT (xB (nT (wS (wR ?_))))))
    revert a;(iterate 3 refine wo rfl rfl (by decide) (fun ev e h=>by simp[go_sem,h]<;>rfl) ?_);intro a hA
    replace hA:=hA.keepN [2,3]
    refine wN (nT (wp_ret ?_))
    refine gJ hA 2 3 rfl rfl rfl ?_
    exact⟨_,rfl,ho8.mono h99,HBy⟩
   case yI=>
    have hlt:i<q:=by simp at hq3;omega
    obtain⟨x,hx⟩:∃x,NW[i]?=some x:=⟨_,List.getElem?_eq_getElem (by omega)⟩
    obtain⟨hxe,hxu,hxs⟩:=hok x (List.mem_of_getElem? hx)
    have hxr0:=hrow.octs x (List.mem_of_getElem? hx) (x.m.a,x.m.b) (List.mem_singleton.2 rfl)
    obtain⟨ad,rfl,hadl,kz,kk'⟩:=hrow.cell hx
    have z0:wy.cell? (ad.add (i*7))=some (.int .i64 x.kind):=(HY.cell (by rw[aD];exact hadl)).trans (kz _ rfl)
    have zz:∀d u,0<d→(eZ x)[d]?=some u→wy.cell? ⟨(ad.add (i*7)).block,(ad.add (i*7)).off+d,none⟩=some u:=fun d u hd hu=>(HY.cell (by show(ad.add _).block<_;rw[aD];exact hadl)).trans (kk' d _ hd hu)
    have z1:=zz 1 _ (by decide) rfl
    have z2:=zz 2 _ (by decide) rfl
    have z3:=zz 3 _ (by decide) rfl
    have z4:=zz 4 _ (by decide) rfl
    have z5:=zz 5 _ (by decide) rfl
    have z6:=zz 6 _ (by decide) rfl
    have jj0:(0:Int)≤(i:Int):=by omega
    have jj1:(i:Int)<(q:Int):=by omega
    have hwj:IntKind.i64.wrap ((i:Int)+1)=(i:Int)+1:=IntWalk.i64_in _ (by omega)
    refine wp_skip (nT (wS (wB (wS (wR ?_)))))
    revert a;(iterate 2 refine wo rfl rfl (by decide) (fun ev e h=>by simp[go_sem,h,z0,z1,z2,z3,z4,z5,z6,jj0,jj1]<;>rfl) ?_);intro a hA
    refine ap [.int .i64 x.kind, .int .u32 (x.ep:Nat), .string x.nm, .int .u32 (x.m.uid:Nat), .int .i64 x.m.date, .int .i64 x.m.flags, .slice x.m.a x.m.b.length x.m.c] hA rfl rfl (by decide) (fun ev h=>by simp[go_sem,z0,z1,z2,z3,z4,z5,z6,jj0,jj1];try first|exact⟨rfl,rfl⟩|rfl) rfl rfl (by rfl) (fun w1 g ev hb h=>by simp[go_sem,h.get 10 rfl,h.get 61 rfl,z0,z1,z2,z3,z4,z5,z6,jj0,jj1,setAll,hb.cell,hb.frozen]) fun w10 a (K10:aI _ _ _ _) hz10 hb10 hA=> ?_
    replace ho8:=ho8.below hb10
    replace HY:=HY.trans (hb10.mono hwy)
    replace HBy:=HBy.trans (hb10.mono (by omega))
    clear z0 zz z1 z2 z3 z4 z5 z6
    replace hA:=hA.keepN [8,10,56,57,58]
    refine wN (nT (wS (wR ?_)))
    revert a;refine wo rfl rfl (by decide) (fun ev e h=>by simp[go_sem,h,K10.cell]<;>rfl) ?_;intro a hA
    refine aC hA rfl rfl (by decide) (fun ev h=>aB Tryz.func66 (by kernel_rfl) rfl (h.f _) (by first|(simp only[mL,h.get 63 rfl,h.c]<;>rfl)|(simp[mL,h.get 63 rfl,h.c,K10.cell]<;>rfl))) (sD x.kind x.ep x.nm x.m _ (hm.below hg HBy) (Nat.lt_of_lt_of_le hg HBy.size) (htab:=Ht _ HBy) (by omega) hxe hxu (hxr0.below HY)) ?_
    rintro e w11 ⟨r,rfl,ho11,hb11⟩
    refine⟨_,rfl,fun a hA=> ?_⟩
    replace ho8:=ho8.below hb11
    replace HY:=HY.trans (hb11.mono HY.size)
    replace HBy:=HBy.trans (hb11.mono HBy.size)
    revert a;(iterate 5 refine wo rfl rfl (by decide) (fun ev e h=>by simp[go_sem,h,K10.cell]<;>rfl) ?_);intro a hA
    replace hA:=hA.keepN [8,11,12,56,57,58]
    refine wN (nT (wS (wS (wR ?_))))
    revert a;(iterate 2 refine wo rfl rfl (by decide) (fun ev e h=>by simp[go_sem,h,K10.cell]<;>rfl) ?_);intro a hA
    replace hA:=hA.keepN [8,11,12,56,57,58,68]
    refine wN (nT ?_)
    cases hf:af x.kind x.ep x.nm x.m with
    |false=>
     have hall:NW.all Cm=false:=by
      rw[List.all_eq_false]
      exact⟨x,List.mem_of_getElem? hx,by unfold Cm;rw[hf];decide⟩
     rw[hf,cond_false] at hA
     refine aH hA 68 _ rfl (fun hq4=> ?yB) (fun hq4=> ?nB)
     case nB=>cases hq4
     case yB=>
      refine wS (wR ?_)
      revert a;(iterate 3 refine wo rfl rfl (by decide) (fun ev e h=>by simp[go_sem,h,K10.cell]<;>rfl) ?_);intro a hA
      replace hA:=hA.keepN [2,3]
      refine wN (nT (wp_ret (rT (rB (rT (rT (rB (rT ?_))))))))
      refine gJ hA 2 3 rfl rfl rfl ?_
      rw[hall]
      exact⟨_,rfl,ce.nil _,HBy⟩
    |true=>
     rw[hf,cond_true] at hA
     rw[hf,cond_true] at ho11
     have hFx:iT x:=⟨hf,hxe,hxu⟩
     have hFs:∀y∈NW.take (i+1),iT y:=fun y hy=>by
      rw[List.take_add_one,hx] at hy
      rcases List.mem_append.1 hy with hy|hy
      ·exact hF y hy
      ·rw[List.mem_singleton.1 hy];exact hFx
     have hfs:=uV hx
     have hle:=lB hFs
     have hsj:=DL NW (i+1)
     have htl:(NW.take (i+1)).length=i+1:=by rw[List.length_take];omega
     rw[hfs,List.length_append,htl] at hle
     refine aH hA 68 _ rfl (fun hq4=> ?yB2) (fun hq4=> ?nB2)
     case yB2=>cases hq4
     case nB2=>
      refine wp_skip (nT (wR ?_))
      revert a;(iterate 2 refine wo rfl rfl (by decide) (fun ev e h=>by simp[go_sem,h,K10.cell]<;>rfl) ?_);intro a hA
      obtain⟨r12,w12,hr12,ho12,hg12⟩:=ez ho8 ho11.took (by show _+x.frame.length≤_;omega) HY.size
      refine a7 hA rfl rfl (by decide) (fun ev h=>ao rfl (h.get 70 rfl) (h.get 71 rfl) hr12) fun a hA=> ?_
      replace HY:=dM HY ho8 hg12 (Nat.le_refl _) HY.size
      revert a;refine wo rfl rfl (by decide) (fun ev e h=>by simp[go_sem,h,hwj]<;>rfl) ?_;intro a hA
      replace hA:=hA.keepN [8,56,57,58]
      refine wN (nB (nT (wR ?_)))
      revert a;(iterate 2 refine wo rfl rfl (by decide) (fun ev e h=>by simp[go_sem,h,hwj]<;>rfl) ?_);intro a hA
      replace hA:=hA.keepN [8,56,57,58]
      refine wN (nT ?_)
      rw[show((i:Int)+1)=((i+1:Nat):Int) by omega] at hA
      exact⟨kk2 - 1,by omega,i+1,_,by omega,hA,by rw[hfs];exact ho12,hFs,HY⟩
theorem C6 (d:aN) (n:Nat) (l:dW):eH (iM d n l):=by
 unfold iM
 split
 ·exact wF _
 ·exact tV
def oh (l:List ig):Nat:=(l.map fun r=>r.b.length).sum
theorem El (a b:List ig):oh (a++b)=oh a+oh b:=by unfold oh;rw[List.map_append,List.sum_append]
theorem zy {b:List UInt8} {at_:Nat}:∀r∈ed b at_,r.at_=at_:=by
 intro r hr
 unfold ed at hr
 cases hd:cP (cA (b.drop at_))==((b.drop at_).drop 12).take 32 with
 |false=>rw[hd] at hr;cases hr
 |true=>rw[hd,cond_true] at hr;rw[List.mem_singleton.1 hr]
theorem AA (b:List UInt8) (at_:Nat):oh (ed b at_)≤cD (b.drop at_):=by
 unfold ed cA oh
 cases cP ((List.drop 44 (b.drop at_)).take (cD (b.drop at_)))==((b.drop at_).drop 12).take 32 with
 |false=>exact Nat.zero_le _
 |true=>
  rw[cond_true,List.map_singleton,List.sum_singleton]
  exact List.length_take_le _ _
theorem oy (b:List UInt8):∀(f at_ torn:Nat) (l:List ig),b.length - at_≤f→(∀r∈l,r.at_≤b.length)→torn≤b.length→
 (∀r∈(cC b at_ torn l).1,r.at_≤b.length)∧(cC b at_ torn l).2≤b.length∧oh (cC b at_ torn l).1≤oh l+(b.length - at_)
 |0,at_,torn,l,h,h1,h2=>by rw[dy (by omega)];exact⟨h1,h2,Nat.le_add_right _ _⟩
 |f+1,at_,torn,l,h,hl,ht=>by
  rcases Nat.lt_or_ge at_ b.length with h1|h1
  ·cases hh:ah (b.drop at_) with
   |false=>
    rw[ib hh h1]
    obtain⟨a1,a2,a3⟩:=oy b f (at_+1) torn l (by omega) hl ht
    exact⟨a1,a2,by omega⟩
   |true=>
    rcases Nat.lt_or_ge b.length (cD (b.drop at_)+44+at_) with h2|h2
    ·rw[ic hh h2]
     exact⟨hl,by show at_≤_;omega,Nat.le_add_right _ _⟩
    ·rw[jD hh h2]
     have h3:=AA b at_
     obtain⟨a1,a2,a3⟩:=oy b f (at_+44+cD (b.drop at_)) (at_+44+cD (b.drop at_)) (l++ed b at_) (by omega) (fun r hr=>by
      rcases List.mem_append.1 hr with hr|hr
      ·exact hl r hr
      ·rw[zy r hr];omega) (by omega)
     rw[El] at a3
     exact⟨a1,a2,by omega⟩
  ·rw[dy h1];exact⟨hl,ht,Nat.le_add_right _ _⟩
def fM (l:List aX):Nat:=(l.map fun n=>n.o.length).sum
theorem xG (a b:List aX):fM (a++b)=fM a+fM b:=by unfold fM;rw[List.map_append,List.sum_append]
theorem Gy (k:Int) (e:Nat) (nm:ByteArray) (m:aU):m.b.length≤(fL k e nm m).length:=by
 unfold fL
 simp only[List.length_append]
 omega
theorem Gw {k:Nat} {p:List UInt8} (a:Nat) (h:bk (k:Int) p=true):(em k a p).o.length≤p.length:=by
 unfold bk at h
 simp only[Bool.and_eq_true,beq_iff_eq] at h
 have:=Gy (k:Int) (ko p).1 (mN (k:Int) p).1 (vO (k:Int) p none 0)
 rw[h.2.2] at this
 exact this
theorem rI :∀l:List ig,fM (eL l)≤oh l
 |[]=>Nat.le_refl _
 |r::l=>by
  have ih:=rI l
  have e:oh (r::l)=r.b.length+oh l:=rfl
  unfold eL at ih ⊢
  rw[List.flatMap_cons,xG,e]
  have:fM (bif bk (r.kind:Int) r.b then[em r.kind r.at_ r.b] else[])≤r.b.length:=by
   cases hd:bk (r.kind:Int) r.b
   ·exact Nat.zero_le _
   ·rw[cond_true]
    show(em r.kind r.at_ r.b).o.length+0≤_
    have:=Gw r.at_ hd
    omega
  omega
theorem pf (p:aX→Bool):∀l:List aX,fM (l.filter p)≤fM l
 |[]=>Nat.le_refl _
 |n::r=>by
  have ih:=pf p r
  have e:fM (n::r)=n.o.length+fM r:=rfl
  rw[List.filter_cons]
  split
  ·show n.o.length+fM (r.filter p)≤_;omega
  ·omega
theorem yW (l:List aX):fM (bG l).live≤fM l:=by
 suffices H:∀(l:List aX) (s:fo),fM (l.foldl dU s).live≤fM s.live+fM l by
  have:=H l wb
  simpa[fM,wb,bG] using this
 intro l
 induction l with
 |nil=>intro s;exact Nat.le_add_right _ _
 |cons n r ih=>
  intro s
  have h1:=ih (dU s n)
  have h2:fM (dU s n).live≤fM s.live+n.o.length:=by
   show fM (du s.live n)≤_
   unfold du
   cases n.k==2
   ·cases n.k==3
    ·exact Nat.le_add_right _ _
    ·have:=pf (fun x=> !fP n x) s.live
     show fM (s.live.filter fun x=> !fP n x)≤_
     omega
   ·show fM (s.live++[n])≤_
    rw[xG]
    exact Nat.le_refl _
  have e:fM (n::r)=n.o.length+fM r:=rfl
  rw[List.foldl_cons]
  omega
theorem iZ (b:List UInt8):(∀y∈(aT b).s.live,y.at_≤b.length)∧(aT b).torn≤b.length∧fM (aT b).s.live≤b.length:=by
 obtain⟨h1,h2,h3⟩:=oy b b.length 0 0 [] (by omega) (fun r hr=>(by cases hr)) (Nat.zero_le _)
 have hp:oh ([]:List ig)=0:=rfl
 refine⟨fun y hy=> ?_,h2, ?_⟩
 ·have hy2:=(rm (cM b)).2.1 y hy
  unfold cM eL at hy2
  obtain⟨r,hr,hyr⟩:=List.mem_flatMap.1 hy2
  cases hd:bk (r.kind:Int) r.b with
  |false=>rw[hd] at hyr;cases hyr
  |true=>
   rw[hd,cond_true,List.mem_singleton] at hyr
   subst hyr
   exact h1 r hr
 ·have h4:=yW (cM b)
  have h5:=rI (gP b).1
  have h6:oh (gP b).1≤0+(b.length - 0):=h3
  show fM (bG (cM b)).live≤_
  have h7:fM (cM b)=fM (eL (gP b).1):=rfl
  omega
def oB (l:List mH):Nat:=(l.map fun m=>m.2.2.2.length).sum
theorem tj :∀(i:Nat) (l:List aX),oB (fR i l)=fM l
 |_,[]=>rfl
 |i,n::r=>by
  have ih:=tj (i+1) r
  unfold fR
  show n.o.length+oB (fR (i+1) r)=n.o.length+fM r
  rw[ih]
theorem BA (s:fo):oB (bQ s).msgs=fM s.live:=by
 unfold bQ
 cases al s with
 |false=>exact tj 0 _
 |true=>
  show oB (s.live.map dF)=_
  unfold oB fM
  rw[List.map_map]
  rfl
theorem FI (ms:List mH):((ms.map kr).map fun m=>m.b.length).sum=oB ms:=by
 unfold oB
 rw[List.map_map]
 rfl
theorem nO {b:eU} (h:jb b):(bd b).length≤61000+oB b.msgs:=by
 have hw:=io h
 have hnx:=h.nx
 have hlen:=h.len
 have h1:=lB (ni hw h.ep.2 h.nx.2 fun m hm=>by
  obtain⟨x,hx,rfl⟩:=List.mem_map.1 hm
  have:=(h.each x hx).1
  show x.1<_
  omega)
 have h2:=rJ b.nm b.ep b.nx (jG b)
 rw[pq] at h1
 have h3:(jG b).length=b.msgs.length:=by unfold jG;rw[List.length_map]
 have h4:((jG b).map fun m=>m.b.length).sum=oB b.msgs:=FI b.msgs
 unfold bd
 omega
theorem zQ {b:List UInt8} (hb:b.length≤4194304) (hc:al (aT b).s=true) (hn:(aT b).s.nm.toList.isEmpty=false) (he:1≤(aT b).s.ep) (hl:(aT b).s.live.length≤500):eC (aT b):=by
 have hi:=mC b
 obtain⟨h1,h2,_⟩:=iZ b
 refine⟨hc,Bl hi hc ?_ he hl,fun y hy=>by have:=h1 y hy;omega,by omega⟩
 rcases hi.nm with h|h
 ·rw[h,qZ] at hn;cases hn
 ·exact h
theorem wK {b:eU} (h:jb b) (hs:oB b.msgs≤20000000):eC (aT (bd b))∧(aT (bd b)).torn=(bd b).length∧bQ (aT (bd b)).s=b:=by
 obtain⟨L,h1,h2,h3⟩:=Aj h
 have hb:bQ ⟨b.nm,b.ep,b.nx,L⟩=b:=by
  rw[bc h2]
  show eU.mk b.nm b.ep b.nx (L.map dF)=b
  rw[h3]
 have hlen:=nO h
 obtain⟨g1,g2,_⟩:=iZ (bd b)
 rw[h1] at g1 g2 ⊢
 exact⟨⟨h2,by rw[hb];exact h,fun y hy=>by have:=g1 y hy;omega,by omega⟩,rfl,hb⟩
def Cd (m:mH):mH:=(m.1,m.2.1,0,m.2.2.2)
def iO (b:eU):eU:={b with msgs:=b.msgs.map Cd}
theorem xS :∀(fs:List aM) (ms:List mH),fs.length=ms.length→(lV fs ms).map Cd=ms.map Cd
 |[],[],_=>rfl
 |f::fs,m::ms,h=>by
  show Cd m::(lV fs ms).map Cd=_
  rw[xS fs ms (by simpa using h)]
  rfl
theorem oT {l:dW} {fs:List aM} (h:fs.length=(bQ l.s).msgs.length):iO (boxF l fs)=iO (bQ l.s):=by
 unfold iO boxF
 show eU.mk _ _ _ ((lV fs (bQ l.s).msgs).map Cd)=_
 rw[xS _ _ h]
theorem qx (l:dW) (ms:List aM) (hc:al l.s=true):(dR l ms).length=(bQ l.s).msgs.length:=by
 rw[bc hc]
 unfold dR
 rw[List.length_map,List.length_map]
 show _=(l.s.live.map dF).length
 rw[List.length_map]
structure Gi (n:Nat) (x y:List (ae×aa)):Prop where
 up:Up y
 new:aV cz y=none
 same:∀k,k≠aR bJ n→k≠aR ct n→k≠aR cV n→p6 k=false→aV k y=aV k x
 few:y.length≤x.length+4
theorem pO {c:Nat} {x:List (ae×aa)} {k:ae} (t:Bool) (hup:Up x) (hk:k.length≤6) (hc:k.all gK=true) (hx:x.length<98) (ht:t=true→(aV k x).isSome=true):
 ∃y,(if t=true then fx ⟨c,x, -1,false⟩ k else(0,⟨c,x, -1,false⟩))=(0,⟨c,y, -1,false⟩)∧Up y∧used y≤used x∧y.length≤x.length+1∧∀j,j≠k→p6 j=false→aV j y=aV j x:=by
 cases t with
 |false=>exact⟨x,rfl,hup,Nat.le_refl _,by omega,fun _ _ _=>rfl⟩
 |true=>
  cases hg:aV k x with
  |none=>have:=ht rfl;rw[hg] at this;cases this
  |some f=>
   have hsp:=(pN x k).2.2
   refine⟨jS x k f.b, ?_,Bi hup,vU hup hg,yw hup hg,fun j hj hb=> ?_⟩
   ·rw[if_pos rfl]
    exact yx hup hg (yz (by omega) (by omega) hc)
   ·rw[yv,if_neg hj,if_neg fun e=>by rw[e,Dh] at hb;cases hb]
theorem qf {c n:Nat} {x:List (ae×aa)} {kind:ae} (h:(ay ⟨c,x, -1,false⟩ kind n).2=0):(aV (aR kind n) x).isSome=true:=by
 unfold ay bv at h
 rw[if_neg (show ¬(false=true) by decide)] at h
 cases hg:aV (aR kind n) x with
 |some f=>rfl
 |none=>
  have h:(match aV (aR kind n) x with|none=>(([],7):List UInt8×Int)|some f=>(f.b,0)).2=0:=h
  rw[hg] at h
  cases h
theorem wn {c n:Nat} {y:List (ae×aa)} {f:aa} {ms:List aM} (hup:Up y) (hnew:aV cz y=none) (hn:n<16) (hf:aV (aR bJ n) y=some f) (hg:eC (aT f.b)) (ht:(aT f.b).torn=f.b.length) (hm:eH ms) (hroom:used y+8000≤c):
 ∃z,iW ⟨c,y, -1,false⟩ n (aT f.b) ms=(boxF (aT f.b) (dR (aT f.b) ms),0,⟨c,z, -1,false⟩)∧bS ⟨c,z, -1,false⟩ n=(boxF (aT f.b) (dR (aT f.b) ms),0)∧Up z∧used z≤used y+8000∧z.length≤y.length+2∧∀j,j≠aR ct n→j≠aR cV n→aV j z=aV j y:=by
 obtain⟨r1,r2,r3,k1,k2,k3,k4,k5,k6⟩:=jB ⟨n,hn⟩
 have hp:=Cs hup hnew hn hg hm hroom
 have hs:=hg.sizes hm
 obtain⟨z,hz⟩:∃z,bN (aR ct n) (bB (bP (aT f.b) ms).c) (bN (aR cV n) (bB (bP (aT f.b) ms).b) y)=z:=⟨_,rfl⟩
 rw[hz] at hp
 have hw:bS ⟨c,z, -1,false⟩ n=(boxF (aT f.b) (dR (aT f.b) ms),0):=by
  refine yg (f:=f) (g:=bB (bP (aT f.b) ms).b) (h:=bB (bP (aT f.b) ms).c) (ms:=ms) rfl ?_ ?_ ?_ hg ht hm rfl rfl
  ·show aV _ z=_
   rw[←hz,au,if_neg k4,au,if_neg k5]
   exact hf
  ·show aV _ z=_
   rw[←hz,au,if_neg k6,au,if_pos rfl]
  ·show aV _ z=_
   rw[←hz,au,if_pos rfl]
 refine⟨z, ?_,hw, ?_, ?_, ?_,fun j h1 h2=> ?_⟩
 ·unfold iW
  rw[hp,if_pos rfl,hw]
 ·rw[←hz];exact bp (bp hup)
 ·have u1:=eB (k:=aR cV n) (v:=bB (bP (aT f.b) ms).b) hup
  have u2:=eB (k:=aR ct n) (v:=bB (bP (aT f.b) ms).c) (bp (k:=aR cV n) (v:=bB (bP (aT f.b) ms).b) hup)
  rw[hz] at u2
  have e1:(bB (bP (aT f.b) ms).b).b.length=(bP (aT f.b) ms).b.length:=rfl
  have e2:(bB (bP (aT f.b) ms).c).b.length=(bP (aT f.b) ms).c.length:=rfl
  omega
 ·rw[←hz]
  have:=fh (aR ct n) (bB (bP (aT f.b) ms).c) (bN (aR cV n) (bB (bP (aT f.b) ms).b) y)
  have:=fh (aR cV n) (bB (bP (aT f.b) ms).b) y
  omega
 ·rw[←hz,au,if_neg h1,au,if_neg h2]
theorem p9 {l:dW} {n:Nat} (h1:l.s.nm.toList.isEmpty=false) (h2:1≤l.s.ep) (hc:al l.s=true):cN l.s n=bQ l.s:=by
 unfold cN
 rw[bc hc,if_neg (by rw[h1];decide)]
 show eU.mk l.s.nm (max l.s.ep 1) _ _=_
 rw[show max l.s.ep 1=l.s.ep by omega]
theorem yj {d:aN} {n:Nat} {b:eU} (h:bS d n=(b,0)):(ay d bJ n).2=0∧fX d n=true∧mt (boxF (aT (ay d bJ n).1) (b8 (cJ d n)).2)=true∧b=boxF (aT (ay d bJ n).1) (b8 (cJ d n)).2:=by
 unfold bS at h
 split at h
 ·rename_i h0
  split at h
  ·rename_i h1
   injection h with h2 h3
   exact⟨h0,h1.1,h1.2,h2.symm⟩
  ·injection h with h2 h3
   cases h3
 ·rename_i h0
  injection h with h2 h3
  exact absurd h3 h0
theorem ru {d:aN} {n:Nat} {b:eU} (h:bS d n=(b,0)):jb b∧al (aT (ay d bJ n).1).s=true∧(aT (ay d bJ n).1).torn=(ay d bJ n).1.length∧(aT (ay d bJ n).1).s.nm.toList.isEmpty=false∧1≤(aT (ay d bJ n).1).s.ep∧iO b=iO (bQ (aT (ay d bJ n).1).s)∧(b8 (cJ d n)).2.length=(aT (ay d bJ n).1).s.live.length:=by
 obtain⟨h0,h1,h2,rfl⟩:=yj h
 obtain⟨l,hl⟩:∃l,aT (ay d bJ n).1=l:=⟨_,rfl⟩
 have hi:=mC (ay d bJ n).1
 unfold fX at h1
 rw[hl] at h1 h2 hi ⊢
 simp only[Bool.and_eq_true,beq_iff_eq] at h1
 obtain⟨⟨⟨⟨⟨a1,a2⟩,a3⟩,a4⟩,a5⟩,a6⟩:=h1
 have hno:=o9 a1
 have hne:l.s.nm.toList.isEmpty=false:=by
  unfold iy at hno
  rw[a2] at hno
  simpa using hno
 have hix:dQ l=⟨l.s.nm,l.s.ep,l.s.nx,(l.torn:Int),l.s.live.map sK⟩:=by unfold dQ;rw[hno];rfl
 have hep:1≤l.s.ep:=by
  unfold oS.err me at a1
  split at a1
  ·rename_i hr
   rw[hix] at hr
   unfold bW at hr
   simp only[Bool.and_eq_true,decide_eq_true_eq] at hr
   exact hr.1.1.1.1.2
  ·cases a1
 have hlen:(b8 (cJ d n)).2.length=l.s.live.length:=by
  unfold tz at a6
  simp only[Bool.and_eq_true,beq_iff_eq] at a6
  have:=congrArg List.length a6.2
  rw[hix,List.length_map,List.length_map,List.length_map] at this
  exact this.symm
 have hb:=bc a2
 have he9:(boxF l (b8 (cJ d n)).2).ep<4294967296:=by
  show(bQ l.s).ep<_
  rw[hb]
  exact hi.ep
 have hx9:(boxF l (b8 (cJ d n)).2).nx<4294967296:=by
  show(bQ l.s).nx<_
  rw[hb]
  exact hi.nx.2
 refine⟨(rV he9 hx9).1 h2,a2,a3,hne,hep,oT ?_,hlen⟩
 rw[hlen,hb]
 show _=(l.s.live.map dF).length
 rw[List.length_map]
theorem yi {d:aN} {n:Nat} (h:(ay d bJ n).2=0):(bS d n).2=0∨bS d n=(mJ,9):=by
 unfold bS
 rw[if_pos h]
 split
 ·exact .inl rfl
 ·exact .inr rfl
theorem Fy {c n:Nat} {x:List (ae×aa)} {f:aa} (hup:Up x) (hnew:aV cz x=none) (hn:n<16) (hf:aV (aR bJ n) x=some f) (hlive:(aT f.b).s.live.length≤500) (hlen:f.b.length≤4194304) (hfew:x.length<95) (hroom:used x+f.b.length+80000≤c):
 ∃b z,jr ⟨c,x, -1,false⟩ n=(b,0,⟨c,z, -1,false⟩)∧bS ⟨c,z, -1,false⟩ n=(b,0)∧iO b=iO (cN (aT f.b).s n)∧Gi n x z∧used z≤used x+f.b.length+70000:=by
 obtain⟨q1,q2,q3,q4,q5,q6,q7⟩:=EP ⟨n,hn⟩
 obtain⟨r1,r2,r3,k1,k2,k3,k4,k5,k6⟩:=jB ⟨n,hn⟩
 have e1:ay ⟨c,x, -1,false⟩ bJ n=(f.b,0):=by unfold ay bv;rw[if_neg (fun h=>by cases h)];show(match aV (aR bJ n) x with|none=>_|some f=>_)=_;rw[hf]
 unfold jr
 rcases yi (d:=⟨c,x, -1,false⟩) (n:=n) (by rw[e1]) with h0|h9
 ·rw[if_neg (by rw[h0];decide)]
  obtain⟨b,e,hb⟩:∃b e,bS ⟨c,x, -1,false⟩ n=(b,e):=⟨_,_,rfl⟩
  rw[hb] at h0 ⊢
  have h0:e=0:=h0
  subst h0
  obtain⟨w1,w2,w3,w4,w5,w6,w7⟩:=ru hb
  rw[e1] at w2 w4 w5 w6
  exact⟨b,x,rfl,hb,by rw[w6,p9 w4 w5 w2],⟨hup,hnew,fun _ _ _ _ _=>rfl,by omega⟩,by omega⟩
 ·rw[h9,if_pos rfl,e1]
  show ∃b z,qz ⟨c,x, -1,false⟩ n f.b=_∧_
  obtain⟨l,hl⟩:∃l,aT f.b=l:=⟨_,rfl⟩
  obtain⟨wh,hwh⟩:∃b,fK l f.b.length=b:=⟨_,rfl⟩
  obtain⟨ms,hms⟩:∃ms,iM ⟨c,x, -1,false⟩ n l=ms:=⟨_,rfl⟩
  have hmo:eH ms:=by rw[←hms];exact C6 _ _ _
  unfold qz
  rw[hl] at hlive ⊢
  rw[if_neg (by omega),hwh,hms]
  have p1:=pO (c:=c) (k:=aR cV n) ((ay ⟨c,x, -1,false⟩ cV n).2==0&& !(BI ⟨c,x, -1,false⟩ n l&&wh)) hup q5 q7 (by omega) (fun h=>by
   rw[Bool.and_eq_true,beq_iff_eq] at h
   exact qf (n:=n) h.1)
  obtain⟨y1,hy1,u1,v1,w1,s1⟩:=p1
  have p2:=pO (c:=c) (k:=aR ct n) ((ay ⟨c,y1, -1,false⟩ ct n).2==0&& !((dQ l).err==0&&(ay ⟨c,y1, -1,false⟩ ct n).1==(dQ l).page&&wh)) u1 q4 q6 (by omega) (fun h=>by
   rw[Bool.and_eq_true,beq_iff_eq] at h
   exact qf (n:=n) h.1)
  obtain⟨y2,hy2,u2,v2,w2,s2⟩:=p2
  have hpr:dw ⟨c,x, -1,false⟩ n l wh=(0,⟨c,y2, -1,false⟩):=by
   unfold dw oF
   rw[hy1,eg rfl]
   exact hy2
  rw[hpr,if_pos rfl]
  have hf2:aV (aR bJ n) y2=some f:=by rw[s2 _ k4 q1,s1 _ k5 q1];exact hf
  have hnew2:aV cz y2=none:=by rw[s2 _ k2 wv,s1 _ k3 wv];exact hnew
  cases wh with
  |true=>
   rw[if_pos rfl]
   unfold fK at hwh
   simp only[Bool.and_eq_true,beq_iff_eq,decide_eq_true_eq,Bool.not_eq_true'] at hwh
   obtain⟨⟨⟨c1,c2⟩,c3⟩,c4⟩:=hwh
   have hg:eC (aT f.b):=zQ hlen (by rw[hl];exact c1) (by rw[hl];exact c3) (by rw[hl];exact c4) (by rw[hl];exact hlive)
   obtain⟨z,h1,h2,h3,h4,h5,h6⟩:=wn (c:=c) (ms:=ms) u2 hnew2 hn hf2 hg (by rw[hl];exact c2) hmo (by omega)
   rw[hl] at h1 h2
   refine⟨_,z,h1,h2, ?_,⟨h3,by rw[h6 _ k2 k3];exact hnew2,fun k j1 j2 j3 j4=>by rw[h6 _ j2 j3,s2 _ j2 j4,s1 _ j3 j4],by omega⟩,by omega⟩
   rw[oT (qx l ms c1),p9 c3 c4 c1]
  |false=>
   rw[if_neg (by decide)]
   have hinv:=mC f.b
   rw[hl] at hinv
   have hg:=pj (n:=n) hinv (by omega) hlive
   have hoct:=(iZ f.b).2.2
   rw[hl] at hoct
   have hms2:oB (cN l.s n).msgs=fM l.s.live:=BA l.s
   obtain⟨b,hb⟩:∃b,cN l.s n=b:=⟨_,rfl⟩
   rw[hb] at hg hms2 ⊢
   have hwl:=nO hg
   have hwe:pK b=0:=by unfold pK;rw[io hg];rfl
   have hlay:=qO (c:=c) (k:=aR bJ n) (b:=bd b) u2 hnew2 r1 k1 (by omega)
   unfold ls
   rw[if_pos hwe,hlay,if_pos rfl]
   obtain⟨g1,g2,g3⟩:=wK hg (by omega)
   have hu3:=eB (k:=aR bJ n) (v:=bB (bd b)) u2
   have e3:(bB (bd b)).b.length=(bd b).length:=rfl
   have hl3:=fh (aR bJ n) (bB (bd b)) y2
   have hl4:=jJ (k:=aR bJ n) (v:=bB (bd b)) u2
   rw[hf2,if_pos (show(some f).isSome=true from rfl)] at hl4
   obtain⟨z,h1,h2,h3,h4,h5,h6⟩:=wn (c:=c) (n:=n) (y:=bN (aR bJ n) (bB (bd b)) y2) (f:=bB (bd b)) (ms:=ms) (bp u2) (by rw[au,if_neg k1];exact hnew2) hn (by rw[au,if_pos rfl]) g1 g2 hmo (by omega)
   refine⟨_,z,h1,h2, ?_,⟨h3,by rw[h6 _ k2 k3,au,if_neg k1];exact hnew2,fun k j1 j2 j3 j4=>by rw[h6 _ j2 j3,au,if_neg j1,s2 _ j2 j4,s1 _ j3 j4],by omega⟩,by omega⟩
   show iO (boxF (aT (bd b)) (dR (aT (bd b)) ms))=iO b
   rw[oT (qx _ ms g1.clean),g3]
end Go.Proofs.YtclcfkaphlopeaaGreatDoor
namespace Go.Proofs.YtclcfkaphlopeaaGreatDoor
open Go.RowKit Go.Maps
theorem DP (c:Nat) (hc:c≤4194304):i7 ⟨c,[], -1,false⟩:=⟨Aa,Nat.zero_le _,hc,by show(-1:Int)≤ -1;omega,by show(-1:Int)≤_;omega,fun q hq=>by cases hq⟩
theorem IF (s:ByteArray) (A:Option Addr) (n c:Nat) (w:World):Calls Tryz.prog 7 #[.pointer none, .string s, .slice A n c] w fun e w'=>e= .returned (.int .i64 1)∧Below w.heap.size w w':=by
 have Hg:=Lib.hid (EH w)
 go_enter Tryz.func7,Tryz.ntmps7
 go_wp2_with fail
 refine Hg.out.mono ?_
 rintro e w1 ⟨rfl,rfl⟩
 go_wp2
 go_ret
 exact⟨rfl,Below.refl _ _⟩
theorem fT.below {w w':World} {p mb:Nat} {d:aN} (h:fT w p mb d) (hb:Below w.heap.size w w'):fT w' p mb d:=by
 obtain⟨es,hf,hd⟩:=h
 exact⟨es,hf,hd.below hb⟩
theorem CP {w:World} {p mb:Nat} {d:aN} (h:fT w p mb d) (hf:i7 d) (hN:d.files.length<1000000) (s:ByteArray) (hsm:s.size≤maxLen) (A:Option Addr) (n c:Nat) (l:List UInt8) (hl:l.length=n) (hn:n≤10000000) (hr:aE w w.heap.size 1 A n (ar l))
 (hlo:d.lost=false) (hg:Calls Tryz.prog 16 #[.pointer (some ⟨p,0,none⟩)] w fun e w'=>e= .returned (.int .i64 (if false=true then 6 else 0))∧w'=w)
 (hrt:Calls Tryz.prog 17 #[.string s] w fun e w'=>e= .returned (.bool true)∧w'=w):
 Calls Tryz.prog 7 #[.pointer (some ⟨p,0,none⟩), .string s, .slice A n c] w fun e w'=>
  e= .returned (.int .i64 (if d.room+d.len s.data.toList<l.length then(4,d) else(0,{d with files:=bN s.data.toList ⟨l,l.length,true⟩ d.files})).1)∧
  fT w' p mb (if d.room+d.len s.data.toList<l.length then((4:Int),d) else(0,{d with files:=bN s.data.toList ⟨l,l.length,true⟩ d.files})).2∧bb p mb w w':=by
 have hrm:=hf.room
 have hcp:=hf.cap
 have Hro:Hid (∀dd os,Calls Tryz.prog 18 #[.pointer (some ⟨p,0,none⟩)] (Sort.grow (redrawn w dd) os) fun e w'=>e= .returned (.int .i64 (d.room:Nat))∧Below (Sort.grow (redrawn w dd) os).heap.size (Sort.grow (redrawn w dd) os) w'):=fun dd os=>B4 (h.below (below_regrown w dd os)) hf
 have hrc:d.room≤4194304:=by unfold aN.room;omega
 have HW:=Lib.hid hf
 generalize hro':d.room=ro at*
 obtain⟨cap,files,fuse,lost⟩:=d
 obtain rfl:lost=false:=hlo
 obtain⟨es,hfi,h⟩:=h
 obtain rfl:files=ci FV.m es:=hfi
 have hN':es.length<1000000:=by simpa[ci] using hN
 obtain⟨fv,hv⟩:∃fv,(aV s.data.toList es).getD nW=fv:=⟨_,rfl⟩
 have e1:aN.len ⟨cap,ci FV.m es,fuse,false⟩ s.data.toList=fv.m.b.length:=by unfold aN.len;rw[gY,←hv];cases aV s.data.toList es<;>rfl
 have hfl:fv.m.b.length≤4194304:=by
  cases hq:aV s.data.toList es with
  |none=>rw[hq] at hv;subst hv;simp[nW,aa.none_]
  |some g=>rw[hq] at hv;obtain rfl:g=fv:=hv;have:=kB (k:=s.data.toList) (f:=g.m) (l:=ci FV.m es) (by rw[gY,hq];rfl);simp only at hrm hcp;omega
 rw[e1]
 subst hl
 have hc1:∀dd os,(Sort.grow (redrawn w dd) os).cell? ⟨p,1,none⟩=some (.map (some mb)):=fun dd os=>cell_regrown h.c1 dd os
 have hlk:∀dd os,(Instr.lookup 49 (.map (some mb)) (.string s) false).run Tryz.prog (Sort.grow (redrawn w dd) os)= .ok (.agg #[.slice fv.a fv.m.b.length fv.c, .int .i64 (fv.m.safe:Nat), .bool fv.m.ever]) (Sort.grow (redrawn w dd) os):=fun dd os=>C2 (h.below (below_regrown w dd os)).map s hsm fv hv
 have Hg:=Lib.hid hg
 have Hr:=Lib.hid hrt
 have HR:=Lib.hid hr
 have H:=Lib.hid h
 have hfr:=o6 fv.a fv.m.b.length fv.c (fv.m.safe:Nat) fv.m.ever
 clear hf hrm hcp hro' hN hv e1 hg hrt hr h
 by_cases hroom:ro+fv.m.b.length<l.length
 ·rw[if_pos hroom]
  go_enter Tryz.func7,Tryz.ntmps7
  go_wp2_with fail
  refine Hg.out.mono ?_
  rintro e w1 ⟨rfl,rfl⟩
  go_wp2_with fail
  refine Hr.out.mono ?_
  rintro e w1 ⟨rfl,rfl⟩
  go_wp2
  refine wp_region_quiet_below (by kernel_rfl) (by kernel_rfl) ?_
  repeat (go_big_quiet_step (first|(go_at_call 18;exact Calls.regrown_of (Hro.out _ _))))
  refine wpQuiet_nil ?_
  intro w2 hw2
  have hb2:Below w1.heap.size w1 w2:=by
   obtain⟨p,hw2⟩:=hw2
   rw[hw2];exact below_regrown _ _ _
  clear hw2
  go_wp2
  go_ret
  exact⟨rfl,⟨es,rfl,H.out.below hb2⟩,bb.of_below hb2⟩
 ·rw[if_neg hroom]
  go_enter Tryz.func7,Tryz.ntmps7
  go_wp2_with fail
  refine Hg.out.mono ?_
  rintro e w1 ⟨rfl,rfl⟩
  go_wp2_with fail
  refine Hr.out.mono ?_
  rintro e w1 ⟨rfl,rfl⟩
  go_wp2
  refine wp_region_quiet_below (by kernel_rfl) (by kernel_rfl) ?_
  repeat (go_big_quiet_step (first|(go_at_call 18;exact Calls.regrown_of (Hro.out _ _))))
  refine wpQuiet_nil ?_
  intro w2 hw2
  have hb2:Below w1.heap.size w1 w2:=by
   obtain⟨p,hw2⟩:=hw2
   rw[hw2];exact below_regrown _ _ _
  have H2:=Lib.hid (H.out.below hb2)
  have HB2:=Lib.hid hb2
  have HR2:=Lib.hid ((HR.out.below hb2).more hb2.size)
  have x1:w2.cell? ⟨p,1,none⟩=some (.map (some mb)):=H2.out.c1
  clear hw2 hb2 hc1 hlk Hro
  go_wp2
  go_region_held3 (fun w'=>w'.cell? ⟨p,1,none⟩=some (.map (some mb))) (go_keep)
   (first|(go_at_call 19;refine(gA A l.length c l w2.drew rfl (by omega) HR2.out).mono ?_;rintro e w3 ⟨A',c',rfl,hr3,hc3,hb3⟩;have hb3':Below w2.heap.size w2 w3:=⟨hb3.os,hb3.tape,hb3.output,hb3.size,hb3.block⟩;clear hb3;have x3:w3.cell? ⟨p,1,none⟩=some (.map (some mb)):=(H2.out.below hb3').c1;obtain⟨w4,hrun,hm4,ht4⟩:=gk (w:=w3) (H2.out.below hb3').map H2.out.up (by unfold maxLen;omega) s hsm l l.length true A' c';have x4:w4.cell? ⟨p,1,none⟩=some (.map (some mb)):=(World.cell?_of_block (ht4.grown.block p (H2.out.below hb3').cells.lt (fun e=>(H2.out).ne (by injection e)))).trans x3))
  have h3:=H2.out.below hb3'
  obtain⟨h4,hb4⟩:=h3.store (bb.refl _ _ _) h3.cells s.data.toList ⟨⟨l,l.length,true⟩,A',c'⟩ hm4 ht4 ⟨h3.reads_but ((bb.refl _ _ _).turned ht4) hr3,hc3⟩
  have H4:=Lib.hid h4
  have HB4:=Lib.hid ((bb.of_below (p:=p) (m:=mb) (HB2.out.trans (hb3'.mono HB2.out.size))).trans hb4)
  clear h3 h4 hb4 hm4 ht4 hr3 hc3 hb3' x3 x4 hrun
  go_wp2
  go_ret
  exact⟨rfl,⟨_,(gc FV.m _ ⟨⟨l,l.length,true⟩,A',c'⟩ es).symm,H4.out⟩,HB4.out⟩
theorem Fl {w:World} {p mb:Nat} {d:aN} (h:fT w p mb d) (hf:i7 d) (hN:d.files.length<1000000) (s:ByteArray) (hs:s.size≤1000000000) (A:Option Addr) (n c:Nat) (l:List UInt8) (hl:l.length=n) (hn:n≤10000000) (hr:aE w w.heap.size 1 A n (ar l)):
 Calls Tryz.prog 7 #[.pointer (some ⟨p,0,none⟩), .string s, .slice A n c] w fun e w'=>e= .returned (.int .i64 (kY d s.data.toList l).1)∧fT w' p mb (kY d s.data.toList l).2∧bb p mb w w':=by
 have hsm:s.size≤maxLen:=by unfold maxLen;omega
 unfold kY
 have Hgo:=fun(lo:Bool) (e:d.lost=lo)=>kI p lo w (by rw[←e];exact h.choose_spec.2.c3)
 have HD:=Lib.hid h
 have HR:=Lib.hid hr
 have HF:=Lib.hid hf
 clear h hr hf
 cases hlo:d.lost with
 |true=>
  have Hg:=Lib.hid (Hgo true hlo)
  clear Hgo hlo
  rw[if_pos rfl]
  go_enter Tryz.func7,Tryz.ntmps7
  go_wp2_with fail
  refine Hg.out.mono ?_
  rintro e w1 ⟨rfl,rfl⟩
  go_wp2
  go_ret
  exact⟨rfl,HD.out,bb.refl _ _ _⟩
 |false=>
  have Hg:=Lib.hid (Hgo false hlo)
  have Hr:=Lib.hid (mc s hs w)
  have HLO:=Lib.hid hlo
  clear Hgo hlo
  rw[if_neg (by simp)]
  cases hrt:right s.data.toList with
  |false=>
   rw[hrt] at Hr
   rw[if_pos rfl]
   clear hrt
   go_enter Tryz.func7,Tryz.ntmps7
   go_wp2_with fail
   refine Hg.out.mono ?_
   rintro e w1 ⟨rfl,rfl⟩
   go_wp2_with fail
   refine Hr.out.mono ?_
   rintro e w1 ⟨rfl,rfl⟩
   go_wp2
   go_ret
   exact⟨rfl,HD.out,bb.refl _ _ _⟩
  |true=>
   rw[hrt] at Hr
   rw[if_neg (by simp)]
   have hm:=CP HD.out HF.out hN s hsm A n c l hl hn HR.out HLO.out Hg.out Hr.out
   rw[HLO.out] at hm
   exact hm
end Go.Proofs.YtclcfkaphlopeaaGreatDoor
namespace Go.Proofs.YtclcfkaphlopeaaGreatDoor
open Go.RowKit
theorem CD (w:World):Calls Tryz.prog 32 #[.string ⟨#[108,111,103]⟩, .int .i64 0] w fun ev w'=>ev= .returned (.string (St [108,111,103,46,48]))∧Below w.heap.size w w':=by
 refine aK 10 Tryz.func32 rfl rfl (Nat.le_of_ble_eq_true rfl) ?_
 intro a hA;replace hA:=hA.norm
 refine wS (wR ?_)
 revert a;refine wo rfl rfl (by decide) (fun ev e h=>by simp[go_sem,h]<;>rfl) ?_;intro a hA
 replace hA:=hA.keepN [0,1]
 refine wN (nT (wS (wR ?_)))
 revert a;(iterate 3 refine wo rfl rfl (by decide) (fun ev e h=>by simp[go_sem,h]<;>rfl) ?_);intro a hA
 refine aC hA rfl rfl (by decide) (fun ev h=>aB Tryz.func44 (by kernel_rfl) rfl (h.f _) (by first|(simp only[mL,h.get 7 rfl,h.c]<;>rfl)|(simp[mL,h.get 7 rfl,h.c]<;>rfl))) (CX 0 (by omega) w) ?_
 rintro e w1 ⟨rfl,hb1⟩
 refine⟨_,rfl,fun a hA=> ?_⟩
 have hdg:Gx 0=[48]:=by decide
 rw[hdg] at hA
 revert a;(iterate 2 refine wo rfl rfl (by decide) (fun ev e h=>by simp[go_sem,h,eA]<;>rfl) ?_);intro a hA
 replace hA:=hA.keepN [4]
 refine wN (nT (wp_ret ?_))
 refine ab hA 4 rfl rfl ?_
 exact⟨rfl,hb1⟩
theorem Ad {w:World} {p mb:Nat} {d:aN} (h:fT w p mb d) (hf:i7 d) (hl:d.lost=false) (hno:aV [108,111,103,46,48] d.files=none):Calls Tryz.prog 12 #[.pointer (some ⟨p,0,none⟩), .int .i64 0] w fun ev w'=>ev= .returned (.tuple #[.agg #[.string ⟨#[]⟩, .int .u32 0, .int .u32 0, .slice none 0 0], .int .i64 7])∧Below w.heap.size w w':=by
 have hrd:bv d (St [108,111,103,46,48]).data.toList=([],7):=by
  unfold bv
  rw[hl,if_neg (by decide),show(St [108,111,103,46,48]).data.toList=[108,111,103,46,48] from rfl,hno]
 refine aK 119 Tryz.func12 rfl rfl (Nat.le_of_ble_eq_true rfl) ?_
 intro a hA;replace hA:=hA.norm
 refine wS (wR ?_)
 refine aP hA rfl rfl (by decide) (fun ev h=>by simp[go_sem];try first|exact⟨rfl,rfl⟩|rfl) fun w1 a (K1:aI _ _ _ _) hz1 hb1 hA=> ?_
 revert a;refine wo rfl rfl (by decide) (fun ev e h=>by simp[go_sem,h]<;>rfl) ?_;intro a hA
 replace hA:=hA.keepN [0,1,4]
 refine wN (nT (wS (wS (wR ?_))))
 revert a;(iterate 2 refine wo rfl rfl (by decide) (fun ev e h=>by simp[go_sem,h]<;>rfl) ?_);intro a hA
 replace hA:=hA.keepN [0,1,4,20]
 refine wN (nT ?_)
 refine aH hA 20 _ rfl (fun hq=> ?yA) (fun hq=> ?nA)
 case yA=>cases hq
 case nA=>
  refine wp_skip (nT (wS (wR ?_)))
  revert a;(iterate 2 refine wo rfl rfl (by decide) (fun ev e h=>by simp[go_sem,h]<;>rfl) ?_);intro a hA
  refine aC hA rfl rfl (by decide) (fun ev h=>aB Tryz.func32 (by kernel_rfl) rfl (h.f _) (by first|(simp only[mL,h.get 24 rfl,h.c]<;>rfl)|(simp[mL,h.get 24 rfl,h.c]<;>rfl))) (CD w1) ?_
  rintro e w2 ⟨rfl,hb2⟩
  refine⟨_,rfl,fun a hA=> ?_⟩
  replace K1:=K1.below hb2 K1.lt
  have h2:=(h.below0 hb1).below0 hb2
  refine aC hA rfl rfl (by decide) (fun ev h=>aB Tryz.func24 (by kernel_rfl) rfl (h.f _) (by first|(simp only[mL,h.get 23 rfl,h.get 25 rfl,h.c]<;>rfl)|(simp[mL,h.get 23 rfl,h.get 25 rfl,h.c]<;>rfl))) (GO h2 hf (St [108,111,103,46,48]) (by decide)) ?_
  rintro e w3 ⟨A,c,rfl,hr3,hb3⟩
  refine⟨_,rfl,fun a hA=> ?_⟩
  replace K1:=K1.below hb3 K1.lt
  rw[hrd] at hA
  revert a;(iterate 5 refine wo rfl rfl (by decide) (fun ev e h=>by simp[go_sem,h]<;>rfl) ?_);intro a hA
  replace hA:=hA.keepN [0,1,4,6,7]
  refine wN (nT (wS (wS (wR ?_))))
  revert a;(iterate 2 refine wo rfl rfl (by decide) (fun ev e h=>by simp[go_sem,h]<;>rfl) ?_);intro a hA
  replace hA:=hA.keepN [0,1,4,6,7,30]
  refine wN (nT ?_)
  refine aH hA 30 _ rfl (fun hq2=> ?yB) (fun hq2=> ?nB)
  case nB=>cases hq2
  case yB=>
   refine wS (wR ?_)
   revert a;(iterate 2 refine wo rfl rfl (by decide) (fun ev e h=>by simp[go_sem,h]<;>rfl) ?_);intro a hA
   refine bX [.string ⟨#[]⟩, .int .u32 0, .int .u32 0, .slice none 0 0] hA rfl rfl K1 (by rfl) (fun ev h=>by simp[go_sem,h.get 4 rfl,h.get 31 rfl,setAll,K1.cell,K1.frozen]) fun w4 (K1:aI _ _ _ _) hs4=> ?_
   revert a;refine wo rfl rfl (by decide) (fun ev e h=>by simp[go_sem,h,K1.cell]<;>rfl) ?_;intro a hA
   replace hA:=hA.keepN [4,5]
   refine wN (nT (wp_ret (rT ?_)))
   refine bodyPost_ret (by simp[results,Tryz.results12,go_sem,hA.env 4 _ rfl,hA.env 5 _ rfl,K1.cell];try first|exact⟨rfl,rfl⟩|rfl) hA.defers ?_
   exact⟨rfl,hs4.below (hb1.trans ((hb2.mono hb1.size).trans (hb3.mono (by have:=hb1.size;have:=hb2.size;omega)))) (Nat.le_refl _)⟩
theorem C8 {w:World} {p mb:Nat} {d:aN} (h:fT w p mb d) (hf:i7 d) (hl:d.lost=false) (hno:aV [108,111,103,46,48] d.files=none):Calls Tryz.prog 11 #[.pointer (some ⟨p,0,none⟩), .int .i64 0] w fun ev w'=>ev= .returned (.tuple #[.agg #[.string ⟨#[]⟩, .int .u32 0, .int .u32 0, .slice none 0 0], .int .i64 7])∧Below w.heap.size w w':=by
 refine aK 111 Tryz.func11 rfl rfl (Nat.le_of_ble_eq_true rfl) ?_
 intro a hA;replace hA:=hA.norm
 refine wS (wR ?_)
 refine aP hA rfl rfl (by decide) (fun ev h=>by simp[go_sem];try first|exact⟨rfl,rfl⟩|rfl) fun w1 a (K1:aI _ _ _ _) hz1 hb1 hA=> ?_
 revert a;refine wo rfl rfl (by decide) (fun ev e h=>by simp[go_sem,h]<;>rfl) ?_;intro a hA
 replace hA:=hA.keepN [0,1,4]
 refine wN (nT (wS (wS (wR ?_))))
 revert a;(iterate 2 refine wo rfl rfl (by decide) (fun ev e h=>by simp[go_sem,h]<;>rfl) ?_);intro a hA
 refine aC hA rfl rfl (by decide) (fun ev h=>aB Tryz.func12 (by kernel_rfl) rfl (h.f _) (by first|(simp only[mL,h.get 19 rfl,h.get 20 rfl,h.c]<;>rfl)|(simp[mL,h.get 19 rfl,h.get 20 rfl,h.c]<;>rfl))) (Ad (h.below0 hb1) hf hl hno) ?_
 rintro e w2 ⟨rfl,hb2⟩
 refine⟨_,rfl,fun a hA=> ?_⟩
 replace K1:=K1.below hb2 K1.lt
 revert a;(iterate 3 refine wo rfl rfl (by decide) (fun ev e h=>by simp[go_sem,h]<;>rfl) ?_);intro a hA
 refine ap [.string ⟨#[]⟩, .int .u32 0, .int .u32 0, .slice none 0 0] hA rfl rfl (by decide) (fun ev h=>by simp[go_sem];try first|exact⟨rfl,rfl⟩|rfl) rfl rfl (by rfl) (fun w1 g ev hb h=>by simp[go_sem,h.get 6 rfl,h.get 22 rfl,setAll,hb.cell,hb.frozen]) fun w3 a (K3:aI _ _ _ _) hz3 hb3 hA=> ?_
 replace K1:=K1.below hb3 K1.lt
 revert a;refine wo rfl rfl (by decide) (fun ev e h=>by simp[go_sem,h]<;>rfl) ?_;intro a hA
 replace hA:=hA.keepN [0,1,4,6,7]
 refine wN (nT (wS (wR ?_)))
 revert a;(iterate 2 refine wo rfl rfl (by decide) (fun ev e h=>by simp[go_sem,h]<;>rfl) ?_);intro a hA
 replace hA:=hA.keepN [0,1,4,6,7,25]
 refine wN (nT ?_)
 refine aH hA 25 _ rfl (fun hq=> ?yB) (fun hq=> ?nB)
 case nB=>cases hq
 case yB=>
  refine wS (wR ?_)
  revert a;(iterate 2 refine wo rfl rfl (by decide) (fun ev e h=>by simp[go_sem,h,K3.cell]<;>rfl) ?_);intro a hA
  refine bX [.string ⟨#[]⟩, .int .u32 0, .int .u32 0, .slice none 0 0] hA rfl rfl K1 (by rfl) (fun ev h=>by simp[go_sem,h.get 4 rfl,h.get 26 rfl,K3.cell,setAll,K1.cell,K1.frozen]) fun w4 (K1:aI _ _ _ _) hs4=> ?_
  revert a;refine wo rfl rfl (by decide) (fun ev e h=>by simp[go_sem,h,K1.cell]<;>rfl) ?_;intro a hA
  replace hA:=hA.keepN [4,5]
  refine wN (nT (wp_ret (rT ?_)))
  refine bodyPost_ret (by simp[results,Tryz.results11,go_sem,hA.env 4 _ rfl,hA.env 5 _ rfl,K1.cell];try first|exact⟨rfl,rfl⟩|rfl) hA.defers ?_
  exact⟨rfl,hs4.below (hb1.trans ((hb2.mono hb1.size).trans (hb3.mono (by have:=hb1.size;have:=hb2.size;omega)))) (Nat.le_refl _)⟩
theorem uK (s:ByteArray) (w:World):Calls Tryz.prog 15 #[.pointer none, .string s] w fun ev w'=>ev= .returned (.int .i64 1)∧Below w.heap.size w w':=by
 refine aK 41 Tryz.func15 rfl rfl (Nat.le_of_ble_eq_true rfl) ?_
 intro a hA;replace hA:=hA.norm
 refine wS (wR ?_)
 revert a;refine wo rfl rfl (by decide) (fun ev e h=>by simp[go_sem,h]<;>rfl) ?_;intro a hA
 replace hA:=hA.keepN [0,1]
 refine wN (nT (wS (wS (wR ?_))))
 revert a;(iterate 2 refine wo rfl rfl (by decide) (fun ev e h=>by simp[go_sem,h]<;>rfl) ?_);intro a hA
 replace hA:=hA.keepN [0,1,9]
 refine wN (nT ?_)
 refine aH hA 9 _ rfl (fun hq=> ?yA) (fun hq=> ?nA)
 case nA=>cases hq
 case yA=>
  refine wS (wR ?_)
  revert a;refine wo rfl rfl (by decide) (fun ev e h=>by simp[go_sem,h]<;>rfl) ?_;intro a hA
  replace hA:=hA.keepN [4]
  refine wN (nT (wp_ret (rT ?_)))
  refine ab hA 4 rfl rfl ?_
  exact⟨rfl,Below.refl _ _⟩
theorem Hp (cap:Nat) (h:cap≤4194304):i7 ⟨cap,[], -1,false⟩:=⟨Aa,Nat.zero_le _,h,by show(-1:Int)≤ -1;omega,by show(-1:Int)≤_;omega,fun q hq=>by cases hq⟩
theorem pP (w:World):Calls Tryz.prog 4 #[] w fun ev w'=>ev= .returned (.bool true)∧Below w.heap.size w w':=by
 refine aK 20 Tryz.func4 rfl rfl (Nat.le_of_ble_eq_true rfl) ?_
 intro a hA;replace hA:=hA.norm
 refine wS (wR ?_)
 revert a;refine wo rfl rfl (by decide) (fun ev e h=>by simp[go_sem,h]<;>rfl) ?_;intro a hA
 replace hA:=hA.keepN []
 refine wN (nT (wS (wR ?_)))
 refine aC hA rfl rfl (by decide) (fun ev h=>aB Tryz.func6 (by kernel_rfl) rfl (h.f _) (by first|(simp only[mL,h.c]<;>rfl)|(simp[mL,h.c]<;>rfl))) (E6 1000 (by omega) w) ?_
 rintro e w1 ⟨p,mb,rfl,hd,hp,hm,hb1⟩
 refine⟨_,rfl,fun a hA=> ?_⟩
 have h1:fT w1 p mb ⟨1000,[], -1,false⟩:=⟨[],rfl,hd⟩
 revert a;(iterate 5 refine wo rfl rfl (by decide) (fun ev e h=>by simp[go_sem,h]<;>rfl) ?_);intro a hA
 replace hA:=hA.keepN [1]
 refine wN (nT (wS (wR ?_)))
 revert a;refine wo rfl rfl (by decide) (fun ev e h=>by simp[go_sem,h]<;>rfl) ?_;intro a hA
 refine aC hA rfl rfl (by decide) (fun ev h=>aB Tryz.func11 (by kernel_rfl) rfl (h.f _) (by first|(simp only[mL,h.get 10 rfl,h.c]<;>rfl)|(simp[mL,h.get 10 rfl,h.c]<;>rfl))) (C8 h1 (Hp 1000 (by omega)) rfl rfl) ?_
 rintro e w2 ⟨rfl,hb2⟩
 refine⟨_,rfl,fun a hA=> ?_⟩
 revert a;(iterate 3 refine wo rfl rfl (by decide) (fun ev e h=>by simp[go_sem,h]<;>rfl) ?_);intro a hA
 refine ap [.string ⟨#[]⟩, .int .u32 0, .int .u32 0, .slice none 0 0] hA rfl rfl (by decide) (fun ev h=>by simp[go_sem];try first|exact⟨rfl,rfl⟩|rfl) rfl rfl (by rfl) (fun w1 g ev hb h=>by simp[go_sem,h.get 3 rfl,h.get 12 rfl,setAll,hb.cell,hb.frozen]) fun w3 a (K3:aI _ _ _ _) hz3 hb3 hA=> ?_
 have HB:=hb1.trans ((hb2.mono hb1.size).trans (hb3.mono (by have:=hb1.size;have:=hb2.size;omega)))
 revert a;refine wo rfl rfl (by decide) (fun ev e h=>by simp[go_sem,h]<;>rfl) ?_;intro a hA
 replace hA:=hA.keepN [4]
 refine wN (nT (wS (wR ?_)))
 revert a;(iterate 3 refine wo rfl rfl (by decide) (fun ev e h=>by simp[go_sem,h]<;>rfl) ?_);intro a hA
 refine dK _ hA rfl rfl rfl rfl (by decide) (fun hq ev h=>aB Tryz.func15 (by kernel_rfl) rfl (h.f _) (by first|(simp only[mL,h.c]<;>rfl)|(simp[mL,h.c]<;>rfl))) (fun hq=>uK ⟨#[97]⟩ _) fun a w4 hb4 hA=> ?_
 replace HB:=HB.trans (hb4.mono HB.size)
 revert a;refine wg _ rfl rfl rfl rfl (by decide) (fun hq ev e h=>by simp[go_sem,h,↓aL (aF hq)]<;>rfl) ?_;refine j9 rfl rfl (by decide) rfl rfl rfl ?_;refine wo rfl rfl (by decide) (fun ev e h=>by simp[go_sem,h]<;>rfl) ?_;intro a hA
 replace hA:=hA.keepN [0]
 refine wN (nT (wp_ret ?_))
 refine ab hA 0 rfl rfl ?_
 exact⟨rfl,HB⟩
theorem th {w:World} {g:Nat} {x:UInt8} (K:aI w g 5 #[.int .u8 ((x.toNat:Nat):Int)]):aE w w.heap.size 1 (some ⟨g,0,none⟩) 1 (ar [x]):=by
 refine⟨rfl,fun _=>⟨_,rfl,K.lt,fun j u hu=> ?_⟩⟩
 rw[aS,K.cell,←hu]
 simp[ar]
structure fd where
 n:Int
 fl:Bool
 gone:Bool
 a:Option Addr
 c:Nat
 b:List UInt8
def tI (h:fd):List Value:=[.int .i64 h.n, .bool h.fl, .bool h.gone, .slice h.a h.b.length h.c]
theorem tJ (h:fd):(tI h).length=4:=rfl
def sL :Nat→Nat→List fd→Bool
 |_,_,[]=>true
 |i,n,h::r=>bif decide (30≤i)||decide (60000<n+h.b.length) then false else sL (i+1) (n+h.b.length) r
theorem Fj {i n j:Nat} {l:List fd} {x:fd} (hx:l[j]?=some x):sL i n (l.drop j)=bif decide (30≤i)||decide (60000<n+x.b.length) then false else sL (i+1) (n+x.b.length) (l.drop (j+1)):=by
 rw[List.drop_eq_getElem_cons (List.getElem?_eq_some_iff.1 hx).1,(List.getElem?_eq_some_iff.1 hx).2]
 rfl
def wP (n:Int):Nat:=(n%16).toNat
theorem wQ (n:Int):wP n<16:=by unfold wP;omega
def gE (n:Int) (fl:Bool):ae:=aR (bif fl then cV else ct) (wP n)
def wO (d:aN) (n:Int) (h:fd):aN:=bif h.gone then(mP d (gE n h.fl)).2 else(kY d (gE n h.fl) h.b).2
theorem CC (A:Option Addr) (c q:Nat) (l:List fd) (w:World) (hl:l.length=q) (hq:q≤140737488355328) (hr:aE w w.heap.size 4 A q (l.flatMap tI)) (hsz:∀h∈l,h.b.length≤140737488355328):
 Calls Tryz.prog 5 #[.slice A q c] w fun ev w'=>ev= .returned (.bool (sL 0 0 l))∧w'=w:=by
 refine aK 25 Tryz.func5 rfl rfl (Nat.le_of_ble_eq_true rfl) ?_
 intro a hA;replace hA:=hA.norm
 refine wS (wR ?_)
 revert a;refine wo rfl rfl (by decide) (fun ev e h=>by simp[go_sem,h]<;>rfl) ?_;intro a hA
 replace hA:=hA.keepN [0]
 refine wN (nT (wS (wR ?_)))
 revert a;refine wo rfl rfl (by decide) (fun ev e h=>by simp[go_sem,h]<;>rfl) ?_;intro a hA
 replace hA:=hA.keepN [0,3]
 refine wN (nT (wS (wS (wR ?_))))
 revert a;(iterate 3 refine wo rfl rfl (by decide) (fun ev e h=>by simp[go_sem,h]<;>rfl) ?_);intro a hA
 replace hA:=hA.keepN [0,3,6,7]
 refine wN (nT (wB ?_))
 refine aQ (fun f a wx=>∃(j s:Nat),j+f=q∧s≤60000∧sL 0 0 l=sL j s (l.drop j)∧w=wx∧At 25 [(0, .slice A q c),(3, .int .i64 (s:Nat)),(6, .int .i64 (q:Nat)),(7, .int .i64 (j:Nat))] a) (q) ?_ ?_
 ·exact⟨0,0,by omega,by omega,rfl,rfl,hA⟩
 clear hA
 rintro f a wx ⟨j,s,hjf,hs,hall,rfl,hA⟩
 refine wS (wR ?_)
 revert a;refine wo rfl rfl (by decide) (fun ev e h=>by simp[go_sem,h]<;>rfl) ?_;intro a hA
 replace hA:=hA.keepN [0,3,6,7,8]
 refine wN (nT (wS ?_))
 refine aH hA 8 _ rfl (fun hq1=> ?yL) (fun hq1=> ?nL)
 case nL=>
  have hj:j=q:=by simp at hq1;omega
  rw[hj,←hl,List.drop_length] at hall
  replace hA:=hA.keepN []
  refine wp_exit (xT (xT (xB (nT (wS (wR ?_))))))
  revert a;refine wo rfl rfl (by decide) (fun ev e h=>by simp[go_sem,h]<;>rfl) ?_;intro a hA
  replace hA:=hA.keepN [2]
  refine wN (nT (wp_ret ?_))
  refine ab hA 2 rfl rfl ?_
  exact⟨bH hall.symm,rfl⟩
 case yL=>
  have hlt:j<q:=by simp at hq1;omega
  obtain⟨x,hx⟩:∃x,l[j]?=some x:=⟨_,List.getElem?_eq_getElem (by omega)⟩
  have hxs:=hsz x (List.mem_of_getElem? hx)
  rw[Fj hx] at hall
  obtain⟨ad,rfl,hadb,h0,hj⟩:=oL tJ hr (by omega) hx
  have z3:w.cell? ⟨(ad.add (j*4)).block,(ad.add (j*4)).off+3,none⟩=some (.slice x.a x.b.length x.c):=hj 3 _ (by decide) rfl
  have jj0:(0:Int)≤(j:Int):=by omega
  have jj1:(j:Int)<(q:Int):=by omega
  have hwj:IntKind.i64.wrap ((j:Int)+1)=(j:Int)+1:=IntWalk.i64_in _ (by omega)
  have e1:IntKind.i64.wrap ((s:Int)+(x.b.length:Int))=((s+x.b.length:Nat):Int):=by rw[IntWalk.i64_in _ (by omega)];omega
  refine wp_skip (nT (wS (wB (wS (wR ?_)))))
  revert a;(iterate 2 refine wo rfl rfl (by decide) (fun ev e h=>by simp[go_sem,h,z3,jj0,jj1,e1]<;>rfl) ?_);intro a hA
  replace hA:=hA.keepN [0,3,4,6,7]
  refine wN (nT (wS (wR ?_)))
  revert a;(iterate 9 refine wo rfl rfl (by decide) (fun ev e h=>by simp[go_sem,h,z3,jj0,jj1,e1]<;>rfl) ?_);intro a hA
  replace hA:=hA.keepN [0,3,4,6,7]
  refine wN (nT (wS (wR ?_)))
  revert a;(iterate 3 refine wo rfl rfl (by decide) (fun ev e h=>by simp[go_sem,h,z3,jj0,jj1,e1]<;>rfl) ?_);(iterate 2 refine wg _ rfl rfl rfl rfl (by decide) (fun hq ev e h=>by simp[go_sem,h,↓aL (aF hq),z3,jj0,jj1,e1]<;>rfl) ?_);refine kj rfl rfl (by decide) rfl rfl rfl ?_;intro a hA
  replace hA:=hA.keepN [0,3,6,7,23]
  refine wN (nT ?_)
  refine aH hA 23 _ rfl (fun hq2=> ?yB) (fun hq2=> ?nB)
  case yB=>
   refine wS (wR ?_)
   revert a;refine wo rfl rfl (by decide) (fun ev e h=>by simp[go_sem,h,z3,jj0,jj1,e1]<;>rfl) ?_;intro a hA
   replace hA:=hA.keepN [2]
   refine wN (nT (wp_ret (rB (rT (rT (rB (rT ?_)))))))
   refine ab hA 2 rfl rfl ?_
   have hb:(decide (30≤j)||decide (60000<s+x.b.length))=true:=by simp at hq2 ⊢;omega
   rw[hb,cond_true] at hall
   exact⟨bH hall.symm,rfl⟩
  case nB=>
   refine wp_skip (nB (nT (wR ?_)))
   revert a;(iterate 2 refine wo rfl rfl (by decide) (fun ev e h=>by simp[go_sem,h,hwj]<;>rfl) ?_);intro a hA
   replace hA:=hA.keepN [0,3,6,7]
   refine wN (nT ?_)
   have hb:(decide (30≤j)||decide (60000<s+x.b.length))=false:=by simp at hq2 ⊢;omega
   rw[hb,cond_false] at hall
   have hn6:s+x.b.length≤60000:=by simp at hb;omega
   rw[show((j:Int)+1)=((j+1:Nat):Int) by omega] at hA
   exact⟨f - 1,by omega,j+1,_,by omega,hn6,hall,rfl,hA⟩
theorem BG :∀k:Fin 16,Lib.decDigits k.1=if k.1≤9 then[UInt8.ofNat (48+k.1)] else[49,UInt8.ofNat (38+k.1)]:=by decide+kernel
theorem tL (n:Int) (fl gone:Bool) (A:Option Addr) (c k:Nat) (w:World) (hn: -9223372036854775808≤n∧n≤9223372036854775807):
 Calls Tryz.prog 21 #[.agg #[.int .i64 n, .bool fl, .bool gone, .slice A k c]] w fun ev w'=>ev= .returned (.string (St (gE n fl)))∧Below w.heap.size w w':=by
 obtain⟨m,hm⟩:∃m,wP n=m:=⟨_,rfl⟩
 have hm16:m<16:=by rw[←hm];exact wQ n
 have hk:gE n fl=(bif fl then cV else ct)++[46]++Lib.decDigits m:=by unfold gE;rw[hm];rfl
 have u1:(IntKind.u64.wrap n).tmod 16=(m:Int):=by
  have h1:IntKind.u64.wrap n=n%18446744073709551616:=rfl
  rw[h1,Int.tmod_eq_emod_of_nonneg (by omega),←hm]
  unfold wP
  omega
 have u2:IntKind.i64.wrap (m:Int)=(m:Int):=IntWalk.i64_in _ (by omega)
 obtain⟨kd,hkd⟩:∃kd,(bif fl then cV else ct)=kd:=⟨_,rfl⟩
 have hkl:kd.length=3:=by rw[←hkd];cases fl<;>rfl
 refine aK 30 Tryz.func21 rfl rfl (Nat.le_of_ble_eq_true rfl) ?_
 intro a hA;replace hA:=hA.norm
 refine wS (wR ?_)
 refine aP hA rfl rfl (by decide) (fun ev h=>by simp[go_sem,h.get 0 rfl];try first|exact⟨rfl,rfl⟩|rfl) fun w1 a (K1:aI _ _ _ _) hz1 hb1 hA=> ?_
 revert a;refine wo rfl rfl (by decide) (fun ev e h=>by simp[go_sem,h,K1.cell]<;>rfl) ?_;intro a hA
 replace hA:=hA.keepN [1]
 refine wN (nT (wS (wR ?_)))
 revert a;refine wo rfl rfl (by decide) (fun ev e h=>by simp[go_sem,h,K1.cell]<;>rfl) ?_;intro a hA
 replace hA:=hA.keepN [1,3]
 refine wN (nT (wS (wS (wR ?_))))
 revert a;(iterate 2 refine wo rfl rfl (by decide) (fun ev e h=>by simp[go_sem,h,K1.cell]<;>rfl) ?_);intro a hA
 replace hA:=hA.keepN [1,3,6]
 refine wN (nT ?_)
 refine cd (fun a wx=>w1=wx∧At 30 [(1, .pointer (some ⟨w.heap.size,0,none⟩)),(3, .string (St (kd++[46])))] a) ?jfT ?jrT
 refine aH hA 6 _ rfl (fun hq=> ?yA) (fun hq=> ?nA)
 case yA=>
  refine wR ?_
  revert a;refine wo rfl rfl (by decide) (fun ev e h=>by simp[go_sem,h,K1.cell]<;>rfl) ?_;intro a hA
  replace hA:=hA.keepN [1,3]
  refine wN (nT ?_)
  have hf:fl=true:=hq
  rw[←hkd,hf]
  exact⟨rfl,hA⟩
 case nA=>
  replace hA:=hA.keepN [1,3]
  refine wp_skip (nT ?_)
  have hf:fl=false:=hq
  rw[←hkd,hf]
  exact⟨rfl,hA⟩
 clear hA
 rintro a wx ⟨rfl,hA⟩
 refine wS (wR ?_)
 revert a;(iterate 2 refine wo rfl rfl (by decide) (fun ev e h=>by simp[go_sem,h,K1.cell,u1,u2]<;>rfl) ?_);intro a hA
 refine a7 hA rfl rfl (by decide) (fun ev h=>by simp[go_sem,h.get 8 rfl,K1.cell,u1,u2];try first|exact⟨rfl,rfl⟩|rfl) fun a hA=> ?_
 revert a;refine wo rfl rfl (by decide) (fun ev e h=>by simp[go_sem,h,K1.cell,u1,u2]<;>rfl) ?_;intro a hA
 refine a7 hA rfl rfl (by decide) (fun ev h=>by simp[go_sem,h.get 10 rfl,K1.cell,u1,u2];try first|exact⟨rfl,rfl⟩|rfl) fun a hA=> ?_
 revert a;refine wo rfl rfl (by decide) (fun ev e h=>by simp[go_sem,h,K1.cell,u1,u2]<;>rfl) ?_;intro a hA
 replace hA:=hA.keepN [3,4]
 refine wN (nT (wS (wS (wR ?_))))
 revert a;(iterate 2 refine wo rfl rfl (by decide) (fun ev e h=>by simp[go_sem,h,K1.cell,u1,u2]<;>rfl) ?_);intro a hA
 replace hA:=hA.keepN [3,4,13]
 refine wN (nT ?_)
 refine aH hA 13 _ rfl (fun hq2=> ?yB) (fun hq2=> ?nB)
 case yB=>
  have hm9:¬m≤9:=by simp at hq2;omega
  obtain⟨v,hv⟩:∃v:UInt8,v=UInt8.ofNat (38+m):=⟨_,rfl⟩
  have hvn:v.toNat=38+m:=by rw[hv,UInt8.toNat_ofNat'];omega
  have hd:Lib.decDigits m=[49,v]:=by rw[BG ⟨m,hm16⟩,if_neg hm9,hv]
  have u3:IntKind.i64.wrap (48+(m:Int))=48+(m:Int):=IntWalk.i64_in _ (by omega)
  have u4:IntKind.i64.wrap (48+(m:Int) - 10)=((v.toNat:Nat):Int):=by rw[IntWalk.i64_in _ (by omega)];omega
  have u5:IntKind.u8.wrap ((v.toNat:Nat):Int)=((v.toNat:Nat):Int):=by rw[IntWalk.u8_in _ (by omega)]
  have m1:¬9223372036854775807<kd.length+1+1:=by omega
  have m2:¬9223372036854775807<kd.length+1+1+1:=by omega
  refine wS (wR ?_)
  revert a;(iterate 5 refine wo rfl rfl (by decide) (fun ev e h=>by simp[go_sem,h,u3,u4,u5,eA,m1,m2]<;>rfl) ?_);intro a hA
  refine a7 hA rfl rfl (by decide) (fun ev h=>by simp[go_sem,h.get 18 rfl,u3,u4,u5,eA,m1,m2];try first|exact⟨rfl,rfl⟩|rfl) fun a hA=> ?_
  refine aP hA rfl rfl (by decide) (fun ev h=>by simp[go_sem,h.get 19 rfl,u3,u4,u5,eA,m1,m2];try first|exact⟨rfl,rfl⟩|rfl) fun w2 a (K2:aI _ _ _ _) hz2 hb2 hA=> ?_
  have hcv:=aY (c:=1) (n:=1) (l:=[v]) rfl (th K2)
  refine a7 hA rfl rfl (by decide) (fun ev h=>by simp[go_sem,h.get 20 rfl,hcv,eA,m1,m2];try first|exact⟨rfl,rfl⟩|rfl) fun a hA=> ?_
  revert a;(iterate 2 refine wo rfl rfl (by decide) (fun ev e h=>by simp[go_sem,h,hcv,eA,m1,m2]<;>rfl) ?_);intro a hA
  replace hA:=hA.keepN [2]
  refine wN (nT (wp_ret (rT ?_)))
  refine ab hA 2 rfl rfl ?_
  rw[hk,hd,hkd]
  exact⟨by simp,hb1.trans (hb2.mono hb1.size)⟩
 case nB=>
  have hm9:m≤9:=by simp at hq2;omega
  obtain⟨v,hv⟩:∃v:UInt8,v=UInt8.ofNat (48+m):=⟨_,rfl⟩
  have hvn:v.toNat=48+m:=by rw[hv,UInt8.toNat_ofNat'];omega
  have hd:Lib.decDigits m=[v]:=by rw[BG ⟨m,hm16⟩,if_pos hm9,hv]
  have u3:IntKind.i64.wrap (48+(m:Int))=((v.toNat:Nat):Int):=by rw[IntWalk.i64_in _ (by omega)];omega
  have u5:IntKind.u8.wrap ((v.toNat:Nat):Int)=((v.toNat:Nat):Int):=by rw[IntWalk.u8_in _ (by omega)]
  have m1:¬9223372036854775807<kd.length+1+1:=by omega
  refine wp_skip (nT (wS (wR ?_)))
  revert a;(iterate 3 refine wo rfl rfl (by decide) (fun ev e h=>by simp[go_sem,h,u3,u5,eA,m1]<;>rfl) ?_);intro a hA
  refine a7 hA rfl rfl (by decide) (fun ev h=>by simp[go_sem,h.get 25 rfl,u3,u5,eA,m1];try first|exact⟨rfl,rfl⟩|rfl) fun a hA=> ?_
  refine aP hA rfl rfl (by decide) (fun ev h=>by simp[go_sem,h.get 26 rfl,u3,u5,eA,m1];try first|exact⟨rfl,rfl⟩|rfl) fun w2 a (K2:aI _ _ _ _) hz2 hb2 hA=> ?_
  have hcv:=aY (c:=1) (n:=1) (l:=[v]) rfl (th K2)
  refine a7 hA rfl rfl (by decide) (fun ev h=>by simp[go_sem,h.get 27 rfl,hcv,eA,m1];try first|exact⟨rfl,rfl⟩|rfl) fun a hA=> ?_
  revert a;(iterate 2 refine wo rfl rfl (by decide) (fun ev e h=>by simp[go_sem,h,hcv,eA,m1]<;>rfl) ?_);intro a hA
  replace hA:=hA.keepN [2]
  refine wN (nT (wp_ret ?_))
  refine ab hA 2 rfl rfl ?_
  rw[hk,hd,hkd]
  exact⟨by simp,hb1.trans (hb2.mono hb1.size)⟩
theorem Dk.harm {w:World} {p mb N:Nat} {d:aN} (h:Dk w p mb d N) (hN:N<900000) (k:ae) (hk:k.length≤1000000) (A:Option Addr) (n c:Nat) (l:List UInt8) (hl:l.length=n) (hn:n≤10000000) (hr:aE w w.heap.size 1 A n (ar l)):
 Calls Tryz.prog 7 #[.pointer (some ⟨p,0,none⟩), .string (St k), .slice A n c] w fun e w'=>e= .returned (.int .i64 (kY d k l).1)∧Dk w' p mb (kY d k l).2 (N+1)∧bb p mb w w':=
 (Fl h.disk h.wf (by have:=h.few;omega) (St k) (by show k.length≤_;omega) A n c l hl hn hr).mono fun e w' ⟨h1,h2,h3⟩=>⟨h1,⟨h2,h.wf.harm k l,by
  have:=h.few
  unfold kY
  split
  ·show d.files.length≤_;omega
  ·split
   ·show d.files.length≤_;omega
   ·split
    ·show d.files.length≤_;omega
    ·have:=fh k ⟨l,l.length,true⟩ d.files
     show(bN k _ d.files).length≤_
     omega,h.ctx.but h3⟩,h3⟩
theorem Dk.lose {w:World} {p mb N:Nat} {d:aN} (h:Dk w p mb d N) (k:ae) (hk:k.length≤1000000):
 Calls Tryz.prog 20 #[.pointer (some ⟨p,0,none⟩), .string (St k)] w fun e w'=>e= .returned (.int .i64 (mP d k).1)∧Dk w' p mb (mP d k).2 N∧bb p mb w w':=
 (Fv h.disk (St k) (by show k.length≤_;unfold maxLen;omega)).mono fun e w' ⟨h1,h2,h3⟩=>⟨h1,⟨h2,h.wf.lose k,by
  have:=h.few
  unfold mP
  split
  ·exact this
  ·split
   ·exact this
   ·have:=gF k d.files
    show(gO k d.files).length≤_
    omega,h.ctx.but h3⟩,h3⟩
theorem tK (n:Int) (fl:Bool):(gE n fl).length≤1000000:=by
 unfold gE
 have h1:=wQ n
 cases fl
 ·exact cI (kind:=ct) (by decide) (by omega)
 ·exact cI (kind:=cV) (by decide) (by omega)
theorem CO {w:World} {p mb N:Nat} {d:aN} (h:Dk w p mb d N) (hN:N<800000) (n:Int) (x:fd) (hn: -9223372036854775808≤n∧n≤9223372036854775807) (hb:x.b.length≤10000000) (hr:aE w w.heap.size 1 x.a x.b.length (ar x.b)):
 Calls Tryz.prog 8 #[.pointer (some ⟨p,0,none⟩), .agg #[.int .i64 n, .bool x.fl, .bool x.gone, .slice x.a x.b.length x.c]] w fun ev w'=>ev= .returned (.tuple #[])∧Dk w' p mb (wO d n x) (N+1)∧bb p mb w w':=by
 refine aK 16 Tryz.func8 rfl rfl (Nat.le_of_ble_eq_true rfl) ?_
 intro a hA;replace hA:=hA.norm
 refine wS (wR ?_)
 refine aP hA rfl rfl (by decide) (fun ev h=>by simp[go_sem,h.get 1 rfl];try first|exact⟨rfl,rfl⟩|rfl) fun w1 a (K1:aI _ _ _ _) hz1 hb1 hA=> ?_
 replace hA:=hA.keepN [0,3]
 refine wN (nT (wS (wR ?_)))
 revert a;(iterate 2 refine wo rfl rfl (by decide) (fun ev e h=>by simp[go_sem,h,K1.cell]<;>rfl) ?_);intro a hA
 replace hA:=hA.keepN [0,3,5]
 refine wN (nT ?_)
 refine aH hA 5 _ rfl (fun hq=> ?yA) (fun hq=> ?nA)
 case yA=>
  have hg:x.gone=true:=hq
  refine wR ?_
  revert a;(iterate 2 refine wo rfl rfl (by decide) (fun ev e h=>by simp[go_sem,h,K1.cell]<;>rfl) ?_);intro a hA
  refine aC hA rfl rfl (by decide) (fun ev h=>aB Tryz.func21 (by kernel_rfl) rfl (h.f _) (by first|(simp only[mL,h.get 7 rfl,h.c]<;>rfl)|(simp[mL,h.get 7 rfl,h.c,K1.cell]<;>rfl))) (tL n x.fl x.gone x.a x.c x.b.length _ hn) ?_
  rintro e w2 ⟨rfl,hb2⟩
  refine⟨_,rfl,fun a hA=> ?_⟩
  have HB:=hb1.trans (hb2.mono hb1.size)
  refine aC hA rfl rfl (by decide) (fun ev h=>aB Tryz.func20 (by kernel_rfl) rfl (h.f _) (by first|(simp only[mL,h.get 6 rfl,h.get 8 rfl,h.c]<;>rfl)|(simp[mL,h.get 6 rfl,h.get 8 rfl,h.c,K1.cell]<;>rfl))) ((h.below HB).lose (gE n x.fl) (tK _ _)) ?_
  rintro e w3 ⟨rfl,h3,B3⟩
  refine⟨_,rfl,fun a hA=> ?_⟩
  refine wN ?_
  unfold wO
  rw[hg]
  exact wA hA rfl ⟨rfl,h3.more (by omega),(bb.of_below HB).trans B3⟩
 case nA=>
  have hg:x.gone=false:=hq
  have pE:=fun(wo:World) (hC:(fun wy=>Below w1.heap.size w1 wy) wo)=>have Ky:=K1.below hC K1.lt;(Ky.cell)
  refine aj 5 ?_
  simp only[List.take_succ_cons,List.take_zero,List.drop_succ_cons,List.drop_zero]
  refine ai hA [(.det ?dE0),(.det ?dE1),(.det ?dE2),(.det ?dE3),(.det ?dE4)] [] (fun wy=>Below w1.heap.size w1 wy) (aG [] aA) (by kernel_rfl) rfl (by kernel_rfl) (by kernel_rfl) rfl (by kernel_rfl) (by kernel_rfl) (by kernel_rfl) (by kernel_rfl) ((Below.refl _ _).drew) (bF [] [true,true,true,true,true] [true,true,true,true,true] [] rfl rfl rfl (by kernel_rfl) ⟨trivial,trivial,trivial,trivial,trivial,trivial⟩ trivial) (fun _ h=>by cases h) (fun _ _ _ _ _ h=>by cases h) (fun _ h=>by cases h) ⟨?oE0, ?oE1, ?oE2, ?oE3, ?oE4,trivial⟩ (by kernel_rfl) ?fE
  case oE0=>intro ev wo hev hC hs hph;have x0:=se hA hs 0;exact od rfl rfl (by kernel_rfl) hC (aG.of rfl (aA.refl _)) (by simp[go_sem,x0]<;>rfl)
  case oE1=>intro ev wo hev hC hs hph;have x0:=se hA hs 3;exact od rfl rfl (by kernel_rfl) hC (aG.of rfl (aA.refl _)) (by simp[go_sem,x0,pE _ hC,K1.cell]<;>rfl)
  case oE2=>
   intro ev wo hev hC hs hph
   have e11:=sd hs 11 1
   have Ky:=K1.below hC K1.lt
   exact bm (aJ rfl) rfl (by kernel_rfl) ((tL n x.fl x.gone x.a x.c x.b.length _ hn)) (aB Tryz.func21 (by kernel_rfl) rfl (hev.func _) (by first|(simp only[mL,e11,hev.const]<;>rfl)|(simp[mL,e11,hev.const]<;>rfl))) (by rfl) (fun w3 hb3=>⟨hC.trans (hb3.mono hC.size),aG.of rfl hb3⟩)
  case oE3=>intro ev wo hev hC hs hph;have x0:=se hA hs 3;exact od rfl rfl (by kernel_rfl) hC (aG.of rfl (aA.refl _)) (by simp[go_sem,x0]<;>rfl)
  case oE4=>intro ev wo hev hC hs hph;have x0:=sd hs 13 3;exact od rfl rfl (by kernel_rfl) hC (aG.of rfl (aA.refl _)) (by simp[go_sem,x0,pE _ hC,K1.cell]<;>rfl)
  intro sg wf hC hph
  intro a hA
  replace hA:=hA.keepN [10,12,14]
  have HB:=hb1.trans (hC.mono hb1.size)
  refine aC hA rfl rfl (by decide) (fun ev h=>aB Tryz.func7 (by kernel_rfl) rfl (h.f _) (by first|(simp only[mL,h.get 10 rfl,h.get 12 rfl,h.get 14 rfl,h.c]<;>rfl)|(simp[mL,h.get 10 rfl,h.get 12 rfl,h.get 14 rfl,h.c,K1.cell]<;>rfl))) ((h.below HB).harm (by omega) (gE n x.fl) (tK _ _) x.a x.b.length x.c x.b rfl hb ((hr.below HB).more HB.size)) ?_
  rintro e w3 ⟨rfl,h3,B3⟩
  refine⟨_,rfl,fun a hA=> ?_⟩
  refine wN ?_
  unfold wO
  rw[hg]
  exact wA hA rfl ⟨rfl,h3,(bb.of_below HB).trans B3⟩
def zF (m:aU):aU:=⟨m.uid,m.date,0,m.a,m.c,m.b⟩
theorem GX {M:List aU} {j:Nat} {m:aU} (hm:M[j]?=some m):(((M.take j).map zF++M.drop j)[j]?=some m)∧((M.take j).map zF++M.drop j).set j (zF m)=(M.take (j+1)).map zF++M.drop (j+1):=BM zF hm
theorem qI (nm:ByteArray) (e nx:Nat) (A:Option Addr) (n c:Nat) (M:List aU) (w:World) (hn:M.length=n) (hM:n≤1000000) (hr:bu de w A M):
 Calls Tryz.prog 40 #[.agg (mI nm e nx A n c)] w fun ev w'=>∃v,ev= .returned (.agg #[.string nm, .int .u32 (e:Nat), .int .u32 (nx:Nat),v])∧ac de w.heap.size w' v (M.map zF)∧Below w.heap.size w w':=by
 unfold mI
 refine aK 22 Tryz.func40 rfl rfl (Nat.le_of_ble_eq_true rfl) ?_
 intro a hA;replace hA:=hA.norm
 refine wS (wR ?_)
 refine aP hA rfl rfl (by decide) (fun ev h=>by simp[go_sem,h.get 0 rfl];try first|exact⟨rfl,rfl⟩|rfl) fun w1 a (K1:aI _ _ _ _) hz1 hb1 hA=> ?_
 refine aP hA rfl rfl (by decide) (fun ev h=>by simp[go_sem];try first|exact⟨rfl,rfl⟩|rfl) fun w2 a (K2:aI _ _ _ _) hz2 hb2 hA=> ?_
 replace K1:=K1.below hb2 K1.lt
 replace hA:=hA.keepN [1,2]
 refine wN (nT (wS (wR ?_)))
 refine aP hA rfl rfl (by decide) (fun ev h=>by simp[go_sem];try first|exact⟨rfl,rfl⟩|rfl) fun w3 a (K3:aI _ _ _ _) hz3 hb3 hA=> ?_
 replace K1:=K1.below hb3 K1.lt
 replace K2:=K2.below hb3 K2.lt
 have HB:=(hb1.trans (hb2.mono hb1.size)).trans (hb3.mono (Nat.le_trans hb1.size hb2.size))
 have s1:=hb1.size
 have s2:=hb2.size
 have s3:=hb3.size
 have hr3:=hr.below HB
 revert a;(iterate 2 refine wo rfl rfl (by decide) (fun ev e h=>by simp[go_sem,h,K1.cell]<;>rfl) ?_);intro a hA
 obtain⟨r,w4,hr4,ho4,hg4, -⟩:=eT (c:=c) (ac.empty (s:=de) K3 (Nat.le_refl _)) hr3 (fun g hg m hm p hp=>by
  rw[←Option.some.inj hg]
  exact hr.parts_off (g:=w2.heap.size) (by omega) m hm p hp) (by rw[List.length_nil,hn];omega) (by omega)
 rw[hn] at hr4
 refine a7 hA rfl rfl (by decide) (fun ev h=>ao rfl (h.get 4 rfl) (h.get 6 rfl) hr4) fun a hA=> ?_
 rw[List.nil_append] at ho4
 obtain⟨Ar,cr,rfl, -, -⟩:=ho4.reads
 rw[hn] at hA ho4
 replace K1:=K1.grown hg4 (fun e=>by have e:some w.heap.size=some w2.heap.size:=e;injection e with e;omega)
 replace K2:=K2.grown hg4 (fun e=>by have e:some w1.heap.size=some w2.heap.size:=e;injection e with e;omega)
 replace HB:=HB.grown hg4 HB.size (fun k hk=>by have hk:some w2.heap.size=some k:=hk;injection hk with hk;omega)
 have s4:=hg4.size
 revert a;refine wo rfl rfl (by decide) (fun ev e h=>by simp[go_sem,h,K1.cell]<;>rfl) ?_;intro a hA
 have K10:=K1
 refine aq ([.string nm, .int .u32 (e:Nat), .int .u32 (nx:Nat), .slice Ar n cr]) _ hA rfl rfl K1 (j:=3) (by rfl) (fun ev h=>by simp[go_sem,h.get 8 rfl,h.get 7 rfl,K1.cell,K1.cell,K1.frozen];try first|exact⟨rfl,rfl⟩|rfl) fun w5 (K1:aI _ _ _ _) hs5=> ?_
 replace K2:=hs5.blk K2 (by omega)
 replace ho4:=ho4.onlyK hs5 K10 (by decide) rfl
 replace HB:=hs5.below HB (by omega)
 replace hA:=hA.keepN [1,2]
 refine wN (nT (wS (wS (wR ?_))))
 revert a;(iterate 4 refine wo rfl rfl (by decide) (fun ev e h=>by simp[go_sem,h,K1.cell]<;>rfl) ?_);intro a hA
 replace hA:=hA.keepN [1,2,11,12]
 refine wN (nT (wB ?_))
 refine aQ (fun f a wx=>∃(j:Nat),j+f=n∧ac de w2.heap.size wx (.slice Ar n cr) ((M.take j).map zF++M.drop j)∧aI wx w.heap.size 41 #[.string nm, .int .u32 (e:Nat), .int .u32 (nx:Nat), .slice Ar n cr]∧aI wx w1.heap.size 41 #[.string ⟨#[]⟩, .int .u32 0, .int .u32 0, .slice none 0 0]∧Below w.heap.size w wx∧w2.heap.size≤wx.heap.size∧At 22 [(1, .pointer (some ⟨w.heap.size,0,none⟩)),(2, .pointer (some ⟨w1.heap.size,0,none⟩)),(11, .int .i64 (n:Nat)),(12, .int .i64 (j:Nat))] a) (n) ?_ ?_
 ·exact⟨0,by omega,by simpa using ho4,K1,K2,HB,by rw[hs5.size];omega,hA⟩
 clear hA ho4 K1 K2 K10 HB hs5
 rintro f a wx ⟨j,hjf,ho,K1,K2,HB,hsx,hA⟩
 have jw:IntKind.i64.wrap ((j:Int)+1)=((j+1:Nat):Int):=IntWalk.i64_in _ (by omega)
 refine wS (wR ?_)
 revert a;refine wo rfl rfl (by decide) (fun ev e h=>by simp[go_sem,h]<;>rfl) ?_;intro a hA
 replace hA:=hA.keepN [1,2,11,12,13]
 refine wN (nT (wS ?_))
 refine aH hA 13 _ rfl (fun hq=> ?yA) (fun hq=> ?nA)
 case yA=>
  have hj:j<n:=by simp at hq;omega
  have jj0:(0:Int)≤(j:Int):=by omega
  have jj1:(j:Int)<(n:Int):=by omega
  obtain⟨m,hm⟩:∃m,M[j]?=some m:=⟨_,List.getElem?_eq_getElem (by omega)⟩
  obtain⟨hmx,hset⟩:=GX hm
  obtain⟨M9,hM9⟩:∃M9,(M.take j).map zF++M.drop j=M9:=⟨_,rfl⟩
  rw[hM9] at hmx hset ho
  obtain⟨g,c9,hv9,hgB,hglt⟩:=ho.at_ (by have:=(List.getElem?_eq_some_iff.1 hmx).1;omega)
  have hAm:Ar=some ⟨g,0,none⟩:=by injection hv9
  rw[hAm] at ho
  have hgne:g≠w.heap.size:=eu ho.row K1 (by decide) g rfl
  have hgne2:g≠w1.heap.size:=eu ho.row K2 (by decide) g rfl
  obtain⟨h8,h9⟩:=ho.put1 (j:=2) (x:=zF m) (u:= .int .i64 0) hmx (by decide) rfl rfl
  have z2:wx.cell? ⟨g,j*4+2,none⟩=some (.int .i64 m.flags):=ho.cellAt (j:=2) hmx rfl
  refine wp_skip (nT (wS (wB (wS (wR ?_)))))
  revert a;(iterate 2 refine wo rfl rfl (by decide) (fun ev e h=>by simp[go_sem,h,K1.cell,hAm,aS,jj0,jj1,hj,z2,ho.frozenAt]<;>rfl) ?_);intro a hA
  replace hA:=hA.keepN [1,2,3,11,12]
  refine wN (nT (wR ?_))
  revert a;(iterate 5 refine wo rfl rfl (by decide) (fun ev e h=>by simp[go_sem,h,K1.cell,hAm,aS,jj0,jj1,hj,z2,ho.frozenAt]<;>rfl) ?_);intro a hA
  refine jP hA rfl rfl (fun ev h=>by simp[go_sem,h.c,h.get 19 rfl,K1.cell,hAm,aS,jj0,jj1,hj,z2,ho.frozenAt];try first|exact⟨rfl,rfl⟩|rfl) ?_
  replace hA:=hA.keepN [1,2,11,12]
  refine wN (nB (nT (wR ?_)))
  revert a;(iterate 2 refine wo rfl rfl (by decide) (fun ev e h=>by simp[go_sem,h,jw]<;>rfl) ?_);intro a hA
  replace hA:=hA.keepN [1,2,11,12]
  refine wN (nT ?_)
  refine⟨f - 1,by omega,j+1,by omega, ?_,K1.grown h9 (fun e=> ?_),K2.grown h9 (fun e=> ?_),HB.grown h9 HB.size (fun k e=> ?_),Nat.le_trans hsx h9.size,hA⟩
  ·rw[←hset,hAm]
   exact h8
  ·injection e with e
   exact hgne e.symm
  ·injection e with e
   exact hgne2 e.symm
  ·injection e with e
   omega
 case nA=>
  have hj:j=n:=by simp at hq;omega
  rw[hj,←hn,List.take_length,List.drop_length,List.append_nil,hn] at ho
  replace hA:=hA.keepN [1,2]
  refine wp_exit (xT (xT (xB (nT (wS (wR ?_))))))
  revert a;refine wo rfl rfl (by decide) (fun ev e h=>by simp[go_sem,h,K1.cell]<;>rfl) ?_;intro a hA
  have K20:=K2
  refine bX [.string nm, .int .u32 (e:Nat), .int .u32 (nx:Nat), .slice Ar n cr] hA rfl rfl K2 (by rfl) (fun ev h=>by simp[go_sem,h.get 2 rfl,h.get 21 rfl,K1.cell,setAll,K2.cell,K2.frozen]) fun w6 (K2:aI _ _ _ _) hs6=> ?_
  replace hA:=hA.keepN [2]
  refine wN (nT (wp_ret ?_))
  refine bodyPost_ret (by simp[results,Tryz.results40,go_sem,hA.env 2 _ rfl,K2.cell];try first|exact⟨rfl,rfl⟩|rfl) hA.defers ?_
  exact⟨_,rfl,(ho.onlyK hs6 K20 (by decide) rfl).mono (by omega),hs6.below HB (by omega)⟩
theorem Bj (nm nm2:ByteArray) (e nx e2 nx2:Nat) (A A2:Option Addr) (n c n2 c2:Nat) (M M2:List aU) (w:World) (hn:M.length=n) (hM:n≤1000000) (hr:bu de w A M) (hn2:M2.length=n2) (hM2:n2≤1000000) (hr2:bu de w A2 M2):
 Calls Tryz.prog 13 #[.agg (mI nm e nx A n c), .agg (mI nm2 e2 nx2 A2 n2 c2)] w fun ev w'=>ev= .returned (.bool (gq nm e nx (M.map zF) nm2 e2 nx2 (M2.map zF)))∧Below w.heap.size w w':=by
 refine aK 10 Tryz.func13 rfl rfl (Nat.le_of_ble_eq_true rfl) ?_
 intro a hA;replace hA:=hA.norm
 refine wS (wR ?_)
 refine aP hA rfl rfl (by decide) (fun ev h=>by simp[go_sem,h.get 0 rfl];try first|exact⟨rfl,rfl⟩|rfl) fun w1 a (K1:aI _ _ _ _) hz1 hb1 hA=> ?_
 refine aP hA rfl rfl (by decide) (fun ev h=>by simp[go_sem,h.get 1 rfl];try first|exact⟨rfl,rfl⟩|rfl) fun w2 a (K2:aI _ _ _ _) hz2 hb2 hA=> ?_
 replace K1:=K1.below hb2 K1.lt
 have HB:=hb1.trans (hb2.mono hb1.size)
 have s1:=hb1.size
 have s2:=hb2.size
 unfold mI at K1 K2
 have hrB:=hr.below HB
 have hr2B:=hr2.below HB
 revert a;refine wo rfl rfl (by decide) (fun ev e h=>by simp[go_sem,h]<;>rfl) ?_;intro a hA
 replace hA:=hA.keepN [2,3]
 have pE:=fun(wo:World) (hC:(fun wy=>Below w2.heap.size w2 wy) wo)=>have Kx:=K1.below hC K1.lt;have Ky:=K2.below hC K2.lt;And.intro (Kx.cell) (Ky.cell)
 refine wN (nT (wS ?_))
 refine aj 5 ?_
 simp only[List.take_succ_cons,List.take_zero,List.drop_succ_cons,List.drop_zero]
 refine ai hA [(.det ?dE0),(.used (fun v wy=>∃V,v= .agg #[.string nm, .int .u32 (e:Nat), .int .u32 (nx:Nat),V]∧ac de w2.heap.size wy V (M.map zF))),(.det ?dE2),(.used (fun v wy=>∃V,v= .agg #[.string nm2, .int .u32 (e2:Nat), .int .u32 (nx2:Nat),V]∧ac de w2.heap.size wy V (M2.map zF))),(.held (fun v wy=>v= .bool (gq nm e nx (M.map zF) nm2 e2 nx2 (M2.map zF))))] [] (fun wy=>Below w2.heap.size w2 wy) (aG [] aA) (by kernel_rfl) rfl (by kernel_rfl) (by kernel_rfl) rfl (by kernel_rfl) (by kernel_rfl) (by kernel_rfl) (by kernel_rfl) ((Below.refl _ _).drew) (bF [] [true,false,true,false,false] [true,false,true,false,true] [] rfl rfl rfl (by kernel_rfl) ⟨trivial,(fun _ _ _ _ hp hb=>hp.elim fun V h=>⟨V,h.1,h.2.below hb⟩),trivial,(fun _ _ _ _ hp hb=>hp.elim fun V h=>⟨V,h.1,h.2.below hb⟩),(fun _ _ _ _ hp _=>hp),trivial⟩ trivial) (fun _ h=>by cases h) (fun _ _ _ _ _ h=>by cases h) (fun _ h=>by cases h) ⟨?oE0, ?oE1, ?oE2, ?oE3, ?oE4,trivial⟩ (by kernel_rfl) ?fE
 case oE0=>intro ev wo hev hC hs hph;have x0:=se hA hs 2;exact od rfl rfl (by kernel_rfl) hC (aG.of rfl (aA.refl _)) (by simp[go_sem,x0,pE _ hC]<;>rfl)
 case oE1=>
  intro ev wo hev hC hs hph
  have e5:=sd hs 5 0
  have Kx:=K1.below hC K1.lt
  have Ky:=K2.below hC K2.lt
  exact bf (aJ rfl) (dP (by simp[go_sem,e5,hev.func];try first|exact⟨rfl,rfl⟩|rfl) (Calls.mono (qI nm e nx A n c M wo hn hM (hrB.below hC)) (by
   rintro ev' w7 ⟨r,rfl,ho,hb7⟩
   exact⟨_,rfl,hC.trans (hb7.mono hC.size),aG.of rfl hb7,⟨r,rfl,ho.mono hC.size⟩,av (by kernel_rfl)⟩)))
 case oE2=>intro ev wo hev hC hs hph;have x0:=se hA hs 3;exact od rfl rfl (by kernel_rfl) hC (aG.of rfl (aA.refl _)) (by simp[go_sem,x0,pE _ hC]<;>rfl)
 case oE3=>
  intro ev wo hev hC hs hph
  have e7:=sd hs 7 2
  have Kx:=K1.below hC K1.lt
  have Ky:=K2.below hC K2.lt
  exact bf (aJ rfl) (dP (by simp[go_sem,e7,hev.func];try first|exact⟨rfl,rfl⟩|rfl) (Calls.mono (qI nm2 e2 nx2 A2 n2 c2 M2 wo hn2 hM2 (hr2B.below hC)) (by
   rintro ev' w7 ⟨r,rfl,ho,hb7⟩
   exact⟨_,rfl,hC.trans (hb7.mono hC.size),aG.of rfl hb7,⟨r,rfl,ho.mono hC.size⟩,av (by kernel_rfl)⟩)))
 case oE4=>
  intro ev wo hev hC hs hph
  have u6:=su hs 6 1
  have u8:=su hs 8 3
  have Kx:=K1.below hC K1.lt
  have Ky:=K2.below hC K2.lt
  obtain⟨V6,e6,ho6⟩:=u6
  obtain⟨V8,e8,ho8⟩:=u8
  obtain⟨A6,c6,rfl,hr6, -⟩:=ho6.reads
  obtain⟨A8,c8,rfl,hr8, -⟩:=ho8.reads
  exact bf (aJ rfl) (dP (by simp[go_sem,e6,e8,hev.func];try first|exact⟨rfl,rfl⟩|rfl) (Calls.mono (kf nm nm2 A6 A8 c6 c8 _ _ e e2 nx nx2 (M.map zF) (M2.map zF) wo (by rw[List.length_map];omega) hr6.msgR hr8.msgR) (by
   rintro ev' w7 ⟨rfl,hb7⟩
   exact⟨_,rfl,hC.trans (hb7.mono hC.size),aG.of rfl hb7,rfl,av (by kernel_rfl)⟩)))
 intro sg wf hC hph
 intro x6 hx6
 intro x8 hx8
 intro x9 hx9 h9
 intro a hA
 replace hA:=hA.keepN [9]
 subst h9
 revert a;refine wo rfl rfl (by decide) (fun ev e h=>by simp[go_sem,h]<;>rfl) ?_;intro a hA
 replace hA:=hA.keepN [4]
 refine wN (nT (wp_ret ?_))
 refine ab hA 4 rfl rfl ?_
 exact⟨rfl,HB.trans (hC.mono HB.size)⟩
theorem BF :∀(f n:Nat),n<10^(f+1)→(Lib.decDigits n).length≤f+1
 |0,n,h=>by rw[Lib.decDigits,dif_pos (by omega)];exact Nat.le_refl _
 |f+1,n,h=>by
  rw[Lib.decDigits]
  split
  ·simp
  ·have:=BF f (n/10) (by rw[Nat.pow_succ] at h;omega)
   rw[List.length_append]
   simp only[List.length_cons,List.length_nil]
   omega
theorem tN (n:Nat) (hn:n<10000000) (w:World) (he:pu w):Calls Tryz.prog 44 #[.int .i64 (n:Nat)] w fun ev w'=>ev= .returned (.string (St (Lib.decDigits n)))∧Below w.heap.size w w':=
 (Tryz.strconv_Itoa ((n:Nat):Int) (by omega) (by omega) w he.tab).mono fun e w' ⟨h1,k,os,h2⟩=>⟨by rw[h1];unfold Lib.itoa;rw[if_neg (by omega),Int.toNat_natCast],h2▸Lib.below_grow _ w (Nat.le_refl _) k os⟩
theorem Dk.safe {w:World} {p mb N:Nat} {d:aN} (h:Dk w p mb d N) (k:ae) (hk:k.length≤1000000):
 Calls Tryz.prog 45 #[.pointer (some ⟨p,0,none⟩), .string (St k)] w fun e w'=>e= .returned (.bool (ra d k))∧Below w.heap.size w w':=by
 obtain⟨es,hfi,hd⟩:=h.disk
 refine(GP hd (St k) (by show k.length≤_;unfold maxLen;omega)).mono fun e w' ⟨h1,h2⟩=>⟨?_,h2⟩
 rw[h1]
 refine bH ?_
 unfold Ev ra
 show(match aV k es with|some v=>v.m.whole|none=>false)=_
 rw[hfi,o5]
 cases aV k es<;>rfl
theorem sY {w:World} {p mb N:Nat} {d:aN} (h:Dk w p mb d N) (hN:N<900000) (nm:ae) (hnl:nm.length≤100000):
 Calls Tryz.prog 15 #[.pointer (some ⟨p,0,none⟩), .string (St nm)] w fun ev w'=>ev= .returned (.int .i64 (fx d nm).1)∧Dk w' p mb (fx d nm).2 (N+2)∧bb p mb w w':=by
 obtain⟨j,hj⟩:∃j,gU d.files nm=j:=⟨_,rfl⟩
 have hsp:=pN d.files nm
 rw[hj] at hsp
 obtain⟨hno,hyes,hjl⟩:=hsp
 have hfew:=h.few
 have had:fx d nm=gN (if ra d nm=true then(0,d) else fg d nm) fun d'=>cY d' nm (eI nm j):=by unfold fx;rw[hj]
 refine aK 41 Tryz.func15 rfl rfl (Nat.le_of_ble_eq_true rfl) ?_
 intro a hA;replace hA:=hA.norm
 refine wS (wR ?_)
 revert a;refine wo rfl rfl (by decide) (fun ev e h=>by simp[go_sem,h]<;>rfl) ?_;intro a hA
 replace hA:=hA.keepN [0,1]
 refine wN (nT (wS (wS (wR ?_))))
 revert a;(iterate 2 refine wo rfl rfl (by decide) (fun ev e h=>by simp[go_sem,h]<;>rfl) ?_);intro a hA
 replace hA:=hA.keepN [0,1,9]
 refine wN (nT ?_)
 refine aH hA 9 _ rfl (fun hq=> ?yA) (fun hq=> ?nA)
 case yA=>cases hq
 case nA=>
  refine wp_skip (nT (wS (wR ?_)))
  revert a;refine wo rfl rfl (by decide) (fun ev e h=>by simp[go_sem,h]<;>rfl) ?_;intro a hA
  refine aC hA rfl rfl (by decide) (fun ev h=>aB Tryz.func42 (by kernel_rfl) rfl (h.f _) (by first|(simp only[mL,h.get 10 rfl,h.c]<;>rfl)|(simp[mL,h.get 10 rfl,h.c]<;>rfl))) (h.names (by omega)) ?_
  rintro e w1 ⟨A,c,rfl,hrn,hb1⟩
  refine⟨_,rfl,fun a hA=> ?_⟩
  revert a;refine wo rfl rfl (by decide) (fun ev e h=>by simp[go_sem,h]<;>rfl) ?_;intro a hA
  replace hA:=hA.keepN [0,1,5]
  refine wN (nT (wS (wR ?_)))
  revert a;refine wo rfl rfl (by decide) (fun ev e h=>by simp[go_sem,h]<;>rfl) ?_;intro a hA
  replace hA:=hA.keepN [0,1,5,6]
  refine wN (nT (wS (wB ?_)))
  refine aQ (fun f a wx=>∃k:Nat,k+f=j∧Below w1.heap.size w1 wx∧At 41 [(0, .pointer (some ⟨p,0,none⟩)),(1, .string (St nm)),(5, .slice A d.files.length c),(6, .int .i64 (k:Nat))] a) (j) ?_ ?_
  ·exact⟨0,by omega,Below.refl _ _,hA⟩
  clear hA
  rintro f a wx ⟨k,hkf,HB,hA⟩
  have hdl:=BF 6 k (by omega)
  have HBw:=hb1.trans (HB.mono hb1.size)
  refine wS (wS (wR ?_))
  revert a;(iterate 2 refine wo rfl rfl (by decide) (fun ev e h=>by simp[go_sem,h]<;>rfl) ?_);intro a hA
  refine aC hA rfl rfl (by decide) (fun ev h=>aB Tryz.func44 (by kernel_rfl) rfl (h.f _) (by first|(simp only[mL,h.get 13 rfl,h.c]<;>rfl)|(simp[mL,h.get 13 rfl,h.c]<;>rfl))) (tN k (by omega) wx (h.below HBw).env) ?_
  rintro e w2 ⟨rfl,hb2⟩
  refine⟨_,rfl,fun a hA=> ?_⟩
  replace HB:=HB.trans (hb2.mono HB.size)
  obtain⟨dg,hdg⟩:∃x,Lib.decDigits k=x:=⟨_,rfl⟩
  rw[hdg] at hA hdl
  have m1:¬9223372036854775807<4+dg.length:=by omega
  have m2:¬9223372036854775807<dg.length+1+1+1+1+1:=by omega
  have m3:¬9223372036854775807<dg.length+1+1+1+1+1+nm.length:=by omega
  revert a;(iterate 4 refine wo rfl rfl (by decide) (fun ev e h=>by simp[go_sem,h,eA,m1,m2,m3]<;>rfl) ?_);intro a hA
  have hbk:98::97::100::46::(dg++46::nm)=eI nm k:=by unfold eI;rw[hdg];simp
  rw[hbk] at hA
  refine aC hA rfl rfl (by decide) (fun ev h=>aB Tryz.func43 (by kernel_rfl) rfl (h.f _) (by first|(simp only[mL,h.get 12 rfl,h.get 18 rfl,h.c]<;>rfl)|(simp[mL,h.get 12 rfl,h.get 18 rfl,h.c,eA,m1,m2,m3]<;>rfl))) (zR A c d.files (eI nm k) _ (by omega) ((hrn.below HB).more HB.size)) ?_
  rintro e w3 ⟨rfl,hb3⟩
  refine⟨_,rfl,fun a hA=> ?_⟩
  replace HB:=HB.trans (hb3.mono HB.size)
  obtain⟨q,hq9⟩:∃q,(aV (eI nm k) d.files).isSome=q:=⟨_,rfl⟩
  rw[hq9] at hA
  replace hA:=hA.keepN [0,1,5,6,19]
  refine wN (nT ?_)
  refine aH hA 19 _ rfl (fun hq2=> ?yB) (fun hq2=> ?nB)
  case yB=>
   have hqt:q=true:=by simpa using hq2
   have hkj:k<j:=by
    rcases Nat.lt_or_ge k j with h9|h9
    ·exact h9
    ·have hkj:k=j:=by omega
     rw[hkj,hno,hqt] at hq9
     cases hq9
   have i3:IntKind.i64.wrap (((k:Nat):Int)+1)=((k+1:Nat):Int):=by rw[IntWalk.i64_in _ (by omega)];omega
   refine wp_skip (nT (wB (wR ?_)))
   revert a;(iterate 3 refine wo rfl rfl (by decide) (fun ev e h=>by simp[go_sem,h,i3]<;>rfl) ?_);intro a hA
   replace hA:=hA.keepN [0,1,5,6]
   refine wN (nB (nT ?_))
   exact⟨f - 1,by omega,k+1,by omega,HB,hA⟩
  case nB=>
   have hqf:q=false:=by simpa using hq2
   have hkj:k=j:=by
    rcases Nat.lt_or_ge k j with h9|h9
    ·have:=hyes k h9
     rw[hqf] at hq9
     rw[hq9] at this
     cases this
    ·omega
   subst hkj
   have HB2:=hb1.trans (HB.mono hb1.size)
   have hD:=h.below HB2
   replace hA:=hA.keepN [0,1,6]
   refine wp_exit (xT (xT (xB (nT (wS (wS (wR ?_)))))))
   revert a;(iterate 2 refine wo rfl rfl (by decide) (fun ev e h=>by simp[go_sem,h]<;>rfl) ?_);intro a hA
   refine aC hA rfl rfl (by decide) (fun ev h=>aB Tryz.func45 (by kernel_rfl) rfl (h.f _) (by first|(simp only[mL,h.get 22 rfl,h.get 23 rfl,h.c]<;>rfl)|(simp[mL,h.get 22 rfl,h.get 23 rfl,h.c]<;>rfl))) (hD.safe nm (by omega)) ?_
   rintro e w4 ⟨rfl,hb4⟩
   refine⟨_,rfl,fun a hA=> ?_⟩
   have hD4:=hD.below hb4
   have HB4:=HB2.trans (hb4.mono HB2.size)
   obtain⟨sf,hsf⟩:∃b,ra d nm=b:=⟨_,rfl⟩
   rw[hsf] at hA had
   have m0:¬9223372036854775807<4+(Lib.decDigits k).length:=by rw[hdg];omega
   revert a;refine wo rfl rfl (by decide) (fun ev e h=>by simp[go_sem,h]<;>rfl) ?_;intro a hA
   replace hA:=hA.keepN [0,1,6,25]
   refine wN (nT ?_)
   refine cd (fun a wx=>∃d2,Dk wx p mb d2 (N+1)∧fx d nm=cY d2 nm (eI nm k)∧bb p mb w wx∧At 41 [(0, .pointer (some ⟨p,0,none⟩)),(1, .string (St nm)),(6, .int .i64 (k:Nat))] a) ?jfT ?jrT
   refine aH hA 25 _ rfl (fun hq3=> ?yC) (fun hq3=> ?nC)
   case yC=>
    have hs0:sf=false:=by simpa using hq3
    rw[hs0,if_neg (by decide)] at had
    refine wS (wR ?_)
    revert a;(iterate 2 refine wo rfl rfl (by decide) (fun ev e h=>by simp[go_sem,h]<;>rfl) ?_);intro a hA
    refine aC hA rfl rfl (by decide) (fun ev h=>aB Tryz.func46 (by kernel_rfl) rfl (h.f _) (by first|(simp only[mL,h.get 26 rfl,h.get 27 rfl,h.c]<;>rfl)|(simp[mL,h.get 26 rfl,h.get 27 rfl,h.c]<;>rfl))) (hD4.sync (by omega) nm (by omega)) ?_
    rintro e w5 ⟨rfl,hD5,hB5⟩
    refine⟨_,rfl,fun a hA=> ?_⟩
    have HB5:=(bb.of_below HB4 (p:=p) (m:=mb)).trans hB5
    obtain⟨r5,hr5⟩:∃x,fg d nm=x:=⟨_,rfl⟩
    obtain⟨e5,d5⟩:=r5
    rw[hr5] at hA hD5 had
    simp only at hD5
    revert a;refine wo rfl rfl (by decide) (fun ev e h=>by simp[go_sem,h]<;>rfl) ?_;intro a hA
    replace hA:=hA.keepN [0,1,6,7]
    refine wN (nT (wS (wR ?_)))
    revert a;(iterate 2 refine wo rfl rfl (by decide) (fun ev e h=>by simp[go_sem,h]<;>rfl) ?_);intro a hA
    replace hA:=hA.keepN [0,1,6,7,30]
    refine wN (nT ?_)
    refine aH hA 30 _ rfl (fun hq4=> ?yD) (fun hq4=> ?nD)
    case yD=>
     have hne:¬e5=0:=by simpa using hq4
     refine wS (wR ?_)
     revert a;(iterate 2 refine wo rfl rfl (by decide) (fun ev e h=>by simp[go_sem,h]<;>rfl) ?_);intro a hA
     replace hA:=hA.keepN [4]
     refine wN (nT (wp_ret (rT ?_)))
     refine ab hA 4 rfl rfl ?_
     rw[had,gn hne]
     exact⟨rfl,hD5.more (by omega),HB5⟩
    case nD=>
     have he0:e5=0:=by simpa using hq4
     replace hA:=hA.keepN [0,1,6]
     refine wp_skip (nT ?_)
     rw[eg he0] at had
     exact⟨d5,hD5,had,HB5,hA⟩
   case nC=>
    have hs0:sf=true:=by simpa using hq3
    rw[hs0,if_pos rfl,eg rfl] at had
    replace hA:=hA.keepN [0,1,6]
    refine wp_skip (nT ?_)
    exact⟨d,hD4.more (by omega),had,bb.of_below HB4,hA⟩
   clear hA
   rintro a wy ⟨d2,hD2,had2,HY,hA⟩
   refine wS (wR ?_)
   revert a;(iterate 3 refine wo rfl rfl (by decide) (fun ev e h=>by simp[go_sem,h]<;>rfl) ?_);intro a hA
   refine aC hA rfl rfl (by decide) (fun ev h=>aB Tryz.func44 (by kernel_rfl) rfl (h.f _) (by first|(simp only[mL,h.get 34 rfl,h.c]<;>rfl)|(simp[mL,h.get 34 rfl,h.c]<;>rfl))) (tN k (by omega) wy hD2.env) ?_
   rintro e w6 ⟨rfl,hb6⟩
   refine⟨_,rfl,fun a hA=> ?_⟩
   rw[hdg] at hA
   revert a;(iterate 4 refine wo rfl rfl (by decide) (fun ev e h=>by simp[go_sem,h,eA,m1,m2,m3]<;>rfl) ?_);intro a hA
   have hbk:98::97::100::46::(dg++46::nm)=eI nm k:=by unfold eI;rw[hdg];simp
   rw[hbk] at hA
   have hbl:(eI nm k).length≤1000000:=by
    unfold eI
    rw[hdg]
    simp only[List.length_append,List.length_cons,List.length_nil]
    omega
   refine aC hA rfl rfl (by decide) (fun ev h=>aB Tryz.func47 (by kernel_rfl) rfl (h.f _) (by first|(simp only[mL,h.get 32 rfl,h.get 33 rfl,h.get 39 rfl,h.c]<;>rfl)|(simp[mL,h.get 32 rfl,h.get 33 rfl,h.get 39 rfl,h.c,eA,m1,m2,m3]<;>rfl))) ((hD2.below hb6).rename (by omega) nm (eI nm k) (by omega) hbl) ?_
   rintro e w7 ⟨rfl,hD7,hB7⟩
   refine⟨_,rfl,fun a hA=> ?_⟩
   revert a;refine wo rfl rfl (by decide) (fun ev e h=>by simp[go_sem,h,eA,m1,m2,m3]<;>rfl) ?_;intro a hA
   replace hA:=hA.keepN [4]
   refine wN (nT (wp_ret ?_))
   refine ab hA 4 rfl rfl ?_
   rw[had2]
   exact⟨rfl,hD7,(HY.trans (bb.of_below hb6)).trans hB7⟩
theorem bb.blk {w w':World} {p mb g:Nat} {T:TypeId} {cs:Array Value} (hb:bb p mb w w') (K:aI w g T cs) (h1:g≠p) (h2:g≠mb):aI w' g T cs:=(hb.block g K.lt h1 h2).trans K
theorem bb.only {w w' w'':World} {p mb g:Nat} (h:bb p mb w w') (hs:dZ g w' w'') (hg:w.heap.size≤g):bb p mb w w'':=
 ⟨hs.os.trans h.os,hs.tape.trans h.tape,hs.output.trans h.output,by rw[hs.size];exact h.size,fun i hi h1 h2=>(hs.block i (by omega)).trans (h.block i hi h1 h2)⟩
theorem FN {w:World} {p mb cap:Nat} {fuse:Int} {lost:Bool} {t:TypeId} (h:aI w p t (iJ mb cap fuse lost)) {ad:Addr} {x:Int} (hc:w.cell? ad=some (.int .u32 x)):ad.block≠p:=by
 intro e
 unfold aI at h
 unfold World.cell? at hc
 rw[e,h] at hc
 simp only[iJ] at hc
 split at hc
 ·cases hc
 ·rcases ho:ad.off with _|_|_|_|n<;>rw[ho] at hc<;>simp at hc
theorem xN {w w':World} {mn k:Nat} {D:DataW Value} (h:w.ownsMap Tryz.prog 9 cZ mn k D) (hb:w'.heap[mn]?=w.heap[mn]?):w'.ownsMap Tryz.prog 9 cZ mn k D:=by
 obtain⟨a,c,hh,r⟩:=h
 exact⟨a,c,hb.trans hh,r⟩
theorem vt {w:World} {g:Nat} {T:TypeId} {cs:Array Value} {ad:Addr} {x:Value} (K:aI w g T cs) (e:ad.block=g) (hc:w.cell? ad=some x):cs[ad.off]?=some x:=by
 unfold World.cell? at hc
 unfold aI at K
 rw[e,K] at hc
 simp only at hc
 split at hc
 ·cases hc
 ·exact hc
def E9 :List Value→Bool
 | .int .u32 _:: .int .i64 _::_=>false
 |_::r=>E9 r
 |[]=>true
theorem BQ :∀{cs:List Value} {i:Nat} {v z:Int},E9 cs=true→cs[i]?=some (.int .u32 v)→cs[i+1]?=some (.int .i64 z)→False
 |[],i,v,z,_,h1,_=>by simp at h1
 |a::r,i,v,z,h,h1,h2=>by
  cases i with
  |zero=>
   simp only[List.getElem?_cons_zero,Option.some.injEq,Nat.zero_add,List.getElem?_cons_succ] at h1 h2
   subst h1
   cases r with
   |nil=>simp at h2
   |cons b r=>
    simp only[List.getElem?_cons_zero,Option.some.injEq] at h2
    subst h2
    cases h
  |succ i=>
   simp only[List.getElem?_cons_succ] at h1 h2
   refine BQ (cs:=r) ?_ h1 h2
   unfold E9 at h
   split at h
   ·cases h
   ·rename_i e
    injection e with e1 e2
    rw[e2];exact h
   ·rename_i e;cases e
section
variable {w w':World} {p mb N:Nat} {d:aN} {M:Type} {s:Sh M}
theorem ac.but {B:Nat} {v:Value} {l:List M} (h:ac s B w v l) (hd:Dk w p mb d N) (hb:bb p mb w w') (hp:p<B) (hm:mb<B):ac s B w' v l:=by
 refine⟨fV h.row fun g hg=> ?_,fun m hm2 q hq=>hd.reads hb (h.octs m hm2 q hq),h.off⟩
 have:=World.ownsRow.lt h.row g hg
 exact hb.block g this.2 (by omega) (by omega)
theorem bu.but {A:Option Addr} {l:List M} (h:bu s w A l) (hd:Dk w p mb d N) (hb:bb p mb w w') (hx:∀x∈l,∃v,(s.f x)[0]?=some (.int .u32 v)):bu s w' A l:=by
 refine⟨⟨h.row.1,fun hn=> ?_⟩,fun m hm q hq=>hd.reads hb (h.octs m hm q hq)⟩
 obtain⟨ad,rfl,hlt,hc⟩:=h.row.2 hn
 cases l with
 |nil=>exact absurd hn (by simp)
 |cons x r=>
  obtain⟨v,hv⟩:=hx x List.mem_cons_self
  have h0:=hc 0 (.int .u32 v) (by
   rw[List.flatMap_cons,List.getElem?_append_left (by rw[s.len];exact s.pos)]
   exact hv)
  obtain⟨es,_,hdd⟩:=hd.disk
  have a1:=FN hdd.cells h0
  have a2:=wj hdd.map h0
  rw[aD] at a1 a2
  refine⟨ad,rfl,Nat.lt_of_lt_of_le hlt hb.size,fun j u hu=> ?_⟩
  have hk:=hb.block ad.block hlt a1 a2
  exact(World.cell?_of_block (by rw[aD];exact hk)).trans (hc j u hu)
theorem bu.only {A:Option Addr} {l:List M} {g:Nat} {T:TypeId} {cs:Array Value} (h:bu s w A l) (hs:dZ g w w') (K:aI w g T cs) (hno:cs.toList.all px=true) (hui:E9 cs.toList=true) (hx:∀x∈l,∃v z,(s.f x)[0]?=some (.int .u32 v)∧(s.f x)[1]?=some (.int .i64 z)):bu s w' A l:=by
 refine⟨⟨h.row.1,fun hn=> ?_⟩,fun m hm q hq=>cG (h.octs m hm q hq) hs K hno⟩
 obtain⟨ad,rfl,hlt,hc⟩:=h.row.2 hn
 cases l with
 |nil=>exact absurd hn (by simp)
 |cons x r=>
  obtain⟨v,z,hv,hz⟩:=hx x List.mem_cons_self
  have hk2:1<(s.f x).length:=(List.getElem?_eq_some_iff.1 hz).1
  have h0:=hc 0 (.int .u32 v) (by
   rw[List.flatMap_cons,List.getElem?_append_left (by omega)]
   exact hv)
  have h1:=hc 1 (.int .i64 z) (by
   rw[List.flatMap_cons,List.getElem?_append_left hk2]
   exact hz)
  have hne:ad.block≠g:=fun e=>by
   have c0:=vt K (by rw[aD];exact e) h0
   have c1:=vt K (by rw[aD];exact e) h1
   rw[←Array.getElem?_toList] at c0 c1
   exact BQ (i:=(ad.add 0).off) hui c0 (by
    have e2:(ad.add 0).off+1=(ad.add 1).off:=by unfold Addr.add;simp
    rw[e2]
    exact c1)
  refine⟨ad,rfl,by rw[hs.size];exact hlt,fun j u hu=> ?_⟩
  have hk:=hs.block ad.block hne
  exact(World.cell?_of_block (by rw[aD];exact hk)).trans (hc j u hu)
theorem iR.only {V:Value} {l:dW} {g:Nat} {T:TypeId} {cs:Array Value} (h:iR w V l) (hs:dZ g w w') (K:aI w g T cs) (hno:cs.toList.all px=true) (hui:E9 cs.toList=true):iR w' V l:=by
 obtain⟨A,c,L,e,hr,hl⟩:=h.ex
 exact⟨⟨A,c,L,e,hr.only hs K hno hui (fun _ _=>⟨_,_,rfl,rfl⟩),hl⟩,h.few,h.ep,h.nx,h.each,h.nm⟩
theorem Dk.only {g:Nat} {T:TypeId} {cs:Array Value} (h:Dk w p mb d N) (hs:dZ g w w') (K:aI w g T cs) (hno:cs.toList.all px=true) (h1:p<g) (h2:mb<g):Dk w' p mb d N:=by
 refine⟨?_,h.wf,h.few, ?_⟩
 ·obtain⟨es,hfi,hd⟩:=h.disk
  refine⟨es,hfi,hs.blk hd.cells (by omega),xN hd.map (hs.block mb (by omega)),hd.up,fun x hx=>⟨cG (hd.bytes x hx).1 hs K hno,(hd.bytes x hx).2⟩⟩
 ·obtain⟨W0,e0,b0,l1,l2⟩:=h.ctx
  exact⟨W0,e0,hs.below b0 (by omega),l1,l2⟩
theorem iR.but {V:Value} {l:dW} (h:iR w V l) (hd:Dk w p mb d N) (hb:bb p mb w w'):iR w' V l:=by
 obtain⟨A,c,L,e,hr,hl⟩:=h.ex
 exact⟨⟨A,c,L,e,hr.but hd hb (fun _ _=>⟨_,rfl⟩),hl⟩,h.few,h.ep,h.nx,h.each,h.nm⟩
end
theorem gj (kind:ae) (hk:kind.length≤1000) (n:Nat) (hn:n<100) (w:World):Calls Tryz.prog 25 #[.string (St kind), .int .i64 (n:Nat)] w fun ev w'=>ev= .returned (.string (St (aR kind n)))∧Below w.heap.size w w':=by
 have hdl:=il hn
 obtain⟨dg,hdg⟩:∃x,Lib.decDigits n=x:=⟨_,rfl⟩
 have ka:=eA kind [46]
 have kb:=eA (kind++[46]) dg
 have kz:¬9223372036854775807<kind.length+1:=by omega
 rw[hdg] at hdl
 have kz2:¬9223372036854775807<kind.length+1+dg.length:=by omega
 refine aK 10 Tryz.func25 rfl rfl (Nat.le_of_ble_eq_true rfl) ?_
 intro a hA;replace hA:=hA.norm
 refine wS (wR ?_)
 revert a;refine wo rfl rfl (by decide) (fun ev e h=>by simp[go_sem,h,ka,kz]<;>rfl) ?_;intro a hA
 replace hA:=hA.keepN [0,1]
 refine wN (nT (wS (wR ?_)))
 revert a;(iterate 3 refine wo rfl rfl (by decide) (fun ev e h=>by simp[go_sem,h,ka,kz]<;>rfl) ?_);intro a hA
 refine aC hA rfl rfl (by decide) (fun ev h=>aB Tryz.func44 (by kernel_rfl) rfl (h.f _) (by first|(simp only[mL,h.get 7 rfl,h.c]<;>rfl)|(simp[mL,h.get 7 rfl,h.c,ka,kz]<;>rfl))) (tO n hn w) ?_
 rintro e w1 ⟨rfl,hb1⟩
 refine⟨_,rfl,fun a hA=> ?_⟩
 rw[hdg] at hA
 revert a;(iterate 2 refine wo rfl rfl (by decide) (fun ev e h=>by simp[go_sem,h,kb,kz2]<;>rfl) ?_);intro a hA
 replace hA:=hA.keepN [4]
 refine wN (nT (wp_ret ?_))
 refine ab hA 4 rfl rfl ?_
 exact⟨by unfold aR;rw[hdg];simp,hb1⟩
theorem GA (q p:aM) (w:World):
 Calls Tryz.prog 63 #[.agg #[.int .u32 (q.1:Nat), .int .i64 q.2], .agg #[.int .u32 (p.1:Nat), .int .i64 p.2]] w fun ev w'=>ev= .returned (.bool (q.1==p.1))∧Below w.heap.size w w':=by
 refine aK 10 Tryz.func63 rfl rfl (Nat.le_of_ble_eq_true rfl) ?_
 intro a hA;replace hA:=hA.norm
 refine wS (wR ?_)
 refine aP hA rfl rfl (by decide) (fun ev h=>by simp[go_sem,h.get 0 rfl];try first|exact⟨rfl,rfl⟩|rfl) fun w1 a (K1:aI _ _ _ _) hz0 hb0 hA=> ?_
 refine aP hA rfl rfl (by decide) (fun ev h=>by simp[go_sem,h.get 1 rfl];try first|exact⟨rfl,rfl⟩|rfl) fun w2 a (K2:aI _ _ _ _) hz2 hb2 hA=> ?_
 replace K1:=K1.below hb2 K1.lt
 revert a;refine wo rfl rfl (by decide) (fun ev e h=>by simp[go_sem,h,K1.cell,K2.cell]<;>rfl) ?_;intro a hA
 replace hA:=hA.keepN [2,3]
 refine wN (nT (wS (wR ?_)))
 revert a;(iterate 6 refine wo rfl rfl (by decide) (fun ev e h=>by simp[go_sem,h,K1.cell,K2.cell]<;>rfl) ?_);intro a hA
 replace hA:=hA.keepN [4]
 refine wN (nT (wp_ret ?_))
 refine ab hA 4 rfl rfl ?_
 exact⟨bH (gG _ _),hb0.trans (hb2.mono hb0.size)⟩
theorem Fi (A A2:Option Addr) (c c2:Nat) (l l2:List aM) (w:World) (hn:l.length≤140737488355328) (hr:bu ml w A l) (hr2:bu ml w A2 l2):
 Calls Tryz.prog 62 #[.slice A l.length c, .slice A2 l2.length c2, .func (.func 63) #[] #[]] w fun ev w'=>ev= .returned (.bool (gR l l2))∧Below w.heap.size w w':=by
 obtain⟨n,hl⟩:∃n,l.length=n:=⟨_,rfl⟩
 obtain⟨n2,hl2⟩:∃n,l2.length=n:=⟨_,rfl⟩
 rw[hl] at hn ⊢
 rw[hl2]
 have HB:=Below.refl w.heap.size w
 refine aK 32 Tryz.func62 rfl rfl (Nat.le_of_ble_eq_true rfl) ?_
 intro a hA;replace hA:=hA.norm
 refine wS (wR ?_)
 revert a;refine wo rfl rfl (by decide) (fun ev e h=>by simp[go_sem,h]<;>rfl) ?_;intro a hA
 replace hA:=hA.keepN [0,1,2]
 refine wN (nT (wS (wS (wR ?_))))
 revert a;(iterate 5 refine wo rfl rfl (by decide) (fun ev e h=>by simp[go_sem,h]<;>rfl) ?_);intro a hA
 replace hA:=hA.keepN [0,1,2,14]
 refine wN (nT ?_)
 refine aH hA 14 _ rfl (fun hq0=> ?yE) (fun hq0=> ?nE)
 case yE=>
  have hne:¬n=n2:=by simp at hq0;omega
  refine wS (wR ?_)
  revert a;refine wo rfl rfl (by decide) (fun ev e h=>by simp[go_sem,h]<;>rfl) ?_;intro a hA
  replace hA:=hA.keepN [6]
  refine wN (nT (wp_ret (rT ?_)))
  refine ab hA 6 rfl rfl ?_
  exact⟨bH (tl (by omega)).symm,HB⟩
 case nE=>
  obtain rfl:n=n2:=by simp at hq0;omega
  refine wp_skip (nT (wS (wS (wR ?_))))
  revert a;(iterate 3 refine wo rfl rfl (by decide) (fun ev e h=>by simp[go_sem,h]<;>rfl) ?_);intro a hA
  replace hA:=hA.keepN [1,2,15,16,17]
  refine wN (nT (wB ?_))
  refine aQ (fun k a wx=>∃(j:Nat),j+k=n∧At 32 [(1, .slice A2 n c2),(2, .func (.func 63) #[] #[]),(15, .slice A n c),(16, .int .i64 (n:Nat)),(17, .int .i64 (j:Nat))] a∧gR l l2=gR (l.drop j) (l2.drop j)∧Below w.heap.size w wx) (n) ?_ ?_
  ·exact⟨0,by omega,hA,rfl,HB⟩
  clear HB
  rintro k a wx ⟨j,hjk,hA,hall,HB⟩
  refine wS (wR ?_)
  revert a;refine wo rfl rfl (by decide) (fun ev e h=>by simp[go_sem,h]<;>rfl) ?_;intro a hA
  replace hA:=hA.keepN [1,2,15,16,17,18]
  refine wN (nT (wS ?_))
  refine aH hA 18 _ rfl (fun hq=> ?yL) (fun hq=> ?nL)
  case yL=>
   have hlt:j<n:=by simp at hq;omega
   obtain⟨x,hx⟩:∃x,l[j]?=some x:=⟨_,List.getElem?_eq_getElem (by omega)⟩
   obtain⟨y,hy⟩:∃y,l2[j]?=some y:=⟨_,List.getElem?_eq_getElem (by omega)⟩
   rw[xr hx hy] at hall
   obtain⟨ad,rfl,hadl,k0,k1⟩:=(hr.below HB).cell hx
   have z0:wx.cell? (ad.add (j*2))=some (.int .u32 (x.1:Nat)):=k0 _ rfl
   have z1:wx.cell? ⟨(ad.add (j*2)).block,(ad.add (j*2)).off+1,none⟩=some (.int .i64 x.2):=k1 1 _ (by decide) rfl
   have jj0:(0:Int)≤(j:Int):=by omega
   have jj1:(j:Int)<(n:Int):=by omega
   have hwj:IntKind.i64.wrap ((j:Int)+1)=(j:Int)+1:=IntWalk.i64_in _ (by omega)
   refine wp_skip (nT (wS (wB (wS (wR ?_)))))
   revert a;(iterate 3 refine wo rfl rfl (by decide) (fun ev e h=>by simp[go_sem,h,z0,z1,jj0,jj1,hwj,hlt]<;>rfl) ?_);intro a hA
   have hw0:=HB.size
   refine aP hA rfl rfl (by decide) (fun ev h=>by simp[go_sem,z0,z1,jj0,jj1,hwj,hlt];try first|exact⟨rfl,rfl⟩|rfl) fun w5 a (Kz:aI _ _ _ _) hz5 hb5 hA=> ?_
   replace HB:=HB.trans (hb5.mono HB.size)
   revert a;refine wo rfl rfl (by decide) (fun ev e h=>by simp[go_sem,h,z0,z1,jj0,jj1,hwj,hlt]<;>rfl) ?_;intro a hA
   refine bX [.int .u32 (x.1:Nat), .int .i64 x.2] hA rfl rfl Kz (by rfl) (fun ev h=>by simp[go_sem,h.get 8 rfl,h.get 21 rfl,z0,z1,jj0,jj1,hwj,hlt,setAll,Kz.cell,Kz.frozen]) fun w6 (Kz:aI _ _ _ _) hs6=> ?_
   have HB6:=hs6.below HB hw0
   obtain⟨ad2,rfl,hadl2,l0,l1⟩:=(hr2.below HB6).cell hy
   have y0:w6.cell? (ad2.add (j*2))=some (.int .u32 (y.1:Nat)):=l0 _ rfl
   have y1:w6.cell? ⟨(ad2.add (j*2)).block,(ad2.add (j*2)).off+1,none⟩=some (.int .i64 y.2):=l1 1 _ (by decide) rfl
   replace hA:=hA.keepN [1,2,7,8,15,16,17]
   refine wN (nT (wS (wR ?_)))
   revert a;(iterate 4 refine wo rfl rfl (by decide) (fun ev e h=>by simp[go_sem,h,y0,y1,jj0,jj1,hlt]<;>rfl) ?_);intro a hA
   refine ap [.int .u32 (y.1:Nat), .int .i64 y.2] hA rfl rfl (by decide) (fun ev h=>by simp[go_sem,y0,y1,jj0,jj1,hlt];try first|exact⟨rfl,rfl⟩|rfl) rfl rfl (by rfl) (fun w1 g ev hb h=>by simp[go_sem,h.get 9 rfl,h.get 25 rfl,y0,y1,jj0,jj1,hlt,setAll,hb.cell,hb.frozen]) fun w7 a (Ky:aI _ _ _ _) hz7 hb7 hA=> ?_
   replace HB6:=HB6.trans (hb7.mono HB6.size)
   replace Kz:=Kz.below hb7 Kz.lt
   replace hA:=hA.keepN [1,2,8,9,15,16,17]
   refine wN (nT (wS (wR ?_)))
   revert a;(iterate 3 refine wo rfl rfl (by decide) (fun ev e h=>by simp[go_sem,h,Kz.cell,Ky.cell,hwj]<;>rfl) ?_);intro a hA
   refine aC hA rfl rfl (by decide) (fun ev h=>by simp[go_sem,h.get 26 rfl,h.get 27 rfl,h.get 28 rfl,Kz.cell,Ky.cell,hwj];try first|exact⟨rfl,rfl⟩|rfl) (GA x y _) ?_
   rintro e w8 ⟨rfl,hb8⟩
   refine⟨_,rfl,fun a hA=> ?_⟩
   replace HB6:=HB6.trans (hb8.mono HB6.size)
   revert a;refine wo rfl rfl (by decide) (fun ev e h=>by simp[go_sem,h,Kz.cell,Ky.cell,hwj]<;>rfl) ?_;intro a hA
   replace hA:=hA.keepN [1,2,15,16,17,30]
   refine wN (nT ?_)
   refine aH hA 30 _ rfl (fun hq2=> ?yR) (fun hq2=> ?nR)
   case yR=>
    have hq2:(x.1==y.1)=false:=by simpa using hq2
    rw[hq2,Bool.false_and] at hall
    refine wS (wR ?_)
    revert a;refine wo rfl rfl (by decide) (fun ev e h=>by simp[go_sem,h,Kz.cell,Ky.cell,hwj]<;>rfl) ?_;intro a hA
    replace hA:=hA.keepN [6]
    refine wN (nT (wp_ret (rB (rT (rT (rB (rT ?_)))))))
    refine ab hA 6 rfl rfl ?_
    exact⟨by rw[hall],HB6⟩
   case nR=>
    have hq2:(x.1==y.1)=true:=by simpa using hq2
    rw[hq2,Bool.true_and] at hall
    refine wp_skip (nB (nT (wR ?_)))
    revert a;(iterate 2 refine wo rfl rfl (by decide) (fun ev e h=>by simp[go_sem,h,hwj]<;>rfl) ?_);intro a hA
    replace hA:=hA.keepN [1,2,15,16,17]
    refine wN (nT ?_)
    rw[show((j:Int)+1)=((j+1:Nat):Int) by omega] at hA
    exact⟨k - 1,by omega,j+1,by omega,hA,hall,HB6⟩
  case nL=>
   have hjn:j=n:=by simp at hq;omega
   subst hjn
   rw[List.drop_of_length_le (by omega),List.drop_of_length_le (by omega)] at hall
   replace hA:=hA.keepN []
   refine wp_exit (xT (xT (xB (nT (wS (wR ?_))))))
   revert a;refine wo rfl rfl (by decide) (fun ev e h=>by simp[go_sem,h]<;>rfl) ?_;intro a hA
   replace hA:=hA.keepN [6]
   refine wN (nT (wp_ret ?_))
   refine ab hA 6 rfl rfl ?_
   exact⟨by rw[hall];rfl,HB⟩
theorem Cq {w:World} {p mb N:Nat} {d:aN} {V:Value} {l:dW} (h:Dk w p mb d N) (hN:N<800000) (n:Nat) (hn:n<100) (hV:iR w V l) (wh:Bool):
 Calls Tryz.prog 27 #[.pointer (some ⟨p,0,none⟩), .int .i64 (n:Nat),V, .bool wh] w fun ev w'=>∃A c ms,ev= .returned (.tuple #[.slice A ms.length c, .int .i64 (dw d n l wh).1])∧ms=(if(dw d n l wh).1=0 then iM d n l else[])∧bu ml w' A ms∧Dk w' p mb (dw d n l wh).2 (N+4)∧bb p mb w w':=by
 have hwf:=h.wf
 have hlt:=h.lt
 have hV0:=hV
 obtain⟨A,c,L,rfl,hrL,hlv⟩:=hV.ex
 obtain⟨b1,b2,b3,b4,b5,b6,b7⟩:=uX hV0.few hV0.ep hV0.nx fun y hy=>(hV0.each y hy).2.2
 have hof0:=fun w9 (hb9:Below w.heap.size w w9)=>uh (hV0.below hb9)
 obtain⟨cl,hcl⟩:∃b,al l.s=b:=⟨_,rfl⟩
 obtain⟨tn,htn⟩:∃t,l.torn=t:=⟨_,rfl⟩
 obtain⟨ep,hep⟩:∃t,l.s.ep=t:=⟨_,rfl⟩
 rw[hcl,htn,hep] at hof0
 rw[hcl,htn,hep]
 refine aK 124 Tryz.func27 rfl rfl (Nat.le_of_ble_eq_true rfl) ?_
 intro a hA;replace hA:=hA.norm
 refine wS (wR ?_)
 refine aP hA rfl rfl (by decide) (fun ev h=>by simp[go_sem,h.get 2 rfl];try first|exact⟨rfl,rfl⟩|rfl) fun w1 a (K1:aI _ _ _ _) hz1 hb1 hA=> ?_
 have HB:=hb1
 revert a;(iterate 2 refine wo rfl rfl (by decide) (fun ev e h=>by simp[go_sem,h]<;>rfl) ?_);intro a hA
 replace hA:=hA.keepN [0,1,3,6]
 refine wN (nT (wS (wR ?_)))
 revert a;(iterate 2 refine wo rfl rfl (by decide) (fun ev e h=>by simp[go_sem,h]<;>rfl) ?_);intro a hA
 refine aC hA rfl rfl (by decide) (fun ev h=>aB Tryz.func25 (by kernel_rfl) rfl (h.f _) (by first|(simp only[mL,h.get 25 rfl,h.c]<;>rfl)|(simp[mL,h.get 25 rfl,h.c]<;>rfl))) (gj cV (by decide) n hn _) ?_
 rintro e w2 ⟨rfl,hb2⟩
 refine⟨_,rfl,fun a hA=> ?_⟩
 replace K1:=K1.below hb2 K1.lt
 replace HB:=HB.trans (hb2.mono HB.size)
 refine aC hA rfl rfl (by decide) (fun ev h=>aB Tryz.func24 (by kernel_rfl) rfl (h.f _) (by first|(simp only[mL,h.get 24 rfl,h.get 26 rfl,h.c]<;>rfl)|(simp[mL,h.get 24 rfl,h.get 26 rfl,h.c]<;>rfl))) ((h.below HB).read (aR cV n) (cI (by decide) hn)) ?_
 rintro e w3 ⟨Ag,cg,rfl,hrg,hcg,hb3⟩
 refine⟨_,rfl,fun a hA=> ?_⟩
 replace K1:=K1.below hb3 K1.lt
 replace HB:=HB.trans (hb3.mono HB.size)
 have hglen:=jv hwf (aR cV n)
 obtain⟨gl,hgl⟩:∃x,(bv d (aR cV n)).1=x:=⟨_,rfl⟩
 obtain⟨ge,hge⟩:∃x,(bv d (aR cV n)).2=x:=⟨_,rfl⟩
 have hfg:cJ d n=bC gl:=by show bC (bv d (aR cV n)).1=_;rw[hgl]
 have hfge:(ay d cV n).2=ge:=hge
 rw[hgl] at hA hrg hcg hglen
 rw[hge] at hA
 revert a;(iterate 5 refine wo rfl rfl (by decide) (fun ev e h=>by simp[go_sem,h]<;>rfl) ?_);intro a hA
 replace hA:=hA.keepN [0,1,3,6,10,11]
 refine wN (nT (wS (wR ?_)))
 revert a;refine wo rfl rfl (by decide) (fun ev e h=>by simp[go_sem,h]<;>rfl) ?_;intro a hA
 refine aC hA rfl rfl (by decide) (fun ev h=>aB Tryz.func35 (by kernel_rfl) rfl (h.f _) (by first|(simp only[mL,h.get 31 rfl,h.c]<;>rfl)|(simp[mL,h.get 31 rfl,h.c]<;>rfl))) (nj Ag cg gl.length gl _ rfl (by omega) hcg hrg) ?_
 rintro e w4 ⟨rg,rfl,horg,hb4⟩
 refine⟨_,rfl,fun a hA=> ?_⟩
 replace K1:=K1.below hb4 K1.lt
 replace HB:=HB.trans (hb4.mono HB.size)
 obtain⟨G,hG⟩:∃G,b8 (bC gl)=G:=⟨_,rfl⟩
 obtain⟨fe,hfe9⟩:∃x,jT (bC gl)=x:=⟨_,rfl⟩
 have hGlen:G.2.length≤500:=by rw[←hG];exact sz gl
 rw[hG,hfe9] at hA
 rw[hG] at horg
 have hoG:ac ml w3.heap.size w4 rg G.2:=⟨horg,fun _ _ p hp=>(by cases hp),fun _ _ _ _ p hp=>(by cases hp)⟩
 obtain⟨Ar,cr,rfl, -, -⟩:=hoG.reads
 obtain⟨ng,hng⟩:∃n,G.2.length=n:=⟨_,rfl⟩
 rw[hng] at hA hoG
 revert a;(iterate 3 refine wo rfl rfl (by decide) (fun ev e h=>by simp[go_sem,h]<;>rfl) ?_);intro a hA
 refine ap [.int .u32 (G.1:Nat), .slice Ar ng cr] hA rfl rfl (by decide) (fun ev h=>by simp[go_sem];try first|exact⟨rfl,rfl⟩|rfl) rfl rfl (by rfl) (fun w1 g ev hb h=>by simp[go_sem,h.get 12 rfl,h.get 33 rfl,setAll,hb.cell,hb.frozen]) fun w5 a (K5:aI _ _ _ _) hz5 hb5 hA=> ?_
 replace K1:=K1.below hb5 K1.lt
 replace hoG:=hoG.below hb5
 replace HB:=HB.trans (hb5.mono HB.size)
 revert a;refine wo rfl rfl (by decide) (fun ev e h=>by simp[go_sem,h,K1.cell]<;>rfl) ?_;intro a hA
 replace hA:=hA.keepN [0,1,3,6,11,12,13]
 refine wN (nT (wS (wR ?_)))
 revert a;refine wo rfl rfl (by decide) (fun ev e h=>by simp[go_sem,h,K1.cell]<;>rfl) ?_;intro a hA
 refine aC hA rfl rfl (by decide) (fun ev h=>aB Tryz.func33 (by kernel_rfl) rfl (h.f _) (by first|(simp only[mL,h.get 36 rfl,h.c]<;>rfl)|(simp[mL,h.get 36 rfl,h.c,K1.cell]<;>rfl))) (hof0 _ HB) ?_
 rintro e w6 ⟨v,u,rfl,hov,hou,hb6⟩
 refine⟨_,rfl,fun a hA=> ?_⟩
 replace K1:=K1.below hb6 K1.lt
 replace K5:=K5.below hb6 K5.lt
 replace hoG:=hoG.below hb6
 replace HB:=HB.trans (hb6.mono HB.size)
 revert a;(iterate 3 refine wo rfl rfl (by decide) (fun ev e h=>by simp[go_sem,h,K1.cell]<;>rfl) ?_);intro a hA
 refine aP hA rfl rfl (by decide) (fun ev h=>by simp[go_sem,K1.cell];try first|exact⟨rfl,rfl⟩|rfl) fun w7 a (K7:aI _ _ _ _) hz7 hb7 hA=> ?_
 refine aP hA rfl rfl (by decide) (fun ev h=>by simp[go_sem,K1.cell];try first|exact⟨rfl,rfl⟩|rfl) fun w8 a (K8:aI _ _ _ _) hz8 hb8 hA=> ?_
 replace K7:=K7.below hb8 K7.lt
 have hb78:=hb7.trans (hb8.mono hb7.size)
 have hxnm:(dQ l).nm.size≤60:=by
  unfold dQ
  cases iy (al l.s) l.s.nm with
  |true=>exact Nat.zero_le _
  |false=>exact hV0.nm
 replace hov:=hov.below hb78
 replace hou:=hou.below hb78
 replace hoG:=hoG.below hb78
 replace K1:=K1.below hb78 K1.lt
 replace K5:=K5.below hb78 K5.lt
 replace HB:=HB.trans (hb78.mono HB.size)
 obtain⟨Av,cv,rfl, -, -⟩:=hov.reads
 obtain⟨Au,cu,rfl, -, -⟩:=hou.reads
 obtain⟨X,hX⟩:∃X,dQ l=X:=⟨_,rfl⟩
 obtain⟨F,hF⟩:∃F,gZ l=F:=⟨_,rfl⟩
 rw[hX] at hov hxnm b1 b2 b3 b4 hA
 rw[hF] at hou b6 hA
 obtain⟨nx9,hnx⟩:∃n,X.l.length=n:=⟨_,rfl⟩
 rw[hnx] at hA hov
 obtain⟨nf9,hnf9⟩:∃n,F.2.length=n:=⟨_,rfl⟩
 rw[hnf9] at hA hou
 have s1:=hb1.size
 have s2:=hb2.size
 have s3:=hb3.size
 have s4:=hb4.size
 have s5:=hb5.size
 have s6:=hb6.size
 have K70:=K7
 refine bX [.string X.nm, .int .u32 (X.e:Nat), .int .u32 (X.nx:Nat), .int .i64 X.u, .slice Av nx9 cv] hA rfl rfl K7 (by rfl) (fun ev h=>by simp[go_sem,h.get 14 rfl,h.get 38 rfl,K1.cell,setAll,K7.cell,K7.frozen]) fun w9 (K7:aI _ _ _ _) hs9=> ?_
 replace hov:=hov.onlyK hs9 K70 (by decide) rfl
 replace hou:=hou.onlyK hs9 K70 (by decide) rfl
 replace hoG:=hoG.onlyK hs9 K70 (by decide) rfl
 replace K8:=hs9.blk K8 (by omega)
 replace K1:=hs9.blk K1 (by omega)
 replace K5:=hs9.blk K5 (by omega)
 replace HB:=hs9.below HB (by omega)
 have K80:=K8
 refine bX [.int .u32 (F.1:Nat), .slice Au nf9 cu] hA rfl rfl K8 (by rfl) (fun ev h=>by simp[go_sem,h.get 15 rfl,h.get 39 rfl,K1.cell,setAll,K8.cell,K8.frozen]) fun w10 (K8:aI _ _ _ _) hs10=> ?_
 replace hov:=hov.onlyK hs10 K80 (by decide) rfl
 replace hou:=hou.onlyK hs10 K80 (by decide) rfl
 replace hoG:=hoG.onlyK hs10 K80 (by decide) rfl
 replace K7:=hs10.blk K7 (by omega)
 replace K1:=hs10.blk K1 (by omega)
 replace K5:=hs10.blk K5 (by omega)
 replace HB:=hs10.below HB (by omega)
 have hrv:bu CA w10 Av X.l:=by
  obtain⟨A9,c9,e9,hr9, -⟩:=hov.reads
  injection e9 with e1 e2 e3
  rw[e1]
  exact hr9
 have hru:bu ml w10 Au F.2:=by
  obtain⟨A9,c9,e9,hr9, -⟩:=hou.reads
  injection e9 with e1 e2 e3
  rw[e1]
  exact hr9
 have hrG:bu ml w10 Ar G.2:=by
  obtain⟨A9,c9,e9,hr9, -⟩:=hoG.reads
  injection e9 with e1 e2 e3
  rw[e1]
  exact hr9
 replace hA:=hA.keepN [0,1,3,6,11,12,13,14,15]
 refine wN (nT (wS (wR ?_)))
 revert a;(iterate 3 refine wo rfl rfl (by decide) (fun ev e h=>by simp[go_sem,h,K5.cell,K1.cell,K8.cell]<;>rfl) ?_);(iterate 5 refine wg _ rfl rfl rfl rfl (by decide) (fun hq ev e h=>by simp[go_sem,h,↓aL (aF hq),K5.cell,K1.cell,K8.cell]<;>rfl) ?_);refine j9 rfl rfl (by decide) rfl rfl rfl ?_;refine wo rfl rfl (by decide) (fun ev e h=>by simp[go_sem,h,K5.cell,K1.cell,K8.cell]<;>rfl) ?_;intro a hA
 replace hA:=hA.keepN [0,1,3,6,11,12,13,14,15,49]
 revert a;(iterate 4 refine wg _ rfl rfl rfl rfl (by decide) (fun hq ev e h=>by simp[go_sem,h,↓aL (aF hq),K5.cell,K1.cell,K8.cell]<;>rfl) ?_);intro a hA
 have hem:=Fi Ar Au cr cu G.2 F.2 w10 (by omega) hrG hru
 rw[hng,hnf9] at hem
 refine dK _ hA rfl rfl rfl rfl (by decide) (fun hq ev h=>aB Tryz.func62 (by kernel_rfl) rfl (h.f _) (by first|(simp only[mL,((h.get 51 rfl).trans (aL (aF hq))),((h.get 53 rfl).trans (aL (aF hq))),h.c,h.f]<;>rfl)|(simp[mL,((h.get 51 rfl).trans (aL (aF hq))),((h.get 53 rfl).trans (aL (aF hq))),h.c,h.f,K5.cell,K1.cell,K8.cell]<;>rfl))) (fun hq=>hem) fun a w11 hb11 hA=> ?_
 replace K1:=K1.below hb11 K1.lt
 replace K5:=K5.below hb11 K5.lt
 replace K7:=K7.below hb11 K7.lt
 replace hrv:=hrv.below hb11
 replace hrG:=hrG.below hb11
 replace HB:=HB.trans (hb11.mono HB.size)
 obtain⟨ft,hft⟩:∃b,(fe==0&&(G.1==ep)&&gR G.2 F.2)=b:=⟨_,rfl⟩
 have hfit:BI d n l=ft:=by
  unfold BI
  rw[hfg,hfe9,hG,hep,hF]
  exact hft
 obtain⟨k1,hk1⟩:∃k,w.heap.size=k:=⟨_,rfl⟩
 have D11:=h.below HB
 have p1:oF d n l wh=if(ge==0&& !(ft&&wh))=true then fx d (aR cV n) else(0,d):=by unfold oF;rw[hfge,hfit]
 revert a;refine j9 rfl rfl (by decide) rfl rfl rfl ?_;refine wo rfl rfl (by decide) (fun ev e h=>by simp[go_sem,h,K5.cell,K1.cell,K8.cell]<;>rfl) ?_;intro a hA
 replace hA:=hA.keepN [0,1,3,6,11,12,13,14,16]
 refine wN (nT (wS (wS (wR ?_))))
 revert a;(iterate 3 refine wo rfl rfl (by decide) (fun ev e h=>by simp[go_sem,h,K5.cell,K1.cell,K8.cell]<;>rfl) ?_);(iterate 3 refine wg _ rfl rfl rfl rfl (by decide) (fun hq ev e h=>by simp[go_sem,h,↓aL (aF hq),K5.cell,K1.cell,K8.cell]<;>rfl) ?_);(iterate 2 refine IC _ _ rfl rfl rfl rfl (by decide) (fun hq hr ev e h=>by simp[go_sem,h,↓aL (ax hq hr),↓aL hq,K5.cell,K1.cell,K8.cell]<;>rfl) ?_);intro a hA
 refine az _ hA rfl rfl rfl rfl (by decide) (fun hq ev h=>by exact gz rfl (((h.get 61 rfl).trans (aL (aF hq)))) (h.c _) (((h.get 63 rfl).trans (wM (aF hq))))) fun a hA=> ?_
 revert a;refine j9 rfl rfl (by decide) rfl rfl rfl ?_;intro a hA
 replace hA:=hA.keepN [0,1,3,6,12,13,14,65]
 refine wN (nT ?_)
 refine cd (fun a wx=>∃d1,Dk wx p mb d1 (N+2)∧oF d n l wh=(0,d1)∧bb p mb w11 wx∧At 124 [(0, .pointer (some ⟨p,0,none⟩)),(1, .int .i64 (n:Nat)),(3, .bool wh),(6, .pointer (some ⟨w.heap.size,0,none⟩)),(12, .pointer (some ⟨w4.heap.size,0,none⟩)),(13, .int .i64 fe),(14, .pointer (some ⟨w6.heap.size,0,none⟩))] a) ?jfT ?jrT
 refine aH hA 65 _ rfl (fun hq0=> ?yA) (fun hq0=> ?nA)
 case yA=>
  have hc:(ge==0&& !(ft&&wh))=true:=by
   rw[gG] at hq0
   rw[←hft]
   revert hq0
   cases ge==0<;>cases fe==0<;>cases G.1==ep<;>cases gR G.2 F.2<;>cases wh<;>simp
  rw[if_pos hc] at p1
  refine wS (wR ?_)
  revert a;(iterate 2 refine wo rfl rfl (by decide) (fun ev e h=>by simp[go_sem,h,K5.cell,K1.cell,K8.cell]<;>rfl) ?_);intro a hA
  refine aC hA rfl rfl (by decide) (fun ev h=>aB Tryz.func25 (by kernel_rfl) rfl (h.f _) (by first|(simp only[mL,h.get 67 rfl,h.c]<;>rfl)|(simp[mL,h.get 67 rfl,h.c,K5.cell,K1.cell,K8.cell]<;>rfl))) (gj cV (by decide) n hn _) ?_
  rintro e w12 ⟨rfl,hb12⟩
  refine⟨_,rfl,fun a hA=> ?_⟩
  have D12:=D11.below hb12
  refine aC hA rfl rfl (by decide) (fun ev h=>aB Tryz.func15 (by kernel_rfl) rfl (h.f _) (by first|(simp only[mL,h.get 66 rfl,h.get 68 rfl,h.c]<;>rfl)|(simp[mL,h.get 66 rfl,h.get 68 rfl,h.c,K5.cell,K1.cell,K8.cell]<;>rfl))) (sY D12 (by omega) (aR cV n) (by have:=cI (kind:=cV) (by decide) hn;unfold aR cV;simp only[List.length_append,List.length_cons,List.length_nil];have:=il hn;omega)) ?_
  rintro e w13 ⟨rfl,D13,B13⟩
  refine⟨_,rfl,fun a hA=> ?_⟩
  obtain⟨r,hr⟩:∃r,fx d (aR cV n)=r:=⟨_,rfl⟩
  obtain⟨e13,d13⟩:=r
  rw[hr] at p1 D13 hA
  simp only at D13
  revert a;refine wo rfl rfl (by decide) (fun ev e h=>by simp[go_sem,h,K5.cell,K1.cell,K8.cell]<;>rfl) ?_;intro a hA
  replace hA:=hA.keepN [0,1,3,6,12,13,14,17]
  refine wN (nT (wS (wR ?_)))
  revert a;(iterate 2 refine wo rfl rfl (by decide) (fun ev e h=>by simp[go_sem,h,K5.cell,K1.cell,K8.cell]<;>rfl) ?_);intro a hA
  replace hA:=hA.keepN [0,1,3,6,12,13,14,17,71]
  refine wN (nT ?_)
  refine aH hA 71 _ rfl (fun hq1=> ?yB) (fun hq1=> ?nB)
  case yB=>
   have hne:¬e13=0:=by simpa using hq1
   refine wS (wR ?_)
   revert a;(iterate 3 refine wo rfl rfl (by decide) (fun ev e h=>by simp[go_sem,h,K5.cell,K1.cell,K8.cell]<;>rfl) ?_);intro a hA
   replace hA:=hA.keepN [8,9]
   refine wN (nT (wp_ret (rT ?_)))
   refine gJ hA 8 9 rfl rfl rfl ?_
   have hp:dw d n l wh=(e13,d13):=by unfold dw;rw[p1,gn hne]
   rw[hp]
   exact⟨none,0,[],rfl,by rw[if_neg hne],bu.nil _,D13.more (by omega),((bb.of_below HB).trans (bb.of_below hb12)).trans B13⟩
  case nB=>
   have hne:e13=0:=by simpa using hq1
   replace hA:=hA.keepN [0,1,3,6,12,13,14]
   refine wp_skip (nT ?_)
   exact⟨d13,D13,by rw[p1,hne],(bb.of_below hb12).trans B13,hA⟩
 case nA=>
  have hc:¬(ge==0&& !(ft&&wh))=true:=by
   rw[gG] at hq0
   rw[←hft]
   revert hq0
   cases ge==0<;>cases fe==0<;>cases G.1==ep<;>cases gR G.2 F.2<;>cases wh<;>simp
  rw[if_neg hc] at p1
  replace hA:=hA.keepN [0,1,3,6,12,13,14]
  refine wp_skip (nT ?_)
  exact⟨d,D11.more (by omega),p1,bb.refl _ _ _,hA⟩
 clear hA
 rintro a wx ⟨d1,D1,hp1,HX,hA⟩
 have hB11:=HB
 have g1:p<w.heap.size:=hlt.1
 have g2:mb<w.heap.size:=hlt.2
 have s7:=hb7.size
 have s8:=hb8.size
 replace K1:=HX.blk K1 (by omega) (by omega)
 replace K5:=HX.blk K5 (by omega) (by omega)
 replace K7:=HX.blk K7 (by omega) (by omega)
 replace hrv:=hrv.but D11 HX fun _ _=>⟨_,rfl⟩
 replace hrG:=hrG.but D11 HX fun _ _=>⟨_,rfl⟩
 have HBX:=(bb.of_below HB (p:=p) (m:=mb)).trans HX
 have hpr:dw d n l wh=oG d1 n l wh:=by unfold dw;rw[hp1,eg rfl]
 rw[hpr]
 have hwf1:=D1.wf
 clear p1
 refine wS (wR ?_)
 revert a;(iterate 2 refine wo rfl rfl (by decide) (fun ev e h=>by simp[go_sem,h,K5.cell,K1.cell,K8.cell]<;>rfl) ?_);intro a hA
 refine aC hA rfl rfl (by decide) (fun ev h=>aB Tryz.func25 (by kernel_rfl) rfl (h.f _) (by first|(simp only[mL,h.get 75 rfl,h.c]<;>rfl)|(simp[mL,h.get 75 rfl,h.c,K5.cell,K1.cell,K8.cell]<;>rfl))) (gj ct (by decide) n hn _) ?_
 rintro e x1 ⟨rfl,hc1⟩
 refine⟨_,rfl,fun a hA=> ?_⟩
 refine aC hA rfl rfl (by decide) (fun ev h=>aB Tryz.func24 (by kernel_rfl) rfl (h.f _) (by first|(simp only[mL,h.get 74 rfl,h.get 76 rfl,h.c]<;>rfl)|(simp[mL,h.get 74 rfl,h.get 76 rfl,h.c,K5.cell,K1.cell,K8.cell]<;>rfl))) ((D1.below hc1).read (aR ct n) (cI (by decide) hn)) ?_
 rintro e x2 ⟨Ap,cp,rfl,hrp,hcp,hc2⟩
 refine⟨_,rfl,fun a hA=> ?_⟩
 have HY:=hc1.trans (hc2.mono hc1.size)
 have hplen:=jv hwf1 (aR ct n)
 obtain⟨pl,hpl⟩:∃x,(bv d1 (aR ct n)).1=x:=⟨_,rfl⟩
 obtain⟨pe,hpe⟩:∃x,(bv d1 (aR ct n)).2=x:=⟨_,rfl⟩
 have hfp:(ay d1 ct n).1=pl:=hpl
 have hfpe:(ay d1 ct n).2=pe:=hpe
 rw[hpl] at hA hrp hcp hplen
 rw[hpe] at hA
 replace K1:=K1.below HY K1.lt
 replace K5:=K5.below HY K5.lt
 replace K7:=K7.below HY K7.lt
 replace hrv:=hrv.below HY
 replace hrG:=hrG.below HY
 have D2:=D1.below HY
 revert a;(iterate 5 refine wo rfl rfl (by decide) (fun ev e h=>by simp[go_sem,h,K7.cell]<;>rfl) ?_);intro a hA
 replace hA:=hA.keepN [0,1,3,6,12,13,14,18,19]
 refine wN (nT (wS (wR ?_)))
 revert a;refine wo rfl rfl (by decide) (fun ev e h=>by simp[go_sem,h,K7.cell]<;>rfl) ?_;intro a hA
 refine aC hA rfl rfl (by decide) (fun ev h=>aB Tryz.func34 (by kernel_rfl) rfl (h.f _) (by first|(simp only[mL,h.get 81 rfl,h.c]<;>rfl)|(simp[mL,h.get 81 rfl,h.c,K7.cell]<;>rfl))) (kQ X.nm Av cv nx9 X.e X.nx X.u X.l x2 D2.env.max D2.env.big.2.2 (by omega) b4 b1 b2 hnx (by omega) (by rw[←hnx];exact hrv.row)) ?_
 rintro e x3 ⟨r,rfl,hor,hc3⟩
 refine⟨_,rfl,fun a hA=> ?_⟩
 obtain⟨ie,hie⟩:∃x,X.err=x:=⟨_,rfl⟩
 obtain⟨ip,hip⟩:∃x,X.page=x:=⟨_,rfl⟩
 rw[show me X.nm X.e X.nx X.u X.l=ie from hie] at hA
 rw[show jI X.nm X.e X.nx X.u X.l=ip from hip] at hor
 obtain⟨Ax,cx,rfl,hrx,hcx⟩:=lT hor
 replace HY:=HY.trans (hc3.mono HY.size)
 replace hrp:=(hrp.below hc3).more hc3.size
 replace K1:=K1.below hc3 K1.lt
 replace K5:=K5.below hc3 K5.lt
 replace hrG:=hrG.below hc3
 have D3:=D2.below hc3
 revert a;(iterate 5 refine wo rfl rfl (by decide) (fun ev e h=>by simp[go_sem,h,K7.cell]<;>rfl) ?_);intro a hA
 replace hA:=hA.keepN [0,1,3,6,12,13,18,19,20,21]
 refine wN (nT (wS (wS (wR ?_))))
 revert a;(iterate 3 refine wo rfl rfl (by decide) (fun ev e h=>by simp[go_sem,h,K7.cell]<;>rfl) ?_);(iterate 3 refine wg _ rfl rfl rfl rfl (by decide) (fun hq ev e h=>by simp[go_sem,h,↓aL (aF hq),K7.cell]<;>rfl) ?_);(iterate 2 refine IC _ _ rfl rfl rfl rfl (by decide) (fun hq hr ev e h=>by simp[go_sem,h,↓aL (ax hq hr),↓aL hq,K7.cell]<;>rfl) ?_);intro a hA
 refine Af _ _ hA rfl rfl rfl rfl (by decide) (fun hq hr ev h=>aB Tryz.func36 (by kernel_rfl) rfl (h.f _) (by first|(simp only[mL,((h.get 91 rfl).trans (aL (ax hq hr))),((h.get 92 rfl).trans (aL (ax hq hr))),h.c]<;>rfl)|(simp[mL,((h.get 91 rfl).trans (aL (ax hq hr))),((h.get 92 rfl).trans (aL (ax hq hr))),h.c,K7.cell]<;>rfl))) (fun hq hr=>(gV Ap Ax pl.length cp ip.length cx pl ip _ rfl rfl hrp hrx).mono fun e w9 ⟨h1,h2⟩=>⟨h1,h2▸Below.refl _ _⟩) fun a x4 hc4 hA=> ?_
 obtain⟨eq1,heq1⟩:∃b,(pl==ip)=b:=⟨_,rfl⟩
 rw[heq1] at hA
 replace HY:=HY.trans (hc4.mono HY.size)
 replace K1:=K1.below hc4 K1.lt
 replace K5:=K5.below hc4 K5.lt
 replace hrG:=hrG.below hc4
 have D4:=D3.below hc4
 have p2:oG d1 n l wh=if(pe==0&& !(ie==0&&eq1&&wh))=true then fx d1 (aR ct n) else(0,d1):=by
  unfold oG
  rw[hfpe,hfp,hX,hie,hip,heq1]
 revert a;refine IC _ _ rfl rfl rfl rfl (by decide) (fun hq hr ev e h=>by simp[go_sem,h,↓aL (ax hq hr),↓aL hq,K7.cell]<;>rfl) ?_;intro a hA
 refine az _ hA rfl rfl rfl rfl (by decide) (fun hq ev h=>by exact gz rfl (((h.get 90 rfl).trans (aL (aF hq)))) (h.c _) (((h.get 94 rfl).trans (wM (aF hq))))) fun a hA=> ?_
 replace hA:=hA.keepN [0,1,3,6,12,13,87,95]
 revert a;refine wg _ rfl rfl rfl rfl (by decide) (fun hq ev e h=>by simp[go_sem,h,↓aL (aF hq),K7.cell]<;>rfl) ?_;(iterate 2 refine IC _ _ rfl rfl rfl rfl (by decide) (fun hq hr ev e h=>by simp[go_sem,h,↓aL (ax hq hr),↓aL hq,K7.cell]<;>rfl) ?_);intro a hA
 refine az _ hA rfl rfl rfl rfl (by decide) (fun hq ev h=>by exact gz rfl (((h.get 96 rfl).trans (aL (aF hq)))) (h.c _) (((h.get 98 rfl).trans (wM (aF hq))))) fun a hA=> ?_
 revert a;refine j9 rfl rfl (by decide) rfl rfl rfl ?_;intro a hA
 replace hA:=hA.keepN [0,1,6,12,13,100]
 refine wN (nT ?_)
 refine cd (fun a wx=>∃d2,Dk wx p mb d2 (N+4)∧oG d1 n l wh=(0,d2)∧bb p mb x4 wx∧At 124 [(6, .pointer (some ⟨w.heap.size,0,none⟩)),(12, .pointer (some ⟨w4.heap.size,0,none⟩)),(13, .int .i64 fe)] a) ?jfT2 ?jrT2
 refine aH hA 100 _ rfl (fun hq2=> ?yC) (fun hq2=> ?nC)
 case yC=>
  have hc:(pe==0&& !(ie==0&&eq1&&wh))=true:=by
   revert hq2
   cases pe==0<;>cases hii:ie==0<;>cases eq1<;>cases wh<;>simp[bne,hii]
  rw[if_pos hc] at p2
  refine wS (wR ?_)
  revert a;(iterate 2 refine wo rfl rfl (by decide) (fun ev e h=>by simp[go_sem,h,K7.cell]<;>rfl) ?_);intro a hA
  refine aC hA rfl rfl (by decide) (fun ev h=>aB Tryz.func25 (by kernel_rfl) rfl (h.f _) (by first|(simp only[mL,h.get 102 rfl,h.c]<;>rfl)|(simp[mL,h.get 102 rfl,h.c,K7.cell]<;>rfl))) (gj ct (by decide) n hn _) ?_
  rintro e x5 ⟨rfl,hc5⟩
  refine⟨_,rfl,fun a hA=> ?_⟩
  have D5:=D4.below hc5
  refine aC hA rfl rfl (by decide) (fun ev h=>aB Tryz.func15 (by kernel_rfl) rfl (h.f _) (by first|(simp only[mL,h.get 101 rfl,h.get 103 rfl,h.c]<;>rfl)|(simp[mL,h.get 101 rfl,h.get 103 rfl,h.c,K7.cell]<;>rfl))) (sY D5 (by omega) (aR ct n) (by unfold aR ct;simp only[List.length_append,List.length_cons,List.length_nil];have:=il hn;omega)) ?_
  rintro e x6 ⟨rfl,D6,B6⟩
  refine⟨_,rfl,fun a hA=> ?_⟩
  obtain⟨r,hr⟩:∃r,fx d1 (aR ct n)=r:=⟨_,rfl⟩
  obtain⟨e6,d6⟩:=r
  rw[hr] at p2 D6 hA
  simp only at D6
  revert a;refine wo rfl rfl (by decide) (fun ev e h=>by simp[go_sem,h,K7.cell]<;>rfl) ?_;intro a hA
  replace hA:=hA.keepN [6,12,13,22]
  refine wN (nT (wS (wR ?_)))
  revert a;(iterate 2 refine wo rfl rfl (by decide) (fun ev e h=>by simp[go_sem,h,K7.cell]<;>rfl) ?_);intro a hA
  replace hA:=hA.keepN [6,12,13,22,106]
  refine wN (nT ?_)
  refine aH hA 106 _ rfl (fun hq3=> ?yD) (fun hq3=> ?nD)
  case yD=>
   have hne:¬e6=0:=by simpa using hq3
   refine wS (wR ?_)
   revert a;(iterate 3 refine wo rfl rfl (by decide) (fun ev e h=>by simp[go_sem,h,K7.cell]<;>rfl) ?_);intro a hA
   replace hA:=hA.keepN [8,9]
   refine wN (nT (wp_ret (rT ?_)))
   refine gJ hA 8 9 rfl rfl rfl ?_
   rw[p2]
   exact⟨none,0,[],rfl,by rw[if_neg hne],bu.nil _,D6.more (by omega),((HBX.trans (bb.of_below HY)).trans (bb.of_below hc5)).trans B6⟩
  case nD=>
   have hne:e6=0:=by simpa using hq3
   replace hA:=hA.keepN [6,12,13]
   refine wp_skip (nT ?_)
   exact⟨d6,D6,by rw[p2,hne],(bb.of_below hc5).trans B6,hA⟩
 case nC=>
  have hc:¬(pe==0&& !(ie==0&&eq1&&wh))=true:=by
   revert hq2
   cases pe==0<;>cases hii:ie==0<;>cases eq1<;>cases wh<;>simp[bne,hii]
  rw[if_neg hc] at p2
  replace hA:=hA.keepN [6,12,13]
  refine wp_skip (nT ?_)
  exact⟨d1,D4.more (by omega),p2,bb.refl _ _ _,hA⟩
 clear hA
 rintro a wy ⟨d2,D2',hp2,HZ,hA⟩
 have t1:=HX.size
 have t2:=HY.size
 replace K1:=HZ.blk K1 (by omega) (by omega)
 replace K5:=HZ.blk K5 (by omega) (by omega)
 replace hrG:=hrG.but D4 HZ fun _ _=>⟨_,rfl⟩
 have HBZ:=(HBX.trans (bb.of_below HY)).trans HZ
 have hmk:iM d n l=if(fe==0&&G.1==ep&&cl)=true then G.2 else[]:=by
  unfold iM
  rw[hfg,hfe9,hG,hep,hcl]
 rw[hp2]
 refine wS (wS (wR ?_))
 revert a;(iterate 3 refine wo rfl rfl (by decide) (fun ev e h=>by simp[go_sem,h,K5.cell,K1.cell]<;>rfl) ?_);(iterate 5 refine wg _ rfl rfl rfl rfl (by decide) (fun hq ev e h=>by simp[go_sem,h,↓aL (aF hq),K5.cell,K1.cell]<;>rfl) ?_);refine kj rfl rfl (by decide) rfl rfl rfl ?_;refine wo rfl rfl (by decide) (fun ev e h=>by simp[go_sem,h,K5.cell,K1.cell]<;>rfl) ?_;intro a hA
 replace hA:=hA.keepN [6,12,117]
 revert a;(iterate 3 refine wg _ rfl rfl rfl rfl (by decide) (fun hq ev e h=>by simp[go_sem,h,↓aL (aF hq),K5.cell,K1.cell]<;>rfl) ?_);refine kj rfl rfl (by decide) rfl rfl rfl ?_;intro a hA
 replace hA:=hA.keepN [12,121]
 refine wN (nT ?_)
 refine aH hA 121 _ rfl (fun hq4=> ?yE) (fun hq4=> ?nE)
 case yE=>
  refine wS (wR ?_)
  revert a;(iterate 2 refine wo rfl rfl (by decide) (fun ev e h=>by simp[go_sem,h,K5.cell,K1.cell]<;>rfl) ?_);intro a hA
  replace hA:=hA.keepN [8,9]
  refine wN (nT (wp_ret (rT ?_)))
  refine gJ hA 8 9 rfl rfl rfl ?_
  refine⟨none,0,[],rfl, ?_,bu.nil _,D2',HBZ⟩
  rw[if_pos rfl,hmk,if_neg]
  revert hq4
  simp only[bne,gG]
  cases fe==0<;>cases G.1==ep<;>cases cl<;>simp
 case nE=>
  refine wp_skip (nT (wS (wR ?_)))
  revert a;(iterate 4 refine wo rfl rfl (by decide) (fun ev e h=>by simp[go_sem,h,K5.cell]<;>rfl) ?_);intro a hA
  replace hA:=hA.keepN [8,9]
  refine wN (nT (wp_ret ?_))
  refine gJ hA 8 9 rfl rfl rfl ?_
  refine⟨Ar,cr,G.2,by rw[hng], ?_,hrG,D2',HBZ⟩
  rw[if_pos rfl,hmk,if_pos]
  revert hq4
  simp only[bne,gG]
  cases fe==0<;>cases G.1==ep<;>cases cl<;>simp
def IA (m:aU):aU:=kr (eS m)
def IM (n:ak):ak:={n with m:=IA n.m}
theorem tk (nx:Nat):∀(a:Nat) (l:List aU),dk nx a (l.map IA)=dk nx a l
 |_,[]=>rfl
 |a,m::r=>by
  rw[List.map_cons]
  unfold dk
  rw[tk nx _ r]
  rfl
theorem CY (l:List aU):dc 0 (l.map IA)=dc 0 l:=by
 unfold dc
 rw[List.getLast?_map]
 cases l.getLast?<;>rfl
theorem rK (nm:ByteArray) (e nx:Nat) (l:List aU):dS nm e nx (l.map IA)=(dS nm e nx l).map IM:=by
 unfold dS
 rw[CY,List.map_cons,List.map_append,List.map_map,List.map_map]
 congr 2
 unfold kh
 split<;>rfl
theorem wJ (l:List ak):bA (l.map IM)=bA l:=by
 unfold bA
 rw[List.flatMap_map]
 rfl
theorem yn (nm:ByteArray) (e nx:Nat) (l:List aU):dE nm e nx (l.map IA)=dE nm e nx l:=by
 unfold dE
 rw[tk,rK,List.all_map]
 rfl
theorem DT {M:List aU} {b:eU} (h:M.map eS=b.msgs):dE b.nm b.ep b.nx M=dE b.nm b.ep b.nx (jG b)∧bA (dS b.nm b.ep b.nx M)=bd b:=by
 have e:jG b=M.map IA:=by
  unfold jG
  rw[←h,List.map_map]
  rfl
 unfold bd
 rw[e,yn,rK,wJ]
 exact⟨rfl,rfl⟩
theorem Cx {V:Value} {l:dW} {w:World} (hV:iR w V l) (n:Nat) (hn:n<100):
 Calls Tryz.prog 29 #[V, .int .i64 (n:Nat)] w fun ev w'=>∃v,ev= .returned v∧ja w.heap.size w' v (cN l.s n)∧Below w.heap.size w w':=by
 have hV0:=hV
 obtain⟨A,c,L,rfl,hrL,hlv⟩:=hV.ex
 have hLl:L.length=l.s.live.length:=by have:=congrArg List.length hlv;rw[List.length_map,List.length_map] at this;exact this
 have hfew9:=hV0.few
 have hbx:=fun w9 (hb9:Below w.heap.size w w9)=>vl l.s (l.torn:Nat) A c L.length L w9 (by omega) rfl (hrL.below hb9) (fun x hx=>by
  have h2:iw x∈l.s.live.map iS:=by rw[←hlv];exact List.mem_map_of_mem hx
  obtain⟨y,hy,e⟩:=List.mem_map.1 h2
  have h3:=congrArg (fun q:Nat×Nat×Int×Int×List UInt8×Nat=>q.2.2.2.2.1) e
  have h4:y.o=x.m.b:=h3
  have:=(hV0.each y hy).1
  rw[←h4]
  omega) hlv hV0.ep
 obtain⟨cl,hcl⟩:∃b,al l.s=b:=⟨_,rfl⟩
 obtain⟨tn,htn⟩:∃t,l.torn=t:=⟨_,rfl⟩
 rw[hcl,htn] at hbx
 rw[hcl,htn]
 refine aK 19 Tryz.func29 rfl rfl (Nat.le_of_ble_eq_true rfl) ?_
 intro a hA;replace hA:=hA.norm
 refine wS (wR ?_)
 refine aP hA rfl rfl (by decide) (fun ev h=>by simp[go_sem,h.get 0 rfl];try first|exact⟨rfl,rfl⟩|rfl) fun w1 a (K1:aI _ _ _ _) hz1 hb1 hA=> ?_
 refine aP hA rfl rfl (by decide) (fun ev h=>by simp[go_sem];try first|exact⟨rfl,rfl⟩|rfl) fun w2 a (K2:aI _ _ _ _) hz2 hb2 hA=> ?_
 replace K1:=K1.below hb2 K1.lt
 have HB:=hb1.trans (hb2.mono hb1.size)
 replace hA:=hA.keepN [1,2,4]
 refine wN (nT (wS (wR ?_)))
 revert a;refine wo rfl rfl (by decide) (fun ev e h=>by simp[go_sem,h,K1.cell]<;>rfl) ?_;intro a hA
 refine aC hA rfl rfl (by decide) (fun ev h=>aB Tryz.func38 (by kernel_rfl) rfl (h.f _) (by first|(simp only[mL,h.get 6 rfl,h.c]<;>rfl)|(simp[mL,h.get 6 rfl,h.c,K1.cell]<;>rfl))) (hbx _ HB) ?_
 rintro e w3 ⟨vM,M,rfl,hoM,hM,hcap,hb3⟩
 refine⟨_,rfl,fun a hA=> ?_⟩
 replace K2:=K2.below hb3 K2.lt
 replace HB:=HB.trans (hb3.mono HB.size)
 have hri:cN l.s n={bQ l.s with nm:=if l.s.nm.toList.isEmpty=true then St (aR nt n) else l.s.nm,ep:=max (bQ l.s).ep 1}:=rfl
 have hbn:(bQ l.s).nm=l.s.nm:=by unfold bQ;cases al l.s<;>rfl
 obtain⟨b,hb9⟩:∃b,bQ l.s=b:=⟨_,rfl⟩
 obtain⟨nm,ep,nx,ms⟩:=b
 rw[hb9] at hri hbn hM hA
 have hbn:nm=l.s.nm:=hbn
 rw[←hbn] at hri
 simp only at hM hA
 obtain⟨Am,cm,rfl, -, -⟩:=hoM.reads
 obtain⟨nm9,hnm9⟩:∃n,M.length=n:=⟨_,rfl⟩
 rw[hnm9] at hA hoM
 refine ap [.string nm, .int .u32 (ep:Nat), .int .u32 (nx:Nat), .slice Am nm9 cm] hA rfl rfl (by decide) (fun ev h=>by simp[go_sem,K1.cell];try first|exact⟨rfl,rfl⟩|rfl) rfl rfl (by rfl) (fun w1 g ev hb h=>by simp[go_sem,h.get 5 rfl,h.get 7 rfl,K1.cell,setAll,hb.cell,hb.frozen]) fun w4 a (K4:aI _ _ _ _) hz4 hb4 hA=> ?_
 have hw3:=hb3.size
 have hwB:=hb1.size
 replace K2:=K2.below hb4 K2.lt
 replace hoM:=hoM.below hb4
 replace HB:=HB.trans (hb4.mono HB.size)
 replace hA:=hA.keepN [1,4,5]
 refine wN (nT (wS (wS (wR ?_))))
 revert a;(iterate 3 refine wo rfl rfl (by decide) (fun ev e h=>by simp[go_sem,h,K4.cell]<;>rfl) ?_);intro a hA
 replace hA:=hA.keepN [1,4,5,10]
 refine wN (nT ?_)
 refine cd (fun a wx=>∃nm',nm'=(cN l.s n).nm∧aI wx w3.heap.size 41 #[.string nm', .int .u32 (ep:Nat), .int .u32 (nx:Nat), .slice Am nm9 cm]∧ac de w2.heap.size wx (.slice Am nm9 cm) M∧Below w.heap.size w wx∧aI wx w1.heap.size 41 #[.string ⟨#[]⟩, .int .u32 0, .int .u32 0, .slice none 0 0]∧At 19 [(4, .pointer (some ⟨w1.heap.size,0,none⟩)),(5, .pointer (some ⟨w3.heap.size,0,none⟩))] a) ?jfT ?jrT
 refine aH hA 10 _ rfl (fun hq=> ?yA) (fun hq=> ?nA)
 case yA=>
  have hem:nm.toList.isEmpty=true:=by simpa using hq
  refine wR ?_
  revert a;refine wo rfl rfl (by decide) (fun ev e h=>by simp[go_sem,h,K4.cell]<;>rfl) ?_;intro a hA
  refine aC hA rfl rfl (by decide) (fun ev h=>aB Tryz.func25 (by kernel_rfl) rfl (h.f _) (by first|(simp only[mL,h.get 11 rfl,h.c]<;>rfl)|(simp[mL,h.get 11 rfl,h.c,K4.cell]<;>rfl))) (gj nt (by decide) n hn _) ?_
  rintro e w5 ⟨rfl,hb5⟩
  refine⟨_,rfl,fun a hA=> ?_⟩
  replace K4:=K4.below hb5 K4.lt
  have K40:=K4
  revert a;refine wo rfl rfl (by decide) (fun ev e h=>by simp[go_sem,h,K4.cell]<;>rfl) ?_;intro a hA
  refine aq ([.string (St (aR nt n)), .int .u32 (ep:Nat), .int .u32 (nx:Nat), .slice Am nm9 cm]) _ hA rfl rfl K4 (j:=0) (by rfl) (fun ev h=>by simp[go_sem,h.get 13 rfl,h.get 12 rfl,K4.cell,K4.cell,K4.frozen];try first|exact⟨rfl,rfl⟩|rfl) fun w6 (K4:aI _ _ _ _) hs6=> ?_
  replace hA:=hA.keepN [4,5]
  refine wN (nT ?_)
  refine⟨_,by rw[hri];show _=(if nm.toList.isEmpty=true then _ else _);rw[if_pos hem],K4,(hoM.below hb5).onlyK hs6 K40 (by decide) rfl,hs6.below (HB.trans (hb5.mono HB.size)) (by omega),hs6.blk (K2.below hb5 K2.lt) (by omega),hA⟩
 case nA=>
  have hem:¬nm.toList.isEmpty=true:=by simpa using hq
  replace hA:=hA.keepN [4,5]
  refine wp_skip (nT ?_)
  exact⟨nm,by rw[hri];show _=(if nm.toList.isEmpty=true then _ else _);rw[if_neg hem],K4,hoM,HB,K2,hA⟩
 clear hA
 rintro a wx ⟨nm',hnm',K4,hoM,HB,K2,hA⟩
 have hwx:=HB.size
 refine wS (wR ?_)
 revert a;(iterate 4 refine wo rfl rfl (by decide) (fun ev e h=>by simp[go_sem,h,K4.cell]<;>rfl) ?_);intro a hA
 have K40:=K4
 refine aq ([.string nm', .int .u32 (max (ep:Int) 1), .int .u32 (nx:Nat), .slice Am nm9 cm]) _ hA rfl rfl K4 (j:=1) (by rfl) (fun ev h=>by simp[go_sem,h.get 17 rfl,h.get 16 rfl,K4.cell,K4.cell,K4.frozen];try first|exact⟨rfl,rfl⟩|rfl) fun w7 (K4:aI _ _ _ _) hs7=> ?_
 replace K2:=hs7.blk K2 (by omega)
 replace hoM:=hoM.onlyK hs7 K40 (by decide) rfl
 replace HB:=hs7.below HB (by omega)
 replace hA:=hA.keepN [4,5]
 refine wN (nT (wS (wR ?_)))
 revert a;refine wo rfl rfl (by decide) (fun ev e h=>by simp[go_sem,h,K4.cell]<;>rfl) ?_;intro a hA
 have K20:=K2
 refine bX [.string nm', .int .u32 (max (ep:Int) 1), .int .u32 (nx:Nat), .slice Am nm9 cm] hA rfl rfl K2 (by rfl) (fun ev h=>by simp[go_sem,h.get 4 rfl,h.get 18 rfl,K4.cell,setAll,K2.cell,K2.frozen]) fun w8 (K2:aI _ _ _ _) hs8=> ?_
 replace hoM:=hoM.onlyK hs8 K20 (by decide) rfl
 replace HB:=hs8.below HB (by omega)
 replace hA:=hA.keepN [4]
 refine wN (nT (wp_ret ?_))
 refine bodyPost_ret (by simp[results,Tryz.results29,go_sem,hA.env 4 _ rfl,K2.cell];try first|exact⟨rfl,rfl⟩|rfl) hA.defers ?_
 have e1:(cN l.s n).ep=max ep 1:=by rw[hri]
 have e2:(cN l.s n).nx=nx:=by rw[hri]
 have e3:(cN l.s n).msgs=ms:=by rw[hri]
 refine⟨_,rfl,⟨.slice Am nm9 cm,M, ?_,hoM.mono (by omega),by rw[e3];exact hM,hcap⟩,HB⟩
 rw[←hnm',e1,e2,show((max ep 1:Nat):Int)=max (ep:Int) 1 by omega]
theorem Dg (d:aN) (k:ae):(pQ d k).2.cap=d.cap:=by
 have h:(bo d k).2.cap=d.cap:=by
  unfold bo
  split
  ·rfl
  ·split
   ·rfl
   ·split<;>rfl
 unfold pQ
 split<;>exact h
theorem CZ {d:aN} {k:ae} {b:List UInt8} (h:(jV d k b).1=0):b.length≤d.cap:=by
 unfold jV at h
 have hc:=Dg d cz
 obtain⟨r,hr⟩:∃r,pQ d cz=r:=⟨_,rfl⟩
 rw[hr] at h hc
 by_cases h0:r.1=0
 ·rw[eg h0] at h
  by_cases h1:(d7 r.2 cz b).1=0
  ·unfold d7 at h1
   split at h1
   ·cases h1
   ·split at h1
    ·cases h1
    ·split at h1
     ·cases h1
     ·rename_i h9
      unfold aN.room at h9
      omega
  ·rw[gn h1] at h;exact absurd h h1
 ·rw[gn h0] at h;exact absurd h h0
theorem zg (d:aN) (n:Nat) (l:dW):(iM d n l).length≤500:=by
 unfold iM
 split
 ·exact sz _
 ·exact Nat.zero_le _
theorem EX {d:aN} {n:Nat} (h:¬(bS d n).2=9):jr d n=((bS d n).1,(bS d n).2,d):=by unfold jr;rw[if_neg h]
theorem EY {d:aN} {n:Nat} (h:(bS d n).2=9):jr d n=qz d n (ay d bJ n).1:=by unfold jr;rw[if_pos h]
theorem Fx {w:World} {p mb N:Nat} {d:aN} (h:Dk w p mb d N) (hN:N<700000) (n:Nat) (hn:n<100):
 Calls Tryz.prog 11 #[.pointer (some ⟨p,0,none⟩), .int .i64 (n:Nat)] w fun ev w'=>∃v,ev= .returned (.tuple #[v, .int .i64 (jr d n).2.1])∧ja w.heap.size w' v (jr d n).1∧Dk w' p mb (jr d n).2.2 (N+13)∧bb p mb w w':=by
 have hwf:=h.wf
 have hlt:=h.lt
 refine aK 111 Tryz.func11 rfl rfl (Nat.le_of_ble_eq_true rfl) ?_
 intro a hA;replace hA:=hA.norm
 refine wS (wR ?_)
 refine aP hA rfl rfl (by decide) (fun ev h=>by simp[go_sem];try first|exact⟨rfl,rfl⟩|rfl) fun w1 a (K1:aI _ _ _ _) hz1 hb1 hA=> ?_
 have HB:=hb1
 revert a;refine wo rfl rfl (by decide) (fun ev e h=>by simp[go_sem,h]<;>rfl) ?_;intro a hA
 replace hA:=hA.keepN [0,1,4]
 refine wN (nT (wS (wS (wR ?_))))
 revert a;(iterate 2 refine wo rfl rfl (by decide) (fun ev e h=>by simp[go_sem,h]<;>rfl) ?_);intro a hA
 refine aC hA rfl rfl (by decide) (fun ev h=>aB Tryz.func12 (by kernel_rfl) rfl (h.f _) (by first|(simp only[mL,h.get 19 rfl,h.get 20 rfl,h.c]<;>rfl)|(simp[mL,h.get 19 rfl,h.get 20 rfl,h.c]<;>rfl))) (rt (h.below hb1) n hn) ?_
 rintro e w2 ⟨v,rfl,hbox,hb2⟩
 refine⟨_,rfl,fun a hA=> ?_⟩
 replace K1:=K1.below hb2 K1.lt
 replace HB:=HB.trans (hb2.mono HB.size)
 obtain⟨wd,hwd⟩:∃x,bS d n=x:=⟨_,rfl⟩
 have hmn:=fun h=>EX (d:=d) (n:=n) h
 have hmy:=fun h=>EY (d:=d) (n:=n) h
 rw[hwd] at hbox hA hmn hmy
 obtain⟨b,e⟩:=wd
 simp only at hbox hA hmn hmy
 obtain⟨V,M,rfl,hoM,hM,hcap⟩:=hbox.ex
 obtain⟨Am,cm,rfl, -, -⟩:=hoM.reads
 obtain⟨nm9,hnm9⟩:∃n,M.length=n:=⟨_,rfl⟩
 rw[hnm9] at hA hoM
 revert a;(iterate 3 refine wo rfl rfl (by decide) (fun ev e h=>by simp[go_sem,h]<;>rfl) ?_);intro a hA
 refine ap [.string b.nm, .int .u32 (b.ep:Nat), .int .u32 (b.nx:Nat), .slice Am nm9 cm] hA rfl rfl (by decide) (fun ev h=>by simp[go_sem];try first|exact⟨rfl,rfl⟩|rfl) rfl rfl (by rfl) (fun w1 g ev hb h=>by simp[go_sem,h.get 6 rfl,h.get 22 rfl,setAll,hb.cell,hb.frozen]) fun w3 a (K3:aI _ _ _ _) hz3 hb3 hA=> ?_
 replace K1:=K1.below hb3 K1.lt
 replace hoM:=hoM.below hb3
 replace HB:=HB.trans (hb3.mono HB.size)
 have s1:=hb1.size
 have s2:=hb2.size
 revert a;refine wo rfl rfl (by decide) (fun ev e h=>by simp[go_sem,h]<;>rfl) ?_;intro a hA
 replace hA:=hA.keepN [0,1,4,6,7]
 refine wN (nT (wS (wR ?_)))
 revert a;(iterate 2 refine wo rfl rfl (by decide) (fun ev e h=>by simp[go_sem,h]<;>rfl) ?_);intro a hA
 replace hA:=hA.keepN [0,1,4,6,7,25]
 refine wN (nT ?_)
 refine aH hA 25 _ rfl (fun hq=> ?yA) (fun hq=> ?nA)
 case yA=>
  have hne:¬e=9:=by simpa using hq
  refine wS (wR ?_)
  revert a;(iterate 2 refine wo rfl rfl (by decide) (fun ev e h=>by simp[go_sem,h,K3.cell]<;>rfl) ?_);intro a hA
  have K10:=K1
  refine bX [.string b.nm, .int .u32 (b.ep:Nat), .int .u32 (b.nx:Nat), .slice Am nm9 cm] hA rfl rfl K1 (by rfl) (fun ev h=>by simp[go_sem,h.get 4 rfl,h.get 26 rfl,K3.cell,setAll,K1.cell,K1.frozen]) fun w4 (K1:aI _ _ _ _) hs4=> ?_
  replace hoM:=hoM.onlyK hs4 K10 (by decide) rfl
  replace HB:=hs4.below HB (by omega)
  revert a;refine wo rfl rfl (by decide) (fun ev e h=>by simp[go_sem,h,K1.cell]<;>rfl) ?_;intro a hA
  replace hA:=hA.keepN [4,5]
  refine wN (nT (wp_ret (rT ?_)))
  refine bodyPost_ret (by simp[results,Tryz.results11,go_sem,hA.env 4 _ rfl,hA.env 5 _ rfl,K1.cell];try first|exact⟨rfl,rfl⟩|rfl) hA.defers ?_
  rw[hmn hne]
  exact⟨_,rfl,⟨.slice Am nm9 cm,M,rfl,hoM.mono (by omega),hM,hcap⟩,(h.below HB).more (by omega),bb.of_below HB⟩
 case nA=>
  have he9:e=9:=by simpa using hq
  rw[hmy he9]
  clear hmn hmy hbox K3 hoM hM hcap
  refine wp_skip (nT (wS (wR ?_)))
  revert a;(iterate 2 refine wo rfl rfl (by decide) (fun ev e h=>by simp[go_sem,h]<;>rfl) ?_);intro a hA
  refine aC hA rfl rfl (by decide) (fun ev h=>aB Tryz.func25 (by kernel_rfl) rfl (h.f _) (by first|(simp only[mL,h.get 30 rfl,h.c]<;>rfl)|(simp[mL,h.get 30 rfl,h.c]<;>rfl))) (gj bJ (by decide) n hn _) ?_
  rintro e w4 ⟨rfl,hb4⟩
  refine⟨_,rfl,fun a hA=> ?_⟩
  replace K1:=K1.below hb4 K1.lt
  replace HB:=HB.trans (hb4.mono HB.size)
  refine aC hA rfl rfl (by decide) (fun ev h=>aB Tryz.func24 (by kernel_rfl) rfl (h.f _) (by first|(simp only[mL,h.get 29 rfl,h.get 31 rfl,h.c]<;>rfl)|(simp[mL,h.get 29 rfl,h.get 31 rfl,h.c]<;>rfl))) ((h.below HB).read (aR bJ n) (cI (by decide) hn)) ?_
  rintro e w5 ⟨Ab,cb,rfl,hrb,hcb,hb5⟩
  refine⟨_,rfl,fun a hA=> ?_⟩
  replace K1:=K1.below hb5 K1.lt
  replace HB:=HB.trans (hb5.mono HB.size)
  have hblen:=jv hwf (aR bJ n)
  obtain⟨bl,hbl⟩:∃x,(bv d (aR bJ n)).1=x:=⟨_,rfl⟩
  obtain⟨be,hbe⟩:∃x,(bv d (aR bJ n)).2=x:=⟨_,rfl⟩
  have hfl:(ay d bJ n).1=bl:=hbl
  rw[hfl]
  rw[hbl] at hA hrb hcb hblen
  rw[hbe] at hA
  have hLb:=iZ bl
  obtain⟨q,hbq⟩:∃x,bl.length=x:=⟨_,rfl⟩
  rw[hbq] at hA hrb hcb hblen hLb
  revert a;(iterate 5 refine wo rfl rfl (by decide) (fun ev e h=>by simp[go_sem,h]<;>rfl) ?_);intro a hA
  replace hA:=hA.keepN [0,1,4,8]
  refine wN (nT (wS (wR ?_)))
  revert a;refine wo rfl rfl (by decide) (fun ev e h=>by simp[go_sem,h]<;>rfl) ?_;intro a hA
  refine aC hA rfl rfl (by decide) (fun ev h=>aB Tryz.func26 (by kernel_rfl) rfl (h.f _) (by first|(simp only[mL,h.get 35 rfl,h.c]<;>rfl)|(simp[mL,h.get 35 rfl,h.c]<;>rfl))) (om Ab q cb bl hbq hcb hblen _ (h.below HB).env hrb) ?_
  rintro e w6 ⟨V,rfl,hV,hb6⟩
  refine⟨_,rfl,fun a hA=> ?_⟩
  replace K1:=K1.below hb6 K1.lt
  replace HB:=HB.trans (hb6.mono HB.size)
  have hV0:=hV
  have hinv:=mC bl
  obtain⟨l,hl⟩:∃l,aT bl=l:=⟨_,rfl⟩
  rw[hl] at hV hV0 hLb hinv
  obtain⟨A,c,L,rfl,hrL,hlv⟩:=hV.ex
  have hLl:L.length=l.s.live.length:=by have:=congrArg List.length hlv;rw[List.length_map,List.length_map] at this;exact this
  obtain⟨lv,hlv9⟩:∃k,l.s.live.length=k:=⟨_,rfl⟩
  rw[hlv9] at hLl
  rw[hLl] at hA
  have hfew:=hV0.few
  rw[hlv9] at hfew
  obtain⟨cl,hcl⟩:∃b,al l.s=b:=⟨_,rfl⟩
  obtain⟨tn,htn⟩:∃t,l.torn=t:=⟨_,rfl⟩
  rw[hcl,htn,hLl] at hV0
  rw[hcl,htn] at hA
  refine ap [.string l.s.nm, .int .u32 (l.s.ep:Nat), .int .u32 (l.s.nx:Nat), .slice A lv c, .int .i64 (tn:Nat), .bool cl] hA rfl rfl (by decide) (fun ev h=>by simp[go_sem];try first|exact⟨rfl,rfl⟩|rfl) rfl rfl (by rfl) (fun w1 g ev hb h=>by simp[go_sem,h.get 10 rfl,h.get 36 rfl,setAll,hb.cell,hb.frozen]) fun w7 a (K7:aI _ _ _ _) hz7 hb7 hA=> ?_
  replace K1:=K1.below hb7 K1.lt
  replace hV0:=hV0.below hb7
  replace HB:=HB.trans (hb7.mono HB.size)
  have s3:=hb3.size
  have s4:=hb4.size
  have s5:=hb5.size
  have s6:=hb6.size
  have hmd:qz d n bl=if 500<lv then(mJ,5,d) else if(dw d n l (fK l q)).1=0 then(if fK l q=true then iW (dw d n l (fK l q)).2 n l (iM d n l) else ls (dw d n l (fK l q)).2 n (cN l.s n) (iM d n l)) else(mJ,(dw d n l (fK l q)).1,(dw d n l (fK l q)).2):=by
   unfold qz
   rw[hl,hlv9,hbq]
  replace hA:=hA.keepN [0,1,4,8,10]
  refine wN (nT (wS (wS (wR ?_))))
  revert a;(iterate 4 refine wo rfl rfl (by decide) (fun ev e h=>by simp[go_sem,h,K7.cell]<;>rfl) ?_);intro a hA
  replace hA:=hA.keepN [0,1,4,8,10,40]
  refine wN (nT ?_)
  refine aH hA 40 _ rfl (fun hq1=> ?yB) (fun hq1=> ?nB)
  case yB=>
   have hb5':500<lv:=by simp at hq1;omega
   rw[hmd,if_pos hb5']
   refine wS (wR ?_)
   revert a;refine wo rfl rfl (by decide) (fun ev e h=>by simp[go_sem,h,K7.cell]<;>rfl) ?_;intro a hA
   refine bX [.string ⟨#[]⟩, .int .u32 0, .int .u32 0, .slice none 0 0] hA rfl rfl K1 (by rfl) (fun ev h=>by simp[go_sem,h.get 4 rfl,h.get 41 rfl,K7.cell,setAll,K1.cell,K1.frozen]) fun w8 (K1:aI _ _ _ _) hs8=> ?_
   replace HB:=hs8.below HB (by omega)
   revert a;refine wo rfl rfl (by decide) (fun ev e h=>by simp[go_sem,h,K1.cell]<;>rfl) ?_;intro a hA
   replace hA:=hA.keepN [4,5]
   refine wN (nT (wp_ret (rT ?_)))
   refine bodyPost_ret (by simp[results,Tryz.results11,go_sem,hA.env 4 _ rfl,hA.env 5 _ rfl,K1.cell];try first|exact⟨rfl,rfl⟩|rfl) hA.defers ?_
   exact⟨_,rfl,ja.zero _ _,(h.below HB).more (by omega),bb.of_below HB⟩
  case nB=>
   have hb5':¬500<lv:=by simp at hq1;omega
   rw[hmd,if_neg hb5']
   clear hmd
   refine wp_skip (nT (wS (wR ?_)))
   revert a;(iterate 3 refine wo rfl rfl (by decide) (fun ev e h=>by simp[go_sem,h,K7.cell]<;>rfl) ?_);(iterate 5 refine wg _ rfl rfl rfl rfl (by decide) (fun hq ev e h=>by simp[go_sem,h,↓aL (aF hq),K7.cell]<;>rfl) ?_);refine j9 rfl rfl (by decide) rfl rfl rfl ?_;refine wo rfl rfl (by decide) (fun ev e h=>by simp[go_sem,h,K7.cell]<;>rfl) ?_;intro a hA
   replace hA:=hA.keepN [0,1,4,10,51]
   revert a;(iterate 3 refine wg _ rfl rfl rfl rfl (by decide) (fun hq ev e h=>by simp[go_sem,h,↓aL (aF hq),K7.cell]<;>rfl) ?_);refine j9 rfl rfl (by decide) rfl rfl rfl ?_;refine wo rfl rfl (by decide) (fun ev e h=>by simp[go_sem,h,K7.cell]<;>rfl) ?_;(iterate 3 refine wg _ rfl rfl rfl rfl (by decide) (fun hq ev e h=>by simp[go_sem,h,↓aL (aF hq),K7.cell]<;>rfl) ?_);refine j9 rfl rfl (by decide) rfl rfl rfl ?_;refine wo rfl rfl (by decide) (fun ev e h=>by simp[go_sem,h,K7.cell]<;>rfl) ?_;intro a hA
   replace hA:=hA.keepN [0,1,4,10,11]
   refine wN (nT (wS (wR ?_)))
   revert a;(iterate 4 refine wo rfl rfl (by decide) (fun ev e h=>by simp[go_sem,h,K7.cell]<;>rfl) ?_);intro a hA
   have hwr:(cl&&((tn:Int)==(q:Int))&& !l.s.nm.toList.isEmpty&&decide ((1:Int)≤(l.s.ep:Int)))=fK l q:=by
    rw[gG,IU]
    unfold fK
    rw[hcl,htn]
   obtain⟨wh,hwh⟩:∃b,fK l q=b:=⟨_,rfl⟩
   rw[hwh] at hwr
   rw[hwr] at hA
   rw[hwh]
   have g1:p<w.heap.size:=hlt.1
   have g2:mb<w.heap.size:=hlt.2
   have s7:=hb7.size
   have hD7:=h.below HB
   refine aC hA rfl rfl (by decide) (fun ev h=>aB Tryz.func27 (by kernel_rfl) rfl (h.f _) (by first|(simp only[mL,h.get 62 rfl,h.get 63 rfl,h.get 64 rfl,h.get 65 rfl,h.c]<;>rfl)|(simp[mL,h.get 62 rfl,h.get 63 rfl,h.get 64 rfl,h.get 65 rfl,h.c,K7.cell]<;>rfl))) (Cq hD7 (by omega) n hn hV0 wh) ?_
   rintro e w8 ⟨A2,c2,ms,rfl,hms,hrms,D8,B8⟩
   refine⟨_,rfl,fun a hA=> ?_⟩
   have s8:=B8.size
   replace K1:=B8.blk K1 (by omega) (by omega)
   replace K7:=B8.blk K7 (by omega) (by omega)
   replace hV0:=hV0.but hD7 B8
   have HX:=(bb.of_below HB (p:=p) (m:=mb)).trans B8
   have hmf:=zg d n l
   obtain⟨r8,hr8⟩:∃r,dw d n l wh=r:=⟨_,rfl⟩
   obtain⟨e8,d8⟩:=r8
   rw[hr8] at D8 hms hA ⊢
   simp only at D8 hms
   obtain⟨q2,hq2⟩:∃k,ms.length=k:=⟨_,rfl⟩
   rw[hq2] at hA
   revert a;(iterate 5 refine wo rfl rfl (by decide) (fun ev e h=>by simp[go_sem,h,K7.cell]<;>rfl) ?_);intro a hA
   replace hA:=hA.keepN [0,1,4,10,11,12,13]
   refine wN (nT (wS (wS (wR ?_))))
   revert a;(iterate 2 refine wo rfl rfl (by decide) (fun ev e h=>by simp[go_sem,h,K7.cell]<;>rfl) ?_);intro a hA
   replace hA:=hA.keepN [0,1,4,10,11,12,13,70]
   refine wN (nT ?_)
   refine aH hA 70 _ rfl (fun hq3=> ?yC) (fun hq3=> ?nC)
   case yC=>
    have hne:¬e8=0:=by simpa using hq3
    refine wS (wR ?_)
    revert a;(iterate 2 refine wo rfl rfl (by decide) (fun ev e h=>by simp[go_sem,h,K7.cell]<;>rfl) ?_);intro a hA
    have K10:=K1
    refine bX [.string ⟨#[]⟩, .int .u32 0, .int .u32 0, .slice none 0 0] hA rfl rfl K1 (by rfl) (fun ev h=>by simp[go_sem,h.get 4 rfl,h.get 71 rfl,K7.cell,setAll,K1.cell,K1.frozen]) fun w9 (K1:aI _ _ _ _) hs9=> ?_
    revert a;refine wo rfl rfl (by decide) (fun ev e h=>by simp[go_sem,h,K1.cell]<;>rfl) ?_;intro a hA
    replace hA:=hA.keepN [4,5]
    refine wN (nT (wp_ret (rT ?_)))
    refine bodyPost_ret (by simp[results,Tryz.results11,go_sem,hA.env 4 _ rfl,hA.env 5 _ rfl,K1.cell];try first|exact⟨rfl,rfl⟩|rfl) hA.defers ?_
    rw[if_neg hne]
    exact⟨_,rfl,ja.zero _ _,(D8.only hs9 K10 rfl (by omega) (by omega)).more (by omega),HX.only hs9 (Nat.le_refl _)⟩
   case nC=>
    have hne:e8=0:=by simpa using hq3
    rw[if_pos hne]
    rw[if_pos hne] at hms
    rw[←hms]
    have hml:ms.length≤500:=by rw[hms];exact hmf
    refine wp_skip (nT (wS (wS (wR ?_))))
    revert a;(iterate 2 refine wo rfl rfl (by decide) (fun ev e h=>by simp[go_sem,h,K7.cell]<;>rfl) ?_);intro a hA
    replace hA:=hA.keepN [0,1,4,10,12,74]
    refine wN (nT ?_)
    refine cd (fun a wx=>∃d9 l9 A9 c9 lv9,Dk wx p mb d9 (N+7)∧(if wh=true then iW d8 n l ms else ls d8 n (cN l.s n) ms)=iW d9 n l9 ms∧iR wx (.agg #[.string l9.s.nm, .int .u32 (l9.s.ep:Nat), .int .u32 (l9.s.nx:Nat), .slice A9 lv9 c9, .int .i64 (l9.torn:Nat), .bool (al l9.s)]) l9∧aI wx w6.heap.size 77 #[.string l9.s.nm, .int .u32 (l9.s.ep:Nat), .int .u32 (l9.s.nx:Nat), .slice A9 lv9 c9, .int .i64 (l9.torn:Nat), .bool (al l9.s)]∧aI wx w.heap.size 41 #[.string ⟨#[]⟩, .int .u32 0, .int .u32 0, .slice none 0 0]∧bu ml wx A2 ms∧bb p mb w wx∧At 111 [(0, .pointer (some ⟨p,0,none⟩)),(1, .int .i64 (n:Nat)),(4, .pointer (some ⟨w.heap.size,0,none⟩)),(10, .pointer (some ⟨w6.heap.size,0,none⟩)),(12, .slice A2 q2 c2)] a) ?jfJ ?jrJ
    refine aH hA 74 _ rfl (fun hq4=> ?yD) (fun hq4=> ?nD)
    case yD=>
     have hw0:wh=false:=by simpa using hq4
     rw[hw0,if_neg (by decide)]
     have hgb:=pj (n:=n) hinv hn (by omega)
     have hsum:oB (cN l.s n).msgs=fM l.s.live:=BA l.s
     obtain⟨bx,hbx9⟩:∃b,cN l.s n=b:=⟨_,rfl⟩
     refine wS (wR ?_)
     revert a;(iterate 2 refine wo rfl rfl (by decide) (fun ev e h=>by simp[go_sem,h,K7.cell]<;>rfl) ?_);intro a hA
     refine aC hA rfl rfl (by decide) (fun ev h=>aB Tryz.func29 (by kernel_rfl) rfl (h.f _) (by first|(simp only[mL,h.get 76 rfl,h.get 77 rfl,h.c]<;>rfl)|(simp[mL,h.get 76 rfl,h.get 77 rfl,h.c,K7.cell]<;>rfl))) (Cx hV0 n hn) ?_
     rintro e w9 ⟨v9,rfl,hbox,hb9⟩
     refine⟨_,rfl,fun a hA=> ?_⟩
     rw[hbx9] at hgb hsum hbox ⊢
     obtain⟨V9,M,rfl,hoM,hM,hcap⟩:=hbox.ex
     obtain⟨Am,cm,rfl,hrM, -⟩:=hoM.reads
     obtain⟨nm9,hnm9⟩:∃n,M.length=n:=⟨_,rfl⟩
     rw[hnm9] at hA
     have hMl:nm9=bx.msgs.length:=by rw[←hM,List.length_map,hnm9]
     have hlen5:=hgb.len
     have hD9:=D8.below hb9
     have hwb:=DT hM
     have hus:∀m∈M,m.uid<4294967296:=fun m hm=>by
      have h1:eS m∈bx.msgs:=by rw[←hM];exact List.mem_map_of_mem hm
      have h2:=(hgb.each _ h1).1
      have h3:=hgb.nx.2
      have h4:(eS m).1=m.uid:=rfl
      omega
     have hsm:(M.map fun m=>m.b.length).sum≤20000000:=by
      have e:(M.map fun m=>m.b.length).sum=oB bx.msgs:=by
       unfold oB
       rw[←hM,List.map_map]
       rfl
      omega
     have hwa:=DS bx.nm bx.ep bx.nx Am nm9 cm M w9 hD9.env.max hD9.env.big.2.2 hD9.env.tab (by have:=fk hgb.nm;omega) (by omega) hsm hgb.ep.2 hgb.nx.2 hus ⟨hnm9,by rw[←hnm9];exact hrM.row,fun m hm=>hrM.octs m hm (m.a,m.b) (List.mem_singleton.2 rfl)⟩
     rw[hwb.1,hwb.2,io hgb,cond_true,cond_true] at hwa
     refine aC hA rfl rfl (by decide) (fun ev h=>aB Tryz.func28 (by kernel_rfl) rfl (h.f _) (by first|(simp only[mL,h.get 78 rfl,h.c]<;>rfl)|(simp[mL,h.get 78 rfl,h.c,K7.cell]<;>rfl))) (hwa) ?_
     rintro e w10 ⟨r10,rfl,ho10,hb10⟩
     refine⟨_,rfl,fun a hA=> ?_⟩
     have hb910:=hb9.trans (hb10.mono hb9.size)
     obtain⟨Ac,cc,rfl,hrc,hcc⟩:=lT ho10
     have hD10:=D8.below hb910
     replace K1:=K1.below hb910 K1.lt
     replace K7:=K7.below hb910 K7.lt
     replace hrms:=hrms.below hb910
     have hwl:=nO hgb
     obtain⟨wl,hwl9⟩:∃k,(bd bx).length=k:=⟨_,rfl⟩
     rw[hwl9] at hA hrc hcc hwl
     have hwe:pK bx=0:=by unfold pK;rw[io hgb];rfl
     revert a;(iterate 5 refine wo rfl rfl (by decide) (fun ev e h=>by simp[go_sem,h,K7.cell]<;>rfl) ?_);intro a hA
     replace hA:=hA.keepN [0,1,4,10,12,14,15]
     refine wN (nT (wS (wS (wR ?_))))
     revert a;(iterate 2 refine wo rfl rfl (by decide) (fun ev e h=>by simp[go_sem,h,K7.cell]<;>rfl) ?_);intro a hA
     replace hA:=hA.keepN [0,1,4,10,12,14,15,83]
     refine wN (nT ?_)
     refine aH hA 83 _ rfl (fun hq5=> ?yE) (fun hq5=> ?nE)
     case yE=>simp at hq5
     case nE=>
      refine wp_skip (nT (wS (wS (wR ?_))))
      revert a;(iterate 2 refine wo rfl rfl (by decide) (fun ev e h=>by simp[go_sem,h,K7.cell]<;>rfl) ?_);intro a hA
      refine aC hA rfl rfl (by decide) (fun ev h=>aB Tryz.func25 (by kernel_rfl) rfl (h.f _) (by first|(simp only[mL,h.get 87 rfl,h.c]<;>rfl)|(simp[mL,h.get 87 rfl,h.c,K7.cell]<;>rfl))) (gj bJ (by decide) n hn _) ?_
      rintro e w11 ⟨rfl,hb11⟩
      refine⟨_,rfl,fun a hA=> ?_⟩
      have hD11:=hD10.below hb11
      revert a;refine wo rfl rfl (by decide) (fun ev e h=>by simp[go_sem,h,K7.cell]<;>rfl) ?_;intro a hA
      refine aC hA rfl rfl (by decide) (fun ev h=>aB Tryz.func30 (by kernel_rfl) rfl (h.f _) (by first|(simp only[mL,h.get 86 rfl,h.get 88 rfl,h.get 89 rfl,h.c]<;>rfl)|(simp[mL,h.get 86 rfl,h.get 88 rfl,h.get 89 rfl,h.c,K7.cell]<;>rfl))) (za hD11 (by omega) (aR bJ n) (cI (by decide) hn) Ac wl cc (bd bx) hwl9 (by omega) hcc ((hrc.below hb11).more hb11.size)) ?_
      rintro e w12 ⟨rfl,D12,B12⟩
      refine⟨_,rfl,fun a hA=> ?_⟩
      have hb0:=hb910.trans (hb11.mono hb910.size)
      have HY:=(HX.trans (bb.of_below hb0)).trans B12
      have hrc12:=hD11.reads B12 ((hrc.below hb11).more hb11.size)
      have z11:=hb11.size
      have z10:=hb910.size
      replace K1:=B12.blk (K1.below hb11 K1.lt) (by omega) (by omega)
      replace K7:=B12.blk (K7.below hb11 K7.lt) (by omega) (by omega)
      replace hrms:=(hrms.below hb11).but hD11 B12 fun _ _=>⟨_,rfl⟩
      have hsmall:=fun h=>CZ (d:=d8) (k:=aR bJ n) (b:=bd bx) h
      have hcap8:=D8.wf.cap
      obtain⟨r12,hr12⟩:∃r,jV d8 (aR bJ n) (bd bx)=r:=⟨_,rfl⟩
      have hmn:ls d8 n bx ms=if r12.1=0 then iW r12.2 n (aT (bd bx)) ms else(mJ,r12.1,r12.2):=by unfold ls;rw[if_pos hwe,hr12]
      rw[hr12] at D12 hA hsmall
      obtain⟨e12,d12⟩:=r12
      simp only at D12 hmn hsmall
      revert a;refine wo rfl rfl (by decide) (fun ev e h=>by simp[go_sem,h,K7.cell]<;>rfl) ?_;intro a hA
      replace hA:=hA.keepN [0,1,4,10,12,14,16]
      refine wN (nT (wS (wR ?_)))
      revert a;(iterate 2 refine wo rfl rfl (by decide) (fun ev e h=>by simp[go_sem,h,K7.cell]<;>rfl) ?_);intro a hA
      replace hA:=hA.keepN [0,1,4,10,12,14,16,92]
      refine wN (nT ?_)
      refine aH hA 92 _ rfl (fun hq6=> ?yF) (fun hq6=> ?nF)
      case yF=>
       have hne6:¬e12=0:=by simpa using hq6
       refine wS (wR ?_)
       revert a;(iterate 2 refine wo rfl rfl (by decide) (fun ev e h=>by simp[go_sem,h,K7.cell]<;>rfl) ?_);intro a hA
       have K10:=K1
       refine bX [.string ⟨#[]⟩, .int .u32 0, .int .u32 0, .slice none 0 0] hA rfl rfl K1 (by rfl) (fun ev h=>by simp[go_sem,h.get 4 rfl,h.get 93 rfl,K7.cell,setAll,K1.cell,K1.frozen]) fun w13 (K1:aI _ _ _ _) hs13=> ?_
       revert a;refine wo rfl rfl (by decide) (fun ev e h=>by simp[go_sem,h,K1.cell]<;>rfl) ?_;intro a hA
       replace hA:=hA.keepN [4,5]
       refine wN (nT (wp_ret (rT (rT ?_))))
       refine bodyPost_ret (by simp[results,Tryz.results11,go_sem,hA.env 4 _ rfl,hA.env 5 _ rfl,K1.cell];try first|exact⟨rfl,rfl⟩|rfl) hA.defers ?_
       rw[hmn,if_neg hne6]
       exact⟨_,rfl,ja.zero _ _,(D12.only hs13 K10 rfl (by omega) (by omega)).more (by omega),HY.only hs13 (Nat.le_refl _)⟩
      case nF=>
       have hne6:e12=0:=by simpa using hq6
       rw[if_pos hne6] at hmn
       have hsm12:=hsmall hne6
       refine wp_skip (nT (wR ?_))
       revert a;refine wo rfl rfl (by decide) (fun ev e h=>by simp[go_sem,h,K7.cell]<;>rfl) ?_;intro a hA
       refine aC hA rfl rfl (by decide) (fun ev h=>aB Tryz.func26 (by kernel_rfl) rfl (h.f _) (by first|(simp only[mL,h.get 95 rfl,h.c]<;>rfl)|(simp[mL,h.get 95 rfl,h.c,K7.cell]<;>rfl))) (om Ac wl cc (bd bx) hwl9 hcc (by omega) _ D12.env hrc12) ?_
       rintro e w13 ⟨V13,rfl,hV13,hb13⟩
       refine⟨_,rfl,fun a hA=> ?_⟩
       obtain⟨A13,c13,L13,rfl, -, -⟩:=hV13.ex
       obtain⟨lv13,hlv13⟩:∃k,L13.length=k:=⟨_,rfl⟩
       rw[hlv13] at hA hV13
       replace K1:=K1.below hb13 K1.lt
       replace K7:=K7.below hb13 K7.lt
       have z12:=B12.size
       have z13:=hb13.size
       obtain⟨l13,hl13⟩:∃l,aT (bd bx)=l:=⟨_,rfl⟩
       rw[hl13] at hmn hV13 hA
       have K70:=K7
       refine bX [.string l13.s.nm, .int .u32 (l13.s.ep:Nat), .int .u32 (l13.s.nx:Nat), .slice A13 lv13 c13, .int .i64 (l13.torn:Nat), .bool (al l13.s)] hA rfl rfl K7 (by rfl) (fun ev h=>by simp[go_sem,h.get 10 rfl,h.get 96 rfl,K7.cell,setAll,K7.cell,K7.frozen]) fun w14 (K7:aI _ _ _ _) hs14=> ?_
       replace hA:=hA.keepN [0,1,4,10,12]
       refine wN (nT ?_)
       refine⟨d12,l13,A13,c13,lv13,(D12.below hb13).only hs14 K70 rfl (by omega) (by omega)|>.more (by omega),hmn,hV13.only hs14 K70 rfl rfl,K7,hs14.blk K1 (by omega),(hrms.below hb13).only hs14 K70 rfl rfl (fun _ _=>⟨_,_,rfl,rfl⟩),(HY.trans (bb.of_below hb13)).only hs14 (by omega),hA⟩
    case nD=>
     have hw0:wh=true:=by simpa using hq4
     rw[hw0,if_pos rfl]
     replace hA:=hA.keepN [0,1,4,10,12]
     refine wp_skip (nT ?_)
     refine⟨d8,l,A,c,lv,D8.more (by omega),rfl, ?_, ?_,K1,hrms,HX,hA⟩
     ·rw[hcl,htn];exact hV0
     ·rw[hcl,htn];exact K7
    clear hA
    rintro a wx ⟨d9,l9,A9,c9,lv9,D9,hend,hV9,K7,K1,hrms,HX,hA⟩
    rw[hend]
    have s10:=HX.size
    have hme:iW d9 n l9 ms=if(ec d9 n l9 ms).1=0 then((bS (ec d9 n l9 ms).2 n).1,(bS (ec d9 n l9 ms).2 n).2,(ec d9 n l9 ms).2) else(mJ,(ec d9 n l9 ms).1,(ec d9 n l9 ms).2):=rfl
    have hpd:=Cp D9 (by omega) n hn hV9 A2 c2 ms hrms (by omega)
    rw[hq2] at hpd
    refine wS (wS (wR ?_))
    revert a;(iterate 4 refine wo rfl rfl (by decide) (fun ev e h=>by simp[go_sem,h,K7.cell]<;>rfl) ?_);intro a hA
    refine aC hA rfl rfl (by decide) (fun ev h=>aB Tryz.func31 (by kernel_rfl) rfl (h.f _) (by first|(simp only[mL,h.get 97 rfl,h.get 98 rfl,h.get 99 rfl,h.get 100 rfl,h.c]<;>rfl)|(simp[mL,h.get 97 rfl,h.get 98 rfl,h.get 99 rfl,h.get 100 rfl,h.c,K7.cell]<;>rfl))) (hpd) ?_
    rintro e w15 ⟨rfl,D15,B15⟩
    refine⟨_,rfl,fun a hA=> ?_⟩
    have HY:=HX.trans B15
    have s15:=B15.size
    replace K1:=B15.blk K1 (by omega) (by omega)
    obtain⟨r15,hr15⟩:∃r,ec d9 n l9 ms=r:=⟨_,rfl⟩
    rw[hr15] at D15 hme hA
    obtain⟨e15,d15⟩:=r15
    simp only at D15 hme
    rw[hme]
    revert a;refine wo rfl rfl (by decide) (fun ev e h=>by simp[go_sem,h,K7.cell]<;>rfl) ?_;intro a hA
    replace hA:=hA.keepN [0,1,4,17]
    refine wN (nT (wS (wR ?_)))
    revert a;(iterate 2 refine wo rfl rfl (by decide) (fun ev e h=>by simp[go_sem,h,K7.cell]<;>rfl) ?_);intro a hA
    replace hA:=hA.keepN [0,1,4,17,103]
    refine wN (nT ?_)
    refine aH hA 103 _ rfl (fun hq7=> ?yG) (fun hq7=> ?nG)
    case yG=>
     have hne7:¬e15=0:=by simpa using hq7
     refine wS (wR ?_)
     revert a;(iterate 2 refine wo rfl rfl (by decide) (fun ev e h=>by simp[go_sem,h,K7.cell]<;>rfl) ?_);intro a hA
     have K10:=K1
     refine bX [.string ⟨#[]⟩, .int .u32 0, .int .u32 0, .slice none 0 0] hA rfl rfl K1 (by rfl) (fun ev h=>by simp[go_sem,h.get 4 rfl,h.get 104 rfl,K7.cell,setAll,K1.cell,K1.frozen]) fun w16 (K1:aI _ _ _ _) hs16=> ?_
     revert a;refine wo rfl rfl (by decide) (fun ev e h=>by simp[go_sem,h,K1.cell]<;>rfl) ?_;intro a hA
     replace hA:=hA.keepN [4,5]
     refine wN (nT (wp_ret (rT ?_)))
     refine bodyPost_ret (by simp[results,Tryz.results11,go_sem,hA.env 4 _ rfl,hA.env 5 _ rfl,K1.cell];try first|exact⟨rfl,rfl⟩|rfl) hA.defers ?_
     rw[if_neg hne7]
     exact⟨_,rfl,ja.zero _ _,(D15.only hs16 K10 rfl (by omega) (by omega)).more (by omega),HY.only hs16 (Nat.le_refl _)⟩
    case nG=>
     have hne7:e15=0:=by simpa using hq7
     rw[if_pos hne7]
     refine wp_skip (nT (wS (wR ?_)))
     revert a;(iterate 2 refine wo rfl rfl (by decide) (fun ev e h=>by simp[go_sem,h,K7.cell]<;>rfl) ?_);intro a hA
     refine aC hA rfl rfl (by decide) (fun ev h=>aB Tryz.func12 (by kernel_rfl) rfl (h.f _) (by first|(simp only[mL,h.get 106 rfl,h.get 107 rfl,h.c]<;>rfl)|(simp[mL,h.get 106 rfl,h.get 107 rfl,h.c,K7.cell]<;>rfl))) (rt D15 n hn) ?_
     rintro e w16 ⟨v,rfl,hbox,hb16⟩
     refine⟨_,rfl,fun a hA=> ?_⟩
     replace K1:=K1.below hb16 K1.lt
     obtain⟨wd,hwd2⟩:∃x,bS d15 n=x:=⟨_,rfl⟩
     rw[hwd2] at hbox hA ⊢
     obtain⟨b16,e16⟩:=wd
     simp only at hbox hA
     obtain⟨V,M,rfl,hoM,hM,hcap⟩:=hbox.ex
     obtain⟨Am,cm,rfl, -, -⟩:=hoM.reads
     obtain⟨nm9,hnm9⟩:∃n,M.length=n:=⟨_,rfl⟩
     rw[hnm9] at hA hoM
     revert a;(iterate 2 refine wo rfl rfl (by decide) (fun ev e h=>by simp[go_sem,h,K7.cell]<;>rfl) ?_);intro a hA
     have K10:=K1
     refine bX [.string b16.nm, .int .u32 (b16.ep:Nat), .int .u32 (b16.nx:Nat), .slice Am nm9 cm] hA rfl rfl K1 (by rfl) (fun ev h=>by simp[go_sem,h.get 4 rfl,h.get 109 rfl,K7.cell,setAll,K1.cell,K1.frozen]) fun w17 (K1:aI _ _ _ _) hs17=> ?_
     revert a;refine wo rfl rfl (by decide) (fun ev e h=>by simp[go_sem,h,K1.cell]<;>rfl) ?_;intro a hA
     replace hA:=hA.keepN [4,5]
     refine wN (nT (wp_ret ?_))
     refine bodyPost_ret (by simp[results,Tryz.results11,go_sem,hA.env 4 _ rfl,hA.env 5 _ rfl,K1.cell];try first|exact⟨rfl,rfl⟩|rfl) hA.defers ?_
     exact⟨_,rfl,⟨.slice Am nm9 cm,M,rfl,(hoM.onlyK hs17 K10 (by decide) rfl).mono (by omega),hM,hcap⟩,((D15.below hb16).only hs17 K10 rfl (by omega) (by omega)),(HY.trans (bb.of_below hb16)).only hs17 (Nat.le_refl _)⟩
def wt (l:List aU):Nat:=(l.map fun m=>1+m.b.length).sum
def Gf (m:aU):aU:=⟨m.uid,m.date,m.flags,none,0,m.b⟩
def bare (l:List aU):List aU:=l.map Gf
theorem tm :∀(l m:List aU),jC l m=true↔bare l=bare m
 |[],[]=>by simp[jC,bare]
 |[],_::_=>by simp[jC,bare]
 |_::_,[]=>by simp[jC,bare]
 |x::r,y::s=>by
  have ih:=tm r s
  unfold jC bare
  rw[Bool.and_eq_true,List.map_cons,List.map_cons,List.cons.injEq]
  refine and_congr ?_ ih
  unfold tq Gf
  simp[and_assoc]
theorem Ey {l m:List aU} (h:bare l=bare m):jC l m=true:=(tm l m).2 h
theorem qM {nm:ByteArray} {e nx:Nat} {l m:List aU} (h:bare l=bare m):gq nm e nx l nm e nx m=true:=by
 unfold gq;rw[Ey h];simp
section
variable {B:Nat} {w w':World} {v:Value} {l:List aU}
end
structure vQ (w:World) (A:Option Addr) (l:List fd):Prop where
 row:aE w w.heap.size 4 A l.length (l.flatMap tI)
 octs:∀h∈l,aE w w.heap.size 1 h.a h.b.length (ar h.b)
 ns:∀h∈l, -9223372036854775808≤h.n∧h.n≤9223372036854775807
 small:∀h∈l,h.b.length≤140737488355328
theorem vQ.below {w w':World} {A:Option Addr} {l:List fd} (h:vQ w A l) (hb:Below w.heap.size w w'):vQ w' A l:=
 ⟨(h.row.below hb).more hb.size,fun m hm=>((h.octs m hm).below hb).more hb.size,h.ns,h.small⟩
def sU (l:List fd):Nat:=(l.map fun h=>h.b.length).sum
theorem wC :∀{l:List fd} {i n:Nat},sL i n l=true→n≤60000→n+sU l≤60000∧(l=[]∨i+l.length≤30)
 |[],i,n,_,hn=>⟨hn, .inl rfl⟩
 |h::r,i,n,hf,hn=>by
  unfold sL at hf
  cases hb:(decide (30≤i)||decide (60000<n+h.b.length)) with
  |true=>rw[hb] at hf;cases hf
  |false=>
   rw[hb,cond_false] at hf
   simp only[Bool.or_eq_false_iff,decide_eq_false_iff_not] at hb
   obtain⟨h1,h2⟩:=wC hf (by omega)
   have e:sU (h::r)=h.b.length+sU r:=rfl
   refine⟨by omega, .inr ?_⟩
   rw[List.length_cons]
   rcases h2 with h2|h2
   ·rw[h2,List.length_nil];omega
   ·omega
theorem pI {l:List fd} {j:Nat} {x:fd} (hx:l[j]?=some x):sU (l.take (j+1))=sU (l.take j)+x.b.length:=by
 unfold sU
 rw[List.take_add_one,hx,List.map_append,List.sum_append]
 simp
theorem Bc (l:List fd) (j:Nat):sU (l.take j)≤sU l:=by
 unfold sU
 conv=>rhs;rw[←List.take_append_drop j l,List.map_append,List.sum_append]
 omega
structure DY (b:List UInt8) (s:Nat) (x:List (ae×aa)):Prop where
 up:Up x
 new:aV cz x=none
 log:aV (aR bJ 3) x=some (bB b)
 used:used x≤b.length+s
theorem CQ {b:List UInt8} {s:Nat} {x:List (ae×aa)} (h:DY b s x) (hb:b.length≤30000) (r:fd) (hs:s+r.b.length≤60000):
 ∃y,wO ⟨4194304,x, -1,false⟩ 3 r=⟨4194304,y, -1,false⟩∧DY b (s+r.b.length) y:=by
 have k0:gE 3 r.fl=aR (bif r.fl then cV else ct) 3:=rfl
 obtain⟨r1,r2,r3,k1,k2,k3,k4,k5,k6⟩:=jB ⟨3,by decide⟩
 have hr:right (gE 3 r.fl)=true:=by rw[k0];cases r.fl<;>assumption
 have hnew:cz≠gE 3 r.fl:=by rw[k0];cases r.fl<;>assumption
 have hlog:aR bJ 3≠gE 3 r.fl:=by rw[k0];cases r.fl<;>assumption
 unfold wO
 cases r.gone with
 |true=>
  rw[cond_true]
  unfold mP
  rw[if_neg (fun h=>by cases h)]
  show ∃y,(match aV (gE 3 r.fl) x with|none=>_|some _=>_:Int×aN).2=_∧_
  cases hg:aV (gE 3 r.fl) x with
  |none=>exact⟨x,rfl,h.up,h.new,h.log,by have:=h.used;omega⟩
  |some f=>
   refine⟨gO (gE 3 r.fl) x,rfl,jO h.up _, ?_, ?_, ?_⟩
   ·rw[gX,if_neg hnew];exact h.new
   ·rw[gX,if_neg hlog];exact h.log
   ·have:=kW (gE 3 r.fl) x;have:=h.used;omega
 |false=>
  rw[cond_false]
  unfold kY
  have hu:=h.used
  rw[if_neg (fun h=>by cases h),if_neg (by rw[hr];decide),if_neg (by unfold aN.room;show ¬4194304 - used x+_<_;omega)]
  refine⟨bN (gE 3 r.fl) (bB r.b) x,rfl,bp h.up, ?_, ?_, ?_⟩
  ·rw[au,if_neg hnew];exact h.new
  ·rw[au,if_neg hlog];exact h.log
  ·have:=eB (k:=gE 3 r.fl) (v:=bB r.b) h.up
   have e:(bB r.b).b.length=r.b.length:=rfl
   omega
theorem zK (b:List UInt8) (hb:b.length≤30000):kY ⟨4194304,[], -1,false⟩ (aR bJ 3) b=(0,⟨4194304,[(aR bJ 3,bB b)], -1,false⟩)∧DY b 0 [(aR bJ 3,bB b)]:=by
 obtain⟨r1,r2,r3,k1,k2,k3,k4,k5,k6⟩:=jB ⟨3,by decide⟩
 refine⟨?_,List.pairwise_singleton _ _, ?_, ?_, ?_⟩
 ·unfold kY
  rw[if_neg (fun h=>by cases h),if_neg (by rw[r1];decide),if_neg (by unfold aN.room;show ¬4194304 - 0+_<_;omega)]
  rfl
 ·rw[gW,if_neg (fun e=>k1 e.symm)];rfl
 ·rw[gW,if_pos rfl]
 ·show b.length+0≤b.length+0;omega
theorem EW {b:List UInt8} {s:Nat} {x:List (ae×aa)} (h:DY b s x) (hs:s≤60000) (hb:b.length≤30000) (hx:x.length<95):
 (500<(aT b).s.live.length∧(jr ⟨4194304,x, -1,false⟩ 3).2.1=5)∨(¬500<(aT b).s.live.length∧∃y z,jr ⟨4194304,x, -1,false⟩ 3=(y,0,⟨4194304,z, -1,false⟩)∧bS ⟨4194304,z, -1,false⟩ 3=(y,0)∧iO y=iO (cN (aT b).s 3)):=by
 have hu:=h.used
 rcases Nat.lt_or_ge 500 (aT b).s.live.length with h5|h5
 ·refine .inl ⟨h5, ?_⟩
  have e1:ay ⟨4194304,x, -1,false⟩ bJ 3=(b,0):=by
   unfold ay bv
   rw[if_neg (fun h=>by cases h)]
   show(match aV (aR bJ 3) x with|none=>_|some f=>_)=_
   rw[h.log]
  have h9:(bS ⟨4194304,x, -1,false⟩ 3).2=9:=by
   rcases yi (d:=⟨4194304,x, -1,false⟩) (n:=3) (by rw[e1]) with h0|h9
   ·obtain⟨y,e,hy⟩:∃y e,bS ⟨4194304,x, -1,false⟩ 3=(y,e):=⟨_,_,rfl⟩
    rw[hy] at h0
    have h0:e=0:=h0
    subst h0
    obtain⟨w1,w2,w3,w4,w5,w6,w7⟩:=ru hy
    rw[e1] at w2 w6
    have hl:=w1.len
    have h10:=congrArg (fun z:eU=>z.msgs.length) w6
    have h11:(y.msgs.map Cd).length=((bQ (aT b).s).msgs.map Cd).length:=h10
    rw[List.length_map,List.length_map,bc w2] at h11
    have h12:y.msgs.length=((aT b).s.live.map dF).length:=h11
    rw[List.length_map] at h12
    omega
   ·rw[h9]
  unfold jr
  rw[if_pos h9,e1]
  unfold qz
  rw[if_pos h5]
 ·refine .inr ⟨by omega, ?_⟩
  obtain⟨y,z,h1,h2,h3,_,_⟩:=Fy (c:=4194304) (n:=3) h.up h.new (by omega) h.log h5 (by show b.length≤_;omega) hx (by show used x+b.length+_≤_;omega)
  exact⟨y,z,h1,h2,h3⟩
theorem sZ {l m:List aU} (h:l.map eS=m.map eS):bare l=bare m:=by
 have e:∀l:List aU,bare l=(l.map eS).map fun p:mH=>(⟨p.1,p.2.1,p.2.2.1,none,0,p.2.2.2⟩:aU):=fun l=>by
  unfold bare
  rw[List.map_map]
  rfl
 rw[e l,e m,h]
theorem HJ :aR bJ 3=[108,111,103,46,51]:=by decide+kernel
theorem Fq :St (aR nt 3)=⟨#[108,111,115,116,46,51]⟩:=by rw[show aR nt 3=[108,111,115,116,46,51] by decide+kernel]
theorem Bf (M:List aU):(M.map zF).map eS=(M.map eS).map Cd:=by rw[List.map_map,List.map_map];rfl
theorem DC {b b2:eU} {M M2:List aU} (h:iO b=iO b2) (h1:M.map eS=b.msgs) (h2:M2.map eS=b2.msgs):gq b.nm b.ep b.nx (M.map zF) b2.nm b2.ep b2.nx (M2.map zF)=true:=by
 have e1:(iO b).nm=(iO b2).nm:=congrArg eU.nm h
 have e2:(iO b).ep=(iO b2).ep:=congrArg eU.ep h
 have e3:(iO b).nx=(iO b2).nx:=congrArg eU.nx h
 have e4:(iO b).msgs=(iO b2).msgs:=congrArg eU.msgs h
 have e1:b.nm=b2.nm:=e1
 have e2:b.ep=b2.ep:=e2
 have e3:b.nx=b2.nx:=e3
 have e4:b.msgs.map Cd=b2.msgs.map Cd:=e4
 rw[e1,e2,e3]
 exact qM (sZ (by rw[Bf,Bf,h1,h2,e4]))
theorem FA {b:eU} {M M2:List aU} (h1:M.map eS=b.msgs) (h2:M2.map eS=b.msgs):gq b.nm b.ep b.nx M b.nm b.ep b.nx M2=true:=qM (sZ (by rw[h1,h2]))
theorem rU (A Ah:Option Addr) (c ch:Nat) (b:List UInt8) (l:List fd) (w:World) (he:pu w) (hbc:b.length≤c) (hbl:b.length≤140737488355328) (hll:l.length≤140737488355328) (hrb:aE w w.heap.size 1 A b.length (ar b)) (hh:vQ w Ah l):
 Calls Tryz.prog 3 #[.slice A b.length c, .slice Ah l.length ch] w fun ev w'=>ev= .returned (.bool true)∧Below w.heap.size w w':=by
 refine aK 103 Tryz.func3 rfl rfl (Nat.le_of_ble_eq_true rfl) ?_
 intro a hA;replace hA:=hA.norm
 refine wS (wR ?_)
 revert a;refine wo rfl rfl (by decide) (fun ev e h=>by simp[go_sem,h]<;>rfl) ?_;intro a hA
 replace hA:=hA.keepN [0,1]
 refine wN (nT (wS (wS (wR ?_))))
 refine aC hA rfl rfl (by decide) (fun ev h=>aB Tryz.func4 (by kernel_rfl) rfl (h.f _) (by first|(simp only[mL,h.c]<;>rfl)|(simp[mL,h.c]<;>rfl))) (pP w) ?_
 rintro e w1 ⟨rfl,hb1⟩
 refine⟨_,rfl,fun a hA=> ?_⟩
 revert a;(iterate 2 refine wo rfl rfl (by decide) (fun ev e h=>by simp[go_sem,h]<;>rfl) ?_);(iterate 3 refine wg _ rfl rfl rfl rfl (by decide) (fun hq ev e h=>by simp[go_sem,h,↓aL (aF hq)]<;>rfl) ?_);refine kj rfl rfl (by decide) rfl rfl rfl ?_;refine wo rfl rfl (by decide) (fun ev e h=>by simp[go_sem,h]<;>rfl) ?_;refine wg _ rfl rfl rfl rfl (by decide) (fun hq ev e h=>by simp[go_sem,h,↓aL (aF hq)]<;>rfl) ?_;intro a hA
 refine dK _ hA rfl rfl rfl rfl (by decide) (fun hq ev h=>aB Tryz.func5 (by kernel_rfl) rfl (h.f _) (by first|(simp only[mL,((h.get 26 rfl).trans (aL (aF hq))),h.c]<;>rfl)|(simp[mL,((h.get 26 rfl).trans (aL (aF hq))),h.c]<;>rfl))) (fun hq=>(CC Ah ch l.length l w1 rfl hll (hh.below hb1).row hh.small).mono fun e w' h=>⟨h.1,h.2▸Below.refl _ _⟩) fun a w2 hb2 hA=> ?_
 obtain⟨fw,hfw⟩:∃q,sL 0 0 l=q:=⟨_,rfl⟩
 rw[hfw] at hA
 have HB2:=hb1.trans (hb2.mono hb1.size)
 revert a;refine wg _ rfl rfl rfl rfl (by decide) (fun hq ev e h=>by simp[go_sem,h,↓aL (aF hq)]<;>rfl) ?_;refine kj rfl rfl (by decide) rfl rfl rfl ?_;intro a hA
 replace hA:=hA.keepN [0,1,29]
 refine wN (nT ?_)
 refine aH hA 29 _ rfl (fun hq=> ?yA) (fun hq=> ?nA)
 case yA=>
  refine wS (wR ?_)
  refine aC hA rfl rfl (by decide) (fun ev h=>aB Tryz.func4 (by kernel_rfl) rfl (h.f _) (by first|(simp only[mL,h.c]<;>rfl)|(simp[mL,h.c]<;>rfl))) (pP _) ?_
  rintro e w3 ⟨rfl,hb3⟩
  refine⟨_,rfl,fun a hA=> ?_⟩
  revert a;refine wo rfl rfl (by decide) (fun ev e h=>by simp[go_sem,h]<;>rfl) ?_;intro a hA
  replace hA:=hA.keepN [4]
  refine wN (nT (wp_ret (rT ?_)))
  refine ab hA 4 rfl rfl ?_
  exact⟨rfl,HB2.trans (hb3.mono HB2.size)⟩
 case nA=>
  have hb30:b.length≤30000:=by simp at hq;omega
  have hfw1:sL 0 0 l=true:=by
   rw[hfw]
   cases fw
   ·simp at hq
   ·rfl
  clear hq
  obtain⟨hsum,hcnt⟩:=wC hfw1 (by omega)
  rw[Nat.zero_add] at hsum
  have hl30:l.length≤30:=by
   rcases hcnt with h|h
   ·rw[h];exact Nat.zero_le _
   ·omega
  refine wp_skip (nT (wS (wR ?_)))
  refine aC hA rfl rfl (by decide) (fun ev h=>aB Tryz.func6 (by kernel_rfl) rfl (h.f _) (by first|(simp only[mL,h.c]<;>rfl)|(simp[mL,h.c]<;>rfl))) (E6 4194304 (by omega) w2) ?_
  rintro e w3 ⟨p,mb,rfl,hd,hp0,hm0,hb3⟩
  refine⟨_,rfl,fun a hA=> ?_⟩
  have HB3:=HB2.trans (hb3.mono HB2.size)
  have hp:w.heap.size≤p:=Nat.le_trans HB2.size hp0
  have hm:w.heap.size≤mb:=Nat.le_trans HB2.size hm0
  have hD3:Dk w3 p mb ⟨4194304,[], -1,false⟩ 0:=⟨⟨[],rfl,hd⟩,DP 4194304 (by omega),Nat.le_refl _,⟨w,he,HB3,hp,hm⟩⟩
  revert a;(iterate 5 refine wo rfl rfl (by decide) (fun ev e h=>by simp[go_sem,h]<;>rfl) ?_);intro a hA
  replace hA:=hA.keepN [0,1,5]
  refine wN (nT (wS (wR ?_)))
  revert a;(iterate 2 refine wo rfl rfl (by decide) (fun ev e h=>by simp[go_sem,h]<;>rfl) ?_);intro a hA
  refine aC hA rfl rfl (by decide) (fun ev h=>aB Tryz.func7 (by kernel_rfl) rfl (h.f _) (by first|(simp only[mL,h.get 35 rfl,h.get 36 rfl,h.c]<;>rfl)|(simp[mL,h.get 35 rfl,h.get 36 rfl,h.c]<;>rfl))) (hD3.harm (by omega) [108,111,103,46,51] (by decide) A b.length c b rfl (by omega) ((hrb.below HB3).more HB3.size)) ?_
  rintro e w4 ⟨rfl,hD4,hB4⟩
  refine⟨_,rfl,fun a hA=> ?_⟩
  obtain⟨f1,f2⟩:=zK b hb30
  rw[←HJ,f1] at hD4
  have HB4:=HB3.trans (hB4.toBelow HB3.size hp hm)
  replace hA:=hA.keepN [0,1,5]
  refine wN (nT (wS (wS (wR ?_))))
  revert a;(iterate 3 refine wo rfl rfl (by decide) (fun ev e h=>by simp[go_sem,h]<;>rfl) ?_);intro a hA
  replace hA:=hA.keepN [0,1,5,39,40]
  refine wN (nT (wB ?_))
  refine aQ (fun f a wx=>∃(j:Nat) (x:List (ae×aa)),j+f=l.length∧Dk wx p mb ⟨4194304,x, -1,false⟩ (j+1)∧DY b (sU (l.take j)) x∧Below w.heap.size w wx∧At 103 [(0, .slice A b.length c),(1, .slice Ah l.length ch),(5, .pointer (some ⟨p,0,none⟩)),(39, .int .i64 (l.length:Nat)),(40, .int .i64 (j:Nat))] a) (l.length) ?_ ?_
  ·exact⟨0,_,by omega,hD4,f2,HB4,hA⟩
  clear hA hD4 HB4 hB4
  rintro f a wx ⟨j,x,hjf,hD,hI,HB,hA⟩
  have jw:IntKind.i64.wrap ((j:Int)+1)=((j+1:Nat):Int):=IntWalk.i64_in _ (by omega)
  refine wS (wR ?_)
  revert a;refine wo rfl rfl (by decide) (fun ev e h=>by simp[go_sem,h]<;>rfl) ?_;intro a hA
  replace hA:=hA.keepN [0,1,5,39,40,41]
  refine wN (nT (wS ?_))
  refine aH hA 41 _ rfl (fun hq1=> ?yL) (fun hq1=> ?nL)
  case yL=>
   have hj:j<l.length:=by simp at hq1;omega
   have jj0:(0:Int)≤(j:Int):=by omega
   have jj1:(j:Int)<(l.length:Int):=by omega
   obtain⟨r,hr⟩:∃r,l[j]?=some r:=⟨_,List.getElem?_eq_getElem hj⟩
   have hrm:=List.mem_of_getElem? hr
   obtain⟨ad,rfl,hadb,h0,hjc⟩:=oL tJ hh.row (by omega) hr
   have z0:=(HB.cell (p:=ad.add (j*4)) (by rw[aD];exact hadb)).trans (h0 _ rfl)
   have z1:=(HB.cell (p:=⟨(ad.add (j*4)).block,(ad.add (j*4)).off+1,none⟩) (by show(ad.add (j*4)).block<_;rw[aD];exact hadb)).trans (hjc 1 _ (by decide) rfl)
   have z2:=(HB.cell (p:=⟨(ad.add (j*4)).block,(ad.add (j*4)).off+2,none⟩) (by show(ad.add (j*4)).block<_;rw[aD];exact hadb)).trans (hjc 2 _ (by decide) rfl)
   have z3:=(HB.cell (p:=⟨(ad.add (j*4)).block,(ad.add (j*4)).off+3,none⟩) (by show(ad.add (j*4)).block<_;rw[aD];exact hadb)).trans (hjc 3 _ (by decide) rfl)
   refine wp_skip (nT (wS (wB (wS (wR ?_)))))
   revert a;(iterate 2 refine wo rfl rfl (by decide) (fun ev e h=>by simp[go_sem,h,z0,z1,z2,z3,jj0,jj1]<;>rfl) ?_);intro a hA
   replace hA:=hA.keepN [0,1,5,7,39,40]
   refine wN (nT (wS (wR ?_)))
   revert a;(iterate 4 refine wo rfl rfl (by decide) (fun ev e h=>by simp[go_sem,h,z0,z1,z2,z3,jj0,jj1]<;>rfl) ?_);intro a hA
   refine ap [.int .i64 r.n, .bool r.fl, .bool r.gone, .slice r.a r.b.length r.c] hA rfl rfl (by decide) (fun ev h=>by simp[go_sem,z0,z1,z2,z3,jj0,jj1];try first|exact⟨rfl,rfl⟩|rfl) rfl rfl (by rfl) (fun w1 g ev hb h=>by simp[go_sem,h.get 8 rfl,h.get 46 rfl,z0,z1,z2,z3,jj0,jj1,setAll,hb.cell,hb.frozen]) fun w5 a (K5:aI _ _ _ _) hz5 hb5 hA=> ?_
   have HB5:=HB.trans (hb5.mono HB.size)
   have hwx:=HB.size
   have hD5:=hD.below hb5
   replace hA:=hA.keepN [0,1,5,8,39,40]
   refine wN (nT (wS (wR ?_)))
   revert a;refine wo rfl rfl (by decide) (fun ev e h=>by simp[go_sem,h,K5.cell]<;>rfl) ?_;intro a hA
   have K50:=K5
   refine aq ([.int .i64 3, .bool r.fl, .bool r.gone, .slice r.a r.b.length r.c]) _ hA rfl rfl K5 (j:=0) (by rfl) (fun ev h=>by simp[go_sem,h.c,h.get 47 rfl,K5.cell,K5.cell,K5.frozen];try first|exact⟨rfl,rfl⟩|rfl) fun w6 (K5:aI _ _ _ _) hs6=> ?_
   have hlt5:=hD.lt
   have hD6:=hD5.only hs6 K50 rfl (by omega) (by omega)
   have HB6:=hs6.below HB5 (by omega)
   replace hA:=hA.keepN [0,1,5,8,39,40]
   refine wN (nT (wR ?_))
   revert a;(iterate 2 refine wo rfl rfl (by decide) (fun ev e h=>by simp[go_sem,h,K5.cell]<;>rfl) ?_);intro a hA
   have hst:=CQ hI hb30 r (by rw[←pI hr];have:=Bc l (j+1);omega)
   obtain⟨y,hy,hI2⟩:=hst
   refine aC hA rfl rfl (by decide) (fun ev h=>aB Tryz.func8 (by kernel_rfl) rfl (h.f _) (by first|(simp only[mL,h.get 48 rfl,h.get 49 rfl,h.c]<;>rfl)|(simp[mL,h.get 48 rfl,h.get 49 rfl,h.c,K5.cell]<;>rfl))) (CO hD6 (by omega) 3 r (by omega) (by have:=Bc l (j+1);rw[pI hr] at this;omega) (((hh.octs r hrm).below HB6).more HB6.size)) ?_
   rintro e w7 ⟨rfl,hD7,hB7⟩
   refine⟨_,rfl,fun a hA=> ?_⟩
   rw[hy] at hD7
   have HB7:=HB6.trans (hB7.toBelow HB6.size hp hm)
   replace hA:=hA.keepN [0,1,5,39,40]
   refine wN (nB (nT (wR ?_)))
   revert a;(iterate 2 refine wo rfl rfl (by decide) (fun ev e h=>by simp[go_sem,h,jw]<;>rfl) ?_);intro a hA
   replace hA:=hA.keepN [0,1,5,39,40]
   refine wN (nT ?_)
   rw[←pI hr] at hI2
   exact⟨f - 1,by omega,j+1,y,by omega,hD7,hI2,HB7,hA⟩
  case nL=>
   have hjl:j=l.length:=by simp at hq1;omega
   rw[hjl,List.take_length] at hI
   have hxl:x.length<95:=by have h9:x.length≤j+1:=hD.few;omega
   have hml:=EW hI hsum hb30 hxl
   have hrbx:=(hrb.below HB).more HB.size
   have hwl:=hD.lt
   have hE:=hD.env
   replace hA:=hA.keepN [0,5]
   refine wp_exit (xT (xT (xB (nT (wS (wR ?_))))))
   revert a;refine wo rfl rfl (by decide) (fun ev e h=>by simp[go_sem,h]<;>rfl) ?_;intro a hA
   refine aC hA rfl rfl (by decide) (fun ev h=>aB Tryz.func9 (by kernel_rfl) rfl (h.f _) (by first|(simp only[mL,h.get 53 rfl,h.c]<;>rfl)|(simp[mL,h.get 53 rfl,h.c]<;>rfl))) (Ch A b.length c b rfl hbc (by omega) wx hE.max hE.big.2.2 hE.tab hrbx) ?_
   rintro e w5 ⟨v,u,Nn,P,rfl,hoN,hoP,hNn,hPn,hNl,hNu,hb5⟩
   refine⟨_,rfl,fun a hA=> ?_⟩
   obtain⟨An,cn,rfl,hrN, -⟩:=hoN.reads
   obtain⟨Au,cu,rfl, -, -⟩:=hoP.reads
   have hbx:bQ (dV (Nn.map ak.b))=bQ (aT b).s:=by
    rw[hNn,F9]
    show _=bQ (bG (cM b))
    rw[AZ _ (xD b)]
   obtain⟨nl,hnl⟩:∃n,Nn.length=n:=⟨_,rfl⟩
   rw[hnl] at hA
   revert a;(iterate 7 refine wo rfl rfl (by decide) (fun ev e h=>by simp[go_sem,h]<;>rfl) ?_);intro a hA
   replace hA:=hA.keepN [5,9]
   refine wN (nT (wS (wR ?_)))
   revert a;refine wo rfl rfl (by decide) (fun ev e h=>by simp[go_sem,h]<;>rfl) ?_;intro a hA
   refine aC hA rfl rfl (by decide) (fun ev h=>aB Tryz.func10 (by kernel_rfl) rfl (h.f _) (by first|(simp only[mL,h.get 59 rfl,h.c]<;>rfl)|(simp[mL,h.get 59 rfl,h.c]<;>rfl))) (Cu An nl cn Nn w5 hnl (by omega) hrN hNu) ?_
   rintro e w6 ⟨v6,M,rfl,hoM,hM, -,hb6⟩
   refine⟨_,rfl,fun a hA=> ?_⟩
   have HB6:=HB.trans ((hb5.trans (hb6.mono hb5.size)).mono HB.size)
   have hD6:=hD.below (hb5.trans (hb6.mono hb5.size))
   rw[hbx] at hM hA
   have hri:cN (aT b).s 3={bQ (aT b).s with nm:=if(aT b).s.nm.toList.isEmpty=true then St (aR nt 3) else(aT b).s.nm,ep:=max (bQ (aT b).s).ep 1}:=rfl
   have hbn:(bQ (aT b).s).nm=(aT b).s.nm:=by unfold bQ;cases al (aT b).s<;>rfl
   have hblen:(bQ (aT b).s).msgs.length=(aT b).s.live.length:=Dm _
   obtain⟨lvn,hlvn⟩:∃n,(aT b).s.live.length=n:=⟨_,rfl⟩
   rw[hlvn] at hml hblen
   obtain⟨bx,hbx9⟩:∃b9,bQ (aT b).s=b9:=⟨_,rfl⟩
   obtain⟨nm,ep,nx,ms⟩:=bx
   rw[hbx9] at hM hA hri hbn hblen
   have hbn:nm=(aT b).s.nm:=hbn
   rw[←hbn] at hri
   have hblen:ms.length=lvn:=hblen
   have hM:M.map eS=ms:=hM
   simp only at hA
   obtain⟨Am,cm,rfl, -, -⟩:=hoM.reads
   have hMl:M.length=lvn:=by rw[←hblen,←hM,List.length_map]
   rw[hMl] at hA hoM
   obtain⟨clb,hclb⟩:∃q,al (dV (Nn.map ak.b))=q:=⟨_,rfl⟩
   rw[hclb] at hA
   revert a;(iterate 3 refine wo rfl rfl (by decide) (fun ev e h=>by simp[go_sem,h]<;>rfl) ?_);intro a hA
   refine ap [.string nm, .int .u32 (ep:Nat), .int .u32 (nx:Nat), .slice Am lvn cm] hA rfl rfl (by decide) (fun ev h=>by simp[go_sem];try first|exact⟨rfl,rfl⟩|rfl) rfl rfl (by rfl) (fun w1 g ev hb h=>by simp[go_sem,h.get 12 rfl,h.get 61 rfl,setAll,hb.cell,hb.frozen]) fun w7 a (K7:aI _ _ _ _) hz7 hb7 hA=> ?_
   replace hoM:=hoM.below hb7
   have HB7:=HB6.trans (hb7.mono HB6.size)
   have hD7:=hD6.below hb7
   have s5:=hb5.size
   have s6:=hb6.size
   have sx:=HB.size
   revert a;refine wo rfl rfl (by decide) (fun ev e h=>by simp[go_sem,h,K7.cell]<;>rfl) ?_;intro a hA
   replace hA:=hA.keepN [5,12]
   refine wN (nT (wS (wS (wR ?_))))
   revert a;(iterate 3 refine wo rfl rfl (by decide) (fun ev e h=>by simp[go_sem,h,K7.cell]<;>rfl) ?_);intro a hA
   replace hA:=hA.keepN [5,12,65]
   refine wN (nT ?_)
   refine cd (fun a wy=>∃nm',nm'=(cN (aT b).s 3).nm∧aI wy w6.heap.size 41 #[.string nm', .int .u32 (ep:Nat), .int .u32 (nx:Nat), .slice Am lvn cm]∧ac de w5.heap.size wy (.slice Am lvn cm) M∧Dk wy p mb ⟨4194304,x, -1,false⟩ (j+1)∧Below w.heap.size w wy∧w7.heap.size≤wy.heap.size∧At 103 [(5, .pointer (some ⟨p,0,none⟩)),(12, .pointer (some ⟨w6.heap.size,0,none⟩))] a) ?jfT ?jrT
   refine aH hA 65 _ rfl (fun hq2=> ?yB) (fun hq2=> ?nB)
   case yB=>
    have hem:nm.toList.isEmpty=true:=by simpa using hq2
    have K70:=K7
    refine wR ?_
    revert a;refine wo rfl rfl (by decide) (fun ev e h=>by simp[go_sem,h,K7.cell]<;>rfl) ?_;intro a hA
    refine aq ([.string ⟨#[108,111,115,116,46,51]⟩, .int .u32 (ep:Nat), .int .u32 (nx:Nat), .slice Am lvn cm]) _ hA rfl rfl K7 (j:=0) (by rfl) (fun ev h=>by simp[go_sem,h.c,h.get 66 rfl,K7.cell,K7.cell,K7.frozen];try first|exact⟨rfl,rfl⟩|rfl) fun w8 (K7:aI _ _ _ _) hs8=> ?_
    replace hA:=hA.keepN [5,12]
    refine wN (nT ?_)
    exact⟨_,by rw[hri];show _=(if nm.toList.isEmpty=true then _ else _);rw[if_pos hem,Fq],K7,hoM.onlyK hs8 K70 (by decide) rfl,hD7.only hs8 K70 rfl (by omega) (by omega),hs8.below HB7 (by omega),by rw[hs8.size];exact Nat.le_refl _,hA⟩
   case nB=>
    have hem:¬nm.toList.isEmpty=true:=by simpa using hq2
    replace hA:=hA.keepN [5,12]
    refine wp_skip (nT ?_)
    exact⟨nm,by rw[hri];show _=(if nm.toList.isEmpty=true then _ else _);rw[if_neg hem],K7,hoM,hD7,HB7,Nat.le_refl _,hA⟩
   clear hA
   rintro a wy ⟨nm',hnm',K7,hoM,hD8,HB8,s8,hA⟩
   have s7:=hb7.size
   refine wS (wR ?_)
   revert a;(iterate 4 refine wo rfl rfl (by decide) (fun ev e h=>by simp[go_sem,h,K7.cell]<;>rfl) ?_);intro a hA
   have K70:=K7
   refine aq ([.string nm', .int .u32 (max (ep:Int) 1), .int .u32 (nx:Nat), .slice Am lvn cm]) _ hA rfl rfl K7 (j:=1) (by rfl) (fun ev h=>by simp[go_sem,h.get 70 rfl,h.get 69 rfl,K7.cell,K7.cell,K7.frozen];try first|exact⟨rfl,rfl⟩|rfl) fun w9 (K7:aI _ _ _ _) hs9=> ?_
   replace hoM:=hoM.onlyK hs9 K70 (by decide) rfl
   have hD9:=hD8.only hs9 K70 rfl (by omega) (by omega)
   have HB9:=hs9.below HB8 (by omega)
   replace hA:=hA.keepN [5,12]
   refine wN (nT (wS (wR ?_)))
   revert a;refine wo rfl rfl (by decide) (fun ev e h=>by simp[go_sem,h,K7.cell]<;>rfl) ?_;intro a hA
   refine aC hA rfl rfl (by decide) (fun ev h=>aB Tryz.func11 (by kernel_rfl) rfl (h.f _) (by first|(simp only[mL,h.get 72 rfl,h.c]<;>rfl)|(simp[mL,h.get 72 rfl,h.c,K7.cell]<;>rfl))) (Fx hD9 (by omega) 3 (by omega)) ?_
   rintro e w10 ⟨v10,rfl,hbox,hD10,hB10⟩
   refine⟨_,rfl,fun a hA=> ?_⟩
   have HB10:=HB9.trans (hB10.toBelow HB9.size hp hm)
   replace K7:=hB10.blk K7 (by omega) (by omega)
   replace hoM:=hoM.but hD9 hB10 (by omega) (by omega)
   obtain⟨md,hmd⟩:∃q,jr ⟨4194304,x, -1,false⟩ 3=q:=⟨_,rfl⟩
   rw[hmd] at hml hbox hD10 hA
   obtain⟨y,ye,dz⟩:=md
   simp only at hml hbox hD10 hA
   obtain⟨V,M2,rfl,hoM2,hM2,hcap2⟩:=hbox.ex
   obtain⟨A2,c2,rfl, -, -⟩:=hoM2.reads
   obtain⟨n2,hn2⟩:∃n,M2.length=n:=⟨_,rfl⟩
   rw[hn2] at hA hoM2
   have s9:=hs9.size
   have s10:=hB10.size
   revert a;(iterate 3 refine wo rfl rfl (by decide) (fun ev e h=>by simp[go_sem,h,K7.cell]<;>rfl) ?_);intro a hA
   refine ap [.string y.nm, .int .u32 (y.ep:Nat), .int .u32 (y.nx:Nat), .slice A2 n2 c2] hA rfl rfl (by decide) (fun ev h=>by simp[go_sem,K7.cell];try first|exact⟨rfl,rfl⟩|rfl) rfl rfl (by rfl) (fun w1 g ev hb h=>by simp[go_sem,h.get 14 rfl,h.get 74 rfl,K7.cell,setAll,hb.cell,hb.frozen]) fun w11 a (K11:aI _ _ _ _) hz11 hb11 hA=> ?_
   replace K7:=K7.below hb11 K7.lt
   replace hoM:=hoM.below hb11
   replace hoM2:=hoM2.below hb11
   have hD11:=hD10.below hb11
   have HB11:=HB10.trans (hb11.mono HB10.size)
   revert a;refine wo rfl rfl (by decide) (fun ev e h=>by simp[go_sem,h,K7.cell]<;>rfl) ?_;intro a hA
   replace hA:=hA.keepN [5,12,14,15]
   refine wN (nT (wS (wS (wR ?_))))
   revert a;(iterate 4 refine wo rfl rfl (by decide) (fun ev e h=>by simp[go_sem,h,K7.cell]<;>rfl) ?_);intro a hA
   replace hA:=hA.keepN [5,12,14,15,79]
   refine wN (nT ?_)
   refine aH hA 79 _ rfl (fun hq3=> ?yC) (fun hq3=> ?nC)
   case yC=>
    have h5:500<lvn:=by simp at hq3;omega
    have hye:ye=5:=by
     rcases hml with⟨_,h⟩|⟨h,_⟩
     ·exact h
     ·exact absurd h5 h
    refine wS (wR ?_)
    revert a;(iterate 3 refine wo rfl rfl (by decide) (fun ev e h=>by simp[go_sem,h,K7.cell]<;>rfl) ?_);intro a hA
    replace hA:=hA.keepN [4]
    refine wN (nT (wp_ret (rT ?_)))
    refine ab hA 4 rfl rfl ?_
    exact⟨bH (by rw[hye];rfl),HB11⟩
   case nC=>
    have h5:¬500<lvn:=by simp at hq3;omega
    have hml2:∃y' z,(y,ye,dz)=(y',(0:Int),(⟨4194304,z, -1,false⟩:aN))∧bS ⟨4194304,z, -1,false⟩ 3=(y',0)∧iO y'=iO (cN (aT b).s 3):=by
     rcases hml with⟨h,_⟩|⟨_,h⟩
     ·exact absurd h h5
     ·exact h
    obtain⟨y',z,hyz,hwz,hfl⟩:=hml2
    injection hyz with e1 e2
    injection e2 with e2 e3
    subst e1 e2 e3
    refine wp_skip (nT (wS (wR ?_)))
    revert a;refine wo rfl rfl (by decide) (fun ev e h=>by simp[go_sem,h,K7.cell]<;>rfl) ?_;intro a hA
    refine aC hA rfl rfl (by decide) (fun ev h=>aB Tryz.func12 (by kernel_rfl) rfl (h.f _) (by first|(simp only[mL,h.get 83 rfl,h.c]<;>rfl)|(simp[mL,h.get 83 rfl,h.c,K7.cell]<;>rfl))) (rt hD11 3 (by omega)) ?_
    rintro e w12 ⟨v12,rfl,hbox2,hb12⟩
    refine⟨_,rfl,fun a hA=> ?_⟩
    rw[hwz] at hbox2 hA
    simp only at hbox2 hA
    obtain⟨V3,M3,rfl,hoM3,hM3, -⟩:=hbox2.ex
    obtain⟨A3,c3,rfl, -, -⟩:=hoM3.reads
    obtain⟨n3,hn3⟩:∃n,M3.length=n:=⟨_,rfl⟩
    rw[hn3] at hA hoM3
    revert a;(iterate 3 refine wo rfl rfl (by decide) (fun ev e h=>by simp[go_sem,h,K7.cell]<;>rfl) ?_);intro a hA
    refine ap [.string y.nm, .int .u32 (y.ep:Nat), .int .u32 (y.nx:Nat), .slice A3 n3 c3] hA rfl rfl (by decide) (fun ev h=>by simp[go_sem,K7.cell];try first|exact⟨rfl,rfl⟩|rfl) rfl rfl (by rfl) (fun w1 g ev hb h=>by simp[go_sem,h.get 16 rfl,h.get 85 rfl,K7.cell,setAll,hb.cell,hb.frozen]) fun w13 a (K13:aI _ _ _ _) hz13 hb13 hA=> ?_
    have hb123:=hb12.trans (hb13.mono hb12.size)
    replace K7:=K7.below hb123 K7.lt
    replace K11:=K11.below hb123 K11.lt
    replace hoM:=hoM.below hb123
    replace hoM2:=hoM2.below hb123
    replace hoM3:=hoM3.below hb13
    have HB13:=HB11.trans (hb123.mono HB11.size)
    have rr1:bu de w13 Am M:=by
     obtain⟨A9,c9,e9,hr9, -⟩:=hoM.reads
     injection e9 with e1 e2 e3
     rw[e1]
     exact hr9
    have rr2:bu de w13 A2 M2:=by
     obtain⟨A9,c9,e9,hr9, -⟩:=hoM2.reads
     injection e9 with e1 e2 e3
     rw[e1]
     exact hr9
    have rr3:bu de w13 A3 M3:=by
     obtain⟨A9,c9,e9,hr9, -⟩:=hoM3.reads
     injection e9 with e1 e2 e3
     rw[e1]
     exact hr9
    have q1:(cN (aT b).s 3).ep=max ep 1:=by rw[hri]
    have q2:(cN (aT b).s 3).nx=nx:=by rw[hri]
    have q3:(cN (aT b).s 3).msgs=ms:=by rw[hri]
    have hyl:y.msgs.length=lvn:=by
     have h9:(iO y).msgs.length=(iO (cN (aT b).s 3)).msgs.length:=by rw[hfl]
     have h8:(y.msgs.map Cd).length=((cN (aT b).s 3).msgs.map Cd).length:=h9
     rw[List.length_map,List.length_map,q3] at h8
     omega
    have hn2l:n2=lvn:=by rw[←hn2,←hyl,←hM2,List.length_map]
    have hn3l:n3=lvn:=by rw[←hn3,←hyl,←hM3,List.length_map]
    have hbare:=Bj y.nm nm' y.ep y.nx (max ep 1) nx A2 Am n2 c2 lvn cm M2 M w13 hn2 (by omega) rr2 hMl (by omega) rr1
    have hsame:gq y.nm y.ep y.nx (M2.map zF) nm' (max ep 1) nx (M.map zF)=true:=by
     have h9:=DC (b:=y) (b2:=cN (aT b).s 3) (M:=M2) (M2:=M) hfl hM2 (by rw[q3];exact hM)
     rw[q1,q2,←hnm'] at h9
     exact h9
    rw[hsame] at hbare
    have hmax:((max ep 1:Nat):Int)=max (ep:Int) 1:=by omega
    unfold mI at hbare
    rw[hmax] at hbare
    revert a;refine wo rfl rfl (by decide) (fun ev e h=>by simp[go_sem,h,K7.cell,K11.cell,K13.cell]<;>rfl) ?_;intro a hA
    replace hA:=hA.keepN [12,14,15,16,17]
    refine wN (nT (wS (wR ?_)))
    revert a;(iterate 3 refine wo rfl rfl (by decide) (fun ev e h=>by simp[go_sem,h,K7.cell,K11.cell,K13.cell]<;>rfl) ?_);(iterate 2 refine wg _ rfl rfl rfl rfl (by decide) (fun hq ev e h=>by simp[go_sem,h,↓aL (aF hq),K7.cell,K11.cell,K13.cell]<;>rfl) ?_);refine j9 rfl rfl (by decide) rfl rfl rfl ?_;refine wo rfl rfl (by decide) (fun ev e h=>by simp[go_sem,h,K7.cell,K11.cell,K13.cell]<;>rfl) ?_;(iterate 2 refine wg _ rfl rfl rfl rfl (by decide) (fun hq ev e h=>by simp[go_sem,h,↓aL (aF hq),K7.cell,K11.cell,K13.cell]<;>rfl) ?_);intro a hA
    refine yl hA rfl rfl rfl rfl (by decide) (fun ev h=>aB Tryz.func13 (by kernel_rfl) rfl (h.f _) (by first|(simp only[mL,h.get 94 rfl,h.get 95 rfl,h.c]<;>rfl)|(simp[mL,h.get 94 rfl,h.get 95 rfl,h.c,K7.cell,K11.cell,K13.cell]<;>rfl))) (hbare) ?_
    rintro e w14 ⟨rfl,hb14⟩
    refine⟨_,rfl,fun a hA=> ?_⟩
    replace K11:=K11.below hb14 K11.lt
    replace K13:=K13.below hb14 K13.lt
    replace rr2:=rr2.below hb14
    replace rr3:=rr3.below hb14
    have HB14:=HB13.trans (hb14.mono HB13.size)
    have hsb:=kf y.nm y.nm A2 A3 c2 c3 n2 n3 y.ep y.ep y.nx y.nx M2 M3 w14 (by omega) (by rw[←hn2];exact rr2.msgR) (by rw[←hn3];exact rr3.msgR)
    rw[FA hM2 hM3] at hsb
    unfold mI at hsb
    revert a;refine j9 rfl rfl (by decide) rfl rfl rfl ?_;intro a hA
    replace hA:=hA.keepN [14,16,97]
    revert a;refine wo rfl rfl (by decide) (fun ev e h=>by simp[go_sem,h,K11.cell,K13.cell]<;>rfl) ?_;(iterate 2 refine wg _ rfl rfl rfl rfl (by decide) (fun hq ev e h=>by simp[go_sem,h,↓aL (aF hq),K11.cell,K13.cell]<;>rfl) ?_);intro a hA
    refine yl hA rfl rfl rfl rfl (by decide) (fun ev h=>aB Tryz.func14 (by kernel_rfl) rfl (h.f _) (by first|(simp only[mL,h.get 99 rfl,h.get 100 rfl,h.c]<;>rfl)|(simp[mL,h.get 99 rfl,h.get 100 rfl,h.c,K11.cell,K13.cell]<;>rfl))) (hsb) ?_
    rintro e w15 ⟨rfl,hb15⟩
    refine⟨_,rfl,fun a hA=> ?_⟩
    revert a;refine j9 rfl rfl (by decide) rfl rfl rfl ?_;refine wo rfl rfl (by decide) (fun ev e h=>by simp[go_sem,h,K11.cell,K13.cell]<;>rfl) ?_;intro a hA
    replace hA:=hA.keepN [4]
    refine wN (nT (wp_ret ?_))
    refine ab hA 4 rfl rfl ?_
    exact⟨rfl,HB14.trans (hb15.mono HB14.size)⟩
end Go.Proofs.YtclcfkaphlopeaaGreatDoor
