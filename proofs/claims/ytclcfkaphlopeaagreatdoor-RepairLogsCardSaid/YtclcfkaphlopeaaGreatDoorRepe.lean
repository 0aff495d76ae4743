/-
  Walk: all records of bytes, by the document (cubbyref01.Scan).
-/
import Derived.Test.YtclcfkaphlopeaaGreatDoorRepd
import Derived.Lib.AtoiAll
import Derived.Sort.OwnSortedInts
set_option linter.unusedSimpArgs false
set_option linter.unusedVariables false
set_option maxRecDepth 100000
set_option maxHeartbeats 16000000
namespace Go.Proofs.YtclcfkaphlopeaaGreatDoor
open Go.RowKit
def BY :Sh uE:=⟨70,60,3,40, .agg #[.int .i64 0, .int .i64 0, .slice none 0 0],Es,fun r=>[(r.a,r.b)],fun _=>rfl,xY,Tryz.underlying60,by kernel_rfl,rfl,by decide,by decide⟩
theorem xd (A:Option Addr) (n c:Nat) (b:List UInt8) (hl:b.length=n) (hc:n≤c) (hn:n≤1000000) (w:World) (hr:aE w w.heap.size 1 A n (ar b)):
 Calls Tryz.prog 22 #[.slice A n c] w fun ev w'=>∃v l,ev= .returned (.tuple #[v, .int .i64 ((gP b).2:Nat)])∧ac BY w.heap.size w' v l∧l.map iE=(gP b).1∧Below w.heap.size w w':=by
 have HB:=Below.refl w.heap.size w
 refine aK 72 Tryz.func22 rfl rfl (Nat.le_of_ble_eq_true rfl) ?_
 intro a hA;replace hA:=hA.norm
 refine wS (wR ?_)
 revert a;(iterate 2 refine wo rfl rfl (by decide) (fun ev e h=>by simp[go_sem,h]<;>rfl) ?_);intro a hA
 replace hA:=hA.keepN [0]
 refine wN (nT (wS (wR ?_)))
 revert a;refine wo rfl rfl (by decide) (fun ev e h=>by simp[go_sem,h]<;>rfl) ?_;intro a hA
 replace hA:=hA.keepN [0,4]
 refine wN (nT (wS (wR ?_)))
 revert a;refine wo rfl rfl (by decide) (fun ev e h=>by simp[go_sem,h]<;>rfl) ?_;intro a hA
 replace hA:=hA.keepN [0,4,5]
 refine wN (nT (wS (wR ?_)))
 revert a;refine wo rfl rfl (by decide) (fun ev e h=>by simp[go_sem,h]<;>rfl) ?_;intro a hA
 replace hA:=hA.keepN [0,4,5,6]
 refine wN (nT (wS (wB ?_)))
 refine aQ (fun k a wx=>∃(q t:Nat) (v:Value) (l:List uE),k=n - q∧q≤n∧l.length≤q∧gP b=cC b q t (l.map iE)∧At 72 [(0, .slice A n c),(4,v),(5, .int .i64 (q:Nat)),(6, .int .i64 (t:Nat))] a∧ac BY w.heap.size wx v l∧Below w.heap.size w wx) (n) ?_ ?_
 ·exact⟨0,0,_,[],rfl,by omega,by simp,rfl,hA,ac.nil _ _,HB⟩
 clear HB
 rintro k a wx ⟨q,t,v,l,hk,hqn,hlen,hsc,hA,ho,HB⟩
 refine wS (wS (wR ?_))
 revert a;(iterate 4 refine wo rfl rfl (by decide) (fun ev e h=>by simp[go_sem,h]<;>rfl) ?_);intro a hA
 replace hA:=hA.keepN [0,4,5,6,15]
 refine wN (nT ?_)
 refine aH hA 15 _ rfl (fun hq=> ?yL) (fun hq=> ?nL)
 case nL=>
  have hqe:q=n:=by simp at hq;omega
  rw[dy (by omega)] at hsc
  replace hA:=hA.keepN [4,6]
  refine wp_exit (xT (xT (xB (nT (wS (wR ?_))))))
  revert a;(iterate 4 refine wo rfl rfl (by decide) (fun ev e h=>by simp[go_sem,h]<;>rfl) ?_);intro a hA
  replace hA:=hA.keepN [2,3]
  refine wN (nT (wp_ret ?_))
  refine gJ hA 2 3 rfl rfl rfl ?_
  exact⟨v,l,by rw[hsc],ho,by rw[hsc],HB⟩
 case yL=>
  have hlt:q<n:=by simp at hq;omega
  have hrR0:=(hr.below HB).more HB.size
  refine wp_skip (nT (wB (wS (wR ?_))))
  revert a;(iterate 2 refine wo rfl rfl (by decide) (fun ev e h=>by simp[go_sem,h]<;>rfl) ?_);intro a hA
  refine aC hA rfl rfl (by decide) (fun ev h=>aB Tryz.func49 (by kernel_rfl) rfl (h.f _) (by first|(simp only[mL,h.get 17 rfl,h.get 18 rfl,h.c]<;>rfl)|(simp[mL,h.get 17 rfl,h.get 18 rfl,h.c]<;>rfl))) (xZ A n c q b hl hc hn hqn _ hrR0) ?_
  rintro e w2 ⟨kk,mm,rfl,hkm,hb2⟩
  refine⟨_,rfl,fun a hA=> ?_⟩
  have HB2:=HB.trans (hb2.mono HB.size)
  have ho2:=ho.below hb2
  clear hrR0
  revert a;(iterate 7 refine wo rfl rfl (by decide) (fun ev e h=>by simp[go_sem,h]<;>rfl) ?_);intro a hA
  replace hA:=hA.keepN [0,4,5,6,7,8,9]
  refine wN (nT (wS (wS (wR ?_))))
  revert a;(iterate 2 refine wo rfl rfl (by decide) (fun ev e h=>by simp[go_sem,h]<;>rfl) ?_);intro a hA
  replace hA:=hA.keepN [0,4,5,6,7,8,24]
  refine wN (nT ?_)
  refine aH hA 24 _ rfl (fun hq2=> ?yH) (fun hq2=> ?nH)
  case yH=>
   have hno:ah (b.drop q)=false:=by simpa using hq2
   rw[ib hno (by omega)] at hsc
   have h1:q+1≤1000000000:=by omega
   have e1:n - (q+1)<n - q:=by omega
   obtain⟨q1,hq1⟩:∃x,q+1=x:=⟨_,rfl⟩
   rw[hq1] at h1 e1 hsc
   have e2:q1≤n:=by omega
   have e3:l.length≤q1:=by omega
   have f1:IntKind.i64.wrap ((q:Int)+1)=(q1:Int):=cB (k:=1) hq1 h1
   refine wS (wR ?_)
   revert a;(iterate 3 refine wo rfl rfl (by decide) (fun ev e h=>by simp[go_sem,h,f1]<;>rfl) ?_);intro a hA
   replace hA:=hA.keepN [0,4,5,6]
   replace hA:=hA.keepN [0,4,5,6]
   refine wN (nT (wp_exit (xT (xB (nT ?_)))))
   exact⟨n - q1,by rw[hk];exact e1,q1,t,v,l,rfl,e2,e3,hsc,hA,ho2,HB2⟩
  case nH=>
   have hyes:ah (b.drop q)=true:=by simpa using hq2
   obtain⟨rfl,rfl⟩:=hkm hyes
   have h44:=fb hyes
   have hmx:cD (b.drop q)≤30000:=by
    have hy:=hyes
    unfold ah at hy
    simp only[Bool.and_eq_true,decide_eq_true_eq] at hy
    exact hy.2.1.2
   rw[List.length_drop,hl] at h44
   obtain⟨m,hme⟩:∃m,cD (b.drop q)=m:=⟨_,rfl⟩
   rw[hme] at hA hmx
   have a1:q+44≤n:=by omega
   have a2:q+44≤1000000000:=by omega
   have a3:q+44+m≤1000000000:=by omega
   have p1:q+44≤q+44+m:=by omega
   have p2:q+12≤q+44:=by omega
   have a4:q+12≤1000000000:=by omega
   have d0:q+44+m - (q+44)=m:=by omega
   obtain⟨q44,hq44⟩:∃x,q+44=x:=⟨_,rfl⟩
   obtain⟨q12,hq12⟩:∃x,q+12=x:=⟨_,rfl⟩
   obtain⟨qm,hqm⟩:∃x,q+44+m=x:=⟨_,rfl⟩
   have hqm2:q44+m=qm:=by rw[←hq44];exact hqm
   rw[hq44] at a1 a2
   rw[hq12] at a4
   rw[hqm] at a3
   have f1:IntKind.i64.wrap ((q:Int)+44)=(q44:Int):=cB (k:=44) hq44 a2
   have f2:IntKind.i64.wrap ((q44:Int)+(m:Int))=(qm:Int):=cB hqm2 a3
   have f3:IntKind.i64.wrap ((q:Int)+12)=(q12:Int):=cB (k:=12) hq12 a4
   refine wp_skip (nT (wS (wS (wR ?_))))
   revert a;(iterate 7 refine wo rfl rfl (by decide) (fun ev e h=>by simp[go_sem,h,f1,f2]<;>rfl) ?_);intro a hA
   replace hA:=hA.keepN [0,4,5,7,8,33]
   refine wN (nT ?_)
   refine aH hA 33 _ rfl (fun hq3=> ?yT) (fun hq3=> ?nT)
   case yT=>
    have hgt:n<qm:=by clear f1 f2 f3;simp at hq3;omega
    rw[ic hyes (by clear f1 f2 f3;omega)] at hsc
    refine wS (wR ?_)
    revert a;(iterate 4 refine wo rfl rfl (by decide) (fun ev e h=>by simp[go_sem,h]<;>rfl) ?_);intro a hA
    replace hA:=hA.keepN [2,3]
    refine wN (nT (wp_ret (rT (rB (rT (rB (rT ?_)))))))
    refine gJ hA 2 3 rfl rfl rfl ?_
    exact⟨v,l,by rw[hsc],ho2,by rw[hsc],HB2⟩
   case nT=>
    have hle:qm≤n:=by clear f1 f2 f3;simp at hq3;omega
    have hle2:q+44+m≤n:=by rw[hqm];exact hle
    have hpl:(cA (b.drop q)).length=m:=by
     unfold cA
     rw[hme,List.drop_drop,List.length_take,List.length_drop,hl]
     clear f1 f2 f3
     omega
    have hpe:(b.drop (q+44)).take (q+44+m - (q+44))=cA (b.drop q):=by
     unfold cA
     rw[hme,List.drop_drop,d0]
    have d3:q+44 - (q+12)=32:=by clear f1 f2 f3;omega
    have hde:(b.drop (q+12)).take (q+44 - (q+12))=((b.drop q).drop 12).take 32:=by
     rw[List.drop_drop,d3]
    have hdl2:(((b.drop q).drop 12).take 32).length=32:=by
     rw[List.drop_drop,List.length_take,List.length_drop,hl]
     clear f1 f2 f3
     omega
    have hrR:=(hr.below HB2).more HB2.size
    have hR1:=ew hrR p1 hle2 hc
    have hR2:=ew hrR p2 (by rw[hq44];exact a1) hc
    rw[hpe,d0,hq44] at hR1
    rw[hde,d3,hq12] at hR2
    have hscr:=jD (b:=b) (at_:=q) (torn:=t) (l:=l.map iE) hyes (by rw[hme,hl];clear f1 f2 f3;omega)
    rw[←hsc,hme,hqm] at hscr
    have i1:(0:Int)≤(q44:Int):=by clear f1 f2 f3;omega
    have i2:(q44:Int)≤(qm:Int):=by clear f1 f2 f3;omega
    have i3:(qm:Int)≤(c:Int):=by clear f1 f2 f3;omega
    have i4:(0:Int)≤(q12:Int):=by clear f1 f2 f3;omega
    have i5:(q12:Int)≤(q44:Int):=by clear f1 f2 f3;omega
    have i6:(q44:Int)≤(c:Int):=by clear f1 f2 f3;omega
    have d1:qm - q44=m:=by clear f1 f2 f3;omega
    have d2:q44 - q12=32:=by clear f1 f2 f3;omega
    have hm6:m≤1000000:=by clear f1 f2 f3;omega
    refine wp_skip (nT (wS (wR ?_)))
    revert a;(iterate 9 refine wo rfl rfl (by decide) (fun ev e h=>by simp[go_sem,h,f1,f2,i1,i2,i3,d1]<;>rfl) ?_);intro a hA
    replace hA:=hA.keepN [0,4,5,7,8,10]
    refine wN (nT (wS (wR ?_)))
    revert a;refine wo rfl rfl (by decide) (fun ev e h=>by simp[go_sem,h,f1,f2,i1,i2,i3,d1]<;>rfl) ?_;intro a hA
    refine aC hA rfl rfl (by decide) (fun ev h=>aB Tryz.func50 (by kernel_rfl) rfl (h.f _) (by first|(simp only[mL,h.get 44 rfl,h.c]<;>rfl)|(simp[mL,h.get 44 rfl,h.c,f1,f2,i1,i2,i3,d1]<;>rfl))) (sP _ m _ (cA (b.drop q)) hpl hm6 _ hR1) ?_
    rintro e w3 ⟨rfl,hb3⟩
    refine⟨_,rfl,fun a hA=> ?_⟩
    have HB3:=HB2.trans (hb3.mono HB2.size)
    replace ho2:=ho2.below hb3
    replace hR1:=(hR1.below hb3).more hb3.size
    replace hR2:=(hR2.below hb3).more hb3.size
    refine aP hA rfl rfl (by decide) (fun ev h=>by simp[go_sem,f1,f2,i1,i2,i3,d1];try first|exact⟨rfl,rfl⟩|rfl) fun w4 a (K9:aI _ _ _ _) hz4 hb4 hA=> ?_
    have hd32:=pJ (bK (cA (b.drop q)))
    refine di (ar (cP (cA (b.drop q)))) hA rfl rfl K9 (by rfl) hd32 (by kernel_rfl) (rp _) rfl (fun ev h=>⟨h.get 11 rfl,h.get 45 rfl⟩) fun w5 (K9:aI _ _ _ _) hs5=> ?_
    have hb5:=hs5.below hb4 (Nat.le_refl _)
    replace HB3:=HB3.trans (hb5.mono HB3.size)
    replace ho2:=ho2.below hb5
    replace hR1:=(hR1.below hb5).more hb5.size
    replace hR2:=(hR2.below hb5).more hb5.size
    have hR9:=ii (l:=cP (cA (b.drop q))) K9
    rw[bK] at hR9
    clear hb4 hb5 hs5 hb3
    replace hA:=hA.keepN [0,4,5,7,8,10,11]
    refine wN (nT (wS (wS ?_)))
    refine bi hA [(.det ?dE0),(.det ?dE1),(.det ?dE2),(.det ?dE3),(.det ?dE4),(.det ?dE5),(.det ?dE6),(.det ?dE7),(.det ?dE8),(.det ?dE9)] [] (fun wy=>Below w5.heap.size w5 wy) (aG [] aA) (by kernel_rfl) rfl (by kernel_rfl) (by kernel_rfl) rfl ((Below.refl _ _).drew) (bF [] [true,true,true,true,true,true,true,true,true,true] [true,true,true,true,true,true,true,true,true,true] [] rfl rfl rfl (by kernel_rfl) ⟨trivial,trivial,trivial,trivial,trivial,trivial,trivial,trivial,trivial,trivial,trivial⟩ trivial) (fun _ h=>by cases h) (fun _ _ _ _ _ h=>by cases h) (fun _ h=>by cases h) ⟨?oE0, ?oE1, ?oE2, ?oE3, ?oE4, ?oE5, ?oE6, ?oE7, ?oE8, ?oE9,trivial⟩ (by kernel_rfl) ?fE
    case oE0=>intro ev wo hev hC hs hph;have x0:=se hA hs 11;exact od rfl rfl (by kernel_rfl) hC (aG.of rfl (aA.refl _)) (by simp[go_sem,x0,f1,f3,i4,i5,i6,d2]<;>rfl)
    case oE1=>
     intro ev wo hev hC hs hph
     have e46:=sd hs 46 0
     have q1:=aY (c:=32) (bK (cA (b.drop q))) (hR9.below hC)
     have q2:=aY (c:=c - q12) hdl2 (hR2.below hC)
     exact rL (aJ rfl) rfl (by kernel_rfl) hC (aG.of rfl (aA.refl _)) (by simp[go_sem,e46,q1,f1,f3,i4,i5,i6,d2];try first|exact⟨rfl,rfl⟩|rfl)
    case oE2=>intro ev wo hev hC hs hph;have x0:=se hA hs 0;exact od rfl rfl (by kernel_rfl) hC (aG.of rfl (aA.refl _)) (by simp[go_sem,x0,f1,f3,i4,i5,i6,d2]<;>rfl)
    case oE3=>intro ev wo hev hC hs hph;have x0:=se hA hs 5;exact od rfl rfl (by kernel_rfl) hC (aG.of rfl (aA.refl _)) (by simp[go_sem,x0,f1,f3,i4,i5,i6,d2]<;>rfl)
    case oE4=>intro ev wo hev hC hs hph;have x0:=sd hs 49 3;exact od rfl rfl (by kernel_rfl) hC (aG.of rfl (aA.refl _)) (by simp[go_sem,x0,hev.const,f1,f3,i4,i5,i6,d2]<;>rfl)
    case oE5=>intro ev wo hev hC hs hph;have x0:=se hA hs 5;exact od rfl rfl (by kernel_rfl) hC (aG.of rfl (aA.refl _)) (by simp[go_sem,x0,f1,f3,i4,i5,i6,d2]<;>rfl)
    case oE6=>intro ev wo hev hC hs hph;have x0:=sd hs 51 5;exact od rfl rfl (by kernel_rfl) hC (aG.of rfl (aA.refl _)) (by simp[go_sem,x0,hev.const,f1,f3,i4,i5,i6,d2]<;>rfl)
    case oE7=>intro ev wo hev hC hs hph;have x0:=sd hs 48 2;have x1:=sd hs 50 4;have x2:=sd hs 52 6;exact od rfl rfl (by kernel_rfl) hC (aG.of rfl (aA.refl _)) (by simp[go_sem,x0,x1,x2,f1,f3,i4,i5,i6,d2]<;>rfl)
    case oE8=>
     intro ev wo hev hC hs hph
     have e53:=sd hs 53 7
     have q1:=aY (c:=32) (bK (cA (b.drop q))) (hR9.below hC)
     have q2:=aY (c:=c - q12) hdl2 (hR2.below hC)
     exact rL (aJ rfl) rfl (by kernel_rfl) hC (aG.of rfl (aA.refl _)) (by simp[go_sem,e53,q2,f1,f3,i4,i5,i6,d2];try first|exact⟨rfl,rfl⟩|rfl)
    case oE9=>intro ev wo hev hC hs hph;have x0:=sd hs 47 1;have x1:=sd hs 54 8;exact od rfl rfl (by kernel_rfl) hC (aG.of rfl (aA.refl _)) (by simp[go_sem,x0,x1,f1,f3,i4,i5,i6,d2]<;>rfl)
    intro sg wf hC hph
    intro a hA
    replace hA:=hA.keepN [0,4,5,7,8,10,55]
    refine nT ?_
    have HB4:=HB3.trans (hC.mono HB3.size)
    replace ho2:=ho2.below hC
    replace hR1:=(hR1.below hC).more hC.size
    clear hR9 hR2 hC K9
    have hrec:ed b q=bif (cP (cA (b.drop q))==((b.drop q).drop 12).take 32) then[⟨q,cE (b.drop q),cA (b.drop q)⟩] else[]:=rfl
    have hk2:n - qm<n - q:=by clear f1 f2 f3;omega
    have hlq:l.length<qm:=by clear f1 f2 f3;omega
    refine aH hA 55 _ rfl (fun hq4=> ?yG) (fun hq4=> ?nG)
    case nG=>
     rw[hrec,List.drop_drop,hq4,cond_false,List.append_nil] at hscr
     refine wp_skip (nT (wS (wR ?_)))
     revert a;(iterate 5 refine wo rfl rfl (by decide) (fun ev e h=>by simp[go_sem,h,f1,f2]<;>rfl) ?_);intro a hA
     replace hA:=hA.keepN [0,4,5]
     refine wN (nT (wR ?_))
     revert a;(iterate 2 refine wo rfl rfl (by decide) (fun ev e h=>by simp[go_sem,h,f1,f2]<;>rfl) ?_);intro a hA
     replace hA:=hA.keepN [0,4,5,6]
     refine wN (nB (nT ?_))
     exact⟨n - qm,by rw[hk];exact hk2,qm,qm,v,l,rfl,hle,Nat.le_of_lt hlq,hscr,hA,ho2,HB4⟩
    case yG=>
     rw[hrec,List.drop_drop,hq4,cond_true] at hscr
     refine wR ?_
     revert a;(iterate 3 refine wo rfl rfl (by decide) (fun ev e h=>by simp[go_sem,h,f1,f3,i4,i5,i6,d2]<;>rfl) ?_);intro a hA
     refine aP hA rfl rfl (by decide) (fun ev h=>by simp[go_sem,f1,f3,i4,i5,i6,d2];try first|exact⟨rfl,rfl⟩|rfl) fun w6 a (K6:aI _ _ _ _) hz6 hb6 hA=> ?_
     have hvlt:=World.ownsRow.lt ho2.row
     have ho8:ce wf.heap.size w6 (.slice (some ⟨wf.heap.size,0,none⟩) 0 0) []:=gy K6 (Nat.le_refl _)
     revert a;refine wo rfl rfl (by decide) (fun ev e h=>by simp[go_sem,h,f1,f3,i4,i5,i6,d2]<;>rfl) ?_;intro a hA
     obtain⟨r1,w7,hr7,ho7,hg7⟩:=ez ho8 (u:= .slice (if c=q44 then A else Option.map (fun x=>x.add q44) A) m (c - q44)) ⟨_,_,by rw[hpl],by rw[hpl];exact(hR1.below hb6).more hb6.size⟩ (by simp only[List.length_nil];clear f1 f2 f3;omega) hb6.size
     have hb7:Below wf.heap.size wf w7:=dM hb6 ho8 hg7 (Nat.le_refl _) hb6.size
     rw[List.nil_append] at ho7
     refine a7 hA rfl rfl (by decide) (fun ev h=>ao rfl (h.get 59 rfl) (h.get 60 rfl) hr7) fun a hA=> ?_
     replace HB4:=HB4.trans (hb7.mono HB4.size)
     replace ho2:=ho2.below hb7
     have hclt:=World.ownsRow.lt ho7
     obtain⟨A8,c8,rfl,hR8⟩:=ho7.took
     revert a;refine wo rfl rfl (by decide) (fun ev e h=>by simp[go_sem,h,f1,f3,i4,i5,i6,d2]<;>rfl) ?_;intro a hA
     refine aP hA rfl rfl (by decide) (fun ev h=>by simp[go_sem,h.get 62 rfl,f1,f3,i4,i5,i6,d2];try first|exact⟨rfl,rfl⟩|rfl) fun w8 a (K8:aI _ _ _ _) hz8 hb8 hA=> ?_
     replace HB4:=HB4.trans (hb8.mono HB4.size)
     replace ho2:=ho2.below hb8
     replace hR8:=(hR8.below hb8).more hb8.size
     have hrow:bu BY w8 _ [(⟨q,cE (b.drop q),A8,c8,cA (b.drop q)⟩:uE)]:=ey (s:=BY) (x:=⟨q,cE (b.drop q),A8,c8,cA (b.drop q)⟩) K8 (fun p hp=>by rw[List.mem_singleton.1 hp];exact hR8)
     obtain⟨r,w9,hr9,ho9,hgr, -⟩:=eT ho2 hrow (fun g hg x hx p hp=>by
      rw[List.mem_singleton.1 hx] at hp
      rw[List.mem_singleton.1 hp]
      intro hn ad ha he
      replace ha:A8=some ad:=ha
      have h1:=(hvlt g hg).2
      have h2:=(hclt ad.block (by rw[ha];rfl)).1
      omega) (by clear f1 f2 f3;simp;omega) HB4.size
     have HB9:=dN HB4 ho2 hgr (Nat.le_refl _) HB4.size
     refine a7 hA rfl rfl (by decide) (fun ev h=>ao rfl (h.get 56 rfl) (h.get 63 rfl) hr9) fun a hA=> ?_
     revert a;refine wo rfl rfl (by decide) (fun ev e h=>by simp[go_sem,h,f1,f2]<;>rfl) ?_;intro a hA
     replace hA:=hA.keepN [0,4,5,8]
     refine wN (nT (wS (wR ?_)))
     revert a;(iterate 5 refine wo rfl rfl (by decide) (fun ev e h=>by simp[go_sem,h,f1,f2]<;>rfl) ?_);intro a hA
     replace hA:=hA.keepN [0,4,5]
     refine wN (nT (wR ?_))
     revert a;(iterate 2 refine wo rfl rfl (by decide) (fun ev e h=>by simp[go_sem,h,f1,f2]<;>rfl) ?_);intro a hA
     replace hA:=hA.keepN [0,4,5,6]
     refine wN (nB (nT ?_))
     exact⟨n - qm,by rw[hk];exact hk2,qm,qm,r,l++[⟨q,cE (b.drop q),A8,c8,cA (b.drop q)⟩],rfl,hle,by rw[List.length_append];exact hlq,by rw[List.map_append];exact hscr,hA,ho9,HB9⟩
abbrev ak.C (n:ak):Array Value:=fQ n.kind n.ep n.nm n.m
def eZ (n:ak):List Value:=[.int .i64 n.kind, .int .u32 (n.ep:Nat), .string n.nm, .int .u32 (n.m.uid:Nat), .int .i64 n.m.date, .int .i64 n.m.flags, .slice n.m.a n.m.b.length n.m.c]
theorem rG (x:ak):∀u∈eZ x,u.oneCell'=true:=by
 intro u hu
 unfold eZ at hu
 simp only[List.mem_cons,List.not_mem_nil,or_false] at hu
 rcases hu with rfl|rfl|rfl|rfl|rfl|rfl|rfl<;>rfl
theorem xA (n:ak):n.C.toList.all px=true:=rfl
def jx :Sh ak:=⟨71,34,7,80, .agg #[.int .i64 0, .int .u32 0, .string ⟨#[]⟩, .int .u32 0, .int .i64 0, .int .i64 0, .slice none 0 0],eZ,fun x=>[(x.m.a,x.m.b)],fun _=>rfl,rG,Tryz.underlying34,by kernel_rfl,rfl,by decide,by decide⟩
def BK :Sh Nat:=⟨3,35,1,8, .int .i64 0,fun n=>[.int .i64 (n:Nat)],fun _=>[],fun _=>rfl,fun _ u hu=>by rw[List.mem_singleton.1 hu];rfl,Tryz.underlying35,by kernel_rfl,rfl,by decide,by decide⟩
def ak.b (n:ak):aX:=⟨n.kind,n.ep,n.nm,n.m.uid,n.m.date,n.m.flags,n.m.b,0⟩
theorem vw (k:Nat) (A:Option Addr) (n c:Nat) (p:List UInt8) (hl:p.length=n) (hn:n≤1000000) (w:World) (hm:cX w) (hg:0<w.heap.size) (htab:Lib.TabIs Tryz.prog w "internal/strconv.uint64pow10" .u64 Lib.pow10Tab) (hr:aE w w.heap.size 1 A n (ar p)):
 Calls Tryz.prog 23 #[.int .i64 (k:Nat), .slice A n c] w fun ev w'=>∃x:ak,ev= .returned (.tuple #[.agg x.C, .int .i64 (bif bk (k:Int) p then 0 else 2)])∧(bj w' (x.m.a,x.m.b)∧∀ad,x.m.a=some ad→w.heap.size≤ad.block)∧(bk (k:Int) p=true→x.b=z0 (em k 0 p)∧x.m.uid<4294967296∧x.ep<4294967296)∧Below w.heap.size w w':=by
 refine(qV (k:Int) A n c p hl hn w hm hg htab hr).mono fun ev w' ⟨a,c',h1,h2,h3⟩=> ?_
 cases hd:bk (k:Int) p with
 |true=>
  rw[hd] at h1
  obtain⟨h4,h5⟩:=h2 hd
  exact⟨⟨(k:Int),(ko p).1,(mN (k:Int) p).1,vO (k:Int) p a c'⟩,h1,⟨h4,h5⟩,fun _=>⟨rfl,um _ _,iL _ 4⟩,h3⟩
 |false=>
  rw[hd] at h1
  exact⟨⟨0,0,⟨#[]⟩,⟨0,0,0,none,0,[]⟩⟩,h1,⟨aE.none8,fun ad h=>by cases h⟩,fun h=>(by cases h),h3⟩
theorem Ch (A:Option Addr) (n c:Nat) (b:List UInt8) (hl:b.length=n) (hc:n≤c) (hn:n≤1000000) (w:World) (hm:cX w) (hg:0<w.heap.size) (htab:Lib.TabIs Tryz.prog w "internal/strconv.uint64pow10" .u64 Lib.pow10Tab) (hr:aE w w.heap.size 1 A n (ar b)):
 Calls Tryz.prog 9 #[.slice A n c] w fun ev w'=>∃v u N P,ev= .returned (.tuple #[v,u, .int .i64 ((gP b).2:Nat)])∧ac jx w.heap.size w' v N∧ac BK w.heap.size w' u P∧N.map ak.b=(cM b).map z0∧P=(cM b).map aX.at_∧N.length≤n∧(∀m∈N,m.m.uid<4294967296∧m.ep<4294967296)∧Below w.heap.size w w':=by
 have Ht:=Lib.tabBelow_of_tabIs htab
 refine aK 54 Tryz.func9 rfl rfl (Nat.le_of_ble_eq_true rfl) ?_
 intro a hA;replace hA:=hA.norm
 refine wS (wR ?_)
 revert a;(iterate 3 refine wo rfl rfl (by decide) (fun ev e h=>by simp[go_sem,h]<;>rfl) ?_);intro a hA
 replace hA:=hA.keepN [0]
 refine wN (nT (wS (wR ?_)))
 revert a;refine wo rfl rfl (by decide) (fun ev e h=>by simp[go_sem,h]<;>rfl) ?_;intro a hA
 refine aC hA rfl rfl (by decide) (fun ev h=>aB Tryz.func22 (by kernel_rfl) rfl (h.f _) (by first|(simp only[mL,h.get 13 rfl,h.c]<;>rfl)|(simp[mL,h.get 13 rfl,h.c]<;>rfl))) (xd A n c b hl hc hn w hr) ?_
 rintro e w1 ⟨vs,l,rfl,hos,hlm,hb1⟩
 refine⟨_,rfl,fun a hA=> ?_⟩
 obtain⟨As,cs,rfl,hrs,_⟩:=hos.reads
 obtain⟨T,hT⟩:∃T,(gP b).2=T:=⟨_,rfl⟩
 rw[hT] at hA
 revert a;(iterate 5 refine wo rfl rfl (by decide) (fun ev e h=>by simp[go_sem,h]<;>rfl) ?_);intro a hA
 replace hA:=hA.keepN [5,6]
 refine wN (nT (wS (wR ?_)))
 revert a;refine wo rfl rfl (by decide) (fun ev e h=>by simp[go_sem,h]<;>rfl) ?_;intro a hA
 replace hA:=hA.keepN [5,6,7]
 refine wN (nT (wS (wR ?_)))
 revert a;refine wo rfl rfl (by decide) (fun ev e h=>by simp[go_sem,h]<;>rfl) ?_;intro a hA
 replace hA:=hA.keepN [5,6,7,8]
 refine wN (nT (wS (wS (wR ?_))))
 revert a;(iterate 3 refine wo rfl rfl (by decide) (fun ev e h=>by simp[go_sem,h]<;>rfl) ?_);intro a hA
 replace hA:=hA.keepN [5,6,7,8,18,19]
 refine wN (nT (wB ?_))
 have hll:l.length≤n:=by
  have:=xt b
  rw[←hlm,List.length_map] at this
  omega
 have HB:=Below.refl w1.heap.size w1
 refine aQ (fun kk a wx=>∃(j:Nat) (v u:Value) (N:List ak) (P:List Nat),j+kk=l.length∧At 54 [(5, .slice As l.length cs),(6, .int .i64 (T:Nat)),(7,v),(8,u),(18, .int .i64 (l.length:Nat)),(19, .int .i64 (j:Nat))] a∧ac jx w1.heap.size wx v N∧ac BK w1.heap.size wx u P∧(∀g,u.ownBlock=some g→∀m∈N,jR g (m.m.a,m.m.b))∧N.map ak.b=(eL ((l.map iE).take j)).map z0∧P=(eL ((l.map iE).take j)).map aX.at_∧N.length≤j∧P.length≤j∧(∀m∈N,m.m.uid<4294967296∧m.ep<4294967296)∧Below w1.heap.size w1 wx) (l.length) ?_ ?_
 ·exact⟨0,_,_,[],[],by omega,hA,ac.nil _ _,ac.nil _ _,fun _ h=>(by cases h),rfl,rfl,Nat.zero_le _,Nat.zero_le _,fun _ h=>(by cases h),HB⟩
 clear HB
 rintro kk a wx ⟨j,v,u,N,P,hjk,hA,ho,hou,hou2,hN,hP,hNl,hPl,hNu,HB⟩
 refine wS (wR ?_)
 revert a;refine wo rfl rfl (by decide) (fun ev e h=>by simp[go_sem,h]<;>rfl) ?_;intro a hA
 replace hA:=hA.keepN [5,6,7,8,18,19,20]
 refine wN (nT (wS ?_))
 refine aH hA 20 _ rfl (fun hq=> ?yI) (fun hq=> ?nI)
 case nI=>
  have hjn:j=l.length:=by simp at hq;omega
  rw[hjn,List.take_of_length_le (by simp),hlm] at hN hP
  replace hA:=hA.keepN [6,7,8]
  refine wp_exit (xT (xT (xB (nT (wS (wR ?_))))))
  revert a;(iterate 6 refine wo rfl rfl (by decide) (fun ev e h=>by simp[go_sem,h]<;>rfl) ?_);intro a hA
  replace hA:=hA.keepN [2,3,4]
  refine wN (nT (wp_ret ?_))
  refine mW hA 2 3 4 rfl rfl rfl rfl ?_
  exact⟨v,u,N,P,by rw[hT],ho.mono hb1.size,hou.mono hb1.size,hN,hP,by omega,hNu,hb1.trans (HB.mono hb1.size)⟩
 case yI=>
  have hlt:j<l.length:=by simp at hq;omega
  obtain⟨x,hx⟩:∃x,l[j]?=some x:=⟨_,List.getElem?_eq_getElem (by omega)⟩
  have hxb:x.b.length≤1000000:=by
   have h1:iE x∈(gP b).1:=by rw[←hlm];exact List.mem_map_of_mem (List.mem_of_getElem? hx)
   have:=xv b _ h1
   have h2:(iE x).b.length=x.b.length:=rfl
   omega
  have hxr0:=hrs.octs x (List.mem_of_getElem? hx) (x.a,x.b) (List.mem_singleton.2 rfl)
  obtain⟨ad,rfl,hadl,kz,kk'⟩:=hrs.cell hx
  have z0':∀{wy:World},Below w1.heap.size w1 wy→wy.cell? (ad.add (j*3))=some (.int .i64 (x.at_:Nat)):=fun{wy} hb=>(hb.cell (by rw[aD];exact hadl)).trans (kz _ rfl)
  have zz:∀{wy:World},Below w1.heap.size w1 wy→∀d u,0<d→(Es x)[d]?=some u→wy.cell? ⟨(ad.add (j*3)).block,(ad.add (j*3)).off+d,none⟩=some u:=fun{wy} hb d u hd hu=>(hb.cell (by show(ad.add _).block<_;rw[aD];exact hadl)).trans (kk' d _ hd hu)
  have jj0:(0:Int)≤(j:Int):=by omega
  have jj1:(j:Int)<(l.length:Int):=by omega
  have hwj:IntKind.i64.wrap ((j:Int)+1)=(j:Int)+1:=IntWalk.i64_in _ (by omega)
  have hsu:=pd (l:=l.map iE) (j:=j) (r:=iE x) (by rw[List.getElem?_map,hx];rfl)
  obtain⟨q,hq9⟩:∃q:Int,(bif bk (x.kind:Int) x.b then 0 else 2)=q:=⟨_,rfl⟩
  refine wp_skip (nT (wS (wB (wS (wR ?_)))))
  revert a;(iterate 2 refine wo rfl rfl (by decide) (fun ev e h=>by simp[go_sem,h]<;>rfl) ?_);intro a hA
  replace hA:=hA.keepN [5,6,7,8,9,18,19]
  have pD:=fun(wo:World) (hC:(fun wy=>Below wx.heap.size wx wy) wo)=>have HBx:=HB.trans (hC.mono HB.size);have z1:=zz HBx 1 _ (by decide) rfl;have z2:=zz HBx 2 _ (by decide) rfl;And.intro (z1) (z2)
  refine wN (nT (wS ?_))
  refine aj 16 ?_
  simp only[List.take_succ_cons,List.take_zero,List.drop_succ_cons,List.drop_zero]
  refine ai hA [(.det ?dD0),(.det ?dD1),(.det ?dD2),(.det ?dD3),(.det ?dD4),(.det ?dD5),(.det ?dD6),(.det ?dD7),(.det ?dD8),(.det ?dD9),(.used (fun val wy=>∃y:ak,val= .tuple #[.agg y.C, .int .i64 q]∧(bj wy (y.m.a,y.m.b)∧∀ad,y.m.a=some ad→wx.heap.size≤ad.block)∧(bk (x.kind:Int) x.b=true→y.b=z0 (em x.kind 0 x.b)∧y.m.uid<4294967296∧y.ep<4294967296))),(.held (fun val wy=>∃y:ak,val= .tuple #[.agg y.C, .int .i64 q]∧(bj wy (y.m.a,y.m.b)∧∀ad,y.m.a=some ad→wx.heap.size≤ad.block)∧(bk (x.kind:Int) x.b=true→y.b=z0 (em x.kind 0 x.b)∧y.m.uid<4294967296∧y.ep<4294967296))),(.used (fun val wy=>∃y:ak,val= .agg y.C∧(bj wy (y.m.a,y.m.b)∧∀ad,y.m.a=some ad→wx.heap.size≤ad.block)∧(bk (x.kind:Int) x.b=true→y.b=z0 (em x.kind 0 x.b)∧y.m.uid<4294967296∧y.ep<4294967296))),(.det ?dD13),(.held (fun val wy=>∃(g:Nat) (n0:ak),val= .pointer (some ⟨g,0,none⟩)∧wx.heap.size≤g∧aI wy g 66 n0.C)),(.det undef)] [⟨(some 15),none,[10],fun sg wy=>∃(g:Nat) (y:ak),sg 10= .pointer (some ⟨g,0,none⟩)∧wx.heap.size≤g∧aI wy g 66 y.C∧(bj wy (y.m.a,y.m.b)∧∀ad,y.m.a=some ad→wx.heap.size≤ad.block)∧(bk (x.kind:Int) x.b=true→y.b=z0 (em x.kind 0 x.b)∧y.m.uid<4294967296∧y.ep<4294967296),fun s s2 wy hs h=>by simpa only[hs 10 (by simp)] using h⟩] (fun wy=>Below wx.heap.size wx wy) (aG [(15,(fun wy wz=>∃(g:Nat) (n0 n1:ak),aI wy g 66 n0.C∧dZ g wy wz∧aI wz g 66 n1.C))] aA) (by kernel_rfl) rfl (by kernel_rfl) (by kernel_rfl) rfl (by kernel_rfl) (by kernel_rfl) (by kernel_rfl) (by kernel_rfl) ((Below.refl wx.heap.size wx).drew) (bF [(15,(fun wy wz=>∃(g:Nat) (n0 n1:ak),aI wy g 66 n0.C∧dZ g wy wz∧aI wz g 66 n1.C))] [true,true,true,true,true,true,true,true,true,true,false,false,false,true,false,true] [true,true,true,true,true,true,true,true,true,true,false,true,false,true,true,true] [(15,11),(15,14)] rfl rfl rfl (by kernel_rfl) ⟨trivial,trivial,trivial,trivial,trivial,trivial,trivial,trivial,trivial,trivial,(fun _ _ _ _ ⟨y,h1,h2,h3⟩ hb=>⟨y,h1,⟨h2.1.below hb,h2.2⟩,h3⟩),(fun _ _ _ _ ⟨y,h1,h2,h3⟩ hb=>⟨y,h1,⟨h2.1.below hb,h2.2⟩,h3⟩),(fun _ _ _ _ ⟨y,h1,h2,h3⟩ hb=>⟨y,h1,⟨h2.1.below hb,h2.2⟩,h3⟩),trivial,(fun _ _ _ _ ⟨g,n0,h1,h2,h3⟩ hb=>⟨g,n0,h1,h2,h3.below hb h3.lt⟩),trivial,trivial⟩ ⟨(fun _ _ _ _ ⟨y,h1,h2,h3⟩ ⟨g,n0,n1,hk,hs,_⟩=>⟨y,h1,⟨cT h2.1 (jA h2.1 hk (xA n0)) (fun i _ hi=>hs.block i hi) (Nat.le_of_eq hs.size.symm),h2.2⟩,h3⟩),(fun _ _ _ _ ⟨g,n0,h1,h2,h3⟩ ⟨g',m0,m1,hk,hs,hk2⟩=>if e:g=g' then⟨g,m1,h1,h2,e▸hk2⟩ else⟨g,n0,h1,h2,hs.blk h3 e⟩),trivial⟩) (List.forall_mem_cons.2 ⟨(fun hn=>by cases hn),(fun _ h=>by cases h)⟩) (rO [(15,(fun wy wz=>∃(g:Nat) (n0 n1:ak),aI wy g 66 n0.C∧dZ g wy wz∧aI wz g 66 n1.C))] [((some 15),none)] [] rfl (by kernel_rfl) (List.forall_mem_cons.2 ⟨fun _ _ _ _ ⟨g,y,h1,h2,h3,h4,h5⟩ hb=>⟨g,y,h1,h2,h3.below hb h3.lt,⟨h4.1.below hb,h4.2⟩,h5⟩,(fun _ h=>by cases h)⟩) trivial) (List.forall_mem_cons.2 ⟨(fun a h=>by first|(exact(Ea h).elim)|(injection h with h;subst h;exact Nat.le_of_ble_eq_true rfl)),(fun _ h=>by cases h)⟩) ⟨?oD0, ?oD1, ?oD2, ?oD3, ?oD4, ?oD5, ?oD6, ?oD7, ?oD8, ?oD9, ?oD10, ?oD11, ?oD12, ?oD13, ?oD14, ?oD15,trivial⟩ (by kernel_rfl) ?fD
  case oD0=>intro ev wo hev hC hs hph;have x0:=se hA hs 5;exact od rfl rfl (by kernel_rfl) hC (aG.of rfl (aA.refl _)) (by simp[go_sem,x0]<;>rfl)
  case oD1=>intro ev wo hev hC hs hph;have x0:=se hA hs 9;exact od rfl rfl (by kernel_rfl) hC (aG.of rfl (aA.refl _)) (by simp[go_sem,x0]<;>rfl)
  case oD2=>intro ev wo hev hC hs hph;have x0:=sd hs 23 0;have x1:=sd hs 24 1;exact od rfl rfl (by kernel_rfl) hC (aG.of rfl (aA.refl _)) (by simp[go_sem,x0,x1,jj0,jj1]<;>rfl)
  case oD3=>intro ev wo hev hC hs hph;have x0:=sd hs 25 2;exact od rfl rfl (by kernel_rfl) hC (aG.of rfl (aA.refl _)) (by simp[go_sem,x0]<;>rfl)
  case oD4=>intro ev wo hev hC hs hph;have x0:=sd hs 26 3;exact od rfl rfl (by kernel_rfl) hC (aG.of rfl (aA.refl _)) (by simp[go_sem,x0,pD _ hC]<;>rfl)
  case oD5=>intro ev wo hev hC hs hph;have x0:=se hA hs 5;exact od rfl rfl (by kernel_rfl) hC (aG.of rfl (aA.refl _)) (by simp[go_sem,x0]<;>rfl)
  case oD6=>intro ev wo hev hC hs hph;have x0:=se hA hs 9;exact od rfl rfl (by kernel_rfl) hC (aG.of rfl (aA.refl _)) (by simp[go_sem,x0]<;>rfl)
  case oD7=>intro ev wo hev hC hs hph;have x0:=sd hs 28 5;have x1:=sd hs 29 6;exact od rfl rfl (by kernel_rfl) hC (aG.of rfl (aA.refl _)) (by simp[go_sem,x0,x1,jj0,jj1]<;>rfl)
  case oD8=>intro ev wo hev hC hs hph;have x0:=sd hs 30 7;exact od rfl rfl (by kernel_rfl) hC (aG.of rfl (aA.refl _)) (by simp[go_sem,x0]<;>rfl)
  case oD9=>intro ev wo hev hC hs hph;have x0:=sd hs 31 8;exact od rfl rfl (by kernel_rfl) hC (aG.of rfl (aA.refl _)) (by simp[go_sem,x0,pD _ hC]<;>rfl)
  case oD10=>
   intro ev wo hev hC hs hph
   have e27:=sd hs 27 4
   have e32:=sd hs 32 9
   have HBx:=HB.trans (hC.mono HB.size)
   have z1:=zz HBx 1 _ (by decide) rfl
   have z2:=zz HBx 2 _ (by decide) rfl
   exact bf (aJ rfl) (dP (aB Tryz.func23 (by kernel_rfl) rfl (hev.func _) (by simp[e27,e32];try rfl)) (Calls.mono (vw x.kind x.a x.b.length x.c x.b rfl hxb wo (hm.below hg (hb1.trans (HBx.mono hb1.size))) (Nat.lt_of_lt_of_le hg (hb1.trans (HBx.mono hb1.size)).size) (Ht _ (hb1.trans (HBx.mono hb1.size))) (hxr0.below HBx)) (by
    rw[hq9]
    rintro ev2 w9 ⟨y,rfl,h1,h2,hb3⟩
    exact⟨_,rfl,hC.trans (hb3.mono hC.size),aG.of rfl hb3,⟨y,rfl,⟨h1.1,fun ad h=>Nat.le_trans hC.size (h1.2 ad h)⟩,h2⟩,av (by kernel_rfl)⟩)))
  case oD11=>
   intro ev wo hev hC hs hph
   have u33:=su hs 33 10
   have HBx:=HB.trans (hC.mono HB.size)
   have z1:=zz HBx 1 _ (by decide) rfl
   have z2:=zz HBx 2 _ (by decide) rfl
   exact bf (aJ rfl) (bI (v:=ev (.tmp 33)) (by simp[go_sem]) ⟨hC,aG.of rfl (aA.refl _),u33,av (by kernel_rfl)⟩)
  case oD12=>
   intro ev wo hev hC hs hph
   have u22:=sh hs 22 11
   have HBx:=HB.trans (hC.mono HB.size)
   have z1:=zz HBx 1 _ (by decide) rfl
   have z2:=zz HBx 2 _ (by decide) rfl
   obtain⟨y,e22,h2,h3⟩:=u22
   exact bf (aJ rfl) (bI (v:= .agg y.C) (by simp[go_sem,e22]) ⟨hC,aG.of rfl (aA.refl _),⟨y,rfl,h2,h3⟩,av (by kernel_rfl)⟩)
  case oD13=>
   intro ev wo hev hC hs hph
   have u22:=sh hs 22 11
   have HBx:=HB.trans (hC.mono HB.size)
   have z1:=zz HBx 1 _ (by decide) rfl
   have z2:=zz HBx 2 _ (by decide) rfl
   obtain⟨y,e22,h2,h3⟩:=u22
   exact rL (aJ rfl) rfl (by kernel_rfl) hC (aG.of rfl (aA.refl _)) (by simp[go_sem,e22];try first|exact⟨rfl,rfl⟩|rfl)
  case oD14=>
   intro ev wo hev hC hs hph
   have HBx:=HB.trans (hC.mono HB.size)
   have z1:=zz HBx 1 _ (by decide) rfl
   have z2:=zz HBx 2 _ (by decide) rfl
   have hbn:=(Below.refl wo.heap.size wo).alloc (Nat.le_refl _) (.cells (ak.C ⟨0,0,⟨#[]⟩,⟨0,0,0,none,0,[]⟩⟩) 66)
   exact bf (aJ rfl) (bI (v:= .pointer (some ⟨wo.heap.size,0,none⟩)) (w':=wo.alloc (.cells (ak.C ⟨0,0,⟨#[]⟩,⟨0,0,0,none,0,[]⟩⟩) 66)) (by simp[go_sem,ak.C,fQ];try rfl) ⟨hC.trans (hbn.mono hC.size),aG.of rfl hbn,⟨_,⟨0,0,⟨#[]⟩,⟨0,0,0,none,0,[]⟩⟩,rfl,hC.size,aI.new wo _ _⟩,av (by kernel_rfl)⟩)
  case oD15=>
   intro ev wo hev hC hs hph
   have u10:=sh hs 10 14
   have u34:=su hs 34 12
   have HBx:=HB.trans (hC.mono HB.size)
   have z1:=zz HBx 1 _ (by decide) rfl
   have z2:=zz HBx 2 _ (by decide) rfl
   obtain⟨g,n0,e10,hg2,hk⟩:=u10
   obtain⟨y,e34,h2,h3⟩:=u34
   have hk':aI wo g 66 (eZ n0).toArray:=hk
   have hs:=dZ.setAll (g:=g) (eZ y) 0 wo
   have hK2:aI (setAll wo g 0 (eZ y)) g 66 y.C:=by
    have:=ij (eZ y) 0 _ _ hk' rfl
    show aI _ g _ (eZ y).toArray
    simpa using this
   unfold ak.C fQ at hk e34
   exact bf (aJ rfl) (sn (w':=setAll wo g 0 (eZ y)) (by simp[go_sem,e10,e34,setAll,eZ,hk.cell,hk.frozen]) ⟨hs.below hC hg2,aG.sp rfl ⟨g,n0,y,hk',hs,hK2⟩,rfl,(List.forall_mem_cons.2 ⟨fun _=>⟨g,y,e10,hg2,hK2,⟨cT h2.1 (jA h2.1 hk' (xA n0)) (fun i _ hi=>hs.block i hi) (Nat.le_of_eq hs.size.symm),h2.2⟩,h3⟩,(fun _ h=>by cases h)⟩)⟩)
  intro sg wf hC hph
  intro x33 hx33
  intro x22 hx22 h22
  intro x34 hx34
  intro x10 hx10 h10
  intro a hA
  replace hA:=hA.keepN [5,6,7,8,9,10,18,19,35]
  obtain⟨g,y,hg10,hgB,K10,hyr,hyd⟩:=(hph _ List.mem_cons_self rfl)
  rw[hg10] at hx10
  subst hx10
  clear h10 hg10
  have HBx:=HB.trans (hC.mono HB.size)
  have hvlt:=World.ownsRow.lt ho.row
  have hult:=World.ownsRow.lt hou.row
  replace ho:=ho.below hC
  replace hou:=hou.below hC
  revert a;refine wo rfl rfl (by decide) (fun ev e h=>by simp[go_sem,h]<;>rfl) ?_;intro a hA
  replace hA:=hA.keepN [5,6,7,8,9,10,11,18,19]
  refine wN (nT (wS (wR ?_)))
  revert a;(iterate 2 refine wo rfl rfl (by decide) (fun ev e h=>by simp[go_sem,h]<;>rfl) ?_);intro a hA
  replace hA:=hA.keepN [5,6,7,8,9,10,18,19,37]
  refine wN (nT ?_)
  cases hd:bk (x.kind:Int) x.b with
  |false=>
   rw[hd,cond_false] at hq9
   subst hq9
   rw[show bk ((iE x).kind:Int) (iE x).b=false from hd,cond_false,List.append_nil] at hsu
   refine aH hA 37 _ rfl (fun hq2=> ?yE) (fun hq2=> ?nE)
   case yE=>cases hq2
   case nE=>
    refine wp_skip (nB (nT (wR ?_)))
    revert a;(iterate 2 refine wo rfl rfl (by decide) (fun ev e h=>by simp[go_sem,h,hwj]<;>rfl) ?_);intro a hA
    replace hA:=hA.keepN [5,6,7,8,18,19]
    refine wN (nT ?_)
    rw[show((j:Int)+1)=((j+1:Nat):Int) by omega] at hA
    exact⟨kk - 1,by omega,j+1,v,u,N,P,by omega,hA,ho,hou,hou2,by rw[hsu];exact hN,by rw[hsu];exact hP,by omega,by omega,hNu,HBx⟩
  |true=>
   rw[hd,cond_true] at hq9
   subst hq9
   rw[show bk ((iE x).kind:Int) (iE x).b=true from hd,cond_true] at hsu
   obtain⟨hyb,hyu,hye⟩:=hyd hd
   refine aH hA 37 _ rfl (fun hq2=> ?yE2) (fun hq2=> ?nE2)
   case nE2=>cases hq2
   case yE2=>
    have K10':aI wf g 66 (eZ y).toArray:=K10
    unfold ak.C fQ at K10
    refine wS (wR ?_)
    revert a;(iterate 2 refine wo rfl rfl (by decide) (fun ev e h=>by simp[go_sem,h,K10.cell]<;>rfl) ?_);intro a hA
    refine aP hA rfl rfl (by decide) (fun ev h=>by simp[go_sem,h.get 39 rfl,K10.cell];try first|exact⟨rfl,rfl⟩|rfl) fun w3 a (K11:aI _ _ _ _) hz3 hb3 hA=> ?_
    replace ho:=ho.below hb3
    replace hou:=hou.below hb3
    have hyr3:=hyr.1.below hb3
    have hrow:bu jx w3 _ [y]:=ey (s:=jx) (x:=y) K11 (fun p hp=>by rw[List.mem_singleton.1 hp];exact hyr3)
    have hoffy:∀g,g<wx.heap.size→jR g (y.m.a,y.m.b):=fun g hg hn ad ha e=>by have:=hyr.2 ad ha;omega
    have HB3:=HBx.trans (hb3.mono HBx.size)
    obtain⟨r,w4,hr4,ho4,hg4,hrr⟩:=eT ho hrow (fun g hg m hm p hp=>by
     rw[List.mem_singleton.1 hm] at hp
     rw[List.mem_singleton.1 hp]
     exact hoffy g (hvlt g hg).2) (by simp;omega) HB3.size
    refine a7 hA rfl rfl (by decide) (fun ev h=>ao rfl (h.get 38 rfl) (h.get 40 rfl) hr4) fun a hA=> ?_
    have HB4:=dN HB3 ho hg4 (Nat.le_refl _) HB3.size
    have hou4:=hou.grown hg4 (fun g hg=>hou.ne ho (by decide) hg) (fun _ _ _ _ p hp=>(by cases hp))
    have hou24:∀g,u.ownBlock=some g→∀m∈N++[y],jR g (m.m.a,m.m.b):=fun g hg m hm=>by
     rcases List.mem_append.1 hm with hm|hm
     ·exact hou2 g hg m hm
     ·rw[List.mem_singleton.1 hm];exact hoffy g (hult g hg).2
    clear ho hou
    have zq:=z0' HB4
    revert a;refine wo rfl rfl (by decide) (fun ev e h=>by simp[go_sem,h,zq,jj0,jj1]<;>rfl) ?_;intro a hA
    replace hA:=hA.keepN [5,6,7,8,9,18,19]
    refine wN (nT (wR ?_))
    revert a;(iterate 6 refine wo rfl rfl (by decide) (fun ev e h=>by simp[go_sem,h,zq,jj0,jj1]<;>rfl) ?_);intro a hA
    refine aP hA rfl rfl (by decide) (fun ev h=>by simp[go_sem,h.get 47 rfl,zq,jj0,jj1];try first|exact⟨rfl,rfl⟩|rfl) fun w5 a (K12:aI _ _ _ _) hz5 hb5 hA=> ?_
    replace ho4:=ho4.below hb5
    replace hou4:=hou4.below hb5
    have HB5:=HB4.trans (hb5.mono HB4.size)
    have hrow5:bu BK w5 _ [x.at_]:=ey (s:=BK) (x:=x.at_) K12 (fun p hp=>(by cases hp))
    obtain⟨r6,w6,hr6,ho6,hg6,hrr6⟩:=eT hou4 hrow5 (fun _ _ m _ p hp=>(by cases hp)) (by simp;omega) HB5.size
    refine a7 hA rfl rfl (by decide) (fun ev h=>ao rfl (h.get 42 rfl) (h.get 48 rfl) hr6) fun a hA=> ?_
    have HB6:=dN HB5 hou4 hg6 (Nat.le_refl _) HB5.size
    have ho46:=ho4.grown hg6 (fun g hg=>ho4.ne hou4 (by decide) hg) (fun g hg m hm p hp=>by rw[List.mem_singleton.1 hp];exact hou24 g hg m hm)
    revert a;refine wo rfl rfl (by decide) (fun ev e h=>by simp[go_sem,h,hwj]<;>rfl) ?_;intro a hA
    replace hA:=hA.keepN [5,6,7,8,18,19]
    refine wN (nB (nT (wR ?_)))
    revert a;(iterate 2 refine wo rfl rfl (by decide) (fun ev e h=>by simp[go_sem,h,hwj]<;>rfl) ?_);intro a hA
    replace hA:=hA.keepN [5,6,7,8,18,19]
    refine wN (nT ?_)
    rw[show((j:Int)+1)=((j+1:Nat):Int) by omega] at hA
    refine⟨kk - 1,by omega,j+1,r,r6,N++[y],P++[x.at_],by omega,hA,ho46,ho6,fun g hg m hm=> ?_, ?_, ?_, ?_, ?_,fun m hm=> ?_,HB6⟩
    ·rcases hrr6 with e|e
     ·exact hou24 g (e▸hg) m hm
     ·rw[e] at hg
      injection hg with hg
      subst hg
      exact mr (ho4.octs m hm (m.m.a,m.m.b) (List.mem_singleton.2 rfl)) (Nat.le_refl _)
    ·rw[hsu,List.map_append,List.map_append,hN]
     congr 1
     show[y.b]=[z0 (em x.kind x.at_ x.b)]
     rw[hyb]
     rfl
    ·rw[hsu,List.map_append,hP]
     rfl
    ·rw[List.length_append];simp;omega
    ·rw[List.length_append];simp;omega
    ·rcases List.mem_append.1 hm with hm|hm
     ·exact hNu m hm
     ·rw[List.mem_singleton.1 hm];exact⟨hyu,hye⟩
theorem BO (a b:Nat):((a:Int)==(b:Int))=(b==a):=by rw[Bool.eq_iff_iff,beq_iff_eq,beq_iff_eq];omega
def ot (j:Nat) (M M':List aU):Prop:=∀i,M'[i]?=(M[i]?).map fun x=>if i<j then(⟨i+1,x.date,x.flags,x.a,x.c,x.b⟩:aU) else x
theorem xi (M:List aU):ot 0 M M:=fun i=>by cases M[i]?<;>simp
theorem xh {j:Nat} {M M':List aU} {y:aU} (h:ot j M M') (hy:M'[j]?=some y):ot (j+1) M (M'.set j ⟨j+1,y.date,y.flags,y.a,y.c,y.b⟩):=by
 intro i
 have hlt:=(List.getElem?_eq_some_iff.1 hy).1
 rw[List.getElem?_set]
 by_cases hij:j=i
 ·subst hij
  rw[if_pos rfl,if_pos hlt]
  have:=h j
  rw[hy] at this
  cases hm:M[j]? with
  |none=>rw[hm] at this;cases this
  |some x=>
   rw[hm,Option.map_some,if_neg (by omega)] at this
   injection this with this
   subst this
   rw[Option.map_some,if_pos (by omega)]
 ·rw[if_neg hij,h i]
  cases M[i]? with
  |none=>rfl
  |some x=>
   rw[Option.map_some,Option.map_some]
   by_cases h:i<j
   ·rw[if_pos h,if_pos (by omega)]
   ·rw[if_neg h,if_neg (by omega)]
theorem AD {n:Nat} {M M':List aU} {l:List aX} (h:ot n M M') (hn:M.length=n) (hs:n<4294967295) (he:M.map eS=l.map dF):M'.map eS=fR 0 l:=by
 refine List.ext_getElem? fun i=> ?_
 rw[ou,List.getElem?_map,h i]
 have e1:(M[i]?).map eS=(l[i]?).map dF:=by rw[←List.getElem?_map,←List.getElem?_map,he]
 cases hm:M[i]? with
 |none=>
  rw[hm] at e1
  cases hn2:l[i]? with
  |none=>rfl
  |some q=>rw[hn2] at e1;cases e1
 |some x=>
  rw[hm] at e1
  have hi:i<n:=by have:=(List.getElem?_eq_some_iff.1 hm).1;omega
  cases hn2:l[i]? with
  |none=>rw[hn2] at e1;cases e1
  |some q=>
   rw[hn2] at e1
   injection e1 with e1
   unfold eS dF at e1
   simp only[Prod.mk.injEq] at e1
   rw[Option.map_some,Option.map_some,Option.map_some,if_pos hi]
   unfold eS
   rw[show(0+i+1)%4294967296=i+1 by omega]
   simp[e1]
theorem us {j:Nat} {M M':List aU} {N:List ak} (h:ot j M M') (hN:∀m∈M,∃x∈N,m.a=x.m.a∧m.b=x.m.b):∀m∈M',∃x∈N,m.a=x.m.a∧m.b=x.m.b:=by
 intro m hm
 obtain⟨i,hi⟩:=List.mem_iff_getElem?.1 hm
 have h2:=h i
 rw[hi] at h2
 cases hx:M[i]? with
 |none=>rw[hx] at h2;cases h2
 |some y=>
  obtain⟨x,h3,h4,h5⟩:=hN y (List.mem_of_getElem? hx)
  rw[hx,Option.map_some] at h2
  injection h2 with h2
  refine⟨x,h3, ?_⟩
  rw[h2]
  split
  ·exact⟨h4,h5⟩
  ·exact⟨h4,h5⟩
theorem zD (a b:Nat) (E u:Nat):(((a:Int) !=(E:Int)||decide (u≤b))||(u:Int)==4294967295)= !(a==E&&decide (b<u)&& !(u==4294967295)):=by
 rw[Bool.eq_iff_iff]
 simp
 omega
theorem Cu (A:Option Addr) (n c:Nat) (N:List ak) (w:World) (hl:N.length=n) (hn:n≤1000000) (hr:bu jx w A N) (hu:∀m∈N,m.m.uid<4294967296∧m.ep<4294967296):
 Calls Tryz.prog 10 #[.slice A n c] w fun ev w'=>∃v M,ev= .returned (.tuple #[.agg #[.string (bQ (dV (N.map ak.b))).nm, .int .u32 ((bQ (dV (N.map ak.b))).ep:Nat), .int .u32 ((bQ (dV (N.map ak.b))).nx:Nat),v], .bool (al (dV (N.map ak.b)))])∧ac de w.heap.size w' v M∧M.map eS=(bQ (dV (N.map ak.b))).msgs∧(∀m∈M,∃x∈N,m.a=x.m.a∧m.b=x.m.b)∧Below w.heap.size w w':=by
 obtain⟨LB,hLB⟩:∃LB,N.map ak.b=LB:=⟨_,rfl⟩
 have hLl:LB.length=n:=by rw[←hLB,List.length_map,hl]
 rw[hLB]
 refine aK 176 Tryz.func10 rfl rfl (Nat.le_of_ble_eq_true rfl) ?_
 intro a hA;replace hA:=hA.norm
 refine wS (wR ?_)
 refine aP hA rfl rfl (by decide) (fun ev h=>by simp[go_sem];try first|exact⟨rfl,rfl⟩|rfl) fun w1 a (K2:aI _ _ _ _) hz1 hb1 hA=> ?_
 revert a;refine wo rfl rfl (by decide) (fun ev e h=>by simp[go_sem,h]<;>rfl) ?_;intro a hA
 replace hA:=hA.keepN [0,2]
 refine wN (nT (wS (wR ?_)))
 revert a;refine wo rfl rfl (by decide) (fun ev e h=>by simp[go_sem,h]<;>rfl) ?_;intro a hA
 refine ap [.string ⟨#[]⟩, .int .u32 0, .int .u32 1, .slice none 0 0] hA rfl rfl (by decide) (fun ev h=>by simp[go_sem];try first|exact⟨rfl,rfl⟩|rfl) rfl rfl (by rfl) (fun w1 g ev hb h=>by simp[go_sem,h.get 4 rfl,h.get 14 rfl,setAll,hb.cell,hb.frozen]) fun w2 a (K4:aI _ _ _ _) hz2 hb2 hA=> ?_
 replace K2:=K2.below hb2 K2.lt
 replace hA:=hA.keepN [0,2,4]
 refine wN (nT (wS (wS (wR ?_))))
 revert a;(iterate 3 refine wo rfl rfl (by decide) (fun ev e h=>by simp[go_sem,h]<;>rfl) ?_);intro a hA
 replace hA:=hA.keepN [0,2,4,16,17]
 refine wN (nT (wB ?_))
 obtain⟨pb,hpb⟩:∃x,w1.heap.size=x:=⟨_,rfl⟩
 rw[hpb] at K4 hA
 have hpw:w.heap.size<pb:=by omega
 have HBw:Below w.heap.size w w2:=hb1.trans (hb2.mono (by omega))
 have K20:=K2
 have HL:Below pb w2 w2:=Below.refl _ _
 have cellsN:∀{wy:World},Below w.heap.size w wy→∀{j:Nat} {x:ak},N[j]?=some x→∃ad,A=some ad∧wy.cell? (ad.add (j*7))=some (.int .i64 x.kind)∧∀d u,0<d→(eZ x)[d]?=some u→wy.cell? ⟨(ad.add (j*7)).block,(ad.add (j*7)).off+d,none⟩=some u:=fun{wy} hb {j x} hx=>by
  obtain⟨ad,e,hadl,kz,kk'⟩:=hr.cell hx
  exact⟨ad,e,(hb.cell (by rw[aD];exact hadl)).trans (kz _ rfl),fun d u hd hu=>(hb.cell (by show(ad.add _).block<_;rw[aD];exact hadl)).trans (kk' d _ hd hu)⟩
 refine aQ (fun kk a wx=>∃(j:Nat),j+kk=n∧At 176 [(0, .slice A n c),(2, .pointer (some ⟨w.heap.size,0,none⟩)),(4, .pointer (some ⟨pb,0,none⟩)),(16, .int .i64 (n:Nat)),(17, .int .i64 (j:Nat))] a∧aI wx pb 41 #[.string (lR (LB.take j)), .int .u32 (gh (LB.take j):Nat), .int .u32 1, .slice none 0 0]∧Below pb w2 wx) (n) ?_ ?_
 ·exact⟨0,by omega,hA,K4,HL⟩
 clear K4 HL
 rintro kk a wx ⟨j,hjk,hA,K4,HL⟩
 refine wS (wR ?_)
 revert a;refine wo rfl rfl (by decide) (fun ev e h=>by simp[go_sem,h]<;>rfl) ?_;intro a hA
 replace hA:=hA.keepN [0,2,4,16,17,18]
 refine wN (nT (wS ?_))
 refine aH hA 18 _ rfl (fun hq=> ?yI) (fun hq=> ?nI)
 case yI=>
  have hlt:j<n:=by simp at hq;omega
  obtain⟨x,hx⟩:∃x,N[j]?=some x:=⟨_,List.getElem?_eq_getElem (by omega)⟩
  have hxB:LB[j]?=some x.b:=by rw[←hLB,List.getElem?_map,hx];rfl
  have cl:=fun{wy} (hb:Below w.heap.size w wy)=>cellsN hb hx
  obtain⟨ad,rfl, -⟩:=cl (Below.refl _ _)
  have zz:∀{wy:World},Below w.heap.size w wy→wy.cell? (ad.add (j*7))=some (.int .i64 x.kind)∧∀d u,0<d→(eZ x)[d]?=some u→wy.cell? ⟨(ad.add (j*7)).block,(ad.add (j*7)).off+d,none⟩=some u:=fun hb=>by
   obtain⟨ad',e,h⟩:=cl hb
   injection e with e
   subst e
   exact h
  have jj0:(0:Int)≤(j:Int):=by omega
  have jj1:(j:Int)<(n:Int):=by omega
  have hwj:IntKind.i64.wrap ((j:Int)+1)=(j:Int)+1:=IntWalk.i64_in _ (by omega)
  have e1:=Ci hxB
  have e2:=Ck hxB
  have hpx:=K4.lt
  refine wp_skip (nT (wS (wB (wS (wR ?_)))))
  revert a;(iterate 2 refine wo rfl rfl (by decide) (fun ev e h=>by simp[go_sem,h]<;>rfl) ?_);intro a hA
  replace hA:=hA.keepN [0,2,4,5,16,17]
  have pD:=fun(wo:World) (hC:(fun wy=>Below wx.heap.size wx wy) wo)=>have Kx:=K4.below hC K4.lt;have HBx:=HBw.trans ((HL.mono (by omega)).trans (hC.mono (by have:=HL.size;have:=hb1.size;have:=hb2.size;omega)));have z1:=(zz HBx).2 1 _ (by decide) rfl;And.intro (Kx.cell) (z1)
  refine wN (nT (wS ?_))
  refine aj 8 ?_
  simp only[List.take_succ_cons,List.take_zero,List.drop_succ_cons,List.drop_zero]
  refine ai hA [(.det ?dD0),(.det ?dD1),(.det ?dD2),(.det ?dD3),(.det ?dD4),(.det ?dD5),(.det ?dD6),(.det ?dD7)] [] (fun wy=>Below wx.heap.size wx wy) (aG [] aA) (by kernel_rfl) rfl (by kernel_rfl) (by kernel_rfl) rfl (by kernel_rfl) (by kernel_rfl) (by kernel_rfl) (by kernel_rfl) ((Below.refl wx.heap.size wx).drew) (bF [] [true,true,true,true,true,true,true,true] [true,true,true,true,true,true,true,true] [] rfl rfl rfl (by kernel_rfl) ⟨trivial,trivial,trivial,trivial,trivial,trivial,trivial,trivial,trivial⟩ trivial) (fun _ h=>by cases h) (fun _ _ _ _ _ h=>by cases h) (fun _ h=>by cases h) ⟨?oD0, ?oD1, ?oD2, ?oD3, ?oD4, ?oD5, ?oD6, ?oD7,trivial⟩ (by kernel_rfl) ?fD
  case oD0=>intro ev wo hev hC hs hph;have x0:=se hA hs 4;exact od rfl rfl (by kernel_rfl) hC (aG.of rfl (aA.refl _)) (by simp[go_sem,x0]<;>rfl)
  case oD1=>intro ev wo hev hC hs hph;have x0:=sd hs 20 0;exact od rfl rfl (by kernel_rfl) hC (aG.of rfl (aA.refl _)) (by simp[go_sem,x0,pD _ hC]<;>rfl)
  case oD2=>intro ev wo hev hC hs hph;have x0:=se hA hs 0;exact od rfl rfl (by kernel_rfl) hC (aG.of rfl (aA.refl _)) (by simp[go_sem,x0]<;>rfl)
  case oD3=>intro ev wo hev hC hs hph;have x0:=se hA hs 5;exact od rfl rfl (by kernel_rfl) hC (aG.of rfl (aA.refl _)) (by simp[go_sem,x0]<;>rfl)
  case oD4=>intro ev wo hev hC hs hph;have x0:=sd hs 22 2;have x1:=sd hs 23 3;exact od rfl rfl (by kernel_rfl) hC (aG.of rfl (aA.refl _)) (by simp[go_sem,x0,x1,jj0,jj1]<;>rfl)
  case oD5=>intro ev wo hev hC hs hph;have x0:=sd hs 24 4;exact od rfl rfl (by kernel_rfl) hC (aG.of rfl (aA.refl _)) (by simp[go_sem,x0]<;>rfl)
  case oD6=>intro ev wo hev hC hs hph;have x0:=sd hs 25 5;exact od rfl rfl (by kernel_rfl) hC (aG.of rfl (aA.refl _)) (by simp[go_sem,x0,pD _ hC]<;>rfl)
  case oD7=>intro ev wo hev hC hs hph;have x0:=sd hs 21 1;have x1:=sd hs 26 6;exact od rfl rfl (by kernel_rfl) hC (aG.of rfl (aA.refl _)) (by simp[go_sem,x0,x1]<;>rfl)
  intro sg wf hC hph
  intro a hA
  replace hA:=hA.keepN [0,2,4,5,16,17,27]
  replace K4:=K4.below hC hpx
  replace HL:=HL.trans (hC.mono (Nat.le_of_lt hpx))
  clear hC
  revert a;refine wo rfl rfl (by decide) (fun ev e h=>by simp[go_sem,h]<;>rfl) ?_;intro a hA
  refine aq ([.string (lR (LB.take j)), .int .u32 (max (gh (LB.take j):Int) (x.ep:Int)), .int .u32 1, .slice none 0 0]) _ hA rfl rfl K4 (j:=1) (by rfl) (fun ev h=>by simp[go_sem,h.get 28 rfl,h.get 27 rfl,K4.cell,K4.frozen];try first|exact⟨rfl,rfl⟩|rfl) fun w3 (K4:aI _ _ _ _) hs3=> ?_
  replace HL:=hs3.below HL (Nat.le_refl _)
  have HBx:=HBw.trans (HL.mono (Nat.le_of_lt hpw))
  have z0:=(zz HBx).1
  have z2:=(zz HBx).2 2 _ (by decide) rfl
  have eE:max (gh (LB.take j):Int) (x.ep:Int)=((gh (LB.take (j+1)):Nat):Int):=by rw[e1];show _=((max (gh (LB.take j)) x.ep:Nat):Int);omega
  rw[eE] at K4
  replace hA:=hA.keepN [0,2,4,5,16,17]
  refine wN (nT (wS (wR ?_)))
  revert a;(iterate 6 refine wo rfl rfl (by decide) (fun ev e h=>by simp[go_sem,h,z0,z2,jj0,jj1]<;>rfl) ?_);intro a hA
  replace hA:=hA.keepN [0,2,4,5,16,17,34]
  refine wN (nT ?_)
  refine aH hA 34 _ rfl (fun hq2=> ?yK) (fun hq2=> ?nK)
  case yK=>
   have hq2:decide (x.b.k<3)=true:=hq2
   rw[hq2,cond_true] at e2
   refine wR ?_
   revert a;(iterate 6 refine wo rfl rfl (by decide) (fun ev e h=>by simp[go_sem,h,z0,z2,jj0,jj1]<;>rfl) ?_);intro a hA
   refine aq ([.string x.nm, .int .u32 (gh (LB.take (j+1)):Nat), .int .u32 1, .slice none 0 0]) _ hA rfl rfl K4 (j:=0) (by rfl) (fun ev h=>by simp[go_sem,h.get 40 rfl,h.get 39 rfl,z0,z2,jj0,jj1,K4.cell,K4.frozen];try first|exact⟨rfl,rfl⟩|rfl) fun w4 (K4:aI _ _ _ _) hs4=> ?_
   replace hA:=hA.keepN [0,2,4,16,17]
   refine wN (nB (nT (wR ?_)))
   revert a;(iterate 2 refine wo rfl rfl (by decide) (fun ev e h=>by simp[go_sem,h,hwj]<;>rfl) ?_);intro a hA
   replace hA:=hA.keepN [0,2,4,16,17]
   refine wN (nT ?_)
   rw[show((j:Int)+1)=((j+1:Nat):Int) by omega] at hA
   exact⟨kk - 1,by omega,j+1,by omega,hA,by rw[e2];exact K4,hs4.below HL (Nat.le_refl _)⟩
  case nK=>
   have hq2:decide (x.b.k<3)=false:=hq2
   rw[hq2,cond_false] at e2
   refine wp_skip (nB (nT (wR ?_)))
   revert a;(iterate 2 refine wo rfl rfl (by decide) (fun ev e h=>by simp[go_sem,h,hwj]<;>rfl) ?_);intro a hA
   replace hA:=hA.keepN [0,2,4,16,17]
   refine wN (nT ?_)
   rw[show((j:Int)+1)=((j+1:Nat):Int) by omega] at hA
   exact⟨kk - 1,by omega,j+1,by omega,hA,by rw[e2];exact K4,HL⟩
 case nI=>
  have hjn:j=n:=by simp at hq;omega
  rw[List.take_of_length_le (by omega)] at K4
  clear hq hjk
  obtain⟨E,hE⟩:∃E,gh LB=E:=⟨_,rfl⟩
  rw[hE] at K4
  replace hA:=hA.keepN [0,2,4]
  refine wp_exit (xT (xT (xB (nT (wS (wR ?_))))))
  revert a;refine wo rfl rfl (by decide) (fun ev e h=>by simp[go_sem,h]<;>rfl) ?_;intro a hA
  replace hA:=hA.keepN [0,2,4,6]
  refine wN (nT (wS (wR ?_)))
  revert a;refine wo rfl rfl (by decide) (fun ev e h=>by simp[go_sem,h]<;>rfl) ?_;intro a hA
  replace hA:=hA.keepN [0,2,4,6,7]
  refine wN (nT (wS (wS (wR ?_))))
  revert a;(iterate 3 refine wo rfl rfl (by decide) (fun ev e h=>by simp[go_sem,h]<;>rfl) ?_);intro a hA
  replace hA:=hA.keepN [0,2,4,6,7,43,44]
  refine wN (nT (wB ?_))
  refine aQ (fun kk a wx=>∃(j:Nat) (v:Value) (M:List aU) (Pl:List aX),j+kk=n∧At 176 [(0, .slice A n c),(2, .pointer (some ⟨w.heap.size,0,none⟩)),(4, .pointer (some ⟨pb,0,none⟩)),(6, .bool (dx E 0 Pl)),(7, .int .u32 (iv 0 Pl:Nat)),(43, .int .i64 (n:Nat)),(44, .int .i64 (j:Nat))] a∧aI wx pb 41 #[.string (lR LB), .int .u32 (E:Nat), .int .u32 (iD E (LB.take j):Nat),v]∧ac de (pb+1) wx v M∧M.map eS=Pl.map dF∧bt LB=Pl++bt (LB.drop j)∧M.length≤j∧(∀m∈M,∃x∈N,m.a=x.m.a∧m.b=x.m.b)∧Below pb w2 wx) (n) ?_ ?_
  ·exact⟨0,_,[],[],by omega,hA,K4,ac.nil _ _,rfl,rfl,Nat.zero_le _,fun _ h=>(by cases h),HL⟩
  clear K4 HL
  rintro kk a wx ⟨j,v,M,Pl,hjk,hA,K4,ho,hM,hPl,hMl,hMN,HL⟩
  obtain⟨Av,cv,rfl,_⟩:=ho.reads
  have hpx:=K4.lt
  have hmn:w2.heap.size≤wx.heap.size:=HL.size
  refine wS (wR ?_)
  revert a;refine wo rfl rfl (by decide) (fun ev e h=>by simp[go_sem,h]<;>rfl) ?_;intro a hA
  replace hA:=hA.keepN [0,2,4,6,7,43,44,45]
  refine wN (nT (wS ?_))
  refine aH hA 45 _ rfl (fun hq=> ?yJ) (fun hq=> ?nJ)
  case yJ=>
   have hlt:j<n:=by simp at hq;omega
   obtain⟨x,hx⟩:∃x,N[j]?=some x:=⟨_,List.getElem?_eq_getElem (by omega)⟩
   have hxB:LB[j]?=some x.b:=by rw[←hLB,List.getElem?_map,hx];rfl
   have hxu:=hu x (List.mem_of_getElem? hx)
   have hxr0:=hr.octs x (List.mem_of_getElem? hx) (x.m.a,x.m.b) (List.mem_singleton.2 rfl)
   obtain⟨ad,rfl,z0',zz'⟩:=cellsN (HBw.trans (HL.mono (Nat.le_of_lt hpw))) hx
   have jj0:(0:Int)≤(j:Int):=by omega
   have jj1:(j:Int)<(n:Int):=by omega
   have hwj:IntKind.i64.wrap ((j:Int)+1)=(j:Int)+1:=IntWalk.i64_in _ (by omega)
   have z1:=zz' 1 _ (by decide) rfl
   have z2:=zz' 2 _ (by decide) rfl
   have z3:=zz' 3 _ (by decide) rfl
   have z4:=zz' 4 _ (by decide) rfl
   have z5:=zz' 5 _ (by decide) rfl
   have z6:=zz' 6 _ (by decide) rfl
   have e3:=Cl (E:=E) hxB
   have e4:=xI hxB
   refine wp_skip (nT (wS (wB (wS (wR ?_)))))
   revert a;(iterate 2 refine wo rfl rfl (by decide) (fun ev e h=>by simp[go_sem,h,z0',z1,z2,z3,z4,z5,z6,jj0,jj1]<;>rfl) ?_);intro a hA
   replace hA:=hA.keepN [0,2,4,6,7,8,43,44]
   refine wN (nT (wS (wR ?_)))
   revert a;(iterate 4 refine wo rfl rfl (by decide) (fun ev e h=>by simp[go_sem,h,z0',z1,z2,z3,z4,z5,z6,jj0,jj1]<;>rfl) ?_);intro a hA
   refine ap [.int .i64 x.kind, .int .u32 (x.ep:Nat), .string x.nm, .int .u32 (x.m.uid:Nat), .int .i64 x.m.date, .int .i64 x.m.flags, .slice x.m.a x.m.b.length x.m.c] hA rfl rfl (by decide) (fun ev h=>by simp[go_sem,z0',z1,z2,z3,z4,z5,z6,jj0,jj1];try first|exact⟨rfl,rfl⟩|rfl) rfl rfl (by rfl) (fun w1 g ev hb h=>by simp[go_sem,h.get 9 rfl,h.get 50 rfl,z0',z1,z2,z3,z4,z5,z6,jj0,jj1,setAll,hb.cell,hb.frozen]) fun w5 a (K9:aI _ _ _ _) hz5 hb5 hA=> ?_
   replace K4:=K4.below hb5 K4.lt
   replace ho:=ho.below hb5
   obtain⟨pn,hpn⟩:∃y,wx.heap.size=y:=⟨_,rfl⟩
   rw[hpn] at K9 hpx hA
   replace HL:=HL.trans (hb5.mono (by omega))
   clear z0' zz' z1 z2 z3 z4 z5 z6 hb5
   replace hA:=hA.keepN [0,2,4,6,7,8,9,43,44]
   refine wN (nT (wS (wS (wR ?_))))
   revert a;(iterate 4 refine wo rfl rfl (by decide) (fun ev e h=>by simp[go_sem,h,K9.cell,K4.cell]<;>rfl) ?_);(iterate 5 refine wg _ rfl rfl rfl rfl (by decide) (fun hq ev e h=>by simp[go_sem,h,↓aL (aF hq),K9.cell,K4.cell]<;>rfl) ?_);refine j9 rfl rfl (by decide) rfl rfl rfl ?_;intro a hA
   replace hA:=hA.keepN [0,2,4,6,7,8,9,43,44,60]
   refine wN (nT ?_)
   refine cd (fun a wx=>At 176 [(0, .slice (some ad) n c),(2, .pointer (some ⟨w.heap.size,0,none⟩)),(4, .pointer (some ⟨pb,0,none⟩)),(6, .bool (dx E 0 Pl)),(7, .int .u32 (iv 0 Pl:Nat)),(8, .int .i64 (j:Nat)),(9, .pointer (some ⟨pn,0,none⟩)),(43, .int .i64 (n:Nat)),(44, .int .i64 (j:Nat))] a∧aI wx pb 41 #[.string (lR LB), .int .u32 (E:Nat), .int .u32 (iD E (LB.take (j+1)):Nat), .slice Av M.length cv]∧aI wx pn 71 (eZ x).toArray∧ac de (pb+1) wx (.slice Av M.length cv) M∧Below pb w2 wx) ?jfX ?jrX
   case jfX=>
    have hstep:jX E (iD E (LB.take j)) x.b=bif decide ((1:Int)<x.kind)&&((x.ep:Int)==(E:Int)) then max (iD E (LB.take j)) (aW x.m.uid) else iD E (LB.take j):=by
     rw[jW]
     rfl
    refine aH hA 60 _ rfl (fun hq1=> ?yA1) (fun hq1=> ?nA1)
    case nA1=>
     rw[hq1,cond_false] at hstep
     replace hA:=hA.keepN [0,2,4,6,7,8,9,43,44]
     refine wp_skip (nT ?_)
     refine⟨hA, ?_,K9,ho,HL⟩
     rw[e3,hstep]
     exact K4
    case yA1=>
     rw[hq1,cond_true] at hstep
     rw[hstep] at e3
     refine wS (wR ?_)
     revert a;(iterate 4 refine wo rfl rfl (by decide) (fun ev e h=>by simp[go_sem,h,K9.cell,K4.cell]<;>rfl) ?_);intro a hA
     replace hA:=hA.keepN [0,2,4,6,7,8,9,10,43,44]
     refine wN (nT (wS (wS (wR ?_))))
     revert a;(iterate 2 refine wo rfl rfl (by decide) (fun ev e h=>by simp[go_sem,h,K9.cell,K4.cell]<;>rfl) ?_);intro a hA
     replace hA:=hA.keepN [0,2,4,6,7,8,9,10,43,44,65]
     refine wN (nT ?_)
     refine aH hA 65 _ rfl (fun hq2=> ?yA2) (fun hq2=> ?nA2)
     case yA2=>
      have hlu:x.m.uid<4294967295:=by simp at hq2;omega
      have hwu:IntKind.u32.wrap ((x.m.uid:Int)+1)=(x.m.uid:Int)+1:=IntWalk.u32_in _ (by omega)
      have hbe:aW x.m.uid=x.m.uid+1:=by unfold aW;rw[if_neg (by omega)]
      refine wR ?_
      revert a;(iterate 3 refine wo rfl rfl (by decide) (fun ev e h=>by simp[go_sem,h,K4.cell,hwu]<;>rfl) ?_);intro a hA
      replace hA:=hA.keepN [0,2,4,6,7,8,9,10,43,44]
      refine wN (nT (wR ?_))
      revert a;(iterate 5 refine wo rfl rfl (by decide) (fun ev e h=>by simp[go_sem,h,K4.cell,hwu]<;>rfl) ?_);intro a hA
      have K40:=K4
      refine aq ([.string (lR LB), .int .u32 (E:Nat), .int .u32 (max (iD E (LB.take j):Int) ((x.m.uid:Int)+1)), .slice Av M.length cv]) _ hA rfl rfl K4 (j:=2) (by rfl) (fun ev h=>by simp[go_sem,h.get 72 rfl,h.get 71 rfl,K4.cell,hwu,K4.cell,K4.frozen];try first|exact⟨rfl,rfl⟩|rfl) fun w6 (K4:aI _ _ _ _) hs6=> ?_
      replace hA:=hA.keepN [0,2,4,6,7,8,9,43,44]
      refine wN (nT ?_)
      refine⟨hA, ?_,hs6.blk K9 (by omega),ho.onlyK hs6 K40 (by decide) (by simp[px]),hs6.below HL (Nat.le_refl _)⟩
      rw[e3,hbe,show((max (iD E (LB.take j)) (x.m.uid+1):Nat):Int)=max (iD E (LB.take j):Int) ((x.m.uid:Int)+1) by omega]
      exact K4
     case nA2=>
      have hlu:x.m.uid=4294967295:=by simp at hq2;omega
      have hbe:aW x.m.uid=x.m.uid:=by unfold aW;rw[if_pos hlu]
      refine wp_skip (nT (wR ?_))
      revert a;(iterate 5 refine wo rfl rfl (by decide) (fun ev e h=>by simp[go_sem,h,K4.cell]<;>rfl) ?_);intro a hA
      have K40:=K4
      refine aq ([.string (lR LB), .int .u32 (E:Nat), .int .u32 (max (iD E (LB.take j):Int) (x.m.uid:Int)), .slice Av M.length cv]) _ hA rfl rfl K4 (j:=2) (by rfl) (fun ev h=>by simp[go_sem,h.get 72 rfl,h.get 71 rfl,K4.cell,K4.cell,K4.frozen];try first|exact⟨rfl,rfl⟩|rfl) fun w6 (K4:aI _ _ _ _) hs6=> ?_
      replace hA:=hA.keepN [0,2,4,6,7,8,9,43,44]
      refine wN (nT ?_)
      refine⟨hA, ?_,hs6.blk K9 (by omega),ho.onlyK hs6 K40 (by decide) (by simp[px]),hs6.below HL (Nat.le_refl _)⟩
      rw[e3,hbe,show((max (iD E (LB.take j)) x.m.uid:Nat):Int)=max (iD E (LB.take j):Int) (x.m.uid:Int) by omega]
      exact K4
   clear K4 K9 ho HL
   rintro a wx ⟨hA,K4,K9,ho,HL⟩
   unfold eZ at K9
   refine wS (wR ?_)
   revert a;(iterate 4 refine wo rfl rfl (by decide) (fun ev e h=>by simp[go_sem,h,K9.cell,hwj]<;>rfl) ?_);intro a hA
   replace hA:=hA.keepN [0,2,4,6,7,8,9,11,43,44]
   refine wN (nT (wS (wS (wR ?_))))
   revert a;(iterate 3 refine wo rfl rfl (by decide) (fun ev e h=>by simp[go_sem,h,K9.cell,hwj]<;>rfl) ?_);intro a hA
   replace hA:=hA.keepN [0,2,4,6,7,9,11,12,43,44]
   refine wN (nT (wB ?_))
   rw[show((j:Int)+1)=((j+1:Nat):Int) by omega] at hA
   refine aQ (fun kk a wy=>∃(k:Nat) (gg:Bool),k+kk=n∧At 176 [(0, .slice (some ad) n c),(2, .pointer (some ⟨w.heap.size,0,none⟩)),(4, .pointer (some ⟨pb,0,none⟩)),(6, .bool (dx E 0 Pl)),(7, .int .u32 (iv 0 Pl:Nat)),(9, .pointer (some ⟨pn,0,none⟩)),(11, .bool gg),(12, .int .i64 (k:Nat)),(43, .int .i64 (n:Nat)),(44, .int .i64 (j:Nat))] a∧zP x.b (LB.drop (j+1))=(gg||(LB.drop k).any fun m=>m.k==3&&fP m x.b)∧Below wx.heap.size wx wy) (n - (j+1)) ?_ ?_
   ·exact⟨j+1,_,by omega,hA,rfl,Below.refl _ _⟩
   rintro kk2 a wy ⟨k,gg,hkk,hA,hgo,HY⟩
   have hpxx:=K4.lt
   have hpnx:=K9.lt
   have HLy:Below pb w2 wy:=HL.trans (HY.mono (Nat.le_of_lt hpxx))
   refine wS (wS (wR ?_))
   revert a;(iterate 4 refine wo rfl rfl (by decide) (fun ev e h=>by simp[go_sem,h]<;>rfl) ?_);intro a hA
   replace hA:=hA.keepN [0,2,4,6,7,9,11,12,43,44,81]
   refine wN (nT ?_)
   refine aH hA 81 _ rfl (fun hq3=> ?yL) (fun hq3=> ?nL)
   case yL=>
    have hltk:k<n:=by simp at hq3;omega
    obtain⟨y,hy⟩:∃y,N[k]?=some y:=⟨_,List.getElem?_eq_getElem (by omega)⟩
    have hyB:LB[k]?=some y.b:=by rw[←hLB,List.getElem?_map,hy];rfl
    rw[Dc hyB] at hgo
    have zz:∀{wz:World},Below w.heap.size w wz→wz.cell? (ad.add (k*7))=some (.int .i64 y.kind)∧∀d u,0<d→(eZ y)[d]?=some u→wz.cell? ⟨(ad.add (k*7)).block,(ad.add (k*7)).off+d,none⟩=some u:=fun hb=>by
     obtain⟨ad',e,h⟩:=cellsN hb hy
     injection e with e
     subst e
     exact h
    have kk0:(0:Int)≤(k:Int):=by omega
    have kk1:(k:Int)<(n:Int):=by omega
    have hwk:IntKind.i64.wrap ((k:Int)+1)=(k:Int)+1:=IntWalk.i64_in _ (by omega)
    have K9y:=K9.below HY K9.lt
    have pG:=fun(wo:World) (hC:(fun wz=>Below wy.heap.size wy wz) wo)=>have Kx:=K9y.below hC K9y.lt;have HBx:=HBw.trans ((HLy.mono (Nat.le_of_lt hpw)).trans (hC.mono (by have:=HLy.size;have:=hb1.size;have:=hb2.size;omega)));have y0:=(zz HBx).1;have y1:=(zz HBx).2 1 _ (by decide) rfl;have y3:=(zz HBx).2 3 _ (by decide) rfl;And.intro (Kx.cell) (And.intro (y0) (And.intro (y1) (y3)))
    refine wp_skip (nT (wS (wB ?_)))
    refine aj 31 ?_
    simp only[List.take_succ_cons,List.take_zero,List.drop_succ_cons,List.drop_zero]
    refine ai hA ((.det ?dG0)::(.det ?dG1)::(.det ?dG2)::(.det ?dG3)::(.det ?dG4)::(.det ?dG5)::(.det ?dG6)::(.det ?dG7)::(.det ?dG8)::(.det ?dG9)::(.det ?dG10)::(.det ?dG11)::(.det ?dG12)::(.det ?dG13)::(.det ?dG14)::(.det ?dG15)::(.det ?dG16)::(.det ?dG17)::(.det ?dG18)::(.det ?dG19)::(.det ?dG20)::(.det ?dG21)::(.det ?dG22)::(.det ?dG23)::(.det ?dG24)::(.det ?dG25)::(.det ?dG26)::(.det ?dG27)::(.det ?dG28)::(.det ?dG29)::(.det ?dG30)::[]) [] (fun wz=>Below wy.heap.size wy wz) (aG [] aA) (by kernel_rfl) rfl (by kernel_rfl) (by kernel_rfl) rfl (by kernel_rfl) (by kernel_rfl) (by kernel_rfl) (by kernel_rfl) ((Below.refl wy.heap.size wy).drew) (bF [] (true::true::true::true::true::true::true::true::true::true::true::true::true::true::true::true::true::true::true::true::true::true::true::true::true::true::true::true::true::true::true::[]) (true::true::true::true::true::true::true::true::true::true::true::true::true::true::true::true::true::true::true::true::true::true::true::true::true::true::true::true::true::true::true::[]) [] rfl rfl rfl (by kernel_rfl) ⟨trivial,trivial,trivial,trivial,trivial,trivial,trivial,trivial,trivial,trivial,trivial,trivial,trivial,trivial,trivial,trivial,trivial,trivial,trivial,trivial,trivial,trivial,trivial,trivial,trivial,trivial,trivial,trivial,trivial,trivial,trivial,trivial⟩ trivial) (fun _ h=>by cases h) (fun _ _ _ _ _ h=>by cases h) (fun _ h=>by cases h) ⟨?oG0, ?oG1, ?oG2, ?oG3, ?oG4, ?oG5, ?oG6, ?oG7, ?oG8, ?oG9, ?oG10, ?oG11, ?oG12, ?oG13, ?oG14, ?oG15, ?oG16, ?oG17, ?oG18, ?oG19, ?oG20, ?oG21, ?oG22, ?oG23, ?oG24, ?oG25, ?oG26, ?oG27, ?oG28, ?oG29, ?oG30,trivial⟩ (by kernel_rfl) ?fG
    case oG0=>intro ev wo hev hC hs hph;have x0:=se hA hs 11;exact od rfl rfl (by kernel_rfl) hC (aG.of rfl (aA.refl _)) (by simp[go_sem,x0]<;>rfl)
    case oG1=>intro ev wo hev hC hs hph;have x0:=sd hs 84 0;exact od rfl rfl (by kernel_rfl) hC (aG.of rfl (aA.refl _)) (by simp[go_sem,x0]<;>rfl)
    case oG2=>intro ev wo hev hC hs hph;have x0:=se hA hs 0;have y:=sd hs 85 1;exact bq _ rfl rfl y rfl (by kernel_rfl) hC (aG.of rfl (aA.refl _)) (fun hq=>by simp[go_sem,x0]<;>rfl) (by rfl)
    case oG3=>intro ev wo hev hC hs hph;have x0:=se hA hs 12;have y:=sd hs 85 1;exact bq _ rfl rfl y rfl (by kernel_rfl) hC (aG.of rfl (aA.refl _)) (fun hq=>by simp[go_sem,x0]<;>rfl) (by rfl)
    case oG4=>intro ev wo hev hC hs hph;have x0:=sd hs 86 2;have x1:=sd hs 87 3;have y:=sd hs 85 1;exact bq _ rfl rfl y rfl (by kernel_rfl) hC (aG.of rfl (aA.refl _)) (fun hq=>by simp[go_sem,(x0.trans (aL (aF hq))),(x1.trans (aL (aF hq))),kk0,kk1]<;>rfl) (by rfl)
    case oG5=>intro ev wo hev hC hs hph;have x0:=sd hs 88 4;have y:=sd hs 85 1;exact bq _ rfl rfl y rfl (by kernel_rfl) hC (aG.of rfl (aA.refl _)) (fun hq=>by simp[go_sem,(x0.trans (aL (aF hq)))]<;>rfl) (by rfl)
    case oG6=>intro ev wo hev hC hs hph;have x0:=sd hs 89 5;have y:=sd hs 85 1;exact bq _ rfl rfl y rfl (by kernel_rfl) hC (aG.of rfl (aA.refl _)) (fun hq=>by simp[go_sem,(x0.trans (aL (aF hq))),pG _ hC]<;>rfl) (by rfl)
    case oG7=>intro ev wo hev hC hs hph;have x0:=sd hs 90 6;have y:=sd hs 85 1;exact bq _ rfl rfl y rfl (by kernel_rfl) hC (aG.of rfl (aA.refl _)) (fun hq=>by simp[go_sem,(x0.trans (aL (aF hq))),hev.const]<;>rfl) (by rfl)
    case oG8=>intro ev wo hev hC hs hph;have x0:=sd hs 91 7;have y:=sd hs 85 1;exact bq _ rfl rfl y rfl (by kernel_rfl) hC (aG.of rfl (aA.refl _)) (fun hq=>by simp[go_sem,(x0.trans (aL (aF hq)))]<;>rfl) (by rfl)
    case oG9=>intro ev wo hev hC hs hph;have x0:=se hA hs 0;have y:=sd hs 92 8;exact dG _ _ rfl rfl y rfl (by kernel_rfl) hC (aG.of rfl (aA.refl _)) (fun hq hr=>by simp[go_sem,x0]<;>rfl) (by rfl)
    case oG10=>intro ev wo hev hC hs hph;have x0:=se hA hs 12;have y:=sd hs 92 8;exact dG _ _ rfl rfl y rfl (by kernel_rfl) hC (aG.of rfl (aA.refl _)) (fun hq hr=>by simp[go_sem,x0]<;>rfl) (by rfl)
    case oG11=>intro ev wo hev hC hs hph;have x0:=sd hs 93 9;have x1:=sd hs 94 10;have y:=sd hs 92 8;exact dG _ _ rfl rfl y rfl (by kernel_rfl) hC (aG.of rfl (aA.refl _)) (fun hq hr=>by simp[go_sem,(x0.trans (aL (ax hq hr))),(x1.trans (aL (ax hq hr))),kk0,kk1]<;>rfl) (by rfl)
    case oG12=>intro ev wo hev hC hs hph;have x0:=sd hs 95 11;have y:=sd hs 92 8;exact dG _ _ rfl rfl y rfl (by kernel_rfl) hC (aG.of rfl (aA.refl _)) (fun hq hr=>by simp[go_sem,(x0.trans (aL (ax hq hr)))]<;>rfl) (by rfl)
    case oG13=>intro ev wo hev hC hs hph;have x0:=sd hs 96 12;have y:=sd hs 92 8;exact dG _ _ rfl rfl y rfl (by kernel_rfl) hC (aG.of rfl (aA.refl _)) (fun hq hr=>by simp[go_sem,(x0.trans (aL (ax hq hr))),pG _ hC]<;>rfl) (by rfl)
    case oG14=>intro ev wo hev hC hs hph;have x0:=se hA hs 9;have y:=sd hs 92 8;exact dG _ _ rfl rfl y rfl (by kernel_rfl) hC (aG.of rfl (aA.refl _)) (fun hq hr=>by simp[go_sem,x0]<;>rfl) (by rfl)
    case oG15=>intro ev wo hev hC hs hph;have x0:=sd hs 98 14;have y:=sd hs 92 8;exact dG _ _ rfl rfl y rfl (by kernel_rfl) hC (aG.of rfl (aA.refl _)) (fun hq hr=>by simp[go_sem,(x0.trans (aL (ax hq hr))),pG _ hC]<;>rfl) (by rfl)
    case oG16=>intro ev wo hev hC hs hph;have x0:=sd hs 97 13;have x1:=sd hs 99 15;have y:=sd hs 92 8;exact dG _ _ rfl rfl y rfl (by kernel_rfl) hC (aG.of rfl (aA.refl _)) (fun hq hr=>by simp[go_sem,(x0.trans (aL (ax hq hr))),(x1.trans (aL (ax hq hr)))]<;>rfl) (by rfl)
    case oG17=>intro ev wo hev hC hs hph;have x0:=sd hs 92 8;have x1:=sd hs 100 16;have y:=sd hs 85 1;exact bq _ rfl rfl y rfl (by kernel_rfl) hC (aG.of rfl (aA.refl _)) (fun hq=>by rw[iz rfl (x0.trans (aL (aF hq))) (x1.trans (wM (aF hq))) (hev.const _)]<;>rfl) (by rfl)
    case oG18=>intro ev wo hev hC hs hph;have x0:=sd hs 101 17;have y:=sd hs 85 1;exact bq _ rfl rfl y rfl (by kernel_rfl) hC (aG.of rfl (aA.refl _)) (fun hq=>by simp[go_sem,(x0.trans (aL (aF hq)))]<;>rfl) (by rfl)
    case oG19=>intro ev wo hev hC hs hph;have x0:=se hA hs 0;have y:=sd hs 102 18;exact dG _ _ rfl rfl y rfl (by kernel_rfl) hC (aG.of rfl (aA.refl _)) (fun hq hr=>by simp[go_sem,x0]<;>rfl) (by rfl)
    case oG20=>intro ev wo hev hC hs hph;have x0:=se hA hs 12;have y:=sd hs 102 18;exact dG _ _ rfl rfl y rfl (by kernel_rfl) hC (aG.of rfl (aA.refl _)) (fun hq hr=>by simp[go_sem,x0]<;>rfl) (by rfl)
    case oG21=>intro ev wo hev hC hs hph;have x0:=sd hs 103 19;have x1:=sd hs 104 20;have y:=sd hs 102 18;exact dG _ _ rfl rfl y rfl (by kernel_rfl) hC (aG.of rfl (aA.refl _)) (fun hq hr=>by simp[go_sem,(x0.trans (aL (ax hq hr))),(x1.trans (aL (ax hq hr))),kk0,kk1]<;>rfl) (by rfl)
    case oG22=>intro ev wo hev hC hs hph;have x0:=sd hs 105 21;have y:=sd hs 102 18;exact dG _ _ rfl rfl y rfl (by kernel_rfl) hC (aG.of rfl (aA.refl _)) (fun hq hr=>by simp[go_sem,(x0.trans (aL (ax hq hr)))]<;>rfl) (by rfl)
    case oG23=>intro ev wo hev hC hs hph;have x0:=sd hs 106 22;have y:=sd hs 102 18;exact dG _ _ rfl rfl y rfl (by kernel_rfl) hC (aG.of rfl (aA.refl _)) (fun hq hr=>by simp[go_sem,(x0.trans (aL (ax hq hr)))]<;>rfl) (by rfl)
    case oG24=>intro ev wo hev hC hs hph;have x0:=sd hs 107 23;have y:=sd hs 102 18;exact dG _ _ rfl rfl y rfl (by kernel_rfl) hC (aG.of rfl (aA.refl _)) (fun hq hr=>by simp[go_sem,(x0.trans (aL (ax hq hr))),pG _ hC]<;>rfl) (by rfl)
    case oG25=>intro ev wo hev hC hs hph;have x0:=se hA hs 9;have y:=sd hs 102 18;exact dG _ _ rfl rfl y rfl (by kernel_rfl) hC (aG.of rfl (aA.refl _)) (fun hq hr=>by simp[go_sem,x0]<;>rfl) (by rfl)
    case oG26=>intro ev wo hev hC hs hph;have x0:=sd hs 109 25;have y:=sd hs 102 18;exact dG _ _ rfl rfl y rfl (by kernel_rfl) hC (aG.of rfl (aA.refl _)) (fun hq hr=>by simp[go_sem,(x0.trans (aL (ax hq hr)))]<;>rfl) (by rfl)
    case oG27=>intro ev wo hev hC hs hph;have x0:=sd hs 110 26;have y:=sd hs 102 18;exact dG _ _ rfl rfl y rfl (by kernel_rfl) hC (aG.of rfl (aA.refl _)) (fun hq hr=>by simp[go_sem,(x0.trans (aL (ax hq hr))),pG _ hC]<;>rfl) (by rfl)
    case oG28=>intro ev wo hev hC hs hph;have x0:=sd hs 108 24;have x1:=sd hs 111 27;have y:=sd hs 102 18;exact dG _ _ rfl rfl y rfl (by kernel_rfl) hC (aG.of rfl (aA.refl _)) (fun hq hr=>by simp[go_sem,(x0.trans (aL (ax hq hr))),(x1.trans (aL (ax hq hr)))]<;>rfl) (by rfl)
    case oG29=>intro ev wo hev hC hs hph;have x0:=sd hs 102 18;have x1:=sd hs 112 28;have y:=sd hs 85 1;exact bq _ rfl rfl y rfl (by kernel_rfl) hC (aG.of rfl (aA.refl _)) (fun hq=>by rw[iz rfl (x0.trans (aL (aF hq))) (x1.trans (wM (aF hq))) (hev.const _)]<;>rfl) (by rfl)
    case oG30=>intro ev wo hev hC hs hph;have x0:=sd hs 85 1;have x1:=sd hs 113 29;exact od rfl rfl (by kernel_rfl) hC (aG.of rfl (aA.refl _)) (by rw[gz rfl x0 (hev.const _) x1]<;>rfl)
    intro sg wf hC hph
    intro a hA
    replace hA:=hA.keepN [0,2,4,6,7,9,12,43,44,114]
    revert a;refine wo rfl rfl (by decide) (fun ev e h=>by simp[go_sem,h,hwk]<;>rfl) ?_;intro a hA
    replace hA:=hA.keepN [0,2,4,6,7,9,11,12,43,44]
    refine wN (nB (nT (wR ?_)))
    revert a;(iterate 3 refine wo rfl rfl (by decide) (fun ev e h=>by simp[go_sem,h,hwk]<;>rfl) ?_);intro a hA
    replace hA:=hA.keepN [0,2,4,6,7,9,11,12,43,44]
    refine wN (nT ?_)
    rw[show((k:Int)+1)=((k+1:Nat):Int) by omega] at hA
    refine⟨kk2 - 1,by omega,k+1,_,by omega,hA, ?_,HY.trans (hC.mono HY.size)⟩
    rw[hgo,BO,BO,←Bool.or_assoc]
    congr 2
    show(y.kind==3&&(x.ep==y.ep&&x.m.uid==y.m.uid))=_
    rw[←Bool.and_assoc]
   case nL=>
    have hkn:k=n:=by simp at hq3;omega
    rw[hkn,List.drop_of_length_le (i:=n) (by omega),List.any_nil,Bool.or_false] at hgo
    rw[hgo] at e4
    replace K4:=K4.below HY K4.lt
    replace K9:=K9.below HY K9.lt
    replace ho:=ho.below HY
    replace hA:=hA.keepN [0,2,4,6,7,9,11,43,44]
    refine wp_exit (xT (xT (xB (nT (wS (wS (wR ?_)))))))
    revert a;refine wo rfl rfl (by decide) (fun ev e h=>by simp[go_sem,h]<;>rfl) ?_;intro a hA
    replace hA:=hA.keepN [0,2,4,6,7,9,43,44,115]
    refine wN (nT ?_)
    refine aH hA 115 _ rfl (fun hq4=> ?yP) (fun hq4=> ?nP)
    case yP=>
     subst hq4
     rw[cond_true,List.nil_append] at e4
     replace hA:=hA.keepN [0,2,4,6,7,43,44]
     refine wp_exit (xT (xB (nT (wR ?_))))
     revert a;(iterate 2 refine wo rfl rfl (by decide) (fun ev e h=>by simp[go_sem,h,hwj]<;>rfl) ?_);intro a hA
     replace hA:=hA.keepN [0,2,4,6,7,43,44]
     refine wN (nT ?_)
     rw[show((j:Int)+1)=((j+1:Nat):Int) by omega] at hA
     exact⟨kk - 1,by omega,j+1,_,M,Pl,by omega,hA,K4,ho,hM,by rw[hPl,e4],by omega,hMN,HLy⟩
    case nP=>
     subst hq4
     rw[cond_false] at e4
     refine wp_skip (nT (wS (wR ?_)))
     revert a;(iterate 4 refine wo rfl rfl (by decide) (fun ev e h=>by simp[go_sem,h,K9.cell,K4.cell]<;>rfl) ?_);intro a hA
     refine aP hA rfl rfl (by decide) (fun ev h=>by simp[go_sem,h.get 119 rfl,K9.cell,K4.cell];try first|exact⟨rfl,rfl⟩|rfl) fun w7 a (K11:aI _ _ _ _) hz7 hb7 hA=> ?_
     replace K4:=K4.below hb7 K4.lt
     replace K9:=K9.below hb7 K9.lt
     replace ho:=ho.below hb7
     replace HLy:=HLy.trans (hb7.mono (Nat.le_trans (Nat.le_of_lt hpxx) HY.size))
     have HB7:Below w.heap.size w w7:=HBw.trans (HLy.mono (Nat.le_of_lt hpw))
     have hxr:=hxr0.below HB7
     have hrow:bu de w7 _ [x.m]:=ey (s:=de) (x:=x.m) K11 (fun p hp=>by rw[List.mem_singleton.1 hp];exact hxr)
     have hvlt:=World.ownsRow.lt ho.row
     obtain⟨r,w8,hr8,ho8,hg8, -⟩:=eT ho hrow (fun g hg m hm p hp=>by
      rw[List.mem_singleton.1 hm] at hp
      rw[List.mem_singleton.1 hp]
      intro hn' ad' ha he
      obtain⟨ad2,e2,hlt2,_⟩:=hxr0.2 hn'
      have h1:=(hvlt g hg).1
      have e3:x.m.a=some ad':=ha
      rw[e3] at e2
      injection e2 with e2
      subst e2
      omega) (by simp;omega) (by have:=K4.lt;omega)
     refine a7 hA rfl rfl (by decide) (fun ev h=>ao rfl (h.get 117 rfl) (h.get 120 rfl) hr8) fun a hA=> ?_
     have K48:=K4.grown hg8 (fun e=>by have:=(hvlt pb e.symm).1;omega)
     have K98:=K9.grown hg8 (fun e=>eu ho.row K9 (by decide) _ e.symm rfl)
     have hHL:=dN HLy ho hg8 (by omega) (by have:=K4.lt;omega)
     obtain⟨A9,c9,rfl,_⟩:=ho8.reads
     have K480:=K48
     clear ho K4 K9 K11 hrow
     revert a;refine wo rfl rfl (by decide) (fun ev e h=>by simp[go_sem,h,K48.cell,K98.cell]<;>rfl) ?_;intro a hA
     refine aq ([.string (lR LB), .int .u32 (E:Nat), .int .u32 (iD E (LB.take (j+1)):Nat), .slice A9 (M++[x.m]).length c9]) _ hA rfl rfl K48 (j:=3) (by rfl) (fun ev h=>by simp[go_sem,h.get 122 rfl,h.get 121 rfl,K48.cell,K98.cell,K48.cell,K48.frozen];try first|exact⟨rfl,rfl⟩|rfl) fun w9 (K48:aI _ _ _ _) hs9=> ?_
     have ho9:=ho8.onlyK hs9 K480 (by decide) rfl
     have hH9:=hs9.below hHL (Nat.le_refl _)
     have K99:=hs9.blk K98 (by omega)
     have hsn:=rY E x.b 0 Pl
     have hls:=z8 0 Pl x.b
     have hcs:=zD x.ep (iv 0 Pl) E x.m.uid
     have hfin:bt LB=(Pl++[x.b])++bt (LB.drop (j+1)):=by rw[hPl,e4,List.append_assoc]
     have hMN9:∀m∈M++[x.m],∃x∈N,m.a=x.m.a∧m.b=x.m.b:=fun m hm=>by
      rcases List.mem_append.1 hm with hm|hm
      ·exact hMN m hm
      ·rw[List.mem_singleton.1 hm];exact⟨x,List.mem_of_getElem? hx,rfl,rfl⟩
     have hMs:(M++[x.m]).map eS=(Pl++[x.b]).map dF:=by rw[List.map_append,List.map_append,hM];rfl
     replace hA:=hA.keepN [0,2,4,6,7,9,43,44]
     refine wN (nT (wS (wS (wR ?_))))
     revert a;(iterate 6 refine wo rfl rfl (by decide) (fun ev e h=>by simp[go_sem,h,K99.cell,K48.cell]<;>rfl) ?_);(iterate 4 refine wg _ rfl rfl rfl rfl (by decide) (fun hq ev e h=>by simp[go_sem,h,↓aL (aF hq),K99.cell,K48.cell]<;>rfl) ?_);intro a hA
     replace hA:=hA.keepN [0,2,4,6,9,43,44,128,131,132]
     revert a;refine wg _ rfl rfl rfl rfl (by decide) (fun hq ev e h=>by simp[go_sem,h,↓aL (aF hq),K99.cell,K48.cell]<;>rfl) ?_;refine kj rfl rfl (by decide) rfl rfl rfl ?_;refine wo rfl rfl (by decide) (fun ev e h=>by simp[go_sem,h,K99.cell,K48.cell]<;>rfl) ?_;(iterate 4 refine wg _ rfl rfl rfl rfl (by decide) (fun hq ev e h=>by simp[go_sem,h,↓aL (aF hq),K99.cell,K48.cell]<;>rfl) ?_);refine kj rfl rfl (by decide) rfl rfl rfl ?_;intro a hA
     replace hA:=hA.keepN [0,2,4,6,9,43,44,140]
     refine wN (nT ?_)
     rw[hcs] at hA
     refine aH hA 140 _ rfl (fun hq5=> ?yQ) (fun hq5=> ?nQ)
     case yQ=>
      have hq5:(x.ep==E&&decide (iv 0 Pl<x.m.uid)&& !(x.m.uid==4294967295))=false:=by rw[Bool.not_eq_true'] at hq5;exact hq5
      have hsn2:dx E 0 (Pl++[x.b])=false:=by rw[hsn];show(_&&(x.ep==E&&decide (iv 0 Pl<x.m.uid)&& !(x.m.uid==4294967295)))=false;rw[hq5,Bool.and_false]
      refine wR ?_
      revert a;refine wo rfl rfl (by decide) (fun ev e h=>by simp[go_sem,h,K99.cell,hwj]<;>rfl) ?_;intro a hA
      replace hA:=hA.keepN [0,2,4,6,9,43,44]
      refine wN (nT (wR ?_))
      revert a;(iterate 4 refine wo rfl rfl (by decide) (fun ev e h=>by simp[go_sem,h,K99.cell,hwj]<;>rfl) ?_);intro a hA
      replace hA:=hA.keepN [0,2,4,6,7,43,44]
      refine wN (nB (nT (wR ?_)))
      revert a;(iterate 2 refine wo rfl rfl (by decide) (fun ev e h=>by simp[go_sem,h,K99.cell,hwj]<;>rfl) ?_);intro a hA
      replace hA:=hA.keepN [0,2,4,6,7,43,44]
      refine wN (nT ?_)
      rw[show((j:Int)+1)=((j+1:Nat):Int) by omega] at hA
      exact⟨kk - 1,by omega,j+1,_,M++[x.m],Pl++[x.b],by omega,by rw[hsn2,hls];exact hA,K48,ho9,hMs,hfin,by simp;omega,hMN9,hH9⟩
     case nQ=>
      have hq5:(x.ep==E&&decide (iv 0 Pl<x.m.uid)&& !(x.m.uid==4294967295))=true:=by rw[Bool.not_eq_false'] at hq5;exact hq5
      have hsn2:dx E 0 (Pl++[x.b])=dx E 0 Pl:=by rw[hsn];show(_&&(x.ep==E&&decide (iv 0 Pl<x.m.uid)&& !(x.m.uid==4294967295)))=_;rw[hq5,Bool.and_true]
      refine wp_skip (nT (wR ?_))
      revert a;(iterate 4 refine wo rfl rfl (by decide) (fun ev e h=>by simp[go_sem,h,K99.cell,hwj]<;>rfl) ?_);intro a hA
      replace hA:=hA.keepN [0,2,4,6,7,43,44]
      refine wN (nB (nT (wR ?_)))
      revert a;(iterate 2 refine wo rfl rfl (by decide) (fun ev e h=>by simp[go_sem,h,K99.cell,hwj]<;>rfl) ?_);intro a hA
      replace hA:=hA.keepN [0,2,4,6,7,43,44]
      refine wN (nT ?_)
      rw[show((j:Int)+1)=((j+1:Nat):Int) by omega] at hA
      exact⟨kk - 1,by omega,j+1,_,M++[x.m],Pl++[x.b],by omega,by rw[hsn2,hls];exact hA,K48,ho9,hMs,hfin,by simp;omega,hMN9,hH9⟩
  case nJ=>
   have hjn2:j=n:=by simp at hq;omega
   rw[List.take_of_length_le (by omega)] at K4
   rw[List.drop_of_length_le (by omega)] at hPl
   have hPl:Pl=bt LB:=by rw[hPl];unfold bt;rw[List.append_nil]
   subst hPl
   have hof:dV LB=⟨lR LB,E,iD E LB,bt LB⟩:=by unfold dV;rw[hE]
   have hcl:al (dV LB)=dx E 0 (bt LB):=by rw[hof];rfl
   have K2x:=K20.below HL hpw
   have HBx:Below w.heap.size w wx:=HBw.trans (HL.mono (Nat.le_of_lt hpw))
   rw[hcl]
   replace hA:=hA.keepN [2,4,6]
   refine wp_exit (xT (xT (xB (nT (wS (wS (wR ?_)))))))
   revert a;refine wo rfl rfl (by decide) (fun ev e h=>by simp[go_sem,h]<;>rfl) ?_;intro a hA
   replace hA:=hA.keepN [2,4,145]
   refine wN (nT ?_)
   obtain⟨X,hX⟩:∃X,iD E LB=X:=⟨_,rfl⟩
   rw[hX] at K4 hof
   obtain⟨nm,hnm⟩:∃X,lR LB=X:=⟨_,rfl⟩
   rw[hnm] at K4 hof
   obtain⟨cq,hcq⟩:∃X,dx E 0 (bt LB)=X:=⟨_,rfl⟩
   rw[hcq] at hcl hA
   rw[hcq]
   refine aH hA 145 _ rfl (fun hq6=> ?yC) (fun hq6=> ?nC)
   case yC=>
    subst hq6
    have hbx:bQ (dV LB)=⟨nm,E,X,(bt LB).map dF⟩:=by unfold bQ;rw[hcl,hof];rfl
    rw[hbx]
    refine wS (wR ?_)
    revert a;refine wo rfl rfl (by decide) (fun ev e h=>by simp[go_sem,h,K4.cell]<;>rfl) ?_;intro a hA
    have K2y:=K2x
    refine bX [.string nm, .int .u32 (E:Nat), .int .u32 (X:Nat), .slice Av M.length cv] hA rfl rfl K2x (by rfl) (fun ev h=>by simp[go_sem,h.get 2 rfl,h.get 146 rfl,K4.cell,setAll,K2x.cell,K2x.frozen]) fun w12 (K2x:aI _ _ _ _) hs12=> ?_
    revert a;refine wo rfl rfl (by decide) (fun ev e h=>by simp[go_sem,h,K2x.cell]<;>rfl) ?_;intro a hA
    replace hA:=hA.keepN [2,3]
    refine wN (nT (wp_ret (rT ?_)))
    refine bodyPost_ret (by simp[results,Tryz.results10,go_sem,hA.env 2 _ rfl,hA.env 3 _ rfl,K2x.cell];try first|exact⟨rfl,rfl⟩|rfl) hA.defers ?_
    exact⟨_,M,rfl,(ho.onlyK hs12 K2y (by decide) rfl).mono (by omega),hM,hMN,hs12.below HBx (by omega)⟩
   case nC=>
    subst hq6
    have hbx:bQ (dV LB)=⟨nm,aW E,((bt LB).length+1)%4294967296,fR 0 (bt LB)⟩:=by unfold bQ;rw[hcl,hof];rfl
    rw[hbx]
    have hEu:E<4294967296:=by
     rw[←hE]
     suffices H:∀(l:List aX) (e:Nat),e<4294967296→(∀m∈l,m.ep<4294967296)→l.foldl (fun e n=>max e n.ep) e<4294967296 from H LB 0 (by decide) (fun m hm=>by
      rw[←hLB] at hm
      obtain⟨y,hy,e⟩:=List.mem_map.1 hm
      rw[←e]
      exact(hu y hy).2)
     intro l
     induction l with
     |nil=>intro e h _;exact h
     |cons y r ih=>
      intro e h h2
      rw[List.foldl_cons]
      refine ih _ ?_ fun m hm=>h2 m (List.mem_cons_of_mem _ hm)
      have:=h2 y List.mem_cons_self
      omega
    have hMn:M.length=(bt LB).length:=by
     have:=congrArg List.length hM
     rw[List.length_map,List.length_map] at this
     omega
    have hLn:=rM LB
    obtain⟨q,hqM⟩:∃q,M.length=q:=⟨_,rfl⟩
    have hqn:q≤n:=by omega
    rw[hqM] at K4 ho
    refine wp_skip (nT (wS (wS (wR ?_))))
    revert a;(iterate 3 refine wo rfl rfl (by decide) (fun ev e h=>by simp[go_sem,h,K4.cell]<;>rfl) ?_);intro a hA
    replace hA:=hA.keepN [2,4,149]
    refine wN (nT ?_)
    refine cd (fun a wx=>At 176 [(2, .pointer (some ⟨w.heap.size,0,none⟩)),(4, .pointer (some ⟨pb,0,none⟩))] a∧aI wx pb 41 #[.string nm, .int .u32 (aW E:Nat), .int .u32 (X:Nat), .slice Av q cv]∧ac de (pb+1) wx (.slice Av q cv) M∧Below pb w2 wx) ?jfY ?jrY
    case jfY=>
     refine aH hA 149 _ rfl (fun hq7=> ?yR) (fun hq7=> ?nR)
     case yR=>
      have hlu:E<4294967295:=by simp at hq7;omega
      have hwu:IntKind.u32.wrap ((E:Int)+1)=(E:Int)+1:=IntWalk.u32_in _ (by omega)
      have hbe:aW E=E+1:=by unfold aW;rw[if_neg (by omega)]
      refine wR ?_
      revert a;(iterate 4 refine wo rfl rfl (by decide) (fun ev e h=>by simp[go_sem,h,K4.cell,hwu]<;>rfl) ?_);intro a hA
      have K40:=K4
      refine aq ([.string nm, .int .u32 ((E:Int)+1), .int .u32 (X:Nat), .slice Av q cv]) _ hA rfl rfl K4 (j:=1) (by rfl) (fun ev h=>by simp[go_sem,h.get 153 rfl,h.get 152 rfl,K4.cell,hwu,K4.cell,K4.frozen];try first|exact⟨rfl,rfl⟩|rfl) fun w13 (K4:aI _ _ _ _) hs13=> ?_
      replace hA:=hA.keepN [2,4]
      refine wN (nT ?_)
      exact⟨hA,by rw[hbe];exact K4,ho.onlyK hs13 K40 (by decide) rfl,hs13.below HL (Nat.le_refl _)⟩
     case nR=>
      have hlu:E=4294967295:=by simp at hq7;omega
      have hbe:aW E=E:=by unfold aW;rw[if_pos hlu]
      replace hA:=hA.keepN [2,4]
      refine wp_skip (nT ?_)
      exact⟨hA,by rw[hbe];exact K4,ho,HL⟩
    clear K4 ho HL K2x
    rintro a wx ⟨hA,K4,ho,HL⟩
    refine wS (wS (wR ?_))
    revert a;(iterate 4 refine wo rfl rfl (by decide) (fun ev e h=>by simp[go_sem,h,K4.cell]<;>rfl) ?_);intro a hA
    replace hA:=hA.keepN [2,4,156,157]
    refine wN (nT (wB ?_))
    refine aQ (fun kk a wy=>∃(j:Nat) (M':List aU),j+kk=q∧At 176 [(2, .pointer (some ⟨w.heap.size,0,none⟩)),(4, .pointer (some ⟨pb,0,none⟩)),(156, .int .i64 (q:Nat)),(157, .int .i64 (j:Nat))] a∧aI wy pb 41 #[.string nm, .int .u32 (aW E:Nat), .int .u32 (X:Nat), .slice Av q cv]∧ac de (pb+1) wy (.slice Av q cv) M'∧ot j M M'∧Below pb w2 wy) (q) ?_ ?_
    ·exact⟨0,M,by omega,hA,K4,ho,xi M,HL⟩
    clear K4 ho HL
    rintro kk a wy ⟨j,M',hjk,hA,K4,ho,hMi,HL⟩
    have hlen':M'.length=q:=by
     obtain⟨A',c',e,_⟩:=ho.reads
     injection e with _ e _
     exact e.symm
    refine wS (wR ?_)
    revert a;refine wo rfl rfl (by decide) (fun ev e h=>by simp[go_sem,h]<;>rfl) ?_;intro a hA
    replace hA:=hA.keepN [2,4,156,157,158]
    refine wN (nT (wS ?_))
    refine aH hA 158 _ rfl (fun hq8=> ?yS) (fun hq8=> ?nS)
    case yS=>
     have hlt:j<q:=by simp at hq8;omega
     obtain⟨y,hy⟩:∃y,M'[j]?=some y:=⟨_,List.getElem?_eq_getElem (by omega)⟩
     obtain⟨g,c',hv,hgB,hglt⟩:=ho.at_ (by omega)
     injection hv with hv1 _ hv3
     subst hv1
     have z0:wy.cell? ⟨g,j*4,none⟩=some (.int .u32 (y.uid:Nat)):=ho.cellAt (j:=0) hy rfl
     have jj0:(0:Int)≤(j:Int):=by omega
     have jj1:(j:Int)<(q:Int):=by omega
     have hwj:IntKind.i64.wrap ((j:Int)+1)=(j:Int)+1:=IntWalk.i64_in _ (by omega)
     have hwv:IntKind.u32.wrap ((j:Int)+1)=((j+1:Nat):Int):=by rw[IntWalk.u32_in _ (by omega)];omega
     obtain⟨h8,h9⟩:=ho.put1 (j:=0) (x:=(⟨j+1,y.date,y.flags,y.a,y.c,y.b⟩:aU)) (u:= .int .u32 ((j+1:Nat):Int)) hy (by decide) rfl rfl
     refine wp_skip (nT (wS (wB (wS (wR ?_)))))
     revert a;(iterate 2 refine wo rfl rfl (by decide) (fun ev e h=>by simp[go_sem,h,K4.cell,aS,jj0,jj1,hwj,hwv,z0,ho.frozenAt]<;>rfl) ?_);intro a hA
     replace hA:=hA.keepN [2,4,13,156,157]
     refine wN (nT (wR ?_))
     revert a;(iterate 5 refine wo rfl rfl (by decide) (fun ev e h=>by simp[go_sem,h,K4.cell,aS,jj0,jj1,hwj,hwv,z0,ho.frozenAt]<;>rfl) ?_);intro a hA
     refine a7 hA rfl rfl (by decide) (fun ev h=>by simp[go_sem,h.get 164 rfl,K4.cell,aS,jj0,jj1,hwj,hwv,z0,ho.frozenAt];try first|exact⟨rfl,rfl⟩|rfl) fun a hA=> ?_
     revert a;(iterate 2 refine wo rfl rfl (by decide) (fun ev e h=>by simp[go_sem,h,K4.cell,aS,jj0,jj1,hwj,hwv,z0,ho.frozenAt]<;>rfl) ?_);intro a hA
     refine jP hA rfl rfl (fun ev h=>by simp[go_sem,h.get 167 rfl,h.get 165 rfl,K4.cell,aS,jj0,jj1,hwj,hwv,z0,ho.frozenAt];try first|exact⟨rfl,rfl⟩|rfl) ?_
     replace hA:=hA.keepN [2,4,156,157]
     refine wN (nB (nT (wR ?_)))
     revert a;(iterate 2 refine wo rfl rfl (by decide) (fun ev e h=>by simp[go_sem,h,hwj]<;>rfl) ?_);intro a hA
     replace hA:=hA.keepN [2,4,156,157]
     refine wN (nT ?_)
     rw[show((j:Int)+1)=((j+1:Nat):Int) by omega] at hA
     exact⟨kk - 1,by omega,j+1,_,by omega,hA,K4.grown h9 (fun e=>by injection e with e;omega),h8,xh hMi hy,HL.grown h9 (by have:=HL.size;have:=hb2.size;omega) (fun k e=>by injection e with e;omega)⟩
    case nS=>
     have hjn:j=q:=by simp at hq8;omega
     subst hjn
     have hwj:IntKind.i64.wrap ((j:Int)+1)=(j:Int)+1:=IntWalk.i64_in _ (by omega)
     have hwv:IntKind.u32.wrap ((j:Int)+1)=((((bt LB).length+1)%4294967296:Nat):Int):=by rw[IntWalk.u32_in _ (by omega)];omega
     have K2x:=K20.below HL hpw
     have HBx:Below w.heap.size w wy:=HBw.trans (HL.mono (Nat.le_of_lt hpw))
     replace hA:=hA.keepN [2,4]
     refine wp_exit (xT (xT (xB (nT (wS (wR ?_))))))
     revert a;(iterate 4 refine wo rfl rfl (by decide) (fun ev e h=>by simp[go_sem,h,K4.cell,hwj,hwv]<;>rfl) ?_);intro a hA
     refine a7 hA rfl rfl (by decide) (fun ev h=>by simp[go_sem,h.get 172 rfl,K4.cell,hwj,hwv];try first|exact⟨rfl,rfl⟩|rfl) fun a hA=> ?_
     revert a;refine wo rfl rfl (by decide) (fun ev e h=>by simp[go_sem,h,K4.cell,hwj,hwv]<;>rfl) ?_;intro a hA
     have K40:=K4
     refine aq ([.string nm, .int .u32 (aW E:Nat), .int .u32 (((bt LB).length+1)%4294967296:Nat), .slice Av j cv]) _ hA rfl rfl K4 (j:=2) (by rfl) (fun ev h=>by simp[go_sem,h.get 174 rfl,h.get 173 rfl,K4.cell,hwj,hwv,K4.cell,K4.frozen];try first|exact⟨rfl,rfl⟩|rfl) fun w14 (K4:aI _ _ _ _) hs14=> ?_
     replace ho:=ho.onlyK hs14 K40 (by decide) rfl
     replace HBx:=hs14.below HBx (by omega)
     replace K2x:=hs14.blk K2x (by omega)
     replace hA:=hA.keepN [2,4]
     refine wN (nT (wS (wR ?_)))
     revert a;refine wo rfl rfl (by decide) (fun ev e h=>by simp[go_sem,h,K4.cell]<;>rfl) ?_;intro a hA
     have K2y:=K2x
     refine bX [.string nm, .int .u32 (aW E:Nat), .int .u32 (((bt LB).length+1)%4294967296:Nat), .slice Av j cv] hA rfl rfl K2x (by rfl) (fun ev h=>by simp[go_sem,h.get 2 rfl,h.get 175 rfl,K4.cell,setAll,K2x.cell,K2x.frozen]) fun w15 (K2x:aI _ _ _ _) hs15=> ?_
     revert a;refine wo rfl rfl (by decide) (fun ev e h=>by simp[go_sem,h,K2x.cell]<;>rfl) ?_;intro a hA
     replace hA:=hA.keepN [2,3]
     refine wN (nT (wp_ret ?_))
     refine bodyPost_ret (by simp[results,Tryz.results10,go_sem,hA.env 2 _ rfl,hA.env 3 _ rfl,K2x.cell];try first|exact⟨rfl,rfl⟩|rfl) hA.defers ?_
     exact⟨_,M',rfl,(ho.onlyK hs15 K2y (by decide) rfl).mono (by omega),AD hMi hqM (by omega) hM,us hMi hMN,hs15.below HBx (by omega)⟩
theorem Dm (s:fo):(bQ s).msgs.length=s.live.length:=by
 unfold bQ
 cases al s
 ·rw[cond_false];exact ov 0 s.live
 ·rw[cond_true];exact List.length_map ..
theorem kN (b:List UInt8):∀y∈cM b,y.o.length≤20000∧y.ep<4294967296∧y.u<4294967296:=by
 intro x hx
 unfold cM eL at hx
 obtain⟨r,_,hr⟩:=List.mem_flatMap.1 hx
 cases hd:bk (r.kind:Int) r.b with
 |false=>rw[hd] at hr;cases hr
 |true=>
  rw[hd,cond_true,List.mem_singleton] at hr
  subst hr
  refine⟨?_,iL _ 4,um _ _⟩
  unfold bk at hd
  simp only[Bool.and_eq_true] at hd
  exact(eJ hd.2.1).2.2.1
end Go.Proofs.YtclcfkaphlopeaaGreatDoor
namespace Go.Proofs.YtclcfkaphlopeaaGreatDoor
open Go.RowKit Go.Maps
theorem Er {w:World} {p mb:Nat} {d:aN} (h:fT w p mb d) (hf:i7 d) (s:ByteArray) (hs:s.size≤maxLen):
 Calls Tryz.prog 24 #[.pointer (some ⟨p,0,none⟩), .string s] w fun e w'=>∃A c,e= .returned (.tuple #[.slice A (bv d s.data.toList).1.length c, .int .i64 (bv d s.data.toList).2])∧aE w' w'.heap.size 1 A (bv d s.data.toList).1.length (ar (bv d s.data.toList).1)∧(bv d s.data.toList).1.length≤c∧Below w.heap.size w w':=by
 have hrm:=hf.room
 have hcp:=hf.cap
 clear hf
 obtain⟨cap,files,fuse,lost⟩:=d
 obtain⟨es,hf,h⟩:=h
 obtain rfl:files=ci FV.m es:=hf
 have Ht:=Lib.hid (jz h s hs)
 have H:=Lib.hid h
 unfold bv
 simp only[gY] at hrm hcp ⊢
 cases lost with
 |true=>
  rw[if_pos rfl]
  clear h
  go_enter Tryz.func24,Tryz.ntmps24
  go_wp2_with fail
  refine Ht.out.mono ?_
  rintro e w1 ⟨rfl,hb⟩
  go_wp2
  go_ret2
  exact⟨none,0,rfl,aE.none_,Nat.le_refl _,hb⟩
 |false=>
  rw[if_neg (by simp)]
  cases hg:aV s.data.toList es with
  |none=>
   rw[hg] at Ht
   dsimp only[Option.map_none]
   clear h hg
   go_enter Tryz.func24,Tryz.ntmps24
   go_wp2_with fail
   refine Ht.out.mono ?_
   rintro e w1 ⟨rfl,hb⟩
   go_wp2
   go_ret2
   exact⟨none,0,rfl,aE.none_,Nat.le_refl _,hb⟩
  |some f=>
   have hle:f.m.b.length≤4194304:=by
    have:=kB (k:=s.data.toList) (f:=f.m) (l:=ci FV.m es) (by rw[gY,hg];rfl)
    omega
   obtain⟨⟨b,sf,ev⟩,A,c⟩:=f
   rw[hg] at Ht
   dsimp only[Option.map_some] at hle ⊢
   have HG:=Lib.hid hg
   clear h hg
   go_enter Tryz.func24,Tryz.ntmps24
   go_wp2_with fail
   refine Ht.out.mono ?_
   rintro e w1 ⟨rfl,hb⟩
   have h1:=H.out.below hb
   have HB:=Lib.hid hb
   have c1:=h1.c1
   have hl:=ej h1.map s hs HG.out
   have hr1:=(h1.bytes _ (gB HG.out)).1
   have Hc:=Lib.hid (gA A b.length c b w1 rfl (by omega) hr1)
   have hfr:=o6 A b.length c (sf:Nat) ev w1
   clear h1 hb hr1
   go_wp2_with fail
   refine Hc.out.mono ?_
   rintro e w2 ⟨A',c',rfl,hr2,hcl,hb2⟩
   have HC:=Lib.hid hcl
   clear hcl
   have HB2:=Lib.hid (HB.out.trans (hb2.mono HB.out.size))
   have HR:=Lib.hid hr2
   clear hr2 hb2
   go_wp2
   go_ret2
   exact⟨A',c',rfl,HR.out,HC.out,HB2.out⟩
theorem Hm {s t:ByteArray} (h:s.data.toList≠t.data.toList):(s.toList==t.toList)=false:=by
 rw[ByteArray.toList_eq,ByteArray.toList_eq]
 simpa using h
theorem Cw {w:World} {p mb:Nat} {d:aN} (h:fT w p mb d) (hf:i7 d) (hN:d.files.length<1000000) (s t:ByteArray) (hs:s.size≤1000000000) (ht:t.size≤1000000000):
 Calls Tryz.prog 47 #[.pointer (some ⟨p,0,none⟩), .string s, .string t] w fun e w'=>e= .returned (.int .i64 (cY d s.data.toList t.data.toList).1)∧fT w' p mb (cY d s.data.toList t.data.toList).2∧bb p mb w w':=by
 have hsm:s.size≤maxLen:=by unfold maxLen;omega
 have htm:t.size≤maxLen:=by unfold maxLen;omega
 have hf0:=hf.fuse0
 have hf1:=hf.fuse1
 clear hf
 obtain⟨cap,files,fuse,lost⟩:=d
 obtain⟨es,hf,h⟩:=h
 obtain rfl:files=ci FV.m es:=hf
 have hN':es.length<1000000:=by simpa[ci] using hN
 clear hN
 have Hg:=Lib.hid (kI p lost w h.c3)
 have H:=Lib.hid h
 unfold cY
 simp only[gY] at hf0 hf1 ⊢
 cases lost with
 |true=>
  clear h
  go_enter Tryz.func47,Tryz.ntmps47
  go_wp2_with fail
  refine Hg.out.mono ?_
  rintro e w1 ⟨rfl,rfl⟩
  go_wp2
  go_ret
  exact⟨rfl,⟨es,rfl,H.out⟩,bb.refl _ _ _⟩
 |false=>
  simp only[Bool.false_eq_true,if_false]
  have Hr:=Lib.hid (mc t ht w)
  cases hrt:right t.data.toList with
  |false=>
   rw[hrt] at Hr
   rw[if_pos (.inl rfl)]
   clear h hrt
   go_enter Tryz.func47,Tryz.ntmps47
   go_wp2_with fail
   refine Hg.out.mono ?_
   rintro e w1 ⟨rfl,rfl⟩
   go_wp2_with fail
   refine Hr.out.mono ?_
   rintro e w1 ⟨rfl,rfl⟩
   go_wp2
   go_ret
   exact⟨rfl,⟨es,rfl,H.out⟩,bb.refl _ _ _⟩
  |true=>
   rw[hrt] at Hr
   clear hrt
   by_cases hst:s.data.toList=t.data.toList
   ·have hst':s=t:=ByteArray.ext (Array.ext' hst)
    subst hst'
    rw[if_pos (.inr rfl)]
    clear h hst
    go_enter Tryz.func47,Tryz.ntmps47
    go_wp2_with fail
    refine Hg.out.mono ?_
    rintro e w1 ⟨rfl,rfl⟩
    go_wp2_with fail
    refine Hr.out.mono ?_
    rintro e w1 ⟨rfl,rfl⟩
    go_wp2
    go_ret
    exact⟨rfl,⟨es,rfl,H.out⟩,bb.refl _ _ _⟩
   ·have hne:=Hm hst
    have Hst:=Lib.hid hst
    have Ht:=Lib.hid (jz h s hsm)
    have e0:¬(true=false∨s.data.toList=t.data.toList):=by simp[hst]
    rw[if_neg e0]
    clear hst e0
    cases hg:aV s.data.toList es with
    |none=>
     rw[hg] at Ht
     dsimp only[Option.map_none]
     clear h hg
     go_enter Tryz.func47,Tryz.ntmps47
     go_wp2_with fail
     refine Hg.out.mono ?_
     rintro e w1 ⟨rfl,rfl⟩
     go_wp2_with fail
     refine Hr.out.mono ?_
     rintro e w1 ⟨rfl,rfl⟩
     go_wp2_with fail
     refine Ht.out.mono ?_
     rintro e w1 ⟨rfl,hb⟩
     go_wp2
     go_ret
     exact⟨rfl,⟨es,rfl,H.out.below hb⟩,bb.of_below hb⟩
    |some f=>
     obtain⟨⟨b,sf,ev⟩,A,c⟩:=f
     rw[hg] at Ht
     have HG:=Lib.hid hg
     clear h hg
     have hw:(aa.whole ⟨b,sf,ev⟩)=(ev&&decide (sf=b.length)):=rfl
     simp only[Option.map_some,hw]
     generalize hbw:(ev&&decide (sf=b.length))=bw
     have Hbw:=Lib.hid hbw
     clear hbw hw
     cases bw with
     |false=>
      rw[if_pos rfl]
      go_enter Tryz.func47,Tryz.ntmps47
      go_wp2_with fail
      refine Hg.out.mono ?_
      rintro e w1 ⟨rfl,rfl⟩
      go_wp2_with fail
      refine Hr.out.mono ?_
      rintro e w1 ⟨rfl,rfl⟩
      go_wp2_with fail
      refine Ht.out.mono ?_
      rintro e w1 ⟨rfl,hb⟩
      have h1:=H.out.below hb
      have H1:=Lib.hid h1
      have HB:=Lib.hid (bb.of_below (p:=p) (m:=mb) hb)
      have c1:=h1.c1
      have hl:=ej h1.map s hsm HG.out
      have Hw:=Lib.hid (kC A b.length c sf ev w1)
      rw[Hbw.out] at Hw
      clear h1 hb
      go_wp2_with fail
      refine Hw.out.mono ?_
      rintro e w2 ⟨rfl,hb⟩
      have H2:=Lib.hid (H1.out.below hb)
      have HB2:=Lib.hid (HB.out.below hb)
      clear hb c1 hl
      go_wp2
      go_ret
      exact⟨rfl,⟨es,rfl,H2.out⟩,HB2.out⟩
     |true=>
      rw[if_neg (by simp)]
      by_cases hz:fuse=0
      ·have hd:decide (fuse=0)=true:=by simp[hz]
       rw[if_pos hz]
       go_enter Tryz.func47,Tryz.ntmps47
       go_wp2_with fail
       refine Hg.out.mono ?_
       rintro e w1 ⟨rfl,rfl⟩
       go_wp2_with fail
       refine Hr.out.mono ?_
       rintro e w1 ⟨rfl,rfl⟩
       go_wp2_with fail
       refine Ht.out.mono ?_
       rintro e w1 ⟨rfl,hb⟩
       have h1:=H.out.below hb
       have H1:=Lib.hid h1
       have HB:=Lib.hid (bb.of_below (p:=p) (m:=mb) hb)
       have c1:=h1.c1
       have hl:=ej h1.map s hsm HG.out
       have Hw:=Lib.hid (kC A b.length c sf ev w1)
       rw[Hbw.out] at Hw
       clear h1 hb
       go_wp2_with fail
       refine Hw.out.mono ?_
       rintro e w2 ⟨rfl,hb⟩
       have H2:=Lib.hid (H1.out.below hb)
       have HB2:=Lib.hid (HB.out.below hb)
       clear hb c1 hl
       have Hu:=Lib.hid (hU H2.out hf0 hf1)
       go_wp2_with fail
       refine Hu.out.mono ?_
       rintro e w3 ⟨rfl,h3,hb3⟩
       have H3:=Lib.hid h3
       have HB3:=Lib.hid (HB2.out.trans hb3)
       clear h3 hb3
       rw[hd] at H3 ⊢
       go_wp2
       go_ret
       subst hz
       exact⟨rfl,⟨es,rfl,H3.out⟩,HB3.out⟩
      ·have hd:decide (fuse=0)=false:=by simp[hz]
       rw[if_neg hz]
       go_enter Tryz.func47,Tryz.ntmps47
       go_wp2_with fail
       refine Hg.out.mono ?_
       rintro e w1 ⟨rfl,rfl⟩
       go_wp2_with fail
       refine Hr.out.mono ?_
       rintro e w1 ⟨rfl,rfl⟩
       go_wp2_with fail
       refine Ht.out.mono ?_
       rintro e w1 ⟨rfl,hb⟩
       have h1:=H.out.below hb
       have H1:=Lib.hid h1
       have HB:=Lib.hid (bb.of_below (p:=p) (m:=mb) hb)
       have c1:=h1.c1
       have hl:=ej h1.map s hsm HG.out
       have Hw:=Lib.hid (kC A b.length c sf ev w1)
       rw[Hbw.out] at Hw
       clear h1 hb
       go_wp2_with fail
       refine Hw.out.mono ?_
       rintro e w2 ⟨rfl,hb⟩
       have H2:=Lib.hid (H1.out.below hb)
       have HB2:=Lib.hid (HB.out.below hb)
       clear hb c1 hl
       have Hu:=Lib.hid (hU H2.out hf0 hf1)
       go_wp2_with fail
       refine Hu.out.mono ?_
       rintro e w3 ⟨rfl,h3,hb3⟩
       have H3:=Lib.hid h3
       have HB3:=Lib.hid (HB2.out.trans hb3)
       clear h3 hb3
       have c1:=H3.out.c1
       have c1':w3.drew.cell? ⟨p,1,none⟩=some (.map (some mb)):=c1
       have hl:=ej (w:=w3.drew) (H3.out.map.drew) s hsm HG.out
       obtain⟨w4,hrun,hm,htn⟩:=gk (w:=w3.drew) H3.out.map.drew H3.out.up (by unfold maxLen;omega) t htm b sf ev A c
       have hb3:bb p mb w3 w3.drew:=(bb.refl _ _ _).drew
       have hk:=H3.out.bytes _ (gB HG.out)
       obtain⟨hst4,hbt4⟩:=H3.out.store hb3 H3.out.cells.drew t.data.toList ⟨⟨b,sf,ev⟩,A,c⟩ hm htn ⟨H3.out.reads_but (hb3.turned htn) hk.1,hk.2⟩
       obtain⟨w5,hrun5,hm5,ht5⟩:=qY hst4.map s hsm 0
       obtain⟨hd5,hb5⟩:=hst4.drop s.data.toList hm5 ht5
       have c5:=hst4.c1
       have HD:=Lib.hid hd5
       have HB5:=Lib.hid ((HB3.out.trans hbt4).trans hb5)
       rw[hd] at HD ⊢
       clear hm htn hb3 hk hst4 hbt4 hm5 ht5 hd5 hb5
       go_wp2
       go_region
       go_wp2
       go_ret
       exact⟨rfl,⟨gO s.data.toList (bN t.data.toList ⟨⟨b,sf,ev⟩,A,c⟩ es),by show _=ci FV.m (gO _ (bN _ ⟨⟨b,sf,ev⟩,A,c⟩ es));rw[o4,gc],by show bL _ _ _ _ _ _ (decide (fuse=0));rw[hd];exact HD.out⟩,HB5.out⟩
end Go.Proofs.YtclcfkaphlopeaaGreatDoor
namespace Go.Proofs
open Go.RowKit Go.Maps Go.Sort Go.Shelf
theorem Tryz.sorts82 (m:Nat):AnyZ.SortsIn Tryz.prog Tryz.sorted82_ren Fence.wide m:=
 ⟨fun blk off cap ss W hH hblk hsz=>callsIn_wide.2 (AnyM.slices_Sort_string Tryz.sort115 blk off cap ss W hH hblk hsz),
  fun p cap W=>callsIn_wide.2 (AnyM.slices_Sort_string_none Tryz.sort115 p cap W)⟩
theorem Tryz.maps_Keys_83 (mb:Option Nat) (W:World):CallsIn Fence.wide 5 Tryz.prog 83 #[.map mb] W fun e w'=>e= .returned (.func (.func 116) #[] #[.pointer (some ⟨W.heap.size,0,none⟩)])∧w'=W.alloc (.cells #[.map mb] 49):=
 AnyZ.keys_in Tryz.keys83 Fence.wide 5 trivial rfl mb W
theorem Tryz.slices_Sorted_keys_82_83 {H:Type} (b nn:Nat) (D0:DataW H) (R:Value→Option (DataW H×List MemPlace)) (w:World) (hown:w.ownsMap Tryz.prog 9 R b nn D0) (hmax:Maps.size D0≤maxLen) (hbytes:Maps.size D0*16≤140737488355328):
 CallsIn Fence.wide 5 Tryz.prog 82 #[.func (.func 116) #[] #[.pointer (some ⟨w.heap.size,0,none⟩)]] (w.alloc (.cells #[.map (some b)] 49)) fun e w'=>∃(v:Value) (ss:List (List UInt8)),e= .returned v∧ss.Perm (strKeys D0)∧
  w'.ownsRow (w.alloc (.cells #[.map (some b)] 49)).heap.size 9 1 v ss.length ((ss.mergeSort (fun x y=>decide (x≤y))).map encStr)∧(v= .slice none 0 0↔ss=[])∧Below (w.alloc (.cells #[.map (some b)] 49)).heap.size (w.alloc (.cells #[.map (some b)] 49)) w':=by
 have hbl:=hown.lt
 have hseq:SeqGives Fence.wide 2 Tryz.prog 116 #[.pointer (some ⟨w.heap.size,0,none⟩)] encStr (fun ss=>ss.Perm (strKeys D0)) (Maps.size D0) (w.alloc (.cells #[.map (some b)] 49)):=
  AnyZ.keys_gives (ρ:=Tryz.keys83_ren) {Tryz.keys83 with} Fence.wide _ trivial rfl (by omega) w.heap.size b nn D0 _ (by simp) (by simp) (by
   obtain⟨es,clock,hb,Ft,hs,hD⟩:=hown
   exact⟨es,clock,(Below.heap_alloc _ _ b hbl).trans hb,Ft,hs,hD⟩)
 exact AnyZ.sorted_in Tryz.sorted82 Fence.wide 5 trivial trivial trivial trivial rfl (by omega) (Tryz.sorts82 _) (enters_of Tryz.func115 (by kernel_rfl) rfl) 116 #[.pointer (some ⟨w.heap.size,0,none⟩)] trivial (enters_of Tryz.func116 (by kernel_rfl) rfl) _ _ hmax hbytes _ hseq
end Go.Proofs
namespace Go.Proofs.YtclcfkaphlopeaaGreatDoor
open Go.RowKit Go.Maps
def jl {V:Type} (l:List (ae×V)):List Value:=l.map fun q=>encStr q.1
theorem sM {V U:Type} (g:V→U) (l:List (ae×V)):jl (ci g l)=jl l:=by simp[jl,ci]
theorem E5 {w:World} {p mb:Nat} {d:aN} (h:fT w p mb d) (hN:d.files.length<1000000):
 Calls Tryz.prog 42 #[.pointer (some ⟨p,0,none⟩)] w fun e w'=>∃A c,e= .returned (.slice A d.files.length c)∧aE w' w'.heap.size 1 A d.files.length (jl d.files)∧Below w.heap.size w w':=by
 obtain⟨cap,files,fuse,lost⟩:=d
 obtain⟨es,hfi,h⟩:=h
 obtain rfl:files=ci FV.m es:=hfi
 have e1:(ci FV.m es).length=es.length:=by simp[ci]
 simp only[e1,sM] at hN ⊢
 have c1:=h.c1
 have HU:=Lib.hid h.up
 have HK:=Lib.hid (callsIn_wide.1 (Tryz.maps_Keys_83 (some mb) w))
 have HS:=Lib.hid (callsIn_wide.1 (Tryz.slices_Sorted_keys_82_83 mb es.length (dX cR es) cZ w h.map (by rw[o0];unfold maxLen;omega) (by rw[o0];omega)))
 clear h
 go_enter Tryz.func42,Tryz.ntmps42
 go_wp2_with fail
 refine HK.out.mono ?_
 rintro e w1 ⟨rfl,rfl⟩
 go_wp2_with fail
 refine HS.out.mono ?_
 rintro e w2 ⟨v,ss,rfl,hp,ho,_,hb⟩
 have hb2:Below w.heap.size w w2:=((Below.refl _ w).alloc (Nat.le_refl _) _).trans (hb.mono (by simp))
 rw[Bz] at hp
 have hlen:ss.length=es.length:=by have:=hp.length_eq;simpa using this
 have hs:=vC HU.out hp
 rw[show ss.mergeSort (fun x y=>decide (x≤y))=es.map (·.1) from hs,hlen,List.map_map] at ho
 obtain⟨A,c,rfl,hr,_⟩:=cQ ho
 have HR:=Lib.hid hr
 have HB:=Lib.hid hb2
 clear hb hb2 hp hs ho hr hlen
 go_wp2
 go_ret
 exact⟨A,c,rfl,HR.out,HB.out⟩
end Go.Proofs.YtclcfkaphlopeaaGreatDoor
namespace Go.Proofs.YtclcfkaphlopeaaGreatDoor
open Go.RowKit
structure pu (w:World):Prop where
 tab:Lib.TabIs Tryz.prog w "internal/strconv.uint64pow10" .u64 Lib.pow10Tab
 max:cX w
 big:True∧True∧0<w.heap.size
theorem pu.below {w w':World} (h:pu w) (hb:Below w.heap.size w w'):pu w':=by
 have hbig:=h.big
 exact⟨Lib.tabBelow_of_tabIs h.tab _ hb,h.max.below hbig.2.2 hb,trivial,trivial,Nat.lt_of_lt_of_le hbig.2.2 hb.size⟩
def F7 (w:World) (p mb:Nat):Prop:=∃W0,pu W0∧Below W0.heap.size W0 w∧W0.heap.size≤p∧W0.heap.size≤mb
theorem F7.env {w:World} {p mb:Nat} (h:F7 w p mb):pu w:=by
 obtain⟨W0,h0,hb,_⟩:=h
 exact h0.below hb
theorem F7.below {w w':World} {p mb:Nat} (h:F7 w p mb) (hb:Below w.heap.size w w'):F7 w' p mb:=by
 obtain⟨W0,h0,h1,h2⟩:=h
 exact⟨W0,h0,h1.trans (hb.mono h1.size),h2⟩
theorem F7.but {w w':World} {p mb:Nat} (h:F7 w p mb) (hb:bb p mb w w'):F7 w' p mb:=by
 obtain⟨W0,h0,h1,h2,h3⟩:=h
 exact⟨W0,h0,h1.trans (hb.toBelow h1.size h2 h3),h2,h3⟩
structure Dk (w:World) (p mb:Nat) (d:aN) (N:Nat):Prop where
 disk:fT w p mb d
 wf:i7 d
 few:d.files.length≤N
 ctx:F7 w p mb
section
variable {w w':World} {p mb N:Nat} {d:aN}
theorem fT.belowD (h:fT w p mb d) (hb:Below w.heap.size w w'):fT w' p mb d:=by
 obtain⟨es,hfi,h⟩:=h
 exact⟨es,hfi,h.below hb⟩
theorem Dk.below (h:Dk w p mb d N) (hb:Below w.heap.size w w'):Dk w' p mb d N:=⟨h.disk.belowD hb,h.wf,h.few,h.ctx.below hb⟩
theorem Dk.more {M:Nat} (h:Dk w p mb d N) (hm:N≤M):Dk w p mb d M:=⟨h.disk,h.wf,Nat.le_trans h.few hm,h.ctx⟩
theorem Dk.env (h:Dk w p mb d N):pu w:=h.ctx.env
theorem Dk.lt (h:Dk w p mb d N):p<w.heap.size∧mb<w.heap.size:=by
 obtain⟨es,_,hd⟩:=h.disk
 exact⟨hd.cells.lt,hd.map.lt⟩
theorem Dk.reads {A:Option Addr} {n:Nat} {l:List UInt8} (h:Dk w p mb d N) (hb:bb p mb w w') (hr:aE w w.heap.size 1 A n (ar l)):aE w' w'.heap.size 1 A n (ar l):=by
 obtain⟨es,_,hd⟩:=h.disk
 exact hd.reads_but hb hr
theorem fh (k:ae) (v:aa):∀l:List (ae×aa),(bN k v l).length≤l.length+1
 |[]=>Nat.le_refl _
 |(y,u)::r=>by
  rw[bN]
  split
  ·simp
  ·split
   ·simp
   ·have:=fh k v r
    simp only[List.length_cons]
    omega
theorem vS (d:aN) (k:ae) (b:List UInt8):(d7 d k b).2.files.length≤d.files.length+1:=by
 unfold d7
 repeat' split
 all_goals first|(show d.files.length≤_;omega)|exact fh _ _ _
theorem DM (d:aN) (k:ae):(fg d k).2.files.length≤d.files.length+1:=by
 unfold fg
 repeat' split
 all_goals first|(show d.files.length≤_;omega)|exact fh _ _ _
theorem xg (d:aN) (k j:ae):(cY d k j).2.files.length≤d.files.length+1:=by
 unfold cY
 repeat' split
 all_goals first|(show d.files.length≤_;omega)|exact Nat.le_trans (gF _ _) (fh _ _ _)
theorem xe (d:aN) (k:ae):(bo d k).2.files.length≤d.files.length:=by
 unfold bo
 repeat' split
 all_goals first|(show d.files.length≤_;omega)|exact gF _ _
theorem Dk.append (h:Dk w p mb d N) (hN:N<1000000) (k:ae) (hk:k.length≤1000000) (A:Option Addr) (n c:Nat) (l:List UInt8) (hl:l.length=n) (hn:n≤10000000) (hnc:n≤c) (hr:aE w w.heap.size 1 A n (ar l)):
 Calls Tryz.prog 68 #[.pointer (some ⟨p,0,none⟩), .string (St k), .slice A n c] w fun e w'=>e= .returned (.int .i64 (d7 d k l).1)∧Dk w' p mb (d7 d k l).2 (N+1)∧bb p mb w w':=
 (Bh h.disk h.wf (by have:=h.few;omega) (St k) (by show k.length≤_;omega) A n c l hl hn hnc hr).mono fun e w' ⟨h1,h2,h3⟩=>⟨h1,⟨h2,h.wf.append k l,by have:=vS d k l;have:=h.few;omega,h.ctx.but h3⟩,h3⟩
theorem Dk.sync (h:Dk w p mb d N) (hN:N<1000000) (k:ae) (hk:k.length≤1000000):
 Calls Tryz.prog 46 #[.pointer (some ⟨p,0,none⟩), .string (St k)] w fun e w'=>e= .returned (.int .i64 (fg d k).1)∧Dk w' p mb (fg d k).2 (N+1)∧bb p mb w w':=
 (GY h.disk h.wf (by have:=h.few;omega) (St k) (by show k.length≤_;unfold maxLen;omega)).mono fun e w' ⟨h1,h2,h3⟩=>⟨h1,⟨h2,h.wf.sync k,by have:=DM d k;have:=h.few;omega,h.ctx.but h3⟩,h3⟩
theorem Dk.rename (h:Dk w p mb d N) (hN:N<1000000) (k j:ae) (hk:k.length≤1000000) (hj:j.length≤1000000):
 Calls Tryz.prog 47 #[.pointer (some ⟨p,0,none⟩), .string (St k), .string (St j)] w fun e w'=>e= .returned (.int .i64 (cY d k j).1)∧Dk w' p mb (cY d k j).2 (N+1)∧bb p mb w w':=
 (Cw h.disk h.wf (by have:=h.few;omega) (St k) (St j) (by show k.length≤_;omega) (by show j.length≤_;omega)).mono fun e w' ⟨h1,h2,h3⟩=>⟨h1,⟨h2,h.wf.rename k j,by have:=xg d k j;have:=h.few;omega,h.ctx.but h3⟩,h3⟩
theorem Dk.remove (h:Dk w p mb d N) (k:ae) (hk:k.length≤1000000):
 Calls Tryz.prog 67 #[.pointer (some ⟨p,0,none⟩), .string (St k)] w fun e w'=>e= .returned (.int .i64 (bo d k).1)∧Dk w' p mb (bo d k).2 N∧bb p mb w w':=
 (Cv h.disk h.wf (St k) (by show k.length≤_;unfold maxLen;omega)).mono fun e w' ⟨h1,h2,h3⟩=>⟨h1,⟨h2,h.wf.remove k,by have:=xe d k;have:=h.few;omega,h.ctx.but h3⟩,h3⟩
theorem Dk.read (h:Dk w p mb d N) (k:ae) (hk:k.length≤1000000):
 Calls Tryz.prog 24 #[.pointer (some ⟨p,0,none⟩), .string (St k)] w fun e w'=>∃A c,e= .returned (.tuple #[.slice A (bv d k).1.length c, .int .i64 (bv d k).2])∧aE w' w'.heap.size 1 A (bv d k).1.length (ar (bv d k).1)∧(bv d k).1.length≤c∧Below w.heap.size w w':=
 Er h.disk h.wf (St k) (by show k.length≤_;unfold maxLen;omega)
theorem Dk.names (h:Dk w p mb d N) (hN:N<1000000):
 Calls Tryz.prog 42 #[.pointer (some ⟨p,0,none⟩)] w fun e w'=>∃A c,e= .returned (.slice A d.files.length c)∧aE w' w'.heap.size 1 A d.files.length (jl d.files)∧Below w.heap.size w w':=
 E5 h.disk (by have:=h.few;omega)
theorem jv (h:i7 d) (k:ae):(bv d k).1.length≤4194304:=by
 have h1:=h.room
 have h2:=h.cap
 unfold bv
 split
 ·exact Nat.zero_le _
 ·split
  ·exact Nat.zero_le _
  ·rename_i f hf
   have:=kB hf
   show f.b.length≤_
   omega
end
theorem kR (b:List UInt8):∀(f at_ torn:Nat) (l:List ig),b.length - at_≤f→(cC b at_ torn l).1.length*44≤l.length*44+(b.length - at_)
 |0,at_,torn,l,h=>by rw[dy (by omega)];exact Nat.le_add_right _ _
 |f+1,at_,torn,l,h=>by
  rcases Nat.lt_or_ge at_ b.length with h1|h1
  ·cases hh:ah (b.drop at_) with
   |false=>
    rw[ib hh h1]
    have:=kR b f (at_+1) torn l (by omega)
    omega
   |true=>
    rcases Nat.lt_or_ge b.length (cD (b.drop at_)+44+at_) with h2|h2
    ·rw[ic hh h2]
     exact Nat.le_add_right _ _
    ·rw[jD hh h2]
     have h3:=kR b f (at_+44+cD (b.drop at_)) (at_+44+cD (b.drop at_)) (l++ed b at_) (by omega)
     have h4:(ed b at_).length≤1:=by
      unfold ed
      cases cP (cA (b.drop at_))==((b.drop at_).drop 12).take 32<;>simp
     rw[List.length_append] at h3
     omega
  ·rw[dy h1];exact Nat.le_add_right _ _
theorem AK (b:List UInt8):(gP b).1.length*44≤b.length:=by
 have:=kR b b.length 0 0 [] (by omega)
 unfold gP
 simpa using this
theorem zo (l:List ig):(eL l).length≤l.length:=by
 induction l with
 |nil=>exact Nat.le_refl _
 |cons r l ih=>
  unfold eL at ih ⊢
  rw[List.flatMap_cons,List.length_append,List.length_cons]
  have:(bif bk (r.kind:Int) r.b then[em r.kind r.at_ r.b] else[]).length≤1:=by
   cases bk (r.kind:Int) r.b
   ·exact Nat.zero_le _
   ·exact Nat.le_refl _
  omega
theorem C1 {s:fo} {n y:aX} (h:y∈(dU s n).live):y∈s.live∨y=n:=by
 have h:y∈du s.live n:=h
 unfold du at h
 cases h2:n.k==2
 ·cases h3:n.k==3
  ·rw[h2,h3] at h;exact .inl h
  ·rw[h2,h3] at h;exact .inl (List.mem_filter.1 h).1
 ·rw[h2] at h
  rcases List.mem_append.1 h with h|h
  ·exact .inl h
  ·exact .inr (List.mem_singleton.1 h)
theorem rm (l:List aX):(bG l).live.length≤l.length∧(∀y∈(bG l).live,y∈l)∧((∀y∈l,y.ep<4294967296∧y.u<4294967296)→(bG l).ep<4294967296∧(bG l).nx<4294967296):=by
 suffices H:∀(r:List aX),(bG r.reverse).live.length≤r.length∧(∀y∈(bG r.reverse).live,y∈r)∧((∀y∈r,y.ep<4294967296∧y.u<4294967296)→(bG r.reverse).ep<4294967296∧(bG r.reverse).nx<4294967296) by
  have h:=H l.reverse
  rw[List.reverse_reverse,List.length_reverse] at h
  exact⟨h.1,fun y hy=>List.mem_reverse.1 (h.2.1 y hy),fun hb=>h.2.2 fun y hy=>hb y (List.mem_reverse.1 hy)⟩
 intro r
 induction r with
 |nil=>exact⟨Nat.le_refl _,fun y hy=>(by cases hy),fun _=>⟨by decide,by decide⟩⟩
 |cons n r ih=>
  obtain⟨h1,h2,h3⟩:=ih
  rw[List.reverse_cons,kU]
  refine⟨?_,fun y hy=> ?_,fun hb=> ?_⟩
  ·have:=wZ (bG r.reverse) n
   rw[List.length_cons]
   omega
  ·rcases C1 hy with h|h
   ·exact List.mem_cons_of_mem _ (h2 y h)
   ·rw[h];exact List.mem_cons_self
  ·obtain⟨h4,h5⟩:=h3 fun y hy=>hb y (List.mem_cons_of_mem _ hy)
   have h6:=hb n List.mem_cons_self
   have h7:aW n.u<4294967296:=by unfold aW;split<;>omega
   refine⟨?_, ?_⟩
   ·show pT _ _<_
    unfold pT
    split<;>omega
   ·show vN _ _<_
    unfold vN
    repeat' split
    all_goals omega
theorem Cf (b:List UInt8):∀y∈cM b,y.nm.size≤60:=by
 intro x hx
 unfold cM eL at hx
 obtain⟨r,_,hr⟩:=List.mem_flatMap.1 hx
 cases hd:bk (r.kind:Int) r.b with
 |false=>rw[hd] at hr;cases hr
 |true=>
  rw[hd,cond_true,List.mem_singleton] at hr
  subst hr
  unfold bk at hd
  simp only[Bool.and_eq_true] at hd
  exact(eJ hd.2.1).2.1
theorem AY (l:List aX) (h:∀y∈l,y.nm.size≤60):(bG l).nm.size≤60:=by
 suffices H:∀(r:List aX),(∀y∈r,y.nm.size≤60)→(bG r.reverse).nm.size≤60 by
  have h:=H l.reverse fun y hy=>h y (List.mem_reverse.1 hy)
  rwa [List.reverse_reverse] at h
 intro r
 induction r with
 |nil=>intro _;decide
 |cons n r ih=>
  intro h
  rw[List.reverse_cons,kU]
  show(bif n.k==3 then(bG r.reverse).nm else n.nm).size≤60
  cases n.k==3
  ·exact h n List.mem_cons_self
  ·exact ih fun y hy=>h y (List.mem_cons_of_mem _ hy)
structure iR (w:World) (v:Value) (l:dW):Prop where
 ex:∃A c L,v= .agg #[.string l.s.nm, .int .u32 (l.s.ep:Nat), .int .u32 (l.s.nx:Nat), .slice A L.length c, .int .i64 (l.torn:Nat), .bool (al l.s)]∧bu dA w A L∧L.map iw=l.s.live.map iS
 few:l.s.live.length≤100000
 ep:l.s.ep<4294967296
 nx:l.s.nx<4294967296
 each:∀y∈l.s.live,y.o.length≤20000∧y.ep<4294967296∧y.u<4294967296
 nm:l.s.nm.size≤60
theorem iR.below {w w':World} {v:Value} {l:dW} (h:iR w v l) (hb:Below w.heap.size w w'):iR w' v l:=by
 obtain⟨A,c,L,e,hr,hl⟩:=h.ex
 exact⟨⟨A,c,L,e,hr.below hb,hl⟩,h.few,h.ep,h.nx,h.each,h.nm⟩
theorem Ep {b:List UInt8} (hb:b.length≤4194304):(aT b).s.live.length≤100000∧(aT b).s.ep<4294967296∧(aT b).s.nx<4294967296∧∀y∈(aT b).s.live,y.o.length≤20000∧y.ep<4294967296∧y.u<4294967296:=by
 obtain⟨h1,h2,h3⟩:=rm (cM b)
 have h4:=zo (gP b).1
 have h5:=AK b
 have h6:=h3 fun y hy=>(kN b y hy).2
 refine⟨?_,h6.1,h6.2,fun y hy=>kN b y (h2 y hy)⟩
 show(bG (cM b)).live.length≤_
 have h7:(cM b).length≤(gP b).1.length:=h4
 omega
theorem om (A:Option Addr) (n c:Nat) (b:List UInt8) (hl:b.length=n) (hc:n≤c) (hn:n≤4194304) (w:World) (he:pu w) (hr:aE w w.heap.size 1 A n (ar b)):
 Calls Tryz.prog 26 #[.slice A n c] w fun ev w'=>∃V,ev= .returned V∧iR w' V (aT b)∧Below w.heap.size w w':=by
 obtain⟨h1,h2,h3,h4⟩:=Ep (b:=b) (by omega)
 refine(Eq A n c b hl hc (by omega) w he.max he.big.2.2 he.tab hr).mono ?_
 rintro ev w' ⟨v,L,rfl,ho,hlv,hb⟩
 obtain⟨A2,c2,rfl,hr2,_⟩:=ho.reads
 exact⟨_,rfl,⟨⟨A2,c2,L,rfl,hr2,hlv⟩,h1,h2,h3,h4,AY _ (Cf b)⟩,hb⟩
def py :Nat→List Nat→Bool
 |_,[]=>true
 |a,x::r=>decide (a<x)&&py x r
theorem kA (a x:Nat) (r:List Nat):py a (x::r)=(decide (a<x)&&py x r):=rfl
theorem qy (good:aM→Bool) (l:List aM):ek good l l.length=(py 0 (l.map (·.1))&&l.all good):=by
 suffices H:∀(s p:List aM),l=p++s→(ek good l p.length&&(py (dj l p.length) (s.map (·.1))&&s.all good))=ek good l l.length by
  have:=H l [] rfl
  rw[←this]
  simp[ek,dj]
 intro s
 induction s with
 |nil=>intro p h;rw[List.append_nil] at h;subst h;simp[py]
 |cons x r ih=>
  intro p h
  have hx:l[p.length]?=some x:=by rw[h];simp
  have h2:=ih (p++[x]) (by rw[h];simp)
  rw[←h2,List.length_append]
  show _=(ek good l (p.length+1)&&(py (dj l (p.length+1)) (r.map (·.1))&&r.all good))
  rw[lH good hx,mi hx,List.map_cons,kA,List.all_cons]
  unfold ju
  cases ek good l p.length<;>cases decide (dj l p.length<x.1)<;>cases py x.1 (r.map (·.1))<;>cases good x<;>cases r.all good<;>rfl
def tH (nx:Nat) (m:aU):Bool:=decide (m.uid<nx)&&BJ m&&decide (m.b.length≤20000)
theorem GD (nx:Nat) (l:List aU):ix nx l l.length=(py 0 (l.map (·.uid))&&l.all (tH nx)):=by
 suffices H:∀(s p:List aU),l=p++s→(ix nx l p.length&&(py (lG l p.length) (s.map (·.uid))&&s.all (tH nx)))=ix nx l l.length by
  have:=H l [] rfl
  rw[←this]
  simp[ix,lG]
 intro s
 induction s with
 |nil=>intro p h;rw[List.append_nil] at h;subst h;simp[py]
 |cons x r ih=>
  intro p h
  have hx:l[p.length]?=some x:=by rw[h];simp
  have h2:=ih (p++[x]) (by rw[h];simp)
  rw[←h2,List.length_append]
  show _=(ix nx l (p.length+1)&&(py (lG l (p.length+1)) (r.map (·.uid))&&r.all (tH nx)))
  rw[rD hx,qt hx,List.map_cons,kA,List.all_cons]
  unfold iX tH
  cases ix nx l p.length<;>cases decide (lG l p.length<x.uid)<;>cases py x.uid (r.map (·.uid))<;>cases decide (x.uid<nx)<;>cases BJ x<;>cases decide (x.b.length≤20000)<;>simp
theorem B1 (E:Nat):∀(a:Nat) (l:List aX),dx E a l=(py a (l.map (·.u))&&l.all fun n=>n.ep==E&& !(n.u==4294967295))
 |_,[]=>rfl
 |a,n::r=>by
  unfold dx
  rw[B1 E n.u r,List.map_cons,kA,List.all_cons]
  cases n.ep==E<;>cases decide (a<n.u)<;>cases n.u==4294967295<;>cases py n.u (r.map (·.u))<;>simp
theorem rZ (nx:Nat):∀(a:Nat) (l:List aU),dk nx a l=(py a (l.map (·.uid))&&l.all fun m=>decide (m.uid<nx)||nx==4294967295)
 |_,[]=>rfl
 |a,n::r=>by
  unfold dk
  rw[rZ nx n.uid r,List.map_cons,kA,List.all_cons]
  cases decide (a<n.uid)<;>cases decide (n.uid<nx)||nx==4294967295<;>cases py n.uid (r.map (·.uid))<;>simp
structure jb (b:eU):Prop where
 nm:ba b.nm=true
 ep:1≤b.ep∧b.ep<4294967296
 nx:1≤b.nx∧b.nx<4294967296
 len:b.msgs.length≤500
 rise:py 0 (b.msgs.map (·.1))=true
 each:∀m∈b.msgs,m.1<b.nx∧gD m.2.1 m.2.2.1=true∧m.2.2.2.length≤20000
theorem Aw (ms:List mH):(ms.map kr).map (·.uid)=ms.map (·.1):=by rw[List.map_map];rfl
theorem rV {b:eU} (he:b.ep<4294967296) (hx:b.nx<4294967296):mt b=true↔jb b:=by
 unfold mt fU
 rw[GD,Aw,List.all_map]
 simp only[Bool.and_eq_true,decide_eq_true_eq,List.length_map,List.all_eq_true]
 constructor
 ·rintro⟨⟨⟨⟨h1,h2⟩,h3⟩,h4⟩,h5,h6⟩
  refine⟨h1,⟨h2,he⟩,⟨h3,hx⟩,h4,h5,fun m hm=> ?_⟩
  have:=h6 m hm
  unfold Function.comp tH at this
  simp only[Bool.and_eq_true,decide_eq_true_eq] at this
  exact⟨this.1.1,this.1.2,this.2⟩
 ·intro h
  refine⟨⟨⟨⟨h.nm,h.ep.1⟩,h.nx.1⟩,h.len⟩,h.rise,fun m hm=> ?_⟩
  obtain⟨h1,h2,h3⟩:=h.each m hm
  unfold Function.comp tH
  simp only[Bool.and_eq_true,decide_eq_true_eq]
  exact⟨⟨h1,h2⟩,h3⟩
structure sV (y:aX):Prop where
 kind:m6 y
 ep:1≤y.ep∧y.ep<4294967296
 u:y.u<4294967296
 nm:¬y.k=3→ba y.nm=true
 msg:y.k=2→1≤y.u∧gD y.d y.f=true∧y.o.length≤20000
theorem wI {k:Int} {e:Nat} {nm:ByteArray} {m:aU} (h:af k e nm m=true) (he:e<4294967296) (hu:m.uid<4294967296) (hk:k=1∨k=2∨k=3) (p:Nat):sV ⟨k,e,nm,m.uid,m.date,m.flags,m.b,p⟩:=by
 have h1:1≤e:=by
  unfold af at h
  rw[Bool.and_eq_true,decide_eq_true_eq] at h
  exact h.1
 refine⟨hk,⟨h1,he⟩,hu,fun h3=> ?_,fun h2=> ?_⟩
 ·rcases hk with rfl|rfl|rfl
  ·have h:(decide (1≤e)&&((ba nm&&kX m.date m.flags m.b.length)&&m.uid==0))=true:=h
   simp only[Bool.and_eq_true] at h
   exact h.2.1.1
  ·have h:(decide (1≤e)&&(ba nm&&kZ m))=true:=h
   simp only[Bool.and_eq_true] at h
   exact h.2.1
  ·exact absurd rfl h3
 ·have h2:k=2:=h2
  subst h2
  have h:(decide (1≤e)&&(ba nm&&kZ m))=true:=h
  unfold kZ at h
  simp only[Bool.and_eq_true,decide_eq_true_eq] at h
  exact h.2.2
theorem xC (b:List UInt8):∀y∈cM b,sV y:=by
 intro x hx
 have hsm:=kN b x hx
 unfold cM eL at hx
 obtain⟨r,_,hr⟩:=List.mem_flatMap.1 hx
 cases hd:bk (r.kind:Int) r.b with
 |false=>rw[hd] at hr;cases hr
 |true=>
  rw[hd,cond_true,List.mem_singleton] at hr
  subst hr
  have hk:=(kG hd).1
  unfold bk at hd
  simp only[Bool.and_eq_true] at hd
  exact wI hd.2.1 hsm.2.1 hsm.2.2 hk _
structure sB (s:fo):Prop where
 nm:s.nm=⟨#[]⟩∨ba s.nm=true
 ep:s.ep<4294967296
 nx:1≤s.nx∧s.nx<4294967296
 live:∀y∈s.live,sV y∧y.k=2∧y.ep≤s.ep∧(y.ep=s.ep→aW y.u≤s.nx)
theorem sk {u:Nat} (h:u<4294967296):1≤aW u∧aW u<4294967296:=by unfold aW;split<;>omega
theorem sB.take {s:fo} {n:aX} (h:sB s) (hn:sV n):sB (dU s n):=by
 have hb:=sk hn.u
 have hep:=hn.ep
 have hse:=h.ep
 have hsx:=h.nx
 refine⟨?_, ?_, ?_,fun y hy=> ?_⟩
 ·show(bif n.k==3 then s.nm else n.nm)=_∨ba (bif n.k==3 then s.nm else n.nm)=true
  cases h3:n.k==3
  ·exact .inr (hn.nm fun e=>by rw[e] at h3;cases h3)
  ·exact h.nm
 ·show pT s n<_
  unfold pT
  split<;>omega
 ·show 1≤vN s n∧vN s n<_
  unfold vN
  repeat' split
  all_goals omega
 ·have hy:y∈du s.live n:=hy
  have hcase:y∈s.live∨(n.k=2∧y=n):=by
   unfold du at hy
   cases h2:n.k==2
   ·cases h3:n.k==3
    ·rw[h2,h3] at hy;exact .inl hy
    ·rw[h2,h3] at hy;exact .inl (List.mem_filter.1 hy).1
   ·rw[h2] at hy
    rcases List.mem_append.1 hy with hy|hy
    ·exact .inl hy
    ·exact .inr ⟨by simpa using h2,List.mem_singleton.1 hy⟩
  rcases hcase with hy|⟨h2,rfl⟩
  ·obtain⟨h1,h2,h3,h4⟩:=h.live y hy
   refine⟨h1,h2, ?_,fun he=> ?_⟩
   ·show y.ep≤pT s n
    unfold pT
    split<;>omega
   ·have he:y.ep=pT s n:=he
    show aW y.u≤vN s n
    unfold pT at he
    split at he
    ·omega
    ·rename_i hlt
     have:=h4 he
     unfold vN
     rw[if_neg hlt]
     split<;>omega
  ·refine⟨hn,h2, ?_,fun he=> ?_⟩
   ·show y.ep≤pT s y
    unfold pT
    split<;>omega
   ·have he:y.ep=pT s y:=he
    show aW y.u≤vN s y
    unfold vN
    rw[if_pos (by rw[←he,h2];simp)]
    split<;>omega
theorem IR :sB wb:=⟨.inl rfl,by decide,by decide,fun y hy=>(by cases hy)⟩
theorem yO (l:List aX) (h:∀y∈l,sV y):sB (bG l):=by
 suffices H:∀(l:List aX) (s:fo),sB s→(∀y∈l,sV y)→sB (l.foldl dU s) from H l wb IR h
 intro l
 induction l with
 |nil=>intro s hs _;exact hs
 |cons n r ih=>intro s hs h;exact ih _ (hs.take (h n List.mem_cons_self)) fun y hy=>h y (List.mem_cons_of_mem _ hy)
theorem mC (b:List UInt8):sB (aT b).s:=yO _ (xC b)
theorem Ca {nm:ByteArray} (h:ba nm=true):nm.toList.isEmpty=false:=by
 cases he:nm.toList.isEmpty with
 |false=>rfl
 |true=>
  have:nm=⟨#[]⟩:=by
   rw[ByteArray.toList_eq,List.isEmpty_iff] at he
   exact ByteArray.ext (Array.ext' he)
  rw[this] at h
  exact absurd h (by decide)
theorem qP {s:fo}:al s=true↔py 0 (s.live.map (·.u))=true∧∀y∈s.live,y.ep=s.ep∧¬y.u=4294967295:=by
 unfold al
 rw[B1]
 simp
theorem Bl {s:fo} (hi:sB s) (hc:al s=true) (hn:ba s.nm=true) (he:1≤s.ep) (hl:s.live.length≤500):jb (bQ s):=by
 obtain⟨h1,h2⟩:=qP.1 hc
 unfold bQ
 rw[hc,cond_true]
 refine⟨hn,⟨he,hi.ep⟩,hi.nx,by rw[List.length_map];exact hl,by rw[List.map_map];exact h1,fun m hm=> ?_⟩
 obtain⟨y,hy,rfl⟩:=List.mem_map.1 hm
 obtain⟨g1,g2,g3,g4⟩:=hi.live y hy
 obtain⟨g5,g6,g7⟩:=g1.msg g2
 have g8:=g4 (h2 y hy).1
 have g9:=(h2 y hy).2
 have g10:=g1.u
 refine⟨?_,g6,g7⟩
 show y.u<s.nx
 unfold aW at g8
 rw[if_neg g9] at g8
 omega
theorem qZ :(⟨#[]⟩:ByteArray).toList.isEmpty=true:=by rw[ByteArray.toList_eq];rfl
def nt :ae:=[108,111,115,116]
def cN (s:fo) (n:Nat):eU:={bQ s with nm:=if s.nm.toList.isEmpty=true then St (aR nt n) else s.nm,ep:=max (bQ s).ep 1}
theorem xk :∀(i:Nat) (l:List aX),i+l.length≤1000→py i ((fR i l).map (·.1))=true
 |_,[],_=>rfl
 |i,n::r,h=>by
  unfold fR
  rw[List.map_cons,kA]
  have h':i+(r.length+1)≤1000:=by simpa using h
  have e:(i+1)%4294967296=i+1:=Nat.mod_eq_of_lt (by omega)
  show(decide (i<(i+1)%4294967296)&&py ((i+1)%4294967296) _)=true
  rw[e,xk (i+1) r (by omega)]
  simp
theorem ti :∀{i:Nat} {l:List aX} {m:mH},i+l.length≤1000→m∈fR i l→m.1≤i+l.length∧∃y∈l,m.2=(y.d,y.f,y.o)
 |_,[],m,_,h=>by cases h
 |i,n::r,m,hl,h=>by
  unfold fR at h
  have h':i+(r.length+1)≤1000:=by simpa using hl
  rcases List.mem_cons.1 h with rfl|h
  ·have e:(i+1)%4294967296=i+1:=Nat.mod_eq_of_lt (by omega)
   refine⟨?_,n,List.mem_cons_self,rfl⟩
   show(i+1)%4294967296≤_
   rw[e,List.length_cons]
   omega
  ·obtain⟨h1,y,hy,h2⟩:=ti (by omega) h
   exact⟨by rw[List.length_cons];omega,y,List.mem_cons_of_mem _ hy,h2⟩
theorem ze :∀n:Fin 100,ba (St (aR nt n.1))=true:=by decide+kernel
theorem pj {s:fo} {n:Nat} (hi:sB s) (hn:n<100) (hl:s.live.length≤500):jb (cN s n):=by
 have hnm:ba (cN s n).nm=true:=by
  show ba (if s.nm.toList.isEmpty=true then St (aR nt n) else s.nm)=true
  split
  ·exact ze ⟨n,hn⟩
  ·rename_i he
   rcases hi.nm with h|h
   ·rw[h] at he;exact absurd qZ he
   ·exact h
 cases hc:al s with
 |true=>
  have hb:bQ s=⟨s.nm,s.ep,s.nx,s.live.map dF⟩:=by unfold bQ;rw[hc];rfl
  have h0:=hi.ep
  obtain⟨h1,h2⟩:=qP.1 hc
  refine⟨hnm, ?_, ?_, ?_, ?_, ?_⟩
  ·show 1≤max (bQ s).ep 1∧max (bQ s).ep 1<_
   rw[hb]
   show 1≤max s.ep 1∧max s.ep 1<_
   omega
  ·show 1≤(bQ s).nx∧(bQ s).nx<_
   rw[hb]
   exact hi.nx
  ·show(bQ s).msgs.length≤_
   rw[hb,List.length_map]
   exact hl
  ·show py 0 ((bQ s).msgs.map _)=_
   rw[hb,List.map_map]
   exact h1
  ·intro m hm
   have hm:m∈(bQ s).msgs:=hm
   show m.1<(bQ s).nx∧_
   rw[hb] at hm ⊢
   obtain⟨y,hy,rfl⟩:=List.mem_map.1 hm
   obtain⟨g1,g2,g3,g4⟩:=hi.live y hy
   obtain⟨g5,g6,g7⟩:=g1.msg g2
   have g8:=g4 (h2 y hy).1
   have g9:=(h2 y hy).2
   refine⟨?_,g6,g7⟩
   show y.u<s.nx
   unfold aW at g8
   rw[if_neg g9] at g8
   omega
 |false=>
  have hb:bQ s=⟨s.nm,aW s.ep,(s.live.length+1)%4294967296,fR 0 s.live⟩:=by unfold bQ;rw[hc];rfl
  have h0:=sk hi.ep
  have e:(s.live.length+1)%4294967296=s.live.length+1:=Nat.mod_eq_of_lt (by omega)
  refine⟨hnm, ?_, ?_, ?_, ?_, ?_⟩
  ·show 1≤max (bQ s).ep 1∧max (bQ s).ep 1<_
   rw[hb]
   show 1≤max (aW s.ep) 1∧max (aW s.ep) 1<_
   omega
  ·show 1≤(bQ s).nx∧(bQ s).nx<_
   rw[hb]
   show 1≤(s.live.length+1)%4294967296∧(s.live.length+1)%4294967296<_
   omega
  ·show(bQ s).msgs.length≤_
   rw[hb,ov]
   exact hl
  ·show py 0 ((bQ s).msgs.map _)=_
   rw[hb]
   exact xk 0 _ (by omega)
  ·intro m hm
   have hm:m∈(bQ s).msgs:=hm
   show m.1<(bQ s).nx∧_
   rw[hb] at hm ⊢
   obtain⟨h1,y,hy,h2⟩:=ti (by omega) hm
   obtain⟨g1,g2,_,_⟩:=hi.live y hy
   obtain⟨g5,g6,g7⟩:=g1.msg g2
   rw[h2]
   refine⟨?_,g6,g7⟩
   show m.1<(s.live.length+1)%4294967296
   omega
end Go.Proofs.YtclcfkaphlopeaaGreatDoor
namespace Go.Proofs.YtclcfkaphlopeaaGreatDoor
open Go Go.RowKit
theorem yl {P:Program} {Q:Exit→Act→World→Prop} {a:Act} {w:World} {n:Nat} {Γ:oR} {l rest:List Oper} {o:Oper} {t gi gt:Nat} {b:Bool} {f:FuncId} {args:Array Value} {R:Ending→World→Prop} (hA:At n Γ a) (hg:o.guard=some (gi,b)) (hgd:(l[gi]?).bind (·.dst)=some gt) (hl:eX Γ gt=some (.bool b)) (hd:o.dst=some t) (ht:t<n)
 (hrun:∀ev,gT Γ ev→(execOp ev o).run P w= .ok (.enter f args) w) (hc:Calls P f args w R)
 (hk:∀e w',R e w'→∃v,e= .returned v∧∀a',At n ((t,v)::Γ) a'→wpList P l.toArray Q rest a' w'):wpList P l.toArray Q (o::rest) a w:=by
 have hw:Region.wanted o (yielded l.toArray a.tmps)=true:=by
  rw[fO]
  exact fm (r:=true) hg hgd (hA.evin.get gt hl) (by cases b<;>rfl)
 refine wpList_step fun K hK=> ?_
 rw[hw,if_pos rfl]
 unfold Oper.wp
 rw[hrun _ hA.evin,Oper.upon_enter]
 refine Calls.mono hc fun e w' hR=> ?_
 obtain⟨v,rfl,h⟩:=hk e w' hR
 rw[hd]
 exact hK _ _ (h _ (hA.put ht v))
end Go.Proofs.YtclcfkaphlopeaaGreatDoor
namespace Go.Proofs.YtclcfkaphlopeaaGreatDoor
open Go.RowKit
def ml :Sh aM:=⟨100,79,2,16, .agg #[.int .u32 0, .int .i64 0],lJ,fun _=>[],fun _=>rfl,fun q u hu=>by
 unfold lJ at hu
 simp only[List.mem_cons,List.not_mem_nil,or_false] at hu
 rcases hu with rfl|rfl<;>rfl,Tryz.underlying79,by kernel_rfl,rfl,by decide,by decide⟩
def CA :Sh aM:=⟨135,86,2,16, .agg #[.int .u32 0, .int .i64 0],lJ,fun _=>[],fun _=>rfl,fun q u hu=>by
 unfold lJ at hu
 simp only[List.mem_cons,List.not_mem_nil,or_false] at hu
 rcases hu with rfl|rfl<;>rfl,Tryz.underlying86,by kernel_rfl,rfl,by decide,by decide⟩
def kH (u:Nat):List aM→Nat→Int
 |[],_=> -1
 |x::r,j=>bif x.1==u then(j:Int) else kH u r (j+1)
theorem CF {l:List aM} {j:Nat} {x:aM} (u:Nat) (hx:l[j]?=some x):kH u (l.drop j) j=bif x.1==u then(j:Int) else kH u (l.drop (j+1)) (j+1):=by
 have hj:=(List.getElem?_eq_some_iff.1 hx).1
 rw[List.drop_eq_getElem_cons hj,(List.getElem?_eq_some_iff.1 hx).2]
 rfl
theorem pU (u:Nat):∀(l:List aM) (j:Nat),(kH u l j= -1∧l.find? (fun m=>m.1==u)=none)∨∃k m,kH u l j=((j+k:Nat):Int)∧l[k]?=some m∧l.find? (fun m=>m.1==u)=some m
 |[],j=> .inl ⟨rfl,rfl⟩
 |x::r,j=>by
  unfold kH
  rw[List.find?_cons]
  cases h:x.1==u
  ·rw[cond_false]
   rcases pU u r (j+1) with⟨h1,h2⟩|⟨k,m,h1,h2,h3⟩
   ·exact .inl ⟨h1,h2⟩
   ·exact .inr ⟨k+1,m,by rw[h1];congr 1;omega,h2,h3⟩
  ·exact .inr ⟨0,x,rfl,rfl,rfl⟩
theorem gG (x y:Nat):(((x:Nat):Int)==((y:Nat):Int))=(x==y):=by
 rw[Bool.eq_iff_iff]
 simp only[beq_iff_eq]
 omega
theorem GL (q:aM) (u:Nat) (f:Int) (g:Nat) (w:World) (K:aI w g 100 #[.int .u32 (u:Nat), .int .i64 f]):
 Calls Tryz.prog 106 #[.agg #[.int .u32 (q.1:Nat), .int .i64 q.2], .pointer (some ⟨g,0,none⟩)] w fun ev w'=>ev= .returned (.bool (q.1==u))∧Below w.heap.size w w':=by
 refine aK 9 Tryz.func106 rfl rfl (Nat.le_of_ble_eq_true rfl) ?_
 intro a hA;replace hA:=hA.norm
 refine wS (wR ?_)
 refine aP hA rfl rfl (by decide) (fun ev h=>by simp[go_sem,h.get 0 rfl];try first|exact⟨rfl,rfl⟩|rfl) fun w1 a (K1:aI _ _ _ _) hz0 hb0 hA=> ?_
 replace K:=K.below hb0 K.lt
 revert a;refine wo rfl rfl (by decide) (fun ev e h=>by simp[go_sem,h,K1.cell,K.cell]<;>rfl) ?_;intro a hA
 replace hA:=hA.keepN [1,2]
 refine wN (nT (wS (wR ?_)))
 revert a;(iterate 6 refine wo rfl rfl (by decide) (fun ev e h=>by simp[go_sem,h,K1.cell,K.cell]<;>rfl) ?_);intro a hA
 replace hA:=hA.keepN [3]
 refine wN (nT (wp_ret ?_))
 refine ab hA 3 rfl rfl ?_
 exact⟨bH (gG _ _),hb0⟩
theorem EL (A:Option Addr) (c u g:Nat) (f:Int) (l:List aM) (w:World) (hn:l.length≤140737488355328) (hr:bu ml w A l) (K:aI w g 100 #[.int .u32 (u:Nat), .int .i64 f]):
 Calls Tryz.prog 105 #[.slice A l.length c, .func (.func 106) #[] #[.pointer (some ⟨g,0,none⟩)]] w fun ev w'=>ev= .returned (.int .i64 (kH u l 0))∧Below w.heap.size w w':=by
 obtain⟨n,hl⟩:∃n,l.length=n:=⟨_,rfl⟩
 rw[hl] at hn ⊢
 have HB:=Below.refl w.heap.size w
 refine aK 19 Tryz.func105 rfl rfl (Nat.le_of_ble_eq_true rfl) ?_
 intro a hA;replace hA:=hA.norm
 refine wS (wR ?_)
 revert a;refine wo rfl rfl (by decide) (fun ev e h=>by simp[go_sem,h]<;>rfl) ?_;intro a hA
 replace hA:=hA.keepN [0,1]
 refine wN (nT (wS (wS (wR ?_))))
 revert a;(iterate 3 refine wo rfl rfl (by decide) (fun ev e h=>by simp[go_sem,h]<;>rfl) ?_);intro a hA
 replace hA:=hA.keepN [0,1,7,8]
 refine wN (nT (wB ?_))
 refine aQ (fun k a wx=>∃(j:Nat),j+k=n∧At 19 [(0, .slice A n c),(1, .func (.func 106) #[] #[.pointer (some ⟨g,0,none⟩)]),(7, .int .i64 (n:Nat)),(8, .int .i64 (j:Nat))] a∧kH u l 0=kH u (l.drop j) j∧Below w.heap.size w wx) (n) ?_ ?_
 ·exact⟨0,by omega,hA,rfl,HB⟩
 clear HB
 rintro k a wx ⟨j,hjk,hA,hall,HB⟩
 refine wS (wR ?_)
 revert a;refine wo rfl rfl (by decide) (fun ev e h=>by simp[go_sem,h]<;>rfl) ?_;intro a hA
 replace hA:=hA.keepN [0,1,7,8,9]
 refine wN (nT (wS ?_))
 refine aH hA 9 _ rfl (fun hq=> ?yL) (fun hq=> ?nL)
 case yL=>
  have hlt:j<n:=by simp at hq;omega
  obtain⟨x,hx⟩:∃x,l[j]?=some x:=⟨_,List.getElem?_eq_getElem (by omega)⟩
  rw[CF u hx] at hall
  obtain⟨ad,rfl,hadl,k0,k1⟩:=(hr.below HB).cell hx
  have z0:wx.cell? (ad.add (j*2))=some (.int .u32 (x.1:Nat)):=k0 _ rfl
  have z1:wx.cell? ⟨(ad.add (j*2)).block,(ad.add (j*2)).off+1,none⟩=some (.int .i64 x.2):=k1 1 _ (by decide) rfl
  have jj0:(0:Int)≤(j:Int):=by omega
  have jj1:(j:Int)<(n:Int):=by omega
  have hwj:IntKind.i64.wrap ((j:Int)+1)=(j:Int)+1:=IntWalk.i64_in _ (by omega)
  refine wp_skip (nT (wS (wB (wS (wR ?_)))))
  revert a;(iterate 2 refine wo rfl rfl (by decide) (fun ev e h=>by simp[go_sem,h,z0,z1,jj0,jj1,hwj,hlt]<;>rfl) ?_);intro a hA
  replace hA:=hA.keepN [0,1,5,7,8]
  refine wN (nT (wS (wR ?_)))
  revert a;(iterate 5 refine wo rfl rfl (by decide) (fun ev e h=>by simp[go_sem,h,z0,z1,jj0,jj1,hwj,hlt]<;>rfl) ?_);intro a hA
  refine aC hA rfl rfl (by decide) (fun ev h=>by simp[go_sem,h.get 11 rfl,h.get 15 rfl,z0,z1,jj0,jj1,hwj,hlt];try first|exact⟨rfl,rfl⟩|rfl) (GL x u f g _ (K.below HB K.lt)) ?_
  rintro e w2 ⟨rfl,hb⟩
  refine⟨_,rfl,fun a hA=> ?_⟩
  replace HB:=HB.trans (hb.mono HB.size)
  replace hA:=hA.keepN [0,1,5,7,8,16]
  refine wN (nT ?_)
  refine aH hA 16 _ rfl (fun hq2=> ?yR) (fun hq2=> ?nR)
  case yR=>
   rw[hq2,cond_true] at hall
   refine wS (wR ?_)
   revert a;(iterate 2 refine wo rfl rfl (by decide) (fun ev e h=>by simp[go_sem,h,z0,z1,jj0,jj1,hwj,hlt]<;>rfl) ?_);intro a hA
   replace hA:=hA.keepN [4]
   refine wN (nT (wp_ret (rB (rT (rT (rB (rT ?_)))))))
   refine ab hA 4 rfl rfl ?_
   exact⟨by rw[hall],HB⟩
  case nR=>
   rw[hq2,cond_false] at hall
   refine wp_skip (nB (nT (wR ?_)))
   revert a;(iterate 2 refine wo rfl rfl (by decide) (fun ev e h=>by simp[go_sem,h,z0,z1,jj0,jj1,hwj,hlt]<;>rfl) ?_);intro a hA
   replace hA:=hA.keepN [0,1,7,8]
   refine wN (nT ?_)
   rw[show((j:Int)+1)=((j+1:Nat):Int) by omega] at hA
   exact⟨k - 1,by omega,j+1,by omega,hA,hall,HB⟩
 case nL=>
  have hjn:j=n:=by simp at hq;omega
  subst hjn
  rw[List.drop_of_length_le (by omega)] at hall
  replace hA:=hA.keepN []
  refine wp_exit (xT (xT (xB (nT (wS (wR ?_))))))
  revert a;refine wo rfl rfl (by decide) (fun ev e h=>by simp[go_sem,h]<;>rfl) ?_;intro a hA
  replace hA:=hA.keepN [4]
  refine wN (nT (wp_ret ?_))
  refine ab hA 4 rfl rfl ?_
  exact⟨by rw[hall];rfl,HB⟩
def gR (l m:List aM):Bool:=l.map (·.1)==m.map (·.1)
theorem tl {l m:List aM} (h:l.length≠m.length):gR l m=false:=by
 unfold gR
 rw[beq_eq_false_iff_ne]
 intro e
 have:=congrArg List.length e
 simp at this
 exact h this
theorem xr {l m:List aM} {j:Nat} {x y:aM} (hx:l[j]?=some x) (hy:m[j]?=some y):gR (l.drop j) (m.drop j)=(x.1==y.1&&gR (l.drop (j+1)) (m.drop (j+1))):=by
 have hj:=(List.getElem?_eq_some_iff.1 hx).1
 have hj2:=(List.getElem?_eq_some_iff.1 hy).1
 unfold gR
 rw[List.drop_eq_getElem_cons hj,(List.getElem?_eq_some_iff.1 hx).2,List.drop_eq_getElem_cons hj2,(List.getElem?_eq_some_iff.1 hy).2]
 rfl
theorem G2 (q p:aM) (w:World):
 Calls Tryz.prog 78 #[.agg #[.int .u32 (q.1:Nat), .int .i64 q.2], .agg #[.int .u32 (p.1:Nat), .int .i64 p.2]] w fun ev w'=>ev= .returned (.bool (q.1==p.1))∧Below w.heap.size w w':=by
 refine aK 10 Tryz.func78 rfl rfl (Nat.le_of_ble_eq_true rfl) ?_
 intro a hA;replace hA:=hA.norm
 refine wS (wR ?_)
 refine aP hA rfl rfl (by decide) (fun ev h=>by simp[go_sem,h.get 0 rfl];try first|exact⟨rfl,rfl⟩|rfl) fun w1 a (K1:aI _ _ _ _) hz0 hb0 hA=> ?_
 refine aP hA rfl rfl (by decide) (fun ev h=>by simp[go_sem,h.get 1 rfl];try first|exact⟨rfl,rfl⟩|rfl) fun w2 a (K2:aI _ _ _ _) hz2 hb2 hA=> ?_
 replace K1:=K1.below hb2 K1.lt
 revert a;refine wo rfl rfl (by decide) (fun ev e h=>by simp[go_sem,h,K1.cell,K2.cell]<;>rfl) ?_;intro a hA
 replace hA:=hA.keepN [2,3]
 refine wN (nT (wS (wR ?_)))
 revert a;(iterate 6 refine wo rfl rfl (by decide) (fun ev e h=>by simp[go_sem,h,K1.cell,K2.cell]<;>rfl) ?_);intro a hA
 replace hA:=hA.keepN [4]
 refine wN (nT (wp_ret ?_))
 refine ab hA 4 rfl rfl ?_
 exact⟨bH (gG _ _),hb0.trans (hb2.mono hb0.size)⟩
theorem Fh (A A2:Option Addr) (c c2:Nat) (l l2:List aM) (w:World) (hn:l.length≤140737488355328) (hr:bu CA w A l) (hr2:bu ml w A2 l2):
 Calls Tryz.prog 77 #[.slice A l.length c, .slice A2 l2.length c2, .func (.func 78) #[] #[]] w fun ev w'=>ev= .returned (.bool (gR l l2))∧Below w.heap.size w w':=by
 obtain⟨n,hl⟩:∃n,l.length=n:=⟨_,rfl⟩
 obtain⟨n2,hl2⟩:∃n,l2.length=n:=⟨_,rfl⟩
 rw[hl] at hn ⊢
 rw[hl2]
 have HB:=Below.refl w.heap.size w
 refine aK 32 Tryz.func77 rfl rfl (Nat.le_of_ble_eq_true rfl) ?_
 intro a hA;replace hA:=hA.norm
 refine wS (wR ?_)
 revert a;refine wo rfl rfl (by decide) (fun ev e h=>by simp[go_sem,h]<;>rfl) ?_;intro a hA
 replace hA:=hA.keepN [0,1,2]
 refine wN (nT (wS (wS (wR ?_))))
 revert a;(iterate 5 refine wo rfl rfl (by decide) (fun ev e h=>by simp[go_sem,h]<;>rfl) ?_);intro a hA
 replace hA:=hA.keepN [0,1,2,14]
 refine wN (nT ?_)
 refine aH hA 14 _ rfl (fun hq0=> ?yE) (fun hq0=> ?nE)
 case yE=>
  have hne:¬n=n2:=by simp at hq0;omega
  refine wS (wR ?_)
  revert a;refine wo rfl rfl (by decide) (fun ev e h=>by simp[go_sem,h]<;>rfl) ?_;intro a hA
  replace hA:=hA.keepN [6]
  refine wN (nT (wp_ret (rT ?_)))
  refine ab hA 6 rfl rfl ?_
  exact⟨bH (tl (by omega)).symm,HB⟩
 case nE=>
  obtain rfl:n=n2:=by simp at hq0;omega
  refine wp_skip (nT (wS (wS (wR ?_))))
  revert a;(iterate 3 refine wo rfl rfl (by decide) (fun ev e h=>by simp[go_sem,h]<;>rfl) ?_);intro a hA
  replace hA:=hA.keepN [1,2,15,16,17]
  refine wN (nT (wB ?_))
  refine aQ (fun k a wx=>∃(j:Nat),j+k=n∧At 32 [(1, .slice A2 n c2),(2, .func (.func 78) #[] #[]),(15, .slice A n c),(16, .int .i64 (n:Nat)),(17, .int .i64 (j:Nat))] a∧gR l l2=gR (l.drop j) (l2.drop j)∧Below w.heap.size w wx) (n) ?_ ?_
  ·exact⟨0,by omega,hA,rfl,HB⟩
  clear HB
  rintro k a wx ⟨j,hjk,hA,hall,HB⟩
  refine wS (wR ?_)
  revert a;refine wo rfl rfl (by decide) (fun ev e h=>by simp[go_sem,h]<;>rfl) ?_;intro a hA
  replace hA:=hA.keepN [1,2,15,16,17,18]
  refine wN (nT (wS ?_))
  refine aH hA 18 _ rfl (fun hq=> ?yL) (fun hq=> ?nL)
  case yL=>
   have hlt:j<n:=by simp at hq;omega
   obtain⟨x,hx⟩:∃x,l[j]?=some x:=⟨_,List.getElem?_eq_getElem (by omega)⟩
   obtain⟨y,hy⟩:∃y,l2[j]?=some y:=⟨_,List.getElem?_eq_getElem (by omega)⟩
   rw[xr hx hy] at hall
   obtain⟨ad,rfl,hadl,k0,k1⟩:=(hr.below HB).cell hx
   have z0:wx.cell? (ad.add (j*2))=some (.int .u32 (x.1:Nat)):=k0 _ rfl
   have z1:wx.cell? ⟨(ad.add (j*2)).block,(ad.add (j*2)).off+1,none⟩=some (.int .i64 x.2):=k1 1 _ (by decide) rfl
   have jj0:(0:Int)≤(j:Int):=by omega
   have jj1:(j:Int)<(n:Int):=by omega
   have hwj:IntKind.i64.wrap ((j:Int)+1)=(j:Int)+1:=IntWalk.i64_in _ (by omega)
   refine wp_skip (nT (wS (wB (wS (wR ?_)))))
   revert a;(iterate 3 refine wo rfl rfl (by decide) (fun ev e h=>by simp[go_sem,h,z0,z1,jj0,jj1,hwj,hlt]<;>rfl) ?_);intro a hA
   have hw0:=HB.size
   refine aP hA rfl rfl (by decide) (fun ev h=>by simp[go_sem,z0,z1,jj0,jj1,hwj,hlt];try first|exact⟨rfl,rfl⟩|rfl) fun w5 a (Kz:aI _ _ _ _) hz5 hb5 hA=> ?_
   replace HB:=HB.trans (hb5.mono HB.size)
   revert a;refine wo rfl rfl (by decide) (fun ev e h=>by simp[go_sem,h,z0,z1,jj0,jj1,hwj,hlt]<;>rfl) ?_;intro a hA
   refine bX [.int .u32 (x.1:Nat), .int .i64 x.2] hA rfl rfl Kz (by rfl) (fun ev h=>by simp[go_sem,h.get 8 rfl,h.get 21 rfl,z0,z1,jj0,jj1,hwj,hlt,setAll,Kz.cell,Kz.frozen]) fun w6 (Kz:aI _ _ _ _) hs6=> ?_
   have HB6:=hs6.below HB hw0
   obtain⟨ad2,rfl,hadl2,l0,l1⟩:=(hr2.below HB6).cell hy
   have y0:w6.cell? (ad2.add (j*2))=some (.int .u32 (y.1:Nat)):=l0 _ rfl
   have y1:w6.cell? ⟨(ad2.add (j*2)).block,(ad2.add (j*2)).off+1,none⟩=some (.int .i64 y.2):=l1 1 _ (by decide) rfl
   replace hA:=hA.keepN [1,2,7,8,15,16,17]
   refine wN (nT (wS (wR ?_)))
   revert a;(iterate 4 refine wo rfl rfl (by decide) (fun ev e h=>by simp[go_sem,h,y0,y1,jj0,jj1,hlt]<;>rfl) ?_);intro a hA
   refine ap [.int .u32 (y.1:Nat), .int .i64 y.2] hA rfl rfl (by decide) (fun ev h=>by simp[go_sem,y0,y1,jj0,jj1,hlt];try first|exact⟨rfl,rfl⟩|rfl) rfl rfl (by rfl) (fun w1 g ev hb h=>by simp[go_sem,h.get 9 rfl,h.get 25 rfl,y0,y1,jj0,jj1,hlt,setAll,hb.cell,hb.frozen]) fun w7 a (Ky:aI _ _ _ _) hz7 hb7 hA=> ?_
   replace HB6:=HB6.trans (hb7.mono HB6.size)
   replace Kz:=Kz.below hb7 Kz.lt
   replace hA:=hA.keepN [1,2,8,9,15,16,17]
   refine wN (nT (wS (wR ?_)))
   revert a;(iterate 3 refine wo rfl rfl (by decide) (fun ev e h=>by simp[go_sem,h,Kz.cell,Ky.cell,hwj]<;>rfl) ?_);intro a hA
   refine aC hA rfl rfl (by decide) (fun ev h=>by simp[go_sem,h.get 26 rfl,h.get 27 rfl,h.get 28 rfl,Kz.cell,Ky.cell,hwj];try first|exact⟨rfl,rfl⟩|rfl) (G2 x y _) ?_
   rintro e w8 ⟨rfl,hb8⟩
   refine⟨_,rfl,fun a hA=> ?_⟩
   replace HB6:=HB6.trans (hb8.mono HB6.size)
   revert a;refine wo rfl rfl (by decide) (fun ev e h=>by simp[go_sem,h,Kz.cell,Ky.cell,hwj]<;>rfl) ?_;intro a hA
   replace hA:=hA.keepN [1,2,15,16,17,30]
   refine wN (nT ?_)
   refine aH hA 30 _ rfl (fun hq2=> ?yR) (fun hq2=> ?nR)
   case yR=>
    have hq2:(x.1==y.1)=false:=by simpa using hq2
    rw[hq2,Bool.false_and] at hall
    refine wS (wR ?_)
    revert a;refine wo rfl rfl (by decide) (fun ev e h=>by simp[go_sem,h,Kz.cell,Ky.cell,hwj]<;>rfl) ?_;intro a hA
    replace hA:=hA.keepN [6]
    refine wN (nT (wp_ret (rB (rT (rT (rB (rT ?_)))))))
    refine ab hA 6 rfl rfl ?_
    exact⟨by rw[hall],HB6⟩
   case nR=>
    have hq2:(x.1==y.1)=true:=by simpa using hq2
    rw[hq2,Bool.true_and] at hall
    refine wp_skip (nB (nT (wR ?_)))
    revert a;(iterate 2 refine wo rfl rfl (by decide) (fun ev e h=>by simp[go_sem,h,hwj]<;>rfl) ?_);intro a hA
    replace hA:=hA.keepN [1,2,15,16,17]
    refine wN (nT ?_)
    rw[show((j:Int)+1)=((j+1:Nat):Int) by omega] at hA
    exact⟨k - 1,by omega,j+1,by omega,hA,hall,HB6⟩
  case nL=>
   have hjn:j=n:=by simp at hq;omega
   subst hjn
   rw[List.drop_of_length_le (by omega),List.drop_of_length_le (by omega)] at hall
   replace hA:=hA.keepN []
   refine wp_exit (xT (xT (xB (nT (wS (wR ?_))))))
   revert a;refine wo rfl rfl (by decide) (fun ev e h=>by simp[go_sem,h]<;>rfl) ?_;intro a hA
   replace hA:=hA.keepN [6]
   refine wN (nT (wp_ret ?_))
   refine ab hA 6 rfl rfl ?_
   exact⟨by rw[hall];rfl,HB⟩
theorem FQ (nm:ByteArray) (e nx:Nat) (z:Int) (A A2:Option Addr) (c c2 e2:Nat) (l l2:List aM) (w:World) (hn:l.length≤140737488355328) (hr:bu CA w A l) (hr2:bu ml w A2 l2):
 Calls Tryz.prog 37 #[.agg #[.string nm, .int .u32 (e:Nat), .int .u32 (nx:Nat), .int .i64 z, .slice A l.length c], .agg #[.int .u32 (e2:Nat), .slice A2 l2.length c2]] w fun ev w'=>ev= .returned (.bool (e==e2&&gR l l2))∧Below w.heap.size w w':=by
 have HB:=Below.refl w.heap.size w
 refine aK 17 Tryz.func37 rfl rfl (Nat.le_of_ble_eq_true rfl) ?_
 intro a hA;replace hA:=hA.norm
 refine wS (wR ?_)
 refine aP hA rfl rfl (by decide) (fun ev h=>by simp[go_sem,h.get 0 rfl];try first|exact⟨rfl,rfl⟩|rfl) fun w1 a (K1:aI _ _ _ _) hz1 hb1 hA=> ?_
 refine aP hA rfl rfl (by decide) (fun ev h=>by simp[go_sem,h.get 1 rfl];try first|exact⟨rfl,rfl⟩|rfl) fun w2 a (K2:aI _ _ _ _) hz2 hb2 hA=> ?_
 replace K1:=K1.below hb2 K1.lt
 have HB2:=hb1.trans (hb2.mono hb1.size)
 revert a;refine wo rfl rfl (by decide) (fun ev e h=>by simp[go_sem,h,K1.cell,K2.cell]<;>rfl) ?_;intro a hA
 replace hA:=hA.keepN [2,3]
 refine wN (nT (wS (wR ?_)))
 revert a;(iterate 6 refine wo rfl rfl (by decide) (fun ev e h=>by simp[go_sem,h,K1.cell,K2.cell]<;>rfl) ?_);(iterate 4 refine wg _ rfl rfl rfl rfl (by decide) (fun hq ev e h=>by simp[go_sem,h,↓aL (aF hq),K1.cell,K2.cell]<;>rfl) ?_);intro a hA
 replace hA:=hA.keepN [10,12,14]
 refine dK _ hA rfl rfl rfl rfl (by decide) (fun hq ev h=>aB Tryz.func77 (by kernel_rfl) rfl (h.f _) (by first|(simp only[mL,((h.get 12 rfl).trans (aL (aF hq))),((h.get 14 rfl).trans (aL (aF hq))),h.c,h.f]<;>rfl)|(simp[mL,((h.get 12 rfl).trans (aL (aF hq))),((h.get 14 rfl).trans (aL (aF hq))),h.c,h.f,K1.cell,K2.cell]<;>rfl))) (fun hq=>Fh A A2 c c2 l l2 _ hn (hr.below (hb1.trans (hb2.mono hb1.size))) (hr2.below (hb1.trans (hb2.mono hb1.size)))) fun a w3 hb3 hA=> ?_
 replace HB2:=HB2.trans (hb3.mono HB2.size)
 revert a;refine j9 rfl rfl (by decide) rfl rfl rfl ?_;refine wo rfl rfl (by decide) (fun ev e h=>by simp[go_sem,h,K1.cell,K2.cell]<;>rfl) ?_;intro a hA
 replace hA:=hA.keepN [4]
 refine wN (nT (wp_ret ?_))
 refine ab hA 4 rfl rfl ?_
 exact⟨bH (by rw[gG]),HB2⟩
theorem il {n:Nat} (hn:n<100):(Lib.decDigits n).length≤2:=by
 have:∀k:Fin 100,(Lib.decDigits k.1).length≤2:=by decide+kernel
 exact this ⟨n,hn⟩
theorem CE (kind:ae) {n:Nat} (hn:n<100):(aR kind n).length≤kind.length+3:=by
 have:=il hn
 unfold aR
 simp only[List.length_append,List.length_cons,List.length_nil]
 omega
theorem tO (n:Nat) (hn:n<100) (w:World):Calls Tryz.prog 44 #[.int .i64 (n:Nat)] w fun ev w'=>ev= .returned (.string (St (Lib.decDigits n)))∧Below w.heap.size w w':=by
 refine(Tryz.strconv_Itoa_small n hn w).mono ?_
 rintro e w' ⟨rfl,rfl⟩
 exact⟨rfl,Below.refl _ _⟩
theorem kx (kind:ae) (hk:kind.length≤1000) (n:Nat) (hn:n<100) (w:World):Calls Tryz.prog 32 #[.string (St kind), .int .i64 (n:Nat)] w fun ev w'=>ev= .returned (.string (St (aR kind n)))∧Below w.heap.size w w':=by
 have hdl:=il hn
 obtain⟨dg,hdg⟩:∃x,Lib.decDigits n=x:=⟨_,rfl⟩
 have ka:=eA kind [46]
 have kb:=eA (kind++[46]) dg
 have kz:¬9223372036854775807<kind.length+1:=by omega
 rw[hdg] at hdl
 have kz2:¬9223372036854775807<kind.length+1+dg.length:=by omega
 refine aK 10 Tryz.func32 rfl rfl (Nat.le_of_ble_eq_true rfl) ?_
 intro a hA;replace hA:=hA.norm
 refine wS (wR ?_)
 revert a;refine wo rfl rfl (by decide) (fun ev e h=>by simp[go_sem,h,ka,kz]<;>rfl) ?_;intro a hA
 replace hA:=hA.keepN [0,1]
 refine wN (nT (wS (wR ?_)))
 revert a;(iterate 3 refine wo rfl rfl (by decide) (fun ev e h=>by simp[go_sem,h,ka,kz]<;>rfl) ?_);intro a hA
 refine aC hA rfl rfl (by decide) (fun ev h=>aB Tryz.func44 (by kernel_rfl) rfl (h.f _) (by first|(simp only[mL,h.get 7 rfl,h.c]<;>rfl)|(simp[mL,h.get 7 rfl,h.c,ka,kz]<;>rfl))) (tO n hn w) ?_
 rintro e w1 ⟨rfl,hb1⟩
 refine⟨_,rfl,fun a hA=> ?_⟩
 rw[hdg] at hA
 revert a;(iterate 2 refine wo rfl rfl (by decide) (fun ev e h=>by simp[go_sem,h,kb,kz2]<;>rfl) ?_);intro a hA
 replace hA:=hA.keepN [4]
 refine wN (nT (wp_ret ?_))
 refine ab hA 4 rfl rfl ?_
 exact⟨by unfold aR;rw[hdg];simp,hb1⟩
theorem za {w:World} {p mb N:Nat} {d:aN} (h:Dk w p mb d N) (hN:N<900000) (k:ae) (hk:k.length≤1000000) (A:Option Addr) (n c:Nat) (b:List UInt8) (hl:b.length=n) (hn:n≤10000000) (hnc:n≤c) (hr:aE w w.heap.size 1 A n (ar b)):
 Calls Tryz.prog 30 #[.pointer (some ⟨p,0,none⟩), .string (St k), .slice A n c] w fun ev w'=>ev= .returned (.int .i64 (jV d k b).1)∧Dk w' p mb (jV d k b).2 (N+3)∧bb p mb w w':=by
 refine aK 35 Tryz.func30 rfl rfl (Nat.le_of_ble_eq_true rfl) ?_
 intro a hA;replace hA:=hA.norm
 refine wS (wR ?_)
 revert a;refine wo rfl rfl (by decide) (fun ev e h=>by simp[go_sem,h]<;>rfl) ?_;intro a hA
 replace hA:=hA.keepN [0,1,2]
 refine wN (nT (wS (wS (wR ?_))))
 revert a;(iterate 2 refine wo rfl rfl (by decide) (fun ev e h=>by simp[go_sem,h]<;>rfl) ?_);intro a hA
 replace hA:=hA.keepN [0,1,2,11]
 refine wN (nT ?_)
 refine aH hA 11 _ rfl (fun hq=> ?yA) (fun hq=> ?nA)
 case yA=>cases hq
 case nA=>
  refine wp_skip (nT (wS (wS (wR ?_))))
  revert a;refine wo rfl rfl (by decide) (fun ev e h=>by simp[go_sem,h]<;>rfl) ?_;intro a hA
  refine aC hA rfl rfl (by decide) (fun ev h=>aB Tryz.func67 (by kernel_rfl) rfl (h.f _) (by first|(simp only[mL,h.get 12 rfl,h.c]<;>rfl)|(simp[mL,h.get 12 rfl,h.c]<;>rfl))) (h.remove cz (by decide)) ?_
  rintro e w1 ⟨rfl,h1,hb1⟩
  refine⟨_,rfl,fun a hA=> ?_⟩
  have hr1:=h.reads hb1 hr
  obtain⟨e1,he1⟩:∃x,(bo d cz).1=x:=⟨_,rfl⟩
  obtain⟨d1,hd1⟩:∃x,(bo d cz).2=x:=⟨_,rfl⟩
  rw[he1] at hA
  rw[hd1] at h1
  revert a;refine wo rfl rfl (by decide) (fun ev e h=>by simp[go_sem,h]<;>rfl) ?_;intro a hA
  replace hA:=hA.keepN [0,1,2,7]
  refine wN (nT (wS (wR ?_)))
  revert a;(iterate 3 refine wo rfl rfl (by decide) (fun ev e h=>by simp[go_sem,h]<;>rfl) ?_);(iterate 2 refine wg _ rfl rfl rfl rfl (by decide) (fun hq ev e h=>by simp[go_sem,h,↓aL (aF hq)]<;>rfl) ?_);refine j9 rfl rfl (by decide) rfl rfl rfl ?_;intro a hA
  replace hA:=hA.keepN [0,1,2,7,19]
  refine wN (nT ?_)
  refine aH hA 19 _ rfl (fun hq1=> ?yB) (fun hq1=> ?nB)
  case yB=>
   have hh:¬e1=0∧¬e1=7:=by simpa using hq1
   refine wS (wR ?_)
   revert a;(iterate 2 refine wo rfl rfl (by decide) (fun ev e h=>by simp[go_sem,h]<;>rfl) ?_);intro a hA
   replace hA:=hA.keepN [6]
   refine wN (nT (wp_ret (rT ?_)))
   refine ab hA 6 rfl rfl ?_
   rw[EQ (by rw[he1];exact hh.1) (by rw[he1];exact hh.2),he1,hd1]
   exact⟨rfl,h1.more (by omega),hb1⟩
  case nB=>
   have hh:e1=0∨e1=7:=by
    by_cases h0:e1=0
    ·exact .inl h0
    ·exact .inr (by simpa[h0] using hq1)
   rw[H0 (by rw[he1];exact hh),hd1]
   refine wp_skip (nT (wS (wS (wR ?_))))
   revert a;(iterate 2 refine wo rfl rfl (by decide) (fun ev e h=>by simp[go_sem,h]<;>rfl) ?_);intro a hA
   refine aC hA rfl rfl (by decide) (fun ev h=>aB Tryz.func68 (by kernel_rfl) rfl (h.f _) (by first|(simp only[mL,h.get 21 rfl,h.get 22 rfl,h.c]<;>rfl)|(simp[mL,h.get 21 rfl,h.get 22 rfl,h.c]<;>rfl))) (h1.append (by omega) cz (by decide) A n c b hl hn hnc hr1) ?_
   rintro e w2 ⟨rfl,h2,hb2⟩
   refine⟨_,rfl,fun a hA=> ?_⟩
   obtain⟨r2,hr2⟩:∃x,d7 d1 cz b=x:=⟨_,rfl⟩
   obtain⟨e2,d2⟩:=r2
   rw[hr2] at hA h2 ⊢
   simp only at h2
   revert a;refine wo rfl rfl (by decide) (fun ev e h=>by simp[go_sem,h]<;>rfl) ?_;intro a hA
   replace hA:=hA.keepN [0,1,8]
   refine wN (nT (wS (wR ?_)))
   revert a;(iterate 2 refine wo rfl rfl (by decide) (fun ev e h=>by simp[go_sem,h]<;>rfl) ?_);intro a hA
   replace hA:=hA.keepN [0,1,8,25]
   refine wN (nT ?_)
   refine aH hA 25 _ rfl (fun hq2=> ?yC) (fun hq2=> ?nC)
   case yC=>
    have hh2:¬e2=0:=by simpa using hq2
    refine wS (wR ?_)
    revert a;(iterate 2 refine wo rfl rfl (by decide) (fun ev e h=>by simp[go_sem,h]<;>rfl) ?_);intro a hA
    replace hA:=hA.keepN [6]
    refine wN (nT (wp_ret (rT ?_)))
    refine ab hA 6 rfl rfl ?_
    rw[gn hh2]
    exact⟨rfl,h2.more (by omega),hb1.trans hb2⟩
   case nC=>
    have hh2:e2=0:=by simpa using hq2
    rw[eg hh2]
    refine wp_skip (nT (wS (wS (wR ?_))))
    revert a;refine wo rfl rfl (by decide) (fun ev e h=>by simp[go_sem,h]<;>rfl) ?_;intro a hA
    refine aC hA rfl rfl (by decide) (fun ev h=>aB Tryz.func46 (by kernel_rfl) rfl (h.f _) (by first|(simp only[mL,h.get 27 rfl,h.c]<;>rfl)|(simp[mL,h.get 27 rfl,h.c]<;>rfl))) (h2.sync (by omega) cz (by decide)) ?_
    rintro e w3 ⟨rfl,h3,hb3⟩
    refine⟨_,rfl,fun a hA=> ?_⟩
    obtain⟨r3,hr3⟩:∃x,fg d2 cz=x:=⟨_,rfl⟩
    obtain⟨e3,d3⟩:=r3
    rw[hr3] at hA h3 ⊢
    simp only at h3
    revert a;refine wo rfl rfl (by decide) (fun ev e h=>by simp[go_sem,h]<;>rfl) ?_;intro a hA
    replace hA:=hA.keepN [0,1,9]
    refine wN (nT (wS (wR ?_)))
    revert a;(iterate 2 refine wo rfl rfl (by decide) (fun ev e h=>by simp[go_sem,h]<;>rfl) ?_);intro a hA
    replace hA:=hA.keepN [0,1,9,30]
    refine wN (nT ?_)
    refine aH hA 30 _ rfl (fun hq3=> ?yD) (fun hq3=> ?nD)
    case yD=>
     have hh3:¬e3=0:=by simpa using hq3
     refine wS (wR ?_)
     revert a;(iterate 2 refine wo rfl rfl (by decide) (fun ev e h=>by simp[go_sem,h]<;>rfl) ?_);intro a hA
     replace hA:=hA.keepN [6]
     refine wN (nT (wp_ret (rT ?_)))
     refine ab hA 6 rfl rfl ?_
     rw[gn hh3]
     exact⟨rfl,h3.more (by omega),(hb1.trans hb2).trans hb3⟩
    case nD=>
     have hh3:e3=0:=by simpa using hq3
     rw[eg hh3]
     refine wp_skip (nT (wS (wR ?_)))
     revert a;(iterate 2 refine wo rfl rfl (by decide) (fun ev e h=>by simp[go_sem,h]<;>rfl) ?_);intro a hA
     refine aC hA rfl rfl (by decide) (fun ev h=>aB Tryz.func47 (by kernel_rfl) rfl (h.f _) (by first|(simp only[mL,h.get 32 rfl,h.get 33 rfl,h.c]<;>rfl)|(simp[mL,h.get 32 rfl,h.get 33 rfl,h.c]<;>rfl))) (h3.rename (by omega) cz k (by decide) hk) ?_
     rintro e w4 ⟨rfl,h4,hb4⟩
     refine⟨_,rfl,fun a hA=> ?_⟩
     revert a;refine wo rfl rfl (by decide) (fun ev e h=>by simp[go_sem,h]<;>rfl) ?_;intro a hA
     replace hA:=hA.keepN [6]
     refine wN (nT (wp_ret ?_))
     refine ab hA 6 rfl rfl ?_
     exact⟨rfl,h4,((hb1.trans hb2).trans hb3).trans hb4⟩
theorem xM {M K:Type} {s:Sh M} {t:Sh K} {B:Nat} {w:World} {v:Value} {l:List M} {m:List K} (h:ac s B w v l) (hT:s.T=t.T) (hk:s.k=t.k) (hl:l.length=m.length) (hf:l.flatMap s.f=m.flatMap t.f) (hp:∀x∈m,t.parts x=[]):ac t B w v m:=by
 refine⟨?_,fun x hx p hp'=>(by rw[hp x hx] at hp';cases hp'),fun _ _ x hx p hp'=>(by rw[hp x hx] at hp';cases hp')⟩
 have:=h.row
 rw[hT,hk,hl,hf] at this
 exact this
theorem ES {L:List eR} {N:List aX} (h:L.map iw=N.map iS):L.map (fun x=>((x.m.uid,((x.at_:Nat):Int)):aM))=N.map sK∧L.map k9=N.map uc:=by
 have h1:=congrArg (List.map fun q:Nat×Nat×Int×Int×List UInt8×Nat=>((q.2.1,((q.2.2.2.2.2:Nat):Int)):aM)) h
 have h2:=congrArg (List.map fun q:Nat×Nat×Int×Int×List UInt8×Nat=>((q.2.1,q.2.2.2.1):aM)) h
 rw[List.map_map,List.map_map] at h1 h2
 exact⟨h1,h2⟩
theorem uh {V:Value} {l:dW} {w:World} (h:iR w V l):Calls Tryz.prog 33 #[V] w fun ev w'=>∃v u,ev= .returned (.tuple #[.agg #[.string (dQ l).nm, .int .u32 ((dQ l).e:Nat), .int .u32 ((dQ l).nx:Nat), .int .i64 (dQ l).u,v], .agg #[.int .u32 ((gZ l).1:Nat),u]])∧ac CA w.heap.size w' v (dQ l).l∧ac ml w.heap.size w' u (gZ l).2∧Below w.heap.size w w':=by
 obtain⟨A,c,L,rfl,hr,hlv⟩:=h.ex
 have hLl:L.length=l.s.live.length:=by have:=congrArg List.length hlv;rw[List.length_map,List.length_map] at this;exact this
 have hfew:=h.few
 refine(CU l.s.nm l.s.ep l.s.nx (l.torn:Nat) (al l.s) A c L.length L w (by omega) rfl hr).mono ?_
 rintro ev w' ⟨h1,h2,hb⟩
 obtain⟨e1,e2⟩:=ES hlv
 unfold dQ gZ
 cases hno:iy (al l.s) l.s.nm with
 |true=>
  rw[cond_true,cond_true]
  exact⟨_,_,h1 hno,ac.nil _ _,ac.nil _ _,hb⟩
 |false=>
  rw[cond_false,cond_false]
  obtain⟨v,u,he,ho1,ho2⟩:=h2 hno
  refine⟨v,u,he,xM ho1 rfl rfl ?_ ?_ fun _ _=>rfl,xM ho2 rfl rfl ?_ ?_ fun _ _=>rfl,hb⟩
  ·rw[List.length_map,List.length_map,hLl]
  ·show _=(l.s.live.map sK).flatMap lJ
   rw[←e1,List.flatMap_map,List.flatMap_map]
   rfl
  ·rw[List.length_map,List.length_map,hLl]
  ·show _=(l.s.live.map uc).flatMap lJ
   rw[←e2]
   rfl
theorem uX {l:dW} (hf:l.s.live.length≤100000) (he:l.s.ep<4294967296) (hx:l.s.nx<4294967296) (hy:∀y∈l.s.live,y.u<4294967296):(dQ l).e<4294967296∧(dQ l).nx<4294967296∧(dQ l).l.length≤100000∧(∀q∈(dQ l).l,q.1<4294967296)∧(gZ l).1<4294967296∧(gZ l).2.length≤100000∧∀q∈(gZ l).2,q.1<4294967296:=by
 unfold dQ gZ
 cases iy (al l.s) l.s.nm with
 |true=>exact⟨(by show 0<_;omega),(by show 0<_;omega),Nat.zero_le _,fun q hq=>(by cases hq),(by show 0<_;omega),Nat.zero_le _,fun q hq=>(by cases hq)⟩
 |false=>
  refine⟨he,hx, ?_,fun q hq=> ?_,he, ?_,fun q hq=> ?_⟩
  ·show(l.s.live.map sK).length≤_
   rw[List.length_map];exact hf
  ·obtain⟨y,hm,rfl⟩:=List.mem_map.1 (show q∈l.s.live.map sK from hq)
   exact hy y hm
  ·show(l.s.live.map uc).length≤_
   rw[List.length_map];exact hf
  ·obtain⟨y,hm,rfl⟩:=List.mem_map.1 (show q∈l.s.live.map uc from hq)
   exact hy y hm
theorem FG (ms:List aM) (q:aM):(iP ms q).1=q.1:=by
 unfold iP
 split<;>rfl
theorem DE {ms:List aM} {q:aM} (h:ms.find? (fun m=>m.1==q.1)=none):iP ms q=q:=by
 unfold iP
 rw[h]
theorem DF {ms:List aM} {q m:aM} (h:ms.find? (fun m=>m.1==q.1)=some m):iP ms q=(q.1,m.2):=by
 unfold iP
 rw[h]
theorem rn {α:Type} {l:List α} {j:Nat} {x:α} (f:α→α) (hx:l[j]?=some x):(l.take j).map f++l.drop j=((l.take j).map f++(x::l.drop (j+1)))∧(l.take (j+1)).map f++l.drop (j+1)=(l.take j).map f++(f x::l.drop (j+1)):=by
 have hj:=(List.getElem?_eq_some_iff.1 hx).1
 have he:=(List.getElem?_eq_some_iff.1 hx).2
 refine⟨by rw[List.drop_eq_getElem_cons hj,he], ?_⟩
 rw[List.take_add_one,hx,List.map_append]
 simp
theorem BM {α:Type} {l:List α} {j:Nat} {x:α} (f:α→α) (hx:l[j]?=some x):((l.take j).map f++l.drop j)[j]?=some x∧((l.take j).map f++l.drop j).set j (f x)=(l.take (j+1)).map f++l.drop (j+1):=by
 have hj:=(List.getElem?_eq_some_iff.1 hx).1
 obtain⟨h1,h2⟩:=rn f hx
 have hl:((l.take j).map f).length=j:=by rw[List.length_map,List.length_take];omega
 rw[h2,h1]
 refine⟨?_, ?_⟩
 ·rw[List.getElem?_append_right (by omega),hl,Nat.sub_self];rfl
 ·rw[List.set_append_right _ _ (by omega),hl,Nat.sub_self];rfl
theorem cI {kind:ae} {n:Nat} (hk:kind.length≤10) (hn:n<100):(aR kind n).length≤1000000:=by
 have:=CE kind hn
 omega
theorem lT {B:Nat} {w:World} {v:Value} {l:List UInt8} (h:ce B w v l):∃A c,v= .slice A l.length c∧aE w w.heap.size 1 A l.length (ar l)∧l.length≤c:=by
 obtain⟨A,c,rfl,hr⟩:=en h
 refine⟨A,c,rfl,hr, ?_⟩
 rcases h.2 with⟨h1,h2⟩|⟨g,cap,cur,hv, -, -,hn, -⟩
 ·have:l.length=0:=by simpa using h2
  omega
 ·injection hv with _ _ hc
  omega
theorem mA (k:Nat) (p:List UInt8):(cy k p).length=p.length+12:=by
 unfold cy df
 simp only[List.length_append,aO,List.length_cons,List.length_nil]
 omega
theorem rN (l:dW) (ms:List aM):(bP l ms).b.length≤1000000∧(bP l ms).c.length≤1000000:=by
 have h1:∀(e:Nat) (m:List aM),(dI e m).length≤1000000:=fun e m=>by
  unfold dI
  split
  ·rename_i h
   unfold aZ at h
   simp only[Bool.and_eq_true,decide_eq_true_eq] at h
   rw[mA]
   unfold eV
   have hm:(m.flatMap fj).length≤5*m.length:=by
    clear h
    induction m with
    |nil=>exact Nat.zero_le _
    |cons x r ih=>
     rw[List.flatMap_cons,List.length_append,List.length_cons]
     have:(fj x).length=5:=by unfold fj;simp[aO]
     omega
   simp only[List.length_append,aO]
   omega
  ·exact Nat.zero_le _
 have h2:∀x:oS,x.page.length≤1000000:=fun x=>by
  unfold oS.page jI
  split
  ·rename_i h
   unfold bW at h
   simp only[Bool.and_eq_true,decide_eq_true_eq] at h
   have hn:=fk h.1.1.1.1.1.2
   rw[mA]
   unfold iu iG
   have hm:(x.l.flatMap mM).length≤8*x.l.length:=by
    clear h
    induction x.l with
    |nil=>exact Nat.zero_le _
    |cons y r ih=>
     rw[List.flatMap_cons,List.length_append,List.length_cons]
     have:(mM y).length=8:=by unfold mM;simp[aO]
     omega
   have hsz:x.nm.data.toList.length=x.nm.size:=rfl
   simp only[List.length_append,aO,List.flatMap_cons,List.flatMap_nil,List.length_nil]
   omega
  ·exact Nat.zero_le _
 unfold bP
 split
 ·exact⟨h1 _ _,h2 _⟩
 ·exact⟨Nat.zero_le _,Nat.zero_le _⟩
theorem Cr {V:Value} {l:dW} (A2:Option Addr) (c2:Nat) (ms:List aM) (w:World) (h:iR w V l) (he:pu w) (hms:bu ml w A2 ms) (hml:ms.length≤1000000):
 Calls Tryz.prog 69 #[V, .slice A2 ms.length c2] w fun ev w'=>∃b c,ev= .returned (.tuple #[b,c, .int .i64 (bP l ms).e])∧ce w.heap.size w' b (bP l ms).b∧ce w.heap.size w' c (bP l ms).c∧Below w.heap.size w w':=by
 have HB:=Below.refl w.heap.size w
 have h0:=h
 obtain⟨A,c,L,rfl,hr,hlv⟩:=h.ex
 obtain⟨b1,b2,b3,b4,b5,b6,b7⟩:=uX h.few h.ep h.nx fun y hy=>(h.each y hy).2.2
 obtain⟨q2,hq2⟩:∃q,ms.length=q:=⟨_,rfl⟩
 rw[hq2]
 refine aK 60 Tryz.func69 rfl rfl (Nat.le_of_ble_eq_true rfl) ?_
 intro a hA;replace hA:=hA.norm
 refine wS (wR ?_)
 refine aP hA rfl rfl (by decide) (fun ev h=>by simp[go_sem,h.get 0 rfl];try first|exact⟨rfl,rfl⟩|rfl) fun w1 a (K1:aI _ _ _ _) hz1 hb1 hA=> ?_
 replace HB:=HB.trans (hb1.mono HB.size)
 revert a;(iterate 3 refine wo rfl rfl (by decide) (fun ev e h=>by simp[go_sem,h,K1.cell]<;>rfl) ?_);intro a hA
 replace hA:=hA.keepN [1,2]
 refine wN (nT (wS (wR ?_)))
 revert a;refine wo rfl rfl (by decide) (fun ev e h=>by simp[go_sem,h,K1.cell]<;>rfl) ?_;intro a hA
 refine aC hA rfl rfl (by decide) (fun ev h=>aB Tryz.func33 (by kernel_rfl) rfl (h.f _) (by first|(simp only[mL,h.get 16 rfl,h.c]<;>rfl)|(simp[mL,h.get 16 rfl,h.c,K1.cell]<;>rfl))) (uh (h0.below HB)) ?_
 rintro e w2 ⟨v,u,rfl,hov,hou,hb2⟩
 refine⟨_,rfl,fun a hA=> ?_⟩
 replace HB:=HB.trans (hb2.mono HB.size)
 revert a;(iterate 3 refine wo rfl rfl (by decide) (fun ev e h=>by simp[go_sem,h,K1.cell]<;>rfl) ?_);intro a hA
 refine aP hA rfl rfl (by decide) (fun ev h=>by simp[go_sem,K1.cell];try first|exact⟨rfl,rfl⟩|rfl) fun w3 a (K3:aI _ _ _ _) hz3 hb3 hA=> ?_
 refine aP hA rfl rfl (by decide) (fun ev h=>by simp[go_sem,K1.cell];try first|exact⟨rfl,rfl⟩|rfl) fun w4 a (K4:aI _ _ _ _) hz4 hb4 hA=> ?_
 replace K3:=K3.below hb4 K3.lt
 have hxnm:(dQ l).nm.size≤60:=by
  unfold dQ
  cases iy (al l.s) l.s.nm with
  |true=>exact Nat.zero_le _
  |false=>exact h0.nm
 replace hov:=(hov.below hb3).below hb4
 replace hou:=(hou.below hb3).below hb4
 replace HB:=(HB.trans (hb3.mono HB.size)).trans (hb4.mono (HB.trans (hb3.mono HB.size)).size)
 have hpl:bP l ms=if dq (gZ l).1 ((gZ l).2.map (iP ms))=0 then⟨dI (gZ l).1 ((gZ l).2.map (iP ms)),(dQ l).page,(dQ l).err⟩ else⟨[],[],dq (gZ l).1 ((gZ l).2.map (iP ms))⟩:=rfl
 obtain⟨Av,cv,rfl, -, -⟩:=hov.reads
 obtain⟨Au,cu,rfl, -, -⟩:=hou.reads
 obtain⟨X,hX⟩:∃X,dQ l=X:=⟨_,rfl⟩
 obtain⟨F,hF⟩:∃F,gZ l=F:=⟨_,rfl⟩
 rw[hX] at hov hxnm b1 b2 b3 b4 hpl hA
 rw[hF] at hou b5 b6 b7 hpl hA
 obtain⟨nx9,hnx⟩:∃n,X.l.length=n:=⟨_,rfl⟩
 obtain⟨nf,hnf⟩:∃n,F.2.length=n:=⟨_,rfl⟩
 rw[hnx] at hA hov
 rw[hnf] at hA hou
 have hk78:w2.heap.size<w3.heap.size:=by omega
 have hw2:w.heap.size≤w2.heap.size:=by have:=hb1.size;have:=hb2.size;omega
 have K30:=K3
 refine bX [.string X.nm, .int .u32 (X.e:Nat), .int .u32 (X.nx:Nat), .int .i64 X.u, .slice Av nx9 cv] hA rfl rfl K3 (by rfl) (fun ev h=>by simp[go_sem,h.get 7 rfl,h.get 18 rfl,K1.cell,setAll,K3.cell,K3.frozen]) fun w5 (K3:aI _ _ _ _) hs5=> ?_
 replace hov:=hov.onlyK hs5 K30 (by decide) rfl
 replace hou:=hou.onlyK hs5 K30 (by decide) rfl
 replace K4:=hs5.blk K4 (by omega)
 replace HB:=hs5.below HB hw2
 have K40:=K4
 refine bX [.int .u32 (F.1:Nat), .slice Au nf cu] hA rfl rfl K4 (by rfl) (fun ev h=>by simp[go_sem,h.get 8 rfl,h.get 19 rfl,K1.cell,setAll,K4.cell,K4.frozen]) fun w6 (K4:aI _ _ _ _) hs6=> ?_
 replace hov:=hov.onlyK hs6 K40 (by decide) rfl
 replace hou:=hou.onlyK hs6 K40 (by decide) rfl
 replace K3:=hs6.blk K3 (by omega)
 replace HB:=hs6.below HB (by omega)
 replace hA:=hA.keepN [1,7,8]
 refine wN (nT (wS (wS (wR ?_))))
 revert a;(iterate 4 refine wo rfl rfl (by decide) (fun ev e h=>by simp[go_sem,h,K4.cell]<;>rfl) ?_);intro a hA
 replace hA:=hA.keepN [1,7,8,21,22,23]
 refine wN (nT (wB ?_))
 refine aQ (fun f a wx=>∃(j:Nat),j+f=nf∧ac CA w1.heap.size wx (.slice Av nx9 cv) X.l∧ac ml w1.heap.size wx (.slice Au nf cu) ((F.2.take j).map (iP ms)++F.2.drop j)∧aI wx w2.heap.size 88 #[.string X.nm, .int .u32 (X.e:Nat), .int .u32 (X.nx:Nat), .int .i64 X.u, .slice Av nx9 cv]∧aI wx w3.heap.size 90 #[.int .u32 (F.1:Nat), .slice Au nf cu]∧Below w.heap.size w wx∧At 60 [(1, .slice A2 q2 c2),(7, .pointer (some ⟨w2.heap.size,0,none⟩)),(8, .pointer (some ⟨w3.heap.size,0,none⟩)),(21, .slice Au nf cu),(22, .int .i64 (nf:Nat)),(23, .int .i64 (j:Nat))] a) (nf) ?_ ?_
 ·exact⟨0,by omega,hov,by simpa using hou,K3,K4,HB,hA⟩
 clear hA hov hou K3 K4 HB
 rintro f a wx ⟨j,hjf,hov,hou,K3,K4,HB,hA⟩
 have jw:IntKind.i64.wrap ((j:Int)+1)=((j+1:Nat):Int):=IntWalk.i64_in _ (by omega)
 refine wS (wR ?_)
 revert a;refine wo rfl rfl (by decide) (fun ev e h=>by simp[go_sem,h]<;>rfl) ?_;intro a hA
 replace hA:=hA.keepN [1,7,8,21,22,23,24]
 refine wN (nT (wS ?_))
 refine aH hA 24 _ rfl (fun hq=> ?yA) (fun hq=> ?nA)
 case nA=>
  have hj:j=nf:=by simp at hq;omega
  rw[hj,←hnf,List.take_length,List.drop_length,List.append_nil,hnf] at hou
  obtain⟨G,hG⟩:∃G,F.2.map (iP ms)=G:=⟨_,rfl⟩
  have hGl:G.length=nf:=by rw[←hG,List.length_map,hnf]
  have hGu:∀q∈G,q.1<4294967296:=fun q hq=>by
   rw[←hG] at hq
   obtain⟨y,hy,rfl⟩:=List.mem_map.1 hq
   rw[FG]
   exact b7 y hy
  rw[hG] at hou hpl
  have hru:aE wx wx.heap.size 2 Au nf (cW G):=by
   obtain⟨A9,c9,e9,hr9, -⟩:=hou.reads
   injection e9 with e1 e2 e3
   rw[e1,e2]
   exact hr9.row
  have hrv:aE wx wx.heap.size 2 Av nx9 (cW X.l):=by
   obtain⟨A9,c9,e9,hr9, -⟩:=hov.reads
   injection e9 with e1 e2 e3
   rw[e1,e2]
   exact hr9.row
  replace hA:=hA.keepN [7,8]
  refine wp_exit (xT (xT (xB (nT (wS (wR ?_))))))
  revert a;refine wo rfl rfl (by decide) (fun ev e h=>by simp[go_sem,h,K4.cell]<;>rfl) ?_;intro a hA
  refine aC hA rfl rfl (by decide) (fun ev h=>aB Tryz.func75 (by kernel_rfl) rfl (h.f _) (by first|(simp only[mL,h.get 45 rfl,h.c]<;>rfl)|(simp[mL,h.get 45 rfl,h.c,K4.cell]<;>rfl))) (oH Au cu nf F.1 G wx hGu b5 hGl (by omega) hru) ?_
  rintro e w7 ⟨r,rfl,hor,hb7⟩
  refine⟨_,rfl,fun a hA=> ?_⟩
  obtain⟨fe,hfe⟩:∃x,dq F.1 G=x:=⟨_,rfl⟩
  rw[hfe] at hA hpl
  revert a;(iterate 5 refine wo rfl rfl (by decide) (fun ev e h=>by simp[go_sem,h,K4.cell]<;>rfl) ?_);intro a hA
  replace hA:=hA.keepN [7,12,13]
  refine wN (nT (wS (wS (wR ?_))))
  revert a;(iterate 2 refine wo rfl rfl (by decide) (fun ev e h=>by simp[go_sem,h,K4.cell]<;>rfl) ?_);intro a hA
  replace hA:=hA.keepN [7,12,13,50]
  refine wN (nT ?_)
  refine aH hA 50 _ rfl (fun hq3=> ?yC) (fun hq3=> ?nC)
  case yC=>
   have hne:¬fe=0:=by simpa using hq3
   refine wS (wR ?_)
   revert a;(iterate 4 refine wo rfl rfl (by decide) (fun ev e h=>by simp[go_sem,h,K4.cell]<;>rfl) ?_);intro a hA
   replace hA:=hA.keepN [4,5,6]
   refine wN (nT (wp_ret (rT ?_)))
   refine mW hA 4 5 6 rfl rfl rfl rfl ?_
   rw[hpl,if_neg hne]
   exact⟨_,_,rfl,World.ownsRow_nil _ _ _ _,World.ownsRow_nil _ _ _ _,HB.trans (hb7.mono HB.size)⟩
  case nC=>
   have hne:fe=0:=by simpa using hq3
   rw[if_pos hne] at hpl
   have K37:=K3.below hb7 K3.lt
   have HB7:=HB.trans (hb7.mono HB.size)
   have he7:=he.below HB7
   refine wp_skip (nT (wS (wR ?_)))
   revert a;refine wo rfl rfl (by decide) (fun ev e h=>by simp[go_sem,h,K37.cell]<;>rfl) ?_;intro a hA
   refine aC hA rfl rfl (by decide) (fun ev h=>aB Tryz.func34 (by kernel_rfl) rfl (h.f _) (by first|(simp only[mL,h.get 53 rfl,h.c]<;>rfl)|(simp[mL,h.get 53 rfl,h.c,K37.cell]<;>rfl))) (kQ X.nm Av cv nx9 X.e X.nx X.u X.l w7 he7.max he7.big.2.2 (by omega) b4 b1 b2 hnx (by omega) ((hrv.below hb7).more hb7.size)) ?_
   rintro e w8 ⟨r2,rfl,hor2,hb8⟩
   refine⟨_,rfl,fun a hA=> ?_⟩
   revert a;(iterate 5 refine wo rfl rfl (by decide) (fun ev e h=>by simp[go_sem,h,K37.cell]<;>rfl) ?_);intro a hA
   replace hA:=hA.keepN [12,13,14]
   refine wN (nT (wS (wR ?_)))
   revert a;(iterate 6 refine wo rfl rfl (by decide) (fun ev e h=>by simp[go_sem,h,K37.cell]<;>rfl) ?_);intro a hA
   replace hA:=hA.keepN [4,5,6]
   refine wN (nT (wp_ret ?_))
   refine mW hA 4 5 6 rfl rfl rfl rfl ?_
   rw[hpl]
   exact⟨r,r2,rfl,eo (dv hor hb8) HB.size,eo hor2 HB7.size,HB7.trans (hb8.mono HB7.size)⟩
 case yA=>
  have hj:j<nf:=by simp at hq;omega
  have jj0:(0:Int)≤(j:Int):=by omega
  have jj1:(j:Int)<(nf:Int):=by omega
  obtain⟨x,hx⟩:∃x,F.2[j]?=some x:=⟨_,List.getElem?_eq_getElem (by omega)⟩
  obtain⟨hmx,hset⟩:=BM (iP ms) hx
  have hMl:((F.2.take j).map (iP ms)++F.2.drop j).length=nf:=by
   rw[List.length_append,List.length_map,List.length_take,List.length_drop]
   omega
  obtain⟨M,hM⟩:∃M,(F.2.take j).map (iP ms)++F.2.drop j=M:=⟨_,rfl⟩
  rw[hM] at hmx hset hMl hou
  obtain⟨g,c9,hv9,hgB,hglt⟩:=hou.at_ (by omega)
  have hAu:Au=some ⟨g,0,none⟩:=by injection hv9
  rw[hAu] at hou
  have z0:wx.cell? ⟨g,j*2,none⟩=some (.int .u32 (x.1:Nat)):=hou.cellAt (j:=0) hmx rfl
  have z1:wx.cell? ⟨g,j*2+1,none⟩=some (.int .i64 x.2):=hou.cellAt (j:=1) hmx rfl
  refine wp_skip (nT (wS (wB (wS (wR ?_)))))
  revert a;(iterate 3 refine wo rfl rfl (by decide) (fun ev e h=>by simp[go_sem,h,hAu,aS,z0,z1,jj0,jj1,hj]<;>rfl) ?_);intro a hA
  refine aP hA rfl rfl (by decide) (fun ev h=>by simp[go_sem,hAu,aS,z0,z1,jj0,jj1,hj];try first|exact⟨rfl,rfl⟩|rfl) fun w7 a (K7:aI _ _ _ _) hz7 hb7 hA=> ?_
  revert a;refine wo rfl rfl (by decide) (fun ev e h=>by simp[go_sem,h,hAu,aS,z0,z1,jj0,jj1,hj]<;>rfl) ?_;intro a hA
  refine bX [.int .u32 (x.1:Nat), .int .i64 x.2] hA rfl rfl K7 (by rfl) (fun ev h=>by simp[go_sem,h.get 10 rfl,h.get 27 rfl,hAu,aS,z0,z1,jj0,jj1,hj,setAll,K7.cell,K7.frozen]) fun w8 (K7:aI _ _ _ _) hs8=> ?_
  have hb8:=hs8.below hb7 (Nat.le_refl _)
  have HB8:=HB.trans (hb8.mono HB.size)
  replace hov:=hov.below hb8
  replace hou:=hou.below hb8
  replace K3:=K3.below hb8 K3.lt
  replace K4:=K4.below hb8 K4.lt
  replace hA:=hA.keepN [1,7,8,9,10,21,22,23]
  refine wN (nT (wS (wR ?_)))
  revert a;(iterate 2 refine wo rfl rfl (by decide) (fun ev e h=>by simp[go_sem,h,hAu,aS,z0,z1,jj0,jj1,hj]<;>rfl) ?_);intro a hA
  have hix:=EL A2 c2 x.1 wx.heap.size x.2 ms w8 (by omega) (hms.below HB8) K7
  rw[hq2] at hix
  refine aC hA rfl rfl (by decide) (fun ev h=>aB Tryz.func105 (by kernel_rfl) rfl (h.f _) (by first|(simp only[mL,h.get 28 rfl,h.get 29 rfl,h.c]<;>rfl)|(simp[mL,h.get 28 rfl,h.get 29 rfl,h.c,hAu,aS,z0,z1,jj0,jj1,hj]<;>rfl))) (hix) ?_
  rintro e w9 ⟨rfl,hb9⟩
  refine⟨_,rfl,fun a hA=> ?_⟩
  have HB9:=HB8.trans (hb9.mono HB8.size)
  replace hov:=hov.below hb9
  replace hou:=hou.below hb9
  replace K3:=K3.below hb9 K3.lt
  replace K4:=K4.below hb9 K4.lt
  rcases pU x.1 ms 0 with⟨h1,h2⟩|⟨k,m,h1,h2,h3⟩
  ·rw[h1] at hA
   revert a;refine wo rfl rfl (by decide) (fun ev e h=>by simp[go_sem,h,hAu,aS,z0,z1,jj0,jj1,hj]<;>rfl) ?_;intro a hA
   replace hA:=hA.keepN [1,7,8,9,11,21,22,23]
   refine wN (nT (wS (wR ?_)))
   revert a;(iterate 2 refine wo rfl rfl (by decide) (fun ev e h=>by simp[go_sem,h,hAu,aS,z0,z1,jj0,jj1,hj]<;>rfl) ?_);intro a hA
   replace hA:=hA.keepN [1,7,8,9,11,21,22,23,32]
   refine wN (nT ?_)
   refine aH hA 32 _ rfl (fun hq4=> ?yB) (fun hq4=> ?nB)
   case yB=>cases hq4
   case nB=>
    refine wp_skip (nB (nT (wR ?_)))
    revert a;(iterate 2 refine wo rfl rfl (by decide) (fun ev e h=>by simp[go_sem,h,jw]<;>rfl) ?_);intro a hA
    replace hA:=hA.keepN [1,7,8,21,22,23]
    refine wN (nT ?_)
    refine⟨f - 1,by omega,j+1,by omega,hov, ?_,K3,K4,HB9,hA⟩
    rw[←hset,DE h2,hAu]
    have hs9:M.set j x=M:=by
     apply List.ext_getElem?
     intro i
     rw[List.getElem?_set]
     split
     ·rename_i h9
      subst h9
      rw[if_pos (by omega),hmx]
     ·rfl
    rw[hs9]
    exact hou
  ·rw[h1,Nat.zero_add] at hA
   have hkl:=(List.getElem?_eq_some_iff.1 h2).1
   have kk0:(0:Int)≤(k:Int):=by omega
   have kk1:(k:Int)<(q2:Int):=by omega
   have kk2:k<q2:=by omega
   revert a;refine wo rfl rfl (by decide) (fun ev e h=>by simp[go_sem,h,jw]<;>rfl) ?_;intro a hA
   replace hA:=hA.keepN [1,7,8,9,11,21,22,23]
   refine wN (nT (wS (wR ?_)))
   revert a;(iterate 2 refine wo rfl rfl (by decide) (fun ev e h=>by simp[go_sem,h,jw]<;>rfl) ?_);intro a hA
   replace hA:=hA.keepN [1,7,8,9,11,21,22,23,32]
   refine wN (nT ?_)
   refine aH hA 32 _ rfl (fun hq4=> ?yB2) (fun hq4=> ?nB2)
   case nB2=>simp at hq4
   case yB2=>
    obtain⟨am,hA2,hamb, -,q1⟩:=(hms.below HB9).cell h2
    have y1:w9.cell? ⟨(am.add (k*2)).block,(am.add (k*2)).off+1,none⟩=some (.int .i64 m.2):=q1 1 _ (by decide) rfl
    have hgne:g≠w2.heap.size:=eu hou.row K3 (by decide) g rfl
    have hgne2:g≠w3.heap.size:=eu hou.row K4 (by decide) g rfl
    have pR7:=fun(wo:World) (hC:(fun wy=>Below w9.heap.size w9 wy) wo)=>have Ky:=K4.below hC K4.lt;have yy:=(hC.cell (p:=⟨(am.add (k*2)).block,(am.add (k*2)).off+1,none⟩) (by show(am.add (k*2)).block<_;rw[aD];exact hamb)).trans y1;And.intro (Ky.cell) (yy)
    refine aj 8 ?_
    simp only[List.take_succ_cons,List.take_zero,List.drop_succ_cons,List.drop_zero]
    refine ai hA [(.det ?dR70),(.det ?dR71),(.det ?dR72),(.det ?dR73),(.det ?dR74),(.det ?dR75),(.det ?dR76),(.det ?dR77)] [] (fun wy=>Below w9.heap.size w9 wy) (aG [] aA) (by kernel_rfl) rfl (by kernel_rfl) (by kernel_rfl) rfl (by kernel_rfl) (by kernel_rfl) (by kernel_rfl) (by kernel_rfl) ((Below.refl _ _).drew) (bF [] [true,true,true,true,true,true,true,true] [true,true,true,true,true,true,true,true] [] rfl rfl rfl (by kernel_rfl) ⟨trivial,trivial,trivial,trivial,trivial,trivial,trivial,trivial,trivial⟩ trivial) (fun _ h=>by cases h) (fun _ _ _ _ _ h=>by cases h) (fun _ h=>by cases h) ⟨?oR70, ?oR71, ?oR72, ?oR73, ?oR74, ?oR75, ?oR76, ?oR77,trivial⟩ (by kernel_rfl) ?fR7
    case oR70=>intro ev wo hev hC hs hph;have x0:=se hA hs 8;exact od rfl rfl (by kernel_rfl) hC (aG.of rfl (aA.refl _)) (by simp[go_sem,x0]<;>rfl)
    case oR71=>intro ev wo hev hC hs hph;have x0:=sd hs 33 0;exact od rfl rfl (by kernel_rfl) hC (aG.of rfl (aA.refl _)) (by simp[go_sem,x0,pR7 _ hC,jw]<;>rfl)
    case oR72=>intro ev wo hev hC hs hph;have x0:=se hA hs 9;exact od rfl rfl (by kernel_rfl) hC (aG.of rfl (aA.refl _)) (by simp[go_sem,x0]<;>rfl)
    case oR73=>intro ev wo hev hC hs hph;have x0:=se hA hs 1;exact od rfl rfl (by kernel_rfl) hC (aG.of rfl (aA.refl _)) (by simp[go_sem,x0]<;>rfl)
    case oR74=>intro ev wo hev hC hs hph;have x0:=se hA hs 11;exact od rfl rfl (by kernel_rfl) hC (aG.of rfl (aA.refl _)) (by simp[go_sem,x0]<;>rfl)
    case oR75=>intro ev wo hev hC hs hph;have x0:=sd hs 36 3;have x1:=sd hs 37 4;exact od rfl rfl (by kernel_rfl) hC (aG.of rfl (aA.refl _)) (by simp[go_sem,x0,x1,hA2,kk0,kk1,kk2]<;>rfl)
    case oR76=>intro ev wo hev hC hs hph;have x0:=sd hs 38 5;exact od rfl rfl (by kernel_rfl) hC (aG.of rfl (aA.refl _)) (by simp[go_sem,x0]<;>rfl)
    case oR77=>intro ev wo hev hC hs hph;have x0:=sd hs 39 6;exact od rfl rfl (by kernel_rfl) hC (aG.of rfl (aA.refl _)) (by simp[go_sem,x0,pR7 _ hC,jw]<;>rfl)
    intro sg wf hC hph
    intro a hA
    replace hA:=hA.keepN [1,7,8,21,22,23,34,35,40]
    have HB10:=HB9.trans (hC.mono HB9.size)
    replace hov:=hov.below hC
    replace hou:=hou.below hC
    replace K3:=K3.below hC K3.lt
    replace K4:=K4.below hC K4.lt
    obtain⟨h8,h9⟩:=hou.put1 (j:=1) (x:=((x.1,m.2):aM)) (u:= .int .i64 m.2) hmx (by decide) rfl rfl
    have z2:wf.cell? ⟨g,j*2+1,none⟩=some (.int .i64 x.2):=hou.cellAt (j:=1) hmx rfl
    revert a;(iterate 2 refine wo rfl rfl (by decide) (fun ev e h=>by simp[go_sem,h,hAu,aS,jj0,jj1,hj,z2,hou.frozenAt]<;>rfl) ?_);intro a hA
    refine jP hA rfl rfl (fun ev h=>by simp[go_sem,h.get 42 rfl,h.get 40 rfl,hAu,aS,jj0,jj1,hj,z2,hou.frozenAt];try first|exact⟨rfl,rfl⟩|rfl) ?_
    replace hA:=hA.keepN [1,7,8,21,22,23]
    refine wN (nB (nT (wR ?_)))
    revert a;(iterate 2 refine wo rfl rfl (by decide) (fun ev e h=>by simp[go_sem,h,jw]<;>rfl) ?_);intro a hA
    replace hA:=hA.keepN [1,7,8,21,22,23]
    refine wN (nT ?_)
    refine⟨f - 1,by omega,j+1,by omega,hov.grown h9 (fun g' e e2=> ?_) (fun _ _ _ _ p hp=>by cases hp), ?_,K3.grown h9 (fun e=> ?_),K4.grown h9 (fun e=> ?_),HB10.grown h9 HB10.size (fun k e=> ?_),hA⟩
    ·exact hov.ne hou (by decide) e (by rw[←e2];rfl)
    ·rw[←hset,DF h3,hAu]
     exact h8
    ·injection e with e
     exact hgne e.symm
    ·injection e with e
     exact hgne2 e.symm
    ·injection e with e
     have:=hb1.size
     omega
theorem Cp {w:World} {p mb N:Nat} {d:aN} {V:Value} {l:dW} (h:Dk w p mb d N) (hN:N<800000) (n:Nat) (hn:n<100) (hV:iR w V l) (A2:Option Addr) (c2:Nat) (ms:List aM) (hms:bu ml w A2 ms) (hml:ms.length≤1000000):
 Calls Tryz.prog 31 #[.pointer (some ⟨p,0,none⟩), .int .i64 (n:Nat),V, .slice A2 ms.length c2] w fun ev w'=>ev= .returned (.int .i64 (ec d n l ms).1)∧Dk w' p mb (ec d n l ms).2 (N+6)∧bb p mb w w':=by
 have hV0:=hV
 obtain⟨A,c,L,rfl, -, -⟩:=hV.ex
 obtain⟨q2,hq2⟩:∃q,ms.length=q:=⟨_,rfl⟩
 rw[hq2]
 refine aK 38 Tryz.func31 rfl rfl (Nat.le_of_ble_eq_true rfl) ?_
 intro a hA;replace hA:=hA.norm
 refine wS (wR ?_)
 refine aP hA rfl rfl (by decide) (fun ev h=>by simp[go_sem,h.get 2 rfl];try first|exact⟨rfl,rfl⟩|rfl) fun w1 a (K1:aI _ _ _ _) hz1 hb1 hA=> ?_
 revert a;refine wo rfl rfl (by decide) (fun ev e h=>by simp[go_sem,h]<;>rfl) ?_;intro a hA
 replace hA:=hA.keepN [0,1,3,6]
 refine wN (nT (wS (wS (wR ?_))))
 revert a;(iterate 2 refine wo rfl rfl (by decide) (fun ev e h=>by simp[go_sem,h]<;>rfl) ?_);intro a hA
 replace hA:=hA.keepN [0,1,3,6,14]
 refine wN (nT ?_)
 refine aH hA 14 _ rfl (fun hq=> ?yA) (fun hq=> ?nA)
 case yA=>cases hq
 case nA=>
  refine wp_skip (nT (wS (wR ?_)))
  revert a;(iterate 2 refine wo rfl rfl (by decide) (fun ev e h=>by simp[go_sem,h,K1.cell]<;>rfl) ?_);intro a hA
  have hpg:=Cr A2 c2 ms w1 (hV0.below hb1) (h.env.below hb1) (hms.below hb1) hml
  rw[hq2] at hpg
  refine aC hA rfl rfl (by decide) (fun ev h=>aB Tryz.func69 (by kernel_rfl) rfl (h.f _) (by first|(simp only[mL,h.get 16 rfl,h.get 17 rfl,h.c]<;>rfl)|(simp[mL,h.get 16 rfl,h.get 17 rfl,h.c,K1.cell]<;>rfl))) (hpg) ?_
  rintro e w2 ⟨b,c9,rfl,hob,hoc,hb2⟩
  refine⟨_,rfl,fun a hA=> ?_⟩
  obtain⟨P,hP⟩:∃P,bP l ms=P:=⟨_,rfl⟩
  have hpd:ec d n l ms=if P.e=0 then gN (jV d (aR cV n) P.b) fun d=>jV d (aR ct n) P.c else(P.e,d):=by rw[←hP];rfl
  rw[hP] at hA hob hoc
  obtain⟨pe,hpe⟩:∃e,P.e=e:=⟨_,rfl⟩
  rw[hpe] at hA hpd
  have HB:=hb1.trans (hb2.mono hb1.size)
  have hD:=h.below HB
  revert a;(iterate 7 refine wo rfl rfl (by decide) (fun ev e h=>by simp[go_sem,h,K1.cell]<;>rfl) ?_);intro a hA
  replace hA:=hA.keepN [0,1,9,10,11]
  refine wN (nT (wS (wS (wR ?_))))
  revert a;(iterate 2 refine wo rfl rfl (by decide) (fun ev e h=>by simp[go_sem,h,K1.cell]<;>rfl) ?_);intro a hA
  replace hA:=hA.keepN [0,1,9,10,11,23]
  refine wN (nT ?_)
  refine aH hA 23 _ rfl (fun hq1=> ?yB) (fun hq1=> ?nB)
  case yB=>
   have hne:¬pe=0:=by simpa using hq1
   refine wS (wR ?_)
   revert a;(iterate 2 refine wo rfl rfl (by decide) (fun ev e h=>by simp[go_sem,h,K1.cell]<;>rfl) ?_);intro a hA
   replace hA:=hA.keepN [8]
   refine wN (nT (wp_ret (rT ?_)))
   refine ab hA 8 rfl rfl ?_
   rw[hpd,if_neg hne]
   exact⟨rfl,hD.more (by omega),bb.of_below HB⟩
  case nB=>
   have hne:pe=0:=by simpa using hq1
   rw[if_pos hne] at hpd
   obtain⟨Ab,cb,rfl,hrb,hcb⟩:=lT hob
   obtain⟨Ac,cc,rfl,hrc,hcc⟩:=lT hoc
   have hbl:=(rN l ms).1
   have hcl:=(rN l ms).2
   rw[hP] at hbl hcl
   refine wp_skip (nT (wS (wS (wR ?_))))
   revert a;(iterate 2 refine wo rfl rfl (by decide) (fun ev e h=>by simp[go_sem,h,K1.cell]<;>rfl) ?_);intro a hA
   refine aC hA rfl rfl (by decide) (fun ev h=>aB Tryz.func32 (by kernel_rfl) rfl (h.f _) (by first|(simp only[mL,h.get 26 rfl,h.c]<;>rfl)|(simp[mL,h.get 26 rfl,h.c,K1.cell]<;>rfl))) (kx cV (by decide) n hn _) ?_
   rintro e w3 ⟨rfl,hb3⟩
   refine⟨_,rfl,fun a hA=> ?_⟩
   have hD3:=hD.below hb3
   revert a;refine wo rfl rfl (by decide) (fun ev e h=>by simp[go_sem,h,K1.cell]<;>rfl) ?_;intro a hA
   refine aC hA rfl rfl (by decide) (fun ev h=>aB Tryz.func30 (by kernel_rfl) rfl (h.f _) (by first|(simp only[mL,h.get 25 rfl,h.get 27 rfl,h.get 28 rfl,h.c]<;>rfl)|(simp[mL,h.get 25 rfl,h.get 27 rfl,h.get 28 rfl,h.c,K1.cell]<;>rfl))) (za hD3 (by omega) (aR cV n) (cI (by decide) hn) Ab _ cb P.b rfl (by omega) hcb ((hrb.below hb3).more hb3.size)) ?_
   rintro e w4 ⟨rfl,h4,hb4⟩
   refine⟨_,rfl,fun a hA=> ?_⟩
   have hrc4:=hD3.reads hb4 ((hrc.below hb3).more hb3.size)
   have HB3:=HB.trans (hb3.mono HB.size)
   have HB4:=(bb.of_below HB3 (p:=p) (m:=mb)).trans hb4
   obtain⟨r4,hr4⟩:∃r,jV d (aR cV n) P.b=r:=⟨_,rfl⟩
   obtain⟨e4,d4⟩:=r4
   rw[hr4] at hA h4 hpd
   simp only at h4
   revert a;refine wo rfl rfl (by decide) (fun ev e h=>by simp[go_sem,h,K1.cell]<;>rfl) ?_;intro a hA
   replace hA:=hA.keepN [0,1,10,12]
   refine wN (nT (wS (wR ?_)))
   revert a;(iterate 2 refine wo rfl rfl (by decide) (fun ev e h=>by simp[go_sem,h,K1.cell]<;>rfl) ?_);intro a hA
   replace hA:=hA.keepN [0,1,10,12,31]
   refine wN (nT ?_)
   refine aH hA 31 _ rfl (fun hq2'=> ?yC) (fun hq2'=> ?nC)
   case yC=>
    have hne4:¬e4=0:=by simpa using hq2'
    refine wS (wR ?_)
    revert a;(iterate 2 refine wo rfl rfl (by decide) (fun ev e h=>by simp[go_sem,h,K1.cell]<;>rfl) ?_);intro a hA
    replace hA:=hA.keepN [8]
    refine wN (nT (wp_ret (rT ?_)))
    refine ab hA 8 rfl rfl ?_
    rw[hpd,gn hne4]
    exact⟨rfl,h4.more (by omega),HB4⟩
   case nC=>
    have hne4:e4=0:=by simpa using hq2'
    rw[eg hne4] at hpd
    refine wp_skip (nT (wS (wR ?_)))
    revert a;(iterate 2 refine wo rfl rfl (by decide) (fun ev e h=>by simp[go_sem,h,K1.cell]<;>rfl) ?_);intro a hA
    refine aC hA rfl rfl (by decide) (fun ev h=>aB Tryz.func32 (by kernel_rfl) rfl (h.f _) (by first|(simp only[mL,h.get 34 rfl,h.c]<;>rfl)|(simp[mL,h.get 34 rfl,h.c,K1.cell]<;>rfl))) (kx ct (by decide) n hn _) ?_
    rintro e w5 ⟨rfl,hb5⟩
    refine⟨_,rfl,fun a hA=> ?_⟩
    have hD5:=h4.below hb5
    revert a;refine wo rfl rfl (by decide) (fun ev e h=>by simp[go_sem,h,K1.cell]<;>rfl) ?_;intro a hA
    refine aC hA rfl rfl (by decide) (fun ev h=>aB Tryz.func30 (by kernel_rfl) rfl (h.f _) (by first|(simp only[mL,h.get 33 rfl,h.get 35 rfl,h.get 36 rfl,h.c]<;>rfl)|(simp[mL,h.get 33 rfl,h.get 35 rfl,h.get 36 rfl,h.c,K1.cell]<;>rfl))) (za hD5 (by omega) (aR ct n) (cI (by decide) hn) Ac _ cc P.c rfl (by omega) hcc ((hrc4.below hb5).more hb5.size)) ?_
    rintro e w6 ⟨rfl,h6,hb6⟩
    refine⟨_,rfl,fun a hA=> ?_⟩
    revert a;refine wo rfl rfl (by decide) (fun ev e h=>by simp[go_sem,h,K1.cell]<;>rfl) ?_;intro a hA
    replace hA:=hA.keepN [8]
    refine wN (nT (wp_ret ?_))
    refine ab hA 8 rfl rfl ?_
    rw[hpd]
    exact⟨rfl,h6,(HB4.below hb5).trans hb6⟩
def qE (m:aU):Prop:=m.b.length≤m.c∧m.c≤9223372036854775807
theorem Cn {B n:Nat} {w:World} {A:Option Addr} {c:Nat} {l:List UInt8} (h:ce B w (.slice A n c) l):l.length≤c∧c≤9223372036854775807:=by
 rcases h.2 with⟨h1,h2⟩|⟨g,cap,cur,hv, -, -,hn,hm, -⟩
 ·injection h1 with _ _ hc
  have:l.length=0:=by simpa using h2
  omega
 ·injection hv with _ _ hc
  unfold maxLen at hm
  omega
theorem vl (s:fo) (z:Int) (A:Option Addr) (c n:Nat) (L:List eR) (w:World) (hn:n≤16000000) (hl:L.length=n) (hr:bu dA w A L) (hsm:∀x∈L,x.m.b.length≤1000000) (hlv:L.map iw=s.live.map iS) (hep:s.ep<4294967296):
 Calls Tryz.prog 38 #[.agg #[.string s.nm, .int .u32 (s.ep:Nat), .int .u32 (s.nx:Nat), .slice A n c, .int .i64 z, .bool (al s)]] w
  fun ev w'=>∃v M,ev= .returned (.agg #[.string (bQ s).nm, .int .u32 ((bQ s).ep:Nat), .int .u32 ((bQ s).nx:Nat),v])∧ac de w.heap.size w' v M∧M.map eS=(bQ s).msgs∧(∀m∈M,qE m)∧Below w.heap.size w w':=by
 refine aK 64 Tryz.func38 rfl rfl (Nat.le_of_ble_eq_true rfl) ?_
 intro a hA;replace hA:=hA.norm
 refine wS (wR ?_)
 refine aP hA rfl rfl (by decide) (fun ev h=>by simp[go_sem,h.get 0 rfl];try first|exact⟨rfl,rfl⟩|rfl) fun w1 a (K1:aI _ _ _ _) hz1 hb1 hA=> ?_
 refine aP hA rfl rfl (by decide) (fun ev h=>by simp[go_sem];try first|exact⟨rfl,rfl⟩|rfl) fun w2 a (K2:aI _ _ _ _) hz2 hb2 hA=> ?_
 replace K1:=K1.below hb2 K1.lt
 replace hA:=hA.keepN [1,2]
 refine wN (nT (wS (wR ?_)))
 revert a;(iterate 7 refine wo rfl rfl (by decide) (fun ev e h=>by simp[go_sem,h,K1.cell]<;>rfl) ?_);intro a hA
 refine ap [.string s.nm, .int .u32 (s.ep:Nat), .int .u32 (s.nx:Nat), .slice none 0 0] hA rfl rfl (by decide) (fun ev h=>by simp[go_sem,K1.cell];try first|exact⟨rfl,rfl⟩|rfl) rfl rfl (by rfl) (fun w1 g ev hb h=>by simp[go_sem,h.get 3 rfl,h.get 14 rfl,K1.cell,setAll,hb.cell,hb.frozen]) fun w3 a (K3:aI _ _ _ _) hz3 hb3 hA=> ?_
 replace K1:=K1.below hb3 K1.lt
 replace K2:=K2.below hb3 K2.lt
 replace hA:=hA.keepN [1,2,3]
 refine wN (nT (wS (wS (wR ?_))))
 revert a;(iterate 4 refine wo rfl rfl (by decide) (fun ev e h=>by simp[go_sem,h,K1.cell]<;>rfl) ?_);intro a hA
 replace hA:=hA.keepN [1,2,3,16,17,18]
 refine wN (nT (wB ?_))
 obtain⟨pb,hpb⟩:∃x,w2.heap.size=x:=⟨_,rfl⟩
 rw[hpb] at K3 hA
 have HB:=hb1.trans ((hb2.mono hb1.size).trans (hb3.mono (by omega)))
 have hpw:w.heap.size<pb:=by omega
 have hp1:w1.heap.size<pb:=by omega
 refine aQ (fun kk a wx=>∃(j:Nat) (v:Value) (M:List aU),j+kk=n∧At 64 [(1, .pointer (some ⟨w.heap.size,0,none⟩)),(2, .pointer (some ⟨w1.heap.size,0,none⟩)),(3, .pointer (some ⟨pb,0,none⟩)),(16, .slice A n c),(17, .int .i64 (n:Nat)),(18, .int .i64 (j:Nat))] a∧aI wx pb 41 #[.string s.nm, .int .u32 (s.ep:Nat), .int .u32 (s.nx:Nat),v]∧ac de (pb+1) wx v M∧M.map eS=(L.take j).map (fun x=>eS x.m)∧(∀m∈M,qE m)∧Below pb w3 wx∧pb<wx.heap.size) (n) ?_ ?_
 ·exact⟨0,_,[],by omega,hA,K3,ac.nil _ _,rfl,(fun _ h=>(by cases h)),(Below.refl _ _).mono (Nat.le_of_lt K3.lt),K3.lt⟩
 clear K3
 rintro kk a wx ⟨j,v,M,hjk,hA,K3,ho,hM,hcp,HL,hpx⟩
 refine wS (wR ?_)
 revert a;refine wo rfl rfl (by decide) (fun ev e h=>by simp[go_sem,h]<;>rfl) ?_;intro a hA
 replace hA:=hA.keepN [1,2,3,16,17,18,19]
 refine wN (nT (wS ?_))
 refine aH hA 19 _ rfl (fun hq=> ?yI) (fun hq=> ?nI)
 case yI=>
  have hlt:j<n:=by simp at hq;omega
  obtain⟨x,hx⟩:∃x,L[j]?=some x:=⟨_,List.getElem?_eq_getElem (by omega)⟩
  obtain⟨Av,cv,rfl,_⟩:=ho.reads
  have HBx:Below w.heap.size w wx:=HB.trans (HL.mono (Nat.le_of_lt hpw))
  have hxs:=hsm x (List.mem_of_getElem? hx)
  have hxr:=(hr.octs x (List.mem_of_getElem? hx) (x.m.a,x.m.b) (List.mem_singleton.2 rfl)).below HBx
  obtain⟨ad,rfl,hadl,kz,kk'⟩:=hr.cell hx
  have z0:wx.cell? (ad.add (j*6))=some (.int .u32 (x.m.uid:Nat)):=(HBx.cell (by rw[aD];exact hadl)).trans (kz _ rfl)
  have zz:∀d u,0<d→(mV x)[d]?=some u→wx.cell? ⟨(ad.add (j*6)).block,(ad.add (j*6)).off+d,none⟩=some u:=fun d u hd hu=>(HBx.cell (by show(ad.add _).block<_;rw[aD];exact hadl)).trans (kk' d _ hd hu)
  have z1:=zz 1 _ (by decide) rfl
  have z2:=zz 2 _ (by decide) rfl
  have z3:=zz 3 _ (by decide) rfl
  have z4:=zz 4 _ (by decide) rfl
  have z5:=zz 5 _ (by decide) rfl
  have jj0:(0:Int)≤(j:Int):=by omega
  have jj1:(j:Int)<(n:Int):=by omega
  have hwj:IntKind.i64.wrap ((j:Int)+1)=(j:Int)+1:=IntWalk.i64_in _ (by omega)
  refine wp_skip (nT (wS (wB (wS (wR ?_)))))
  revert a;(iterate 2 refine wo rfl rfl (by decide) (fun ev e h=>by simp[go_sem,h,z0,z1,z2,z3,z4,z5,jj0,jj1]<;>rfl) ?_);intro a hA
  refine ap [.int .u32 (x.m.uid:Nat), .int .i64 x.m.date, .int .i64 x.m.flags, .slice x.m.a x.m.b.length x.m.c, .int .u32 (x.ep:Nat), .int .i64 (x.at_:Nat)] hA rfl rfl (by decide) (fun ev h=>by simp[go_sem,z0,z1,z2,z3,z4,z5,jj0,jj1];try first|exact⟨rfl,rfl⟩|rfl) rfl rfl (by rfl) (fun w1 g ev hb h=>by simp[go_sem,h.get 5 rfl,h.get 21 rfl,z0,z1,z2,z3,z4,z5,jj0,jj1,setAll,hb.cell,hb.frozen]) fun w5 a (K5:aI _ _ _ _) hz5 hb5 hA=> ?_
  replace K3:=K3.below hb5 K3.lt
  replace ho:=ho.below hb5
  replace hxr:=hxr.below hb5
  replace HL:=HL.trans (hb5.mono (Nat.le_of_lt hpx))
  clear z0 z1 z2 z3 z4 z5 zz kz kk'
  replace hA:=hA.keepN [1,2,3,5,16,17,18]
  refine wN (nT (wS (wR ?_)))
  revert a;(iterate 2 refine wo rfl rfl (by decide) (fun ev e h=>by simp[go_sem,h,K5.cell]<;>rfl) ?_);intro a hA
  have hvlt:=World.ownsRow.lt ho.row
  refine ap [.int .u32 (x.m.uid:Nat), .int .i64 x.m.date, .int .i64 x.m.flags, .slice x.m.a x.m.b.length x.m.c] hA rfl rfl (by decide) (fun ev h=>by simp[go_sem,K5.cell];try first|exact⟨rfl,rfl⟩|rfl) rfl rfl (by rfl) (fun w1 g ev hb h=>by simp[go_sem,h.get 6 rfl,h.get 23 rfl,K5.cell,setAll,hb.cell,hb.frozen]) fun w6 a (K6:aI _ _ _ _) hz6 hb6 hA=> ?_
  replace K3:=K3.below hb6 K3.lt
  replace ho:=ho.below hb6
  replace hxr:=hxr.below hb6
  replace HL:=HL.trans (hb6.mono (by omega))
  replace hA:=hA.keepN [1,2,3,6,16,17,18]
  refine wN (nT (wS (wR ?_)))
  revert a;(iterate 2 refine wo rfl rfl (by decide) (fun ev e h=>by simp[go_sem,h,K6.cell]<;>rfl) ?_);intro a hA
  refine aC hA rfl rfl (by decide) (fun ev h=>aB Tryz.func79 (by kernel_rfl) rfl (h.f _) (by first|(simp only[mL,h.get 25 rfl,h.c]<;>rfl)|(simp[mL,h.get 25 rfl,h.c,K6.cell]<;>rfl))) (qQ x.m.a x.m.b.length x.m.c x.m.b rfl (by omega) _ hxr) ?_
  rintro e w7 ⟨cl,rfl,hcl,hb7⟩
  refine⟨_,rfl,fun a hA=> ?_⟩
  replace K3:=K3.below hb7 K3.lt
  replace ho:=ho.below hb7
  replace K6:=K6.below hb7 K6.lt
  replace HL:=HL.trans (hb7.mono (by omega))
  obtain⟨A8,c8,rfl,hR8⟩:=hcl.took
  have hcap8:=Cn hcl
  have hclt:=World.ownsRow.lt hcl
  have K60:=K6
  have hz7:=hb7.size
  revert a;refine wo rfl rfl (by decide) (fun ev e h=>by simp[go_sem,h,K6.cell]<;>rfl) ?_;intro a hA
  refine aq ([.int .u32 (x.m.uid:Nat), .int .i64 x.m.date, .int .i64 x.m.flags, .slice A8 x.m.b.length c8]) _ hA rfl rfl K6 (j:=3) (by rfl) (fun ev h=>by simp[go_sem,h.get 27 rfl,h.get 26 rfl,K6.cell,K6.cell,K6.frozen];try first|exact⟨rfl,rfl⟩|rfl) fun w8 (K6:aI _ _ _ _) hs8=> ?_
  replace HL:=hs8.below HL (by omega)
  replace ho:=ho.only hs8 (fun g hg=>by have:=(hvlt g hg).2;omega) (fun y hy p hp=>jA (ho.octs y hy p hp) K60 rfl)
  replace K3:=hs8.blk K3 (by omega)
  replace hR8:=cG hR8 hs8 K60 rfl
  replace hA:=hA.keepN [1,2,3,6,16,17,18]
  refine wN (nT (wR ?_))
  revert a;(iterate 3 refine wo rfl rfl (by decide) (fun ev e h=>by simp[go_sem,h,K6.cell,K3.cell]<;>rfl) ?_);intro a hA
  refine aP hA rfl rfl (by decide) (fun ev h=>by simp[go_sem,h.get 30 rfl,K6.cell,K3.cell];try first|exact⟨rfl,rfl⟩|rfl) fun w9 a (K9:aI _ _ _ _) hz9 hb9 hA=> ?_
  replace K3:=K3.below hb9 K3.lt
  replace ho:=ho.below hb9
  replace HL:=HL.trans (hb9.mono (by have:=hs8.size;omega))
  replace hR8:=(hR8.below hb9).more hb9.size
  have hrow:bu de w9 _ [(⟨x.m.uid,x.m.date,x.m.flags,A8,c8,x.m.b⟩:aU)]:=ey (s:=de) (x:=⟨x.m.uid,x.m.date,x.m.flags,A8,c8,x.m.b⟩) K9 (fun p hp=>by rw[List.mem_singleton.1 hp];exact hR8)
  have hML:M.length=j:=by
   have:=congrArg List.length hM
   rw[List.length_map,List.length_map,List.length_take] at this
   omega
  obtain⟨r,w10,hr10,ho10,hgr, -⟩:=eT ho hrow (fun g hg y hy p hp=>by
   rw[List.mem_singleton.1 hy] at hp
   rw[List.mem_singleton.1 hp]
   intro hn' ad' ha he
   replace ha:A8=some ad':=ha
   have h1:=(hvlt g hg).2
   have h2:=(hclt ad'.block (by rw[ha];rfl)).1
   omega) (by simp;omega) (by have:=hs8.size;omega)
  refine a7 hA rfl rfl (by decide) (fun ev h=>ao rfl (h.get 29 rfl) (h.get 31 rfl) hr10) fun a hA=> ?_
  have K310:=K3.grown hgr (fun e=>by have:=(hvlt pb e.symm).1;omega)
  have hHL:=dN HL ho hgr (by omega) (by have:=hs8.size;omega)
  obtain⟨A11,c11,rfl,_⟩:=ho10.reads
  have K3a:=K310
  revert a;refine wo rfl rfl (by decide) (fun ev e h=>by simp[go_sem,h,K6.cell,K3.cell]<;>rfl) ?_;intro a hA
  refine aq ([.string s.nm, .int .u32 (s.ep:Nat), .int .u32 (s.nx:Nat), .slice A11 (M++[(⟨x.m.uid,x.m.date,x.m.flags,A8,c8,x.m.b⟩:aU)]).length c11]) _ hA rfl rfl K310 (j:=3) (by rfl) (fun ev h=>by simp[go_sem,h.get 33 rfl,h.get 32 rfl,K6.cell,K3.cell,K310.cell,K310.frozen];try first|exact⟨rfl,rfl⟩|rfl) fun w11 (K310:aI _ _ _ _) hs11=> ?_
  replace hA:=hA.keepN [1,2,3,16,17,18]
  refine wN (nB (nT (wR ?_)))
  revert a;(iterate 2 refine wo rfl rfl (by decide) (fun ev e h=>by simp[go_sem,h,hwj]<;>rfl) ?_);intro a hA
  replace hA:=hA.keepN [1,2,3,16,17,18]
  refine wN (nT ?_)
  rw[show((j:Int)+1)=((j+1:Nat):Int) by omega] at hA
  exact⟨kk - 1,by omega,j+1,_,_,by omega,hA,K310,ho10.onlyK hs11 K3a (by decide) rfl,by rw[List.map_append,hM,List.take_add_one,hx,List.map_append];rfl,(fun m hm9=>(by
   rcases List.mem_append.1 hm9 with h9|h9
   ·exact hcp m h9
   ·rw[List.mem_singleton.1 h9];exact hcap8)),hs11.below hHL (Nat.le_refl _),K310.lt⟩
 case nI=>
  have hjn:j=n:=by simp at hq;omega
  rw[hjn,←hl,List.take_length] at hM
  obtain⟨Av,cv,rfl,_⟩:=ho.reads
  have K1x:=K1.below HL hpw
  have K2x:=K2.below HL hp1
  have HBx:Below w.heap.size w wx:=HB.trans (HL.mono (Nat.le_of_lt hpw))
  replace hA:=hA.keepN [1,2,3]
  refine wp_exit (xT (xT (xB (nT (wS (wS (wR ?_)))))))
  revert a;(iterate 2 refine wo rfl rfl (by decide) (fun ev e h=>by simp[go_sem,h,K1x.cell]<;>rfl) ?_);intro a hA
  replace hA:=hA.keepN [2,3,36]
  refine wN (nT ?_)
  refine aH hA 36 _ rfl (fun hq2=> ?yC) (fun hq2=> ?nC)
  case yC=>
   have hbx:bQ s=⟨s.nm,s.ep,s.nx,s.live.map dF⟩:=by unfold bQ;rw[hq2];rfl
   rw[hbx]
   refine wS (wR ?_)
   revert a;refine wo rfl rfl (by decide) (fun ev e h=>by simp[go_sem,h,K3.cell]<;>rfl) ?_;intro a hA
   have K20:=K2x
   refine bX [.string s.nm, .int .u32 (s.ep:Nat), .int .u32 (s.nx:Nat), .slice Av M.length cv] hA rfl rfl K2x (by rfl) (fun ev h=>by simp[go_sem,h.get 2 rfl,h.get 37 rfl,K3.cell,setAll,K2x.cell,K2x.frozen]) fun w12 (K2x:aI _ _ _ _) hs12=> ?_
   replace hA:=hA.keepN [2]
   refine wN (nT (wp_ret (rT ?_)))
   refine bodyPost_ret (by simp[results,Tryz.results38,go_sem,hA.env 2 _ rfl,K2x.cell];try first|exact⟨rfl,rfl⟩|rfl) hA.defers ?_
   refine⟨_,M,rfl,(ho.onlyK hs12 K20 (by decide) rfl).mono (by omega), ?_,hcp,hs12.below HBx (by omega)⟩
   rw[hM]
   have:=congrArg (List.map fun q:Nat×Nat×Int×Int×List UInt8×Nat=>(q.2.1,q.2.2.1,q.2.2.2.1,q.2.2.2.2.1)) hlv
   rw[List.map_map,List.map_map] at this
   exact this
  case nC=>
   have hbx:bQ s=⟨s.nm,aW s.ep,(s.live.length+1)%4294967296,fR 0 s.live⟩:=by unfold bQ;rw[hq2];rfl
   rw[hbx]
   refine wp_skip (nT (wS (wR ?_)))
   revert a;(iterate 2 refine wo rfl rfl (by decide) (fun ev e h=>by simp[go_sem,h,K3.cell]<;>rfl) ?_);intro a hA
   refine aC hA rfl rfl (by decide) (fun ev h=>aB Tryz.func65 (by kernel_rfl) rfl (h.f _) (by first|(simp only[mL,h.get 39 rfl,h.c]<;>rfl)|(simp[mL,h.get 39 rfl,h.c,K3.cell]<;>rfl))) (m7 s.ep hep _) ?_
   rintro e w12 ⟨rfl,rfl⟩
   refine⟨_,rfl,fun a hA=> ?_⟩
   have K30:=K3
   revert a;refine wo rfl rfl (by decide) (fun ev e h=>by simp[go_sem,h,K3.cell]<;>rfl) ?_;intro a hA
   refine aq ([.string s.nm, .int .u32 (aW s.ep:Nat), .int .u32 (s.nx:Nat), .slice Av M.length cv]) _ hA rfl rfl K3 (j:=1) (by rfl) (fun ev h=>by simp[go_sem,h.get 41 rfl,h.get 40 rfl,K3.cell,K3.cell,K3.frozen];try first|exact⟨rfl,rfl⟩|rfl) fun w13 (K3:aI _ _ _ _) hs13=> ?_
   replace ho:=ho.onlyK hs13 K30 (by decide) rfl
   replace HL:=hs13.below HL (Nat.le_refl _)
   have hMn:M.length=n:=by
    have:=congrArg List.length hM
    rw[List.length_map,List.length_map] at this
    omega
   rw[hMn] at K3 ho
   have hLn:s.live.length=n:=by have:=congrArg List.length hlv;rw[List.length_map,List.length_map] at this;omega
   replace hA:=hA.keepN [2,3]
   refine wN (nT (wS (wS (wR ?_))))
   revert a;(iterate 4 refine wo rfl rfl (by decide) (fun ev e h=>by simp[go_sem,h,K3.cell]<;>rfl) ?_);intro a hA
   replace hA:=hA.keepN [2,3,44,45]
   refine wN (nT (wB ?_))
   have hpl:pb<w13.heap.size:=K3.lt
   refine aQ (fun kk a wy=>∃(j:Nat) (M':List aU),j+kk=n∧At 64 [(2, .pointer (some ⟨w1.heap.size,0,none⟩)),(3, .pointer (some ⟨pb,0,none⟩)),(44, .int .i64 (n:Nat)),(45, .int .i64 (j:Nat))] a∧aI wy pb 41 #[.string s.nm, .int .u32 (aW s.ep:Nat), .int .u32 (s.nx:Nat), .slice Av n cv]∧ac de (pb+1) wy (.slice Av n cv) M'∧(∀i,M'[i]?=(M[i]?).map fun x=>if i<j then(⟨i+1,x.date,x.flags,x.a,x.c,x.b⟩:aU) else x)∧Below pb w3 wy) (n) ?_ ?_
   ·exact⟨0,M,by omega,hA,K3,ho,fun i=>by cases M[i]?<;>simp,HL⟩
   clear K3 ho HL hs13 K30 K2x K1x
   rintro kk a wy ⟨j,M',hjk,hA,K3,ho,hMi,HL⟩
   have hlen':M'.length=n:=by
    obtain⟨A',c',e,_⟩:=ho.reads
    injection e with _ e _
    exact e.symm
   refine wS (wR ?_)
   revert a;refine wo rfl rfl (by decide) (fun ev e h=>by simp[go_sem,h]<;>rfl) ?_;intro a hA
   replace hA:=hA.keepN [2,3,44,45,46]
   refine wN (nT (wS ?_))
   refine aH hA 46 _ rfl (fun hq3=> ?yJ) (fun hq3=> ?nJ)
   case yJ=>
    have hlt:j<n:=by simp at hq3;omega
    obtain⟨y,hy⟩:∃y,M'[j]?=some y:=⟨_,List.getElem?_eq_getElem (by omega)⟩
    obtain⟨g,c',hv,hgB,hglt⟩:=ho.at_ (by omega)
    injection hv with hv1 _ hv3
    subst hv1
    have z0:wy.cell? ⟨g,j*4,none⟩=some (.int .u32 (y.uid:Nat)):=ho.cellAt (j:=0) hy rfl
    have jj0:(0:Int)≤(j:Int):=by omega
    have jj1:(j:Int)<(n:Int):=by omega
    have hwu:IntKind.u32.wrap (j:Int)=(j:Int):=IntWalk.u32_in _ (by omega)
    have hwv:IntKind.u32.wrap ((j:Int)+1)=((j+1:Nat):Int):=by rw[IntWalk.u32_in _ (by omega)];omega
    have hwj:IntKind.i64.wrap ((j:Int)+1)=(j:Int)+1:=IntWalk.i64_in _ (by omega)
    obtain⟨h8,h9⟩:=ho.put1 (j:=0) (x:=(⟨j+1,y.date,y.flags,y.a,y.c,y.b⟩:aU)) (u:= .int .u32 ((j+1:Nat):Int)) hy (by decide) rfl rfl
    refine wp_skip (nT (wS (wB (wS (wR ?_)))))
    revert a;(iterate 2 refine wo rfl rfl (by decide) (fun ev e h=>by simp[go_sem,h,K3.cell,aS,jj0,jj1,hwu,hwv,z0,ho.frozenAt]<;>rfl) ?_);intro a hA
    replace hA:=hA.keepN [2,3,7,44,45]
    refine wN (nT (wR ?_))
    revert a;(iterate 4 refine wo rfl rfl (by decide) (fun ev e h=>by simp[go_sem,h,K3.cell,aS,jj0,jj1,hwu,hwv,z0,ho.frozenAt]<;>rfl) ?_);intro a hA
    refine a7 hA rfl rfl (by decide) (fun ev h=>by simp[go_sem,h.get 51 rfl,K3.cell,aS,jj0,jj1,hwu,hwv,z0,ho.frozenAt];try first|exact⟨rfl,rfl⟩|rfl) fun a hA=> ?_
    revert a;(iterate 3 refine wo rfl rfl (by decide) (fun ev e h=>by simp[go_sem,h,K3.cell,aS,jj0,jj1,hwu,hwv,z0,ho.frozenAt]<;>rfl) ?_);intro a hA
    refine jP hA rfl rfl (fun ev h=>by simp[go_sem,h.get 55 rfl,h.get 53 rfl,K3.cell,aS,jj0,jj1,hwu,hwv,z0,ho.frozenAt];try first|exact⟨rfl,rfl⟩|rfl) ?_
    replace hA:=hA.keepN [2,3,44,45]
    refine wN (nB (nT (wR ?_)))
    revert a;(iterate 2 refine wo rfl rfl (by decide) (fun ev e h=>by simp[go_sem,h,hwj]<;>rfl) ?_);intro a hA
    replace hA:=hA.keepN [2,3,44,45]
    refine wN (nT ?_)
    rw[show((j:Int)+1)=((j+1:Nat):Int) by omega] at hA
    refine⟨kk - 1,by omega,j+1,_,by omega,hA,K3.grown h9 (fun e=>by injection e with e;omega),h8, ?_,HL.grown h9 (by have:=HL.size;have:=hb3.size;omega) (fun k e=>by injection e with e;omega)⟩
    intro i
    rw[List.getElem?_set]
    by_cases hij:j=i
    ·subst hij
     rw[if_pos rfl,if_pos (by omega)]
     have:=hMi j
     rw[hy] at this
     cases hm:M[j]? with
     |none=>rw[hm] at this;cases this
     |some x=>
      rw[hm,Option.map_some,if_neg (by omega)] at this
      injection this with this
      subst this
      rw[Option.map_some,if_pos (by omega)]
    ·rw[if_neg hij,hMi i]
     cases M[i]? with
     |none=>rfl
     |some x=>
      rw[Option.map_some,Option.map_some]
      by_cases h:i<j
      ·rw[if_pos h,if_pos (by omega)]
      ·rw[if_neg h,if_neg (by omega)]
   case nJ=>
    have hjn:j=n:=by simp at hq3;omega
    subst hjn
    have hwu:IntKind.u32.wrap (j:Int)=(j:Int):=IntWalk.u32_in _ (by omega)
    have hwv:IntKind.u32.wrap ((j:Int)+1)=(((s.live.length+1)%4294967296:Nat):Int):=by rw[IntWalk.u32_in _ (by omega),hLn];omega
    have K2x:=K2.below HL hp1
    have HBx:Below w.heap.size w wy:=HB.trans (HL.mono (Nat.le_of_lt hpw))
    replace hA:=hA.keepN [2,3]
    refine wp_exit (xT (xT (xB (nT (wS (wR ?_))))))
    revert a;(iterate 3 refine wo rfl rfl (by decide) (fun ev e h=>by simp[go_sem,h,K3.cell,hwu,hwv]<;>rfl) ?_);intro a hA
    refine a7 hA rfl rfl (by decide) (fun ev h=>by simp[go_sem,h.get 59 rfl,K3.cell,hwu,hwv];try first|exact⟨rfl,rfl⟩|rfl) fun a hA=> ?_
    revert a;(iterate 2 refine wo rfl rfl (by decide) (fun ev e h=>by simp[go_sem,h,K3.cell,hwu,hwv]<;>rfl) ?_);intro a hA
    have K30:=K3
    refine aq ([.string s.nm, .int .u32 (aW s.ep:Nat), .int .u32 ((s.live.length+1)%4294967296:Nat), .slice Av j cv]) _ hA rfl rfl K3 (j:=2) (by rfl) (fun ev h=>by simp[go_sem,h.get 62 rfl,h.get 61 rfl,K3.cell,hwu,hwv,K3.cell,K3.frozen];try first|exact⟨rfl,rfl⟩|rfl) fun w14 (K3:aI _ _ _ _) hs14=> ?_
    replace ho:=ho.onlyK hs14 K30 (by decide) rfl
    replace HBx:=hs14.below HBx (by omega)
    replace K2x:=hs14.blk K2x (by omega)
    replace hA:=hA.keepN [2,3]
    refine wN (nT (wS (wR ?_)))
    revert a;refine wo rfl rfl (by decide) (fun ev e h=>by simp[go_sem,h,K3.cell]<;>rfl) ?_;intro a hA
    have K20:=K2x
    refine bX [.string s.nm, .int .u32 (aW s.ep:Nat), .int .u32 ((s.live.length+1)%4294967296:Nat), .slice Av j cv] hA rfl rfl K2x (by rfl) (fun ev h=>by simp[go_sem,h.get 2 rfl,h.get 63 rfl,K3.cell,setAll,K2x.cell,K2x.frozen]) fun w15 (K2x:aI _ _ _ _) hs15=> ?_
    replace hA:=hA.keepN [2]
    refine wN (nT (wp_ret ?_))
    refine bodyPost_ret (by simp[results,Tryz.results38,go_sem,hA.env 2 _ rfl,K2x.cell];try first|exact⟨rfl,rfl⟩|rfl) hA.defers ?_
    have hcp':∀m∈M',qE m:=fun m hm9=>by
     obtain⟨i,hi,he⟩:=List.getElem_of_mem hm9
     have h9:=hMi i
     rw[List.getElem?_eq_getElem hi,he] at h9
     cases hMx:M[i]? with
     |none=>rw[hMx] at h9;cases h9
     |some y=>
      have hy9:=hcp y (List.mem_of_getElem? hMx)
      rw[hMx,Option.map_some] at h9
      injection h9 with h9
      rw[h9]
      split
      ·exact hy9
      ·exact hy9
    refine⟨_,M',rfl,(ho.onlyK hs15 K20 (by decide) rfl).mono (by omega), ?_,hcp',hs15.below HBx (by omega)⟩
    refine List.ext_getElem? fun i=> ?_
    rw[ou,List.getElem?_map,hMi i]
    have e1:(M[i]?).map eS=(s.live[i]?).map dF:=by
     rw[←List.getElem?_map,←List.getElem?_map,hM]
     congr 1
     have:=congrArg (List.map fun q:Nat×Nat×Int×Int×List UInt8×Nat=>(q.2.1,q.2.2.1,q.2.2.2.1,q.2.2.2.2.1)) hlv
     rw[List.map_map,List.map_map] at this
     exact this
    cases hm:M[i]? with
    |none=>
     rw[hm] at e1
     cases hn2:s.live[i]? with
     |none=>rfl
     |some q=>rw[hn2] at e1;cases e1
    |some x=>
     rw[hm] at e1
     have hi:i<j:=by have:=(List.getElem?_eq_some_iff.1 hm).1;omega
     cases hn2:s.live[i]? with
     |none=>rw[hn2] at e1;cases e1
     |some q=>
      rw[hn2] at e1
      injection e1 with e1
      unfold eS dF at e1
      simp only[Prod.mk.injEq] at e1
      rw[Option.map_some,Option.map_some,Option.map_some,if_pos hi]
      unfold eS
      rw[show(0+i+1)%4294967296=i+1 by omega]
      simp[e1]
theorem vK {d:aN} {n:Nat} (h:¬(ay d bJ n).2=0):bS d n=(mJ,(ay d bJ n).2):=by unfold bS;rw[if_neg h]
theorem uC {d:aN} {n:Nat} (h:(ay d bJ n).2=0) (hw:fX d n=false):bS d n=(mJ,9):=by
 unfold bS
 rw[if_pos h,if_neg (fun hh=>by rw[hw] at hh;cases hh.1)]
theorem yk {d:aN} {n:Nat} (h:(ay d bJ n).2=0) (hw:mt (boxF (aT (ay d bJ n).1) (b8 (cJ d n)).2)=false):bS d n=(mJ,9):=by
 unfold bS
 rw[if_pos h,if_neg (fun hh=>by rw[hw] at hh;cases hh.2)]
theorem Ae {d:aN} {n:Nat} (h:(ay d bJ n).2=0) (hw:fX d n=true) (hr:mt (boxF (aT (ay d bJ n).1) (b8 (cJ d n)).2)=true):bS d n=(boxF (aT (ay d bJ n).1) (b8 (cJ d n)).2,0):=by
 unfold bS
 rw[if_pos h,if_pos ⟨hw,hr⟩]
structure ja (B:Nat) (w:World) (v:Value) (b:eU):Prop where
 ex:∃V M,v= .agg #[.string b.nm, .int .u32 (b.ep:Nat), .int .u32 (b.nx:Nat),V]∧ac de B w V M∧M.map eS=b.msgs∧∀m∈M,qE m
theorem ja.zero (B:Nat) (w:World):ja B w (.agg #[.string ⟨#[]⟩, .int .u32 0, .int .u32 0, .slice none 0 0]) mJ:=⟨_,[],rfl,ac.nil _ _,rfl,fun _ h=>(by cases h)⟩
theorem o9 {l:dW} (h:(dQ l).err=0):iy (al l.s) l.s.nm=false:=by
 cases hn:iy (al l.s) l.s.nm with
 |false=>rfl
 |true=>
  exfalso
  unfold oS.err dQ at h
  rw[hn,cond_true] at h
  revert h
  decide
theorem qL {l:dW} (h:al l.s=true) (fs:List aM):boxF l fs=⟨l.s.nm,l.s.ep,l.s.nx,lV fs (l.s.live.map dF)⟩:=by
 unfold boxF bQ
 rw[h]
 rfl
theorem F4 {M:List aU} {fs:List aM} {j:Nat} {m:aU} {f:aM} (hm:M[j]?=some m) (hf:fs[j]?=some f) (hl:fs.length=M.length):
 let g:=fun(m:aU) (f:aM)=>(⟨m.uid,m.date,f.2,m.a,m.c,m.b⟩:aU)
 (List.zipWith g (M.take j) (fs.take j)++M.drop j)[j]?=some m∧(List.zipWith g (M.take j) (fs.take j)++M.drop j).set j (g m f)=List.zipWith g (M.take (j+1)) (fs.take (j+1))++M.drop (j+1):=by
 intro g
 have hj:=(List.getElem?_eq_some_iff.1 hm).1
 have he:=(List.getElem?_eq_some_iff.1 hm).2
 have hl2:(List.zipWith g (M.take j) (fs.take j)).length=j:=by rw[List.length_zipWith,List.length_take,List.length_take];omega
 have hd:M.drop j=m::M.drop (j+1):=by rw[List.drop_eq_getElem_cons hj,he]
 have ht:List.zipWith g (M.take (j+1)) (fs.take (j+1))=List.zipWith g (M.take j) (fs.take j)++[g m f]:=by
  rw[List.take_add_one,List.take_add_one,hm,hf]
  rw[List.zipWith_append (by rw[List.length_take,List.length_take];omega)]
  rfl
 rw[ht,hd]
 refine⟨?_, ?_⟩
 ·rw[List.getElem?_append_right (by omega),hl2,Nat.sub_self];rfl
 ·rw[List.set_append_right _ _ (by omega),hl2,Nat.sub_self]
  simp
theorem F3 (M:List aU) (fs:List aM) (N:List aX) (h:M.map eS=N.map dF):(List.zipWith (fun(m:aU) (f:aM)=>(⟨m.uid,m.date,f.2,m.a,m.c,m.b⟩:aU)) M fs).map eS=lV fs (N.map dF):=by
 rw[←h]
 unfold lV
 rw[List.map_zipWith,List.zipWith_map_left]
 rfl
theorem Fd {M:List aU} {fs:List aM} (h:∀m∈M,qE m):∀m∈List.zipWith (fun(m:aU) (f:aM)=>(⟨m.uid,m.date,f.2,m.a,m.c,m.b⟩:aU)) M fs,qE m:=fun m hm=>by
 obtain⟨i,hi,he⟩:=List.getElem_of_mem hm
 rw[List.getElem_zipWith] at he
 rw[←he]
 have hi2:i<M.length:=by rw[List.length_zipWith] at hi;omega
 exact h M[i] (List.getElem_mem hi2)
theorem AE (nm:ByteArray) (e nx:Nat):∀(M:List aU) (ms:List mH),M.map eS=ms→fU nm e nx (ms.map kr)=fU nm e nx M:=by
 intro M ms h
 subst h
 unfold fU ix
 rw[List.length_map,List.length_map]
 congr 1
 have hlast:∀j,lG (List.map kr (List.map eS M)) j=lG M j:=fun j=>by
  cases j with
  |zero=>rfl
  |succ k=>
   show(match (List.map kr (List.map eS M))[k]? with|some y=>y.uid|none=>0)=(match M[k]? with|some y=>y.uid|none=>0)
   rw[List.getElem?_map,List.getElem?_map]
   cases M[k]?<;>rfl
 refine List.all_congr rfl fun j=> ?_
 unfold BN
 rw[List.getElem?_map,List.getElem?_map]
 cases M[j]? with
 |none=>rfl
 |some m=>
  show iX nx _ j (kr (eS m))=iX nx M j m
  unfold iX
  rw[hlast]
  rfl
theorem Eh {B:Nat} {w:World} {A:Option Addr} {n c:Nat} {M:List aU} (h:ac de B w (.slice A n c) M) (hu:∀m∈M,m.uid<4294967296) (hc:∀m∈M,qE m):yr w A n M:=by
 obtain⟨A9,c9,e9,hr9, -⟩:=h.reads
 injection e9 with e1 e2 e3
 subst e1 e2
 exact⟨rfl,hr9.row,fun m hm=>hr9.octs m hm (m.a,m.b) (List.mem_singleton.2 rfl),hu,hc⟩
theorem rt {w:World} {p mb N:Nat} {d:aN} (h:Dk w p mb d N) (n:Nat) (hn:n<100):
 Calls Tryz.prog 12 #[.pointer (some ⟨p,0,none⟩), .int .i64 (n:Nat)] w fun ev w'=>∃v,ev= .returned (.tuple #[v, .int .i64 (bS d n).2])∧ja w.heap.size w' v (bS d n).1∧Below w.heap.size w w':=by
 have hwf:=h.wf
 refine aK 119 Tryz.func12 rfl rfl (Nat.le_of_ble_eq_true rfl) ?_
 intro a hA;replace hA:=hA.norm
 refine wS (wR ?_)
 refine aP hA rfl rfl (by decide) (fun ev h=>by simp[go_sem];try first|exact⟨rfl,rfl⟩|rfl) fun w1 a (K1:aI _ _ _ _) hz1 hb1 hA=> ?_
 have HB:=hb1
 revert a;refine wo rfl rfl (by decide) (fun ev e h=>by simp[go_sem,h]<;>rfl) ?_;intro a hA
 replace hA:=hA.keepN [0,1,4]
 refine wN (nT (wS (wS (wR ?_))))
 revert a;(iterate 2 refine wo rfl rfl (by decide) (fun ev e h=>by simp[go_sem,h]<;>rfl) ?_);intro a hA
 replace hA:=hA.keepN [0,1,4,20]
 refine wN (nT ?_)
 refine aH hA 20 _ rfl (fun hq=> ?yA) (fun hq=> ?nA)
 case yA=>cases hq
 case nA=>
  refine wp_skip (nT (wS (wR ?_)))
  revert a;(iterate 2 refine wo rfl rfl (by decide) (fun ev e h=>by simp[go_sem,h]<;>rfl) ?_);intro a hA
  refine aC hA rfl rfl (by decide) (fun ev h=>aB Tryz.func32 (by kernel_rfl) rfl (h.f _) (by first|(simp only[mL,h.get 24 rfl,h.c]<;>rfl)|(simp[mL,h.get 24 rfl,h.c]<;>rfl))) (kx bJ (by decide) n hn _) ?_
  rintro e w2 ⟨rfl,hb2⟩
  refine⟨_,rfl,fun a hA=> ?_⟩
  replace K1:=K1.below hb2 K1.lt
  replace HB:=HB.trans (hb2.mono HB.size)
  refine aC hA rfl rfl (by decide) (fun ev h=>aB Tryz.func24 (by kernel_rfl) rfl (h.f _) (by first|(simp only[mL,h.get 23 rfl,h.get 25 rfl,h.c]<;>rfl)|(simp[mL,h.get 23 rfl,h.get 25 rfl,h.c]<;>rfl))) ((h.below HB).read (aR bJ n) (cI (by decide) hn)) ?_
  rintro e w3 ⟨Ab,cb,rfl,hrb,hcb,hb3⟩
  refine⟨_,rfl,fun a hA=> ?_⟩
  replace K1:=K1.below hb3 K1.lt
  replace HB:=HB.trans (hb3.mono HB.size)
  have hblen:=jv hwf (aR bJ n)
  obtain⟨bl,hbl⟩:∃x,(bv d (aR bJ n)).1=x:=⟨_,rfl⟩
  obtain⟨be,hbe⟩:∃x,(bv d (aR bJ n)).2=x:=⟨_,rfl⟩
  have hfl:(ay d bJ n).1=bl:=hbl
  have hfe:(ay d bJ n).2=be:=hbe
  rw[hbl] at hA hrb hcb hblen
  rw[hbe] at hA
  obtain⟨q,hbq⟩:∃x,bl.length=x:=⟨_,rfl⟩
  rw[hbq] at hA hrb hcb hblen
  revert a;(iterate 5 refine wo rfl rfl (by decide) (fun ev e h=>by simp[go_sem,h]<;>rfl) ?_);intro a hA
  replace hA:=hA.keepN [0,1,4,6,7]
  refine wN (nT (wS (wS (wR ?_))))
  revert a;(iterate 2 refine wo rfl rfl (by decide) (fun ev e h=>by simp[go_sem,h]<;>rfl) ?_);intro a hA
  replace hA:=hA.keepN [0,1,4,6,7,30]
  refine wN (nT ?_)
  refine aH hA 30 _ rfl (fun hq1=> ?yB) (fun hq1=> ?nB)
  case yB=>
   have hne:¬be=0:=by simpa using hq1
   refine wS (wR ?_)
   revert a;(iterate 2 refine wo rfl rfl (by decide) (fun ev e h=>by simp[go_sem,h]<;>rfl) ?_);intro a hA
   refine bX [.string ⟨#[]⟩, .int .u32 0, .int .u32 0, .slice none 0 0] hA rfl rfl K1 (by rfl) (fun ev h=>by simp[go_sem,h.get 4 rfl,h.get 31 rfl,setAll,K1.cell,K1.frozen]) fun w4 (K1:aI _ _ _ _) hs4=> ?_
   revert a;refine wo rfl rfl (by decide) (fun ev e h=>by simp[go_sem,h,K1.cell]<;>rfl) ?_;intro a hA
   replace hA:=hA.keepN [4,5]
   refine wN (nT (wp_ret (rT ?_)))
   refine bodyPost_ret (by simp[results,Tryz.results12,go_sem,hA.env 4 _ rfl,hA.env 5 _ rfl,K1.cell];try first|exact⟨rfl,rfl⟩|rfl) hA.defers ?_
   rw[vK (by rw[hfe];exact hne),hfe]
   exact⟨_,rfl,ja.zero _ _,hs4.below HB (Nat.le_refl _)⟩
  case nB=>
   have hbe0:be=0:=by simpa using hq1
   have hok:(ay d bJ n).2=0:=by rw[hfe,hbe0]
   refine wp_skip (nT (wS (wR ?_)))
   revert a;refine wo rfl rfl (by decide) (fun ev e h=>by simp[go_sem,h]<;>rfl) ?_;intro a hA
   refine aC hA rfl rfl (by decide) (fun ev h=>aB Tryz.func26 (by kernel_rfl) rfl (h.f _) (by first|(simp only[mL,h.get 33 rfl,h.c]<;>rfl)|(simp[mL,h.get 33 rfl,h.c]<;>rfl))) (om Ab q cb bl hbq hcb hblen _ (h.below HB).env hrb) ?_
   rintro e w4 ⟨V,rfl,hV,hb4⟩
   refine⟨_,rfl,fun a hA=> ?_⟩
   replace K1:=K1.below hb4 K1.lt
   replace HB:=HB.trans (hb4.mono HB.size)
   have HL:=Below.refl w4.heap.size w4
   have hV0:=hV
   obtain⟨l,hl⟩:∃l,aT bl=l:=⟨_,rfl⟩
   rw[hl] at hV hV0
   obtain⟨A,c,L,rfl,hrL,hlv⟩:=hV.ex
   obtain⟨b1,b2,b3,b4,b5,b6,b7⟩:=uX hV0.few hV0.ep hV0.nx fun y hy=>(hV0.each y hy).2.2
   obtain⟨cl,hcl⟩:∃b,al l.s=b:=⟨_,rfl⟩
   obtain⟨tn,htn⟩:∃t,l.torn=t:=⟨_,rfl⟩
   rw[hcl,htn] at hA
   refine ap [.string l.s.nm, .int .u32 (l.s.ep:Nat), .int .u32 (l.s.nx:Nat), .slice A L.length c, .int .i64 (tn:Nat), .bool cl] hA rfl rfl (by decide) (fun ev h=>by simp[go_sem];try first|exact⟨rfl,rfl⟩|rfl) rfl rfl (by rfl) (fun w1 g ev hb h=>by simp[go_sem,h.get 8 rfl,h.get 34 rfl,setAll,hb.cell,hb.frozen]) fun w5 a (K5:aI _ _ _ _) hz5 hb5 hA=> ?_
   replace K1:=K1.below hb5 K1.lt
   replace hV0:=hV0.below hb5
   replace HB:=HB.trans (hb5.mono HB.size)
   replace HL:=HL.trans (hb5.mono HL.size)
   replace hA:=hA.keepN [0,1,4,6,8]
   refine wN (nT (wS (wR ?_)))
   revert a;refine wo rfl rfl (by decide) (fun ev e h=>by simp[go_sem,h,K5.cell]<;>rfl) ?_;intro a hA
   have hof:=uh hV0
   rw[hcl,htn] at hof
   refine aC hA rfl rfl (by decide) (fun ev h=>aB Tryz.func33 (by kernel_rfl) rfl (h.f _) (by first|(simp only[mL,h.get 36 rfl,h.c]<;>rfl)|(simp[mL,h.get 36 rfl,h.c,K5.cell]<;>rfl))) (hof) ?_
   rintro e w6 ⟨v,u,rfl,hov,hou,hb6⟩
   refine⟨_,rfl,fun a hA=> ?_⟩
   replace K1:=K1.below hb6 K1.lt
   replace K5:=K5.below hb6 K5.lt
   replace HB:=HB.trans (hb6.mono HB.size)
   replace HL:=HL.trans (hb6.mono HL.size)
   revert a;(iterate 3 refine wo rfl rfl (by decide) (fun ev e h=>by simp[go_sem,h,K5.cell]<;>rfl) ?_);intro a hA
   refine aP hA rfl rfl (by decide) (fun ev h=>by simp[go_sem,K5.cell];try first|exact⟨rfl,rfl⟩|rfl) fun w7 a (K7:aI _ _ _ _) hz7 hb7 hA=> ?_
   refine aP hA rfl rfl (by decide) (fun ev h=>by simp[go_sem,K5.cell];try first|exact⟨rfl,rfl⟩|rfl) fun w8 a (K8:aI _ _ _ _) hz8 hb8 hA=> ?_
   replace K7:=K7.below hb8 K7.lt
   have hb78:=hb7.trans (hb8.mono hb7.size)
   have hxnm:(dQ l).nm.size≤60:=by
    unfold dQ
    cases iy (al l.s) l.s.nm with
    |true=>exact Nat.zero_le _
    |false=>exact hV0.nm
   replace hov:=hov.below hb78
   replace K1:=K1.below hb78 K1.lt
   replace K5:=K5.below hb78 K5.lt
   replace HB:=HB.trans (hb78.mono HB.size)
   replace HL:=HL.trans (hb78.mono HL.size)
   obtain⟨Av,cv,rfl, -, -⟩:=hov.reads
   obtain⟨Au,cu,rfl, -, -⟩:=hou.reads
   obtain⟨X,hX⟩:∃X,dQ l=X:=⟨_,rfl⟩
   obtain⟨F,hF⟩:∃F,gZ l=F:=⟨_,rfl⟩
   have hnm0:=fun h=>o9 (l:=l) h
   rw[hX] at hov hxnm b1 b2 b3 b4 hnm0 hA
   rw[hF] at hA
   obtain⟨nx9,hnx⟩:∃n,X.l.length=n:=⟨_,rfl⟩
   rw[hnx] at hA hov
   obtain⟨nf9,hnf9⟩:∃n,F.2.length=n:=⟨_,rfl⟩
   rw[hnf9] at hA
   have s1:=hb1.size
   have s2:=hb2.size
   have s3:=hb3.size
   have s4:=hb4.size
   have s5:=hb5.size
   have s6:=hb6.size
   have K70:=K7
   refine bX [.string X.nm, .int .u32 (X.e:Nat), .int .u32 (X.nx:Nat), .int .i64 X.u, .slice Av nx9 cv] hA rfl rfl K7 (by rfl) (fun ev h=>by simp[go_sem,h.get 9 rfl,h.get 38 rfl,K5.cell,setAll,K7.cell,K7.frozen]) fun w9 (K7:aI _ _ _ _) hs9=> ?_
   replace hov:=hov.onlyK hs9 K70 (by decide) rfl
   replace K8:=hs9.blk K8 (by omega)
   replace K1:=hs9.blk K1 (by omega)
   replace K5:=hs9.blk K5 (by omega)
   replace HB:=hs9.below HB (by omega)
   replace HL:=hs9.below HL (by omega)
   have K80:=K8
   refine bX [.int .u32 (F.1:Nat), .slice Au nf9 cu] hA rfl rfl K8 (by rfl) (fun ev h=>by simp[go_sem,h.get 10 rfl,h.get 39 rfl,K5.cell,setAll,K8.cell,K8.frozen]) fun w10 (K8:aI _ _ _ _) hs10=> ?_
   replace hov:=hov.onlyK hs10 K80 (by decide) rfl
   replace K7:=hs10.blk K7 (by omega)
   replace K1:=hs10.blk K1 (by omega)
   replace K5:=hs10.blk K5 (by omega)
   replace HB:=hs10.below HB (by omega)
   replace HL:=hs10.below HL (by omega)
   have hrv:bu CA w10 Av X.l:=by
    obtain⟨A9,c9,e9,hr9, -⟩:=hov.reads
    injection e9 with e1 e2 e3
    rw[e1]
    exact hr9
   replace hA:=hA.keepN [0,1,4,6,8,9]
   refine wN (nT (wS (wR ?_)))
   revert a;refine wo rfl rfl (by decide) (fun ev e h=>by simp[go_sem,h,K7.cell]<;>rfl) ?_;intro a hA
   have hD10:=h.below HB
   refine aC hA rfl rfl (by decide) (fun ev h=>aB Tryz.func34 (by kernel_rfl) rfl (h.f _) (by first|(simp only[mL,h.get 41 rfl,h.c]<;>rfl)|(simp[mL,h.get 41 rfl,h.c,K7.cell]<;>rfl))) (kQ X.nm Av cv nx9 X.e X.nx X.u X.l w10 hD10.env.max hD10.env.big.2.2 (by omega) b4 b1 b2 hnx (by omega) (by rw[←hnx];exact hrv.row)) ?_
   rintro e w11 ⟨r,rfl,hor,hb11⟩
   refine⟨_,rfl,fun a hA=> ?_⟩
   replace K1:=K1.below hb11 K1.lt
   replace K5:=K5.below hb11 K5.lt
   replace K7:=K7.below hb11 K7.lt
   replace hrv:=hrv.below hb11
   replace HB:=HB.trans (hb11.mono HB.size)
   replace HL:=HL.trans (hb11.mono HL.size)
   obtain⟨ie,hie⟩:∃x,X.err=x:=⟨_,rfl⟩
   obtain⟨ip,hip⟩:∃x,X.page=x:=⟨_,rfl⟩
   rw[show me X.nm X.e X.nx X.u X.l=ie from hie] at hA
   rw[show jI X.nm X.e X.nx X.u X.l=ip from hip] at hor
   have hwo:fX d n=((ie==0)&&cl&&(tn==q)&&jT (cJ d n)==0&&(ip==(ay d ct n).1)&&tz X (b8 (cJ d n))):=by
    unfold fX
    rw[hfl,hl,hX,hie,hip,hcl,htn,hbq]
   revert a;(iterate 5 refine wo rfl rfl (by decide) (fun ev e h=>by simp[go_sem,h,K5.cell]<;>rfl) ?_);intro a hA
   replace hA:=hA.keepN [0,1,4,6,7,8,9,11]
   refine wN (nT (wS (wS (wR ?_))))
   revert a;(iterate 3 refine wo rfl rfl (by decide) (fun ev e h=>by simp[go_sem,h,K5.cell]<;>rfl) ?_);(iterate 3 refine wg _ rfl rfl rfl rfl (by decide) (fun hq ev e h=>by simp[go_sem,h,↓aL (aF hq),K5.cell]<;>rfl) ?_);refine kj rfl rfl (by decide) rfl rfl rfl ?_;refine wo rfl rfl (by decide) (fun ev e h=>by simp[go_sem,h,K5.cell]<;>rfl) ?_;(iterate 2 refine wg _ rfl rfl rfl rfl (by decide) (fun hq ev e h=>by simp[go_sem,h,↓aL (aF hq),K5.cell]<;>rfl) ?_);intro a hA
   replace hA:=hA.keepN [0,1,4,6,8,9,11,52,54]
   revert a;(iterate 3 refine wg _ rfl rfl rfl rfl (by decide) (fun hq ev e h=>by simp[go_sem,h,↓aL (aF hq),K5.cell]<;>rfl) ?_);refine kj rfl rfl (by decide) rfl rfl rfl ?_;intro a hA
   replace hA:=hA.keepN [0,1,4,8,9,11,58]
   refine wN (nT ?_)
   refine aH hA 58 _ rfl (fun hq2=> ?yC) (fun hq2=> ?nC)
   case yC=>
    have hbad:fX d n=false:=by
     rw[hwo,Bool.eq_false_iff]
     intro hw
     simp only[Bool.and_eq_true,beq_iff_eq] at hw
     obtain⟨⟨⟨⟨⟨a1,a2⟩,a3⟩,a4⟩,a5⟩,a6⟩:=hw
     rw[a1,a2,a3] at hq2
     simp at hq2
    refine wS (wR ?_)
    revert a;refine wo rfl rfl (by decide) (fun ev e h=>by simp[go_sem,h,K5.cell]<;>rfl) ?_;intro a hA
    refine bX [.string ⟨#[]⟩, .int .u32 0, .int .u32 0, .slice none 0 0] hA rfl rfl K1 (by rfl) (fun ev h=>by simp[go_sem,h.get 4 rfl,h.get 59 rfl,K5.cell,setAll,K1.cell,K1.frozen]) fun w12 (K1:aI _ _ _ _) hs12=> ?_
    revert a;refine wo rfl rfl (by decide) (fun ev e h=>by simp[go_sem,h,K1.cell]<;>rfl) ?_;intro a hA
    replace hA:=hA.keepN [4,5]
    refine wN (nT (wp_ret (rT ?_)))
    refine bodyPost_ret (by simp[results,Tryz.results12,go_sem,hA.env 4 _ rfl,hA.env 5 _ rfl,K1.cell];try first|exact⟨rfl,rfl⟩|rfl) hA.defers ?_
    rw[uC hok hbad]
    exact⟨_,rfl,ja.zero _ _,hs12.below HB (Nat.le_refl _)⟩
   case nC=>
    have hgood:ie=0∧cl=true∧tn=q:=by
     simp at hq2
     refine⟨hq2.1.1,hq2.1.2, ?_⟩
     have:=hq2.2
     omega
    obtain⟨hie0,hclt,htq⟩:=hgood
    refine wp_skip (nT (wS (wR ?_)))
    revert a;(iterate 2 refine wo rfl rfl (by decide) (fun ev e h=>by simp[go_sem,h,K5.cell]<;>rfl) ?_);intro a hA
    refine aC hA rfl rfl (by decide) (fun ev h=>aB Tryz.func32 (by kernel_rfl) rfl (h.f _) (by first|(simp only[mL,h.get 62 rfl,h.c]<;>rfl)|(simp[mL,h.get 62 rfl,h.c,K5.cell]<;>rfl))) (kx ct (by decide) n hn _) ?_
    rintro e w12 ⟨rfl,hb12⟩
    refine⟨_,rfl,fun a hA=> ?_⟩
    have HB12:=HB.trans (hb12.mono HB.size)
    refine aC hA rfl rfl (by decide) (fun ev h=>aB Tryz.func24 (by kernel_rfl) rfl (h.f _) (by first|(simp only[mL,h.get 61 rfl,h.get 63 rfl,h.c]<;>rfl)|(simp[mL,h.get 61 rfl,h.get 63 rfl,h.c,K5.cell]<;>rfl))) ((h.below HB12).read (aR ct n) (cI (by decide) hn)) ?_
    rintro e w13 ⟨Ap,cp,rfl,hrp,hcp,hb13⟩
    refine⟨_,rfl,fun a hA=> ?_⟩
    have hb123:=hb12.trans (hb13.mono hb12.size)
    replace hor:=dv hor hb123
    replace K1:=K1.below hb123 K1.lt
    replace K5:=K5.below hb123 K5.lt
    replace K7:=K7.below hb123 K7.lt
    replace hrv:=hrv.below hb123
    replace HB:=HB.trans (hb123.mono HB.size)
    replace HL:=HL.trans (hb123.mono HL.size)
    obtain⟨pl,hpl⟩:∃x,(bv d (aR ct n)).1=x:=⟨_,rfl⟩
    obtain⟨pe,hpe⟩:∃x,(bv d (aR ct n)).2=x:=⟨_,rfl⟩
    have hfp:(ay d ct n).1=pl:=hpl
    rw[hpl] at hA hrp
    rw[hpe] at hA
    rw[hfp] at hwo
    revert a;(iterate 5 refine wo rfl rfl (by decide) (fun ev e h=>by simp[go_sem,h,K5.cell]<;>rfl) ?_);intro a hA
    replace hA:=hA.keepN [0,1,4,8,9,11,12]
    refine wN (nT (wS (wR ?_)))
    revert a;(iterate 2 refine wo rfl rfl (by decide) (fun ev e h=>by simp[go_sem,h,K5.cell]<;>rfl) ?_);intro a hA
    refine aC hA rfl rfl (by decide) (fun ev h=>aB Tryz.func32 (by kernel_rfl) rfl (h.f _) (by first|(simp only[mL,h.get 69 rfl,h.c]<;>rfl)|(simp[mL,h.get 69 rfl,h.c,K5.cell]<;>rfl))) (kx cV (by decide) n hn _) ?_
    rintro e w14 ⟨rfl,hb14⟩
    refine⟨_,rfl,fun a hA=> ?_⟩
    have HB14:=HB.trans (hb14.mono HB.size)
    refine aC hA rfl rfl (by decide) (fun ev h=>aB Tryz.func24 (by kernel_rfl) rfl (h.f _) (by first|(simp only[mL,h.get 68 rfl,h.get 70 rfl,h.c]<;>rfl)|(simp[mL,h.get 68 rfl,h.get 70 rfl,h.c,K5.cell]<;>rfl))) ((h.below HB14).read (aR cV n) (cI (by decide) hn)) ?_
    rintro e w15 ⟨Ag,cg,rfl,hrg,hcg,hb15⟩
    refine⟨_,rfl,fun a hA=> ?_⟩
    have hb145:=hb14.trans (hb15.mono hb14.size)
    replace hor:=dv hor hb145
    replace hrp:=(hrp.below hb145).more hb145.size
    replace K1:=K1.below hb145 K1.lt
    replace K5:=K5.below hb145 K5.lt
    replace K7:=K7.below hb145 K7.lt
    replace hrv:=hrv.below hb145
    replace HB:=HB.trans (hb145.mono HB.size)
    replace HL:=HL.trans (hb145.mono HL.size)
    have hglen:=jv hwf (aR cV n)
    obtain⟨gl,hgl⟩:∃x,(bv d (aR cV n)).1=x:=⟨_,rfl⟩
    obtain⟨ge,hge⟩:∃x,(bv d (aR cV n)).2=x:=⟨_,rfl⟩
    have hfg:cJ d n=bC gl:=by show bC (bv d (aR cV n)).1=_;rw[hgl]
    rw[hgl] at hA hrg hcg hglen
    rw[hge] at hA
    rw[hfg] at hwo
    revert a;(iterate 5 refine wo rfl rfl (by decide) (fun ev e h=>by simp[go_sem,h,K5.cell]<;>rfl) ?_);intro a hA
    replace hA:=hA.keepN [4,8,9,11,12,14]
    refine wN (nT (wS (wR ?_)))
    revert a;refine wo rfl rfl (by decide) (fun ev e h=>by simp[go_sem,h,K5.cell]<;>rfl) ?_;intro a hA
    refine aC hA rfl rfl (by decide) (fun ev h=>aB Tryz.func35 (by kernel_rfl) rfl (h.f _) (by first|(simp only[mL,h.get 75 rfl,h.c]<;>rfl)|(simp[mL,h.get 75 rfl,h.c,K5.cell]<;>rfl))) (nj Ag cg gl.length gl _ rfl (by omega) hcg hrg) ?_
    rintro e w16 ⟨rg,rfl,horg,hb16⟩
    refine⟨_,rfl,fun a hA=> ?_⟩
    replace hor:=dv hor hb16
    replace hrp:=(hrp.below hb16).more hb16.size
    replace K1:=K1.below hb16 K1.lt
    replace K5:=K5.below hb16 K5.lt
    replace K7:=K7.below hb16 K7.lt
    replace hrv:=hrv.below hb16
    replace HB:=HB.trans (hb16.mono HB.size)
    replace HL:=HL.trans (hb16.mono HL.size)
    obtain⟨G,hG⟩:∃G,b8 (bC gl)=G:=⟨_,rfl⟩
    obtain⟨fe,hfe9⟩:∃x,jT (bC gl)=x:=⟨_,rfl⟩
    rw[hG,hfe9] at hA
    rw[hG] at horg
    rw[hG,hfe9] at hwo
    have hoG:ac ml w15.heap.size w16 rg G.2:=⟨horg,fun _ _ p hp=>(by cases hp),fun _ _ _ _ p hp=>(by cases hp)⟩
    obtain⟨Ar,cr,rfl,hrG, -⟩:=hoG.reads
    obtain⟨ng,hng⟩:∃n,G.2.length=n:=⟨_,rfl⟩
    rw[hng] at hA
    revert a;(iterate 3 refine wo rfl rfl (by decide) (fun ev e h=>by simp[go_sem,h,K5.cell]<;>rfl) ?_);intro a hA
    refine ap [.int .u32 (G.1:Nat), .slice Ar ng cr] hA rfl rfl (by decide) (fun ev h=>by simp[go_sem,K5.cell];try first|exact⟨rfl,rfl⟩|rfl) rfl rfl (by rfl) (fun w1 g ev hb h=>by simp[go_sem,h.get 16 rfl,h.get 77 rfl,K5.cell,setAll,hb.cell,hb.frozen]) fun w17 a (K17:aI _ _ _ _) hz17 hb17 hA=> ?_
    replace hor:=dv hor hb17
    replace hrp:=(hrp.below hb17).more hb17.size
    replace K1:=K1.below hb17 K1.lt
    replace K5:=K5.below hb17 K5.lt
    replace K7:=K7.below hb17 K7.lt
    replace hrv:=hrv.below hb17
    replace hrG:=hrG.below hb17
    replace HB:=HB.trans (hb17.mono HB.size)
    replace HL:=HL.trans (hb17.mono HL.size)
    obtain⟨Ax,cx,rfl,hrx,hcx⟩:=lT hor
    revert a;refine wo rfl rfl (by decide) (fun ev e h=>by simp[go_sem,h,K5.cell]<;>rfl) ?_;intro a hA
    replace hA:=hA.keepN [4,7,8,9,11,12,16]
    refine wN (nT (wS (wS (wR ?_))))
    revert a;(iterate 3 refine wo rfl rfl (by decide) (fun ev e h=>by simp[go_sem,h,K5.cell]<;>rfl) ?_);(iterate 2 refine wg _ rfl rfl rfl rfl (by decide) (fun hq ev e h=>by simp[go_sem,h,↓aL (aF hq),K5.cell]<;>rfl) ?_);intro a hA
    refine dK _ hA rfl rfl rfl rfl (by decide) (fun hq ev h=>aB Tryz.func36 (by kernel_rfl) rfl (h.f _) (by first|(simp only[mL,((h.get 82 rfl).trans (aL (aF hq))),((h.get 83 rfl).trans (aL (aF hq))),h.c]<;>rfl)|(simp[mL,((h.get 82 rfl).trans (aL (aF hq))),((h.get 83 rfl).trans (aL (aF hq))),h.c,K5.cell]<;>rfl))) (fun hq=>(gV Ax Ap ip.length cx pl.length cp ip pl _ rfl rfl hrx hrp).mono fun e w9 ⟨h1,h2⟩=>⟨h1,h2▸Below.refl _ _⟩) fun a w18 hb18 hA=> ?_
    replace K1:=K1.below hb18 K1.lt
    replace K5:=K5.below hb18 K5.lt
    replace K7:=K7.below hb18 K7.lt
    replace K17:=K17.below hb18 K17.lt
    replace hrv:=hrv.below hb18
    replace hrG:=hrG.below hb18
    replace HB:=HB.trans (hb18.mono HB.size)
    replace HL:=HL.trans (hb18.mono HL.size)
    obtain⟨eq1,heq1⟩:∃b,(ip==pl)=b:=⟨_,rfl⟩
    rw[heq1] at hA hwo
    revert a;refine wg _ rfl rfl rfl rfl (by decide) (fun hq ev e h=>by simp[go_sem,h,↓aL (aF hq),K7.cell,K17.cell]<;>rfl) ?_;refine kj rfl rfl (by decide) rfl rfl rfl ?_;refine wo rfl rfl (by decide) (fun ev e h=>by simp[go_sem,h,K7.cell,K17.cell]<;>rfl) ?_;(iterate 2 refine wg _ rfl rfl rfl rfl (by decide) (fun hq ev e h=>by simp[go_sem,h,↓aL (aF hq),K7.cell,K17.cell]<;>rfl) ?_);intro a hA
    replace hA:=hA.keepN [4,8,16,87,88,89]
    have hui:=FQ X.nm X.e X.nx X.u Av Ar cv cr G.1 X.l G.2 w18 (by omega) hrv hrG
    rw[hnx,hng] at hui
    refine dK _ hA rfl rfl rfl rfl (by decide) (fun hq ev h=>aB Tryz.func37 (by kernel_rfl) rfl (h.f _) (by first|(simp only[mL,((h.get 88 rfl).trans (aL (aF hq))),((h.get 89 rfl).trans (aL (aF hq))),h.c]<;>rfl)|(simp[mL,((h.get 88 rfl).trans (aL (aF hq))),((h.get 89 rfl).trans (aL (aF hq))),h.c,K7.cell,K17.cell]<;>rfl))) (fun hq=>hui) fun a w19 hb19 hA=> ?_
    replace K1:=K1.below hb19 K1.lt
    replace K5:=K5.below hb19 K5.lt
    replace K17:=K17.below hb19 K17.lt
    replace hrG:=hrG.below hb19
    replace HB:=HB.trans (hb19.mono HB.size)
    replace HL:=HL.trans (hb19.mono HL.size)
    obtain⟨ud,hud⟩:∃b,(X.e==G.1&&gR X.l G.2)=b:=⟨_,rfl⟩
    have hud2:tz X G=ud:=hud
    rw[hud] at hA
    rw[hud2] at hwo
    revert a;refine wg _ rfl rfl rfl rfl (by decide) (fun hq ev e h=>by simp[go_sem,h,↓aL (aF hq),K7.cell,K17.cell]<;>rfl) ?_;refine kj rfl rfl (by decide) rfl rfl rfl ?_;intro a hA
    replace hA:=hA.keepN [4,8,16,92]
    refine wN (nT ?_)
    refine aH hA 92 _ rfl (fun hq3=> ?yD) (fun hq3=> ?nD)
    case yD=>
     have hbad:fX d n=false:=by
      rw[hwo,Bool.eq_false_iff]
      intro hw
      simp only[Bool.and_eq_true,beq_iff_eq] at hw
      obtain⟨⟨⟨⟨⟨a1,a2⟩,a3⟩,a4⟩,a5⟩,a6⟩:=hw
      rw[a4,a5,a6] at hq3
      simp at hq3
     refine wS (wR ?_)
     revert a;refine wo rfl rfl (by decide) (fun ev e h=>by simp[go_sem,h,K7.cell,K17.cell]<;>rfl) ?_;intro a hA
     refine bX [.string ⟨#[]⟩, .int .u32 0, .int .u32 0, .slice none 0 0] hA rfl rfl K1 (by rfl) (fun ev h=>by simp[go_sem,h.get 4 rfl,h.get 93 rfl,K7.cell,K17.cell,setAll,K1.cell,K1.frozen]) fun w20 (K1:aI _ _ _ _) hs20=> ?_
     revert a;refine wo rfl rfl (by decide) (fun ev e h=>by simp[go_sem,h,K1.cell]<;>rfl) ?_;intro a hA
     replace hA:=hA.keepN [4,5]
     refine wN (nT (wp_ret (rT ?_)))
     refine bodyPost_ret (by simp[results,Tryz.results12,go_sem,hA.env 4 _ rfl,hA.env 5 _ rfl,K1.cell];try first|exact⟨rfl,rfl⟩|rfl) hA.defers ?_
     rw[uC hok hbad]
     exact⟨_,rfl,ja.zero _ _,hs20.below HB (Nat.le_refl _)⟩
    case nD=>
     have hgood:fe=0∧eq1=true∧ud=true:=by
      simp at hq3
      exact⟨hq3.1.1,hq3.1.2,hq3.2⟩
     have hall:fX d n=true:=by
      rw[hwo,hie0,hclt,htq,hgood.1,hgood.2.1,hgood.2.2]
      simp
     have hie9:(dQ l).err=0:=by rw[hX,hie,hie0]
     have hno:=o9 hie9
     have hXl:X.l=l.s.live.map sK:=by rw[←hX];unfold dQ;rw[hno];rfl
     have hclean:al l.s=true:=by rw[hcl,hclt]
     have hud9:(X.e==G.1&&gR X.l G.2)=true:=by rw[hud,hgood.2.2]
     have hlenG:G.2.length=l.s.live.length:=by
      simp only[Bool.and_eq_true] at hud9
      have h1:=hud9.2
      unfold gR at h1
      have h2:=congrArg List.length (beq_iff_eq.1 h1)
      rw[List.length_map,List.length_map,hXl,List.length_map] at h2
      exact h2.symm
     have hLl:L.length=l.s.live.length:=by have:=congrArg List.length hlv;rw[List.length_map,List.length_map] at this;exact this
     have hfew9:=hV0.few
     have hbx:=vl l.s (tn:Nat) A c L.length L w19 (by omega) rfl (hrL.below HL) (fun x hx=>by
      have h2:iw x∈l.s.live.map iS:=by rw[←hlv];exact List.mem_map_of_mem hx
      obtain⟨y,hy,e⟩:=List.mem_map.1 h2
      have h3:=congrArg (fun q:Nat×Nat×Int×Int×List UInt8×Nat=>q.2.2.2.2.1) e
      have h4:y.o=x.m.b:=h3
      have:=(hV0.each y hy).1
      rw[←h4]
      omega) hlv hV0.ep
     have hbS:bQ l.s=⟨l.s.nm,l.s.ep,l.s.nx,l.s.live.map dF⟩:=by unfold bQ;rw[hclean];rfl
     rw[hcl,hbS] at hbx
     refine wp_skip (nT (wS (wR ?_)))
     revert a;refine wo rfl rfl (by decide) (fun ev e h=>by simp[go_sem,h,K5.cell]<;>rfl) ?_;intro a hA
     refine aC hA rfl rfl (by decide) (fun ev h=>aB Tryz.func38 (by kernel_rfl) rfl (h.f _) (by first|(simp only[mL,h.get 94 rfl,h.c]<;>rfl)|(simp[mL,h.get 94 rfl,h.c,K5.cell]<;>rfl))) (hbx) ?_
     rintro e w20 ⟨vM,M,rfl,hoM,hM,hcap,hb20⟩
     refine⟨_,rfl,fun a hA=> ?_⟩
     have hM:M.map eS=l.s.live.map dF:=hM
     have hMl:M.length=l.s.live.length:=by have:=congrArg List.length hM;rw[List.length_map,List.length_map] at this;exact this
     obtain⟨Am,cm,rfl, -, -⟩:=hoM.reads
     obtain⟨mq,hmq⟩:∃x,M.length=x:=⟨_,rfl⟩
     rw[hmq] at hA hoM
     have s19:=HB.size
     refine ap [.string l.s.nm, .int .u32 (l.s.ep:Nat), .int .u32 (l.s.nx:Nat), .slice Am mq cm] hA rfl rfl (by decide) (fun ev h=>by simp[go_sem,K5.cell];try first|exact⟨rfl,rfl⟩|rfl) rfl rfl (by rfl) (fun w1 g ev hb h=>by simp[go_sem,h.get 17 rfl,h.get 95 rfl,K5.cell,setAll,hb.cell,hb.frozen]) fun w21 a (K21:aI _ _ _ _) hz21 hb21 hA=> ?_
     replace hoM:=hoM.below hb21
     have H19:=hb20.trans (hb21.mono hb20.size)
     replace hA:=hA.keepN [4,16,17]
     refine wN (nT (wS (wS (wR ?_))))
     revert a;(iterate 4 refine wo rfl rfl (by decide) (fun ev e h=>by simp[go_sem,h,K21.cell]<;>rfl) ?_);intro a hA
     replace hA:=hA.keepN [4,16,17,98,99]
     refine wN (nT (wB ?_))
     refine aQ (fun f a wx=>∃(j:Nat),j+f=mq∧ac de w19.heap.size wx (.slice Am mq cm) (List.zipWith (fun(m:aU) (f:aM)=>(⟨m.uid,m.date,f.2,m.a,m.c,m.b⟩:aU)) (M.take j) (G.2.take j)++M.drop j)∧aI wx w20.heap.size 41 #[.string l.s.nm, .int .u32 (l.s.ep:Nat), .int .u32 (l.s.nx:Nat), .slice Am mq cm]∧Below w19.heap.size w19 wx∧At 119 [(4, .pointer (some ⟨w.heap.size,0,none⟩)),(16, .pointer (some ⟨w16.heap.size,0,none⟩)),(17, .pointer (some ⟨w20.heap.size,0,none⟩)),(98, .int .i64 (mq:Nat)),(99, .int .i64 (j:Nat))] a) (mq) ?_ ?_
     ·exact⟨0,by omega,by simpa using hoM,K21,H19,hA⟩
     clear hA hoM K21 H19
     rintro f a wx ⟨j,hjf,hoM,K21,H19,hA⟩
     have K1x:=K1.below H19 K1.lt
     have K17x:=K17.below H19 K17.lt
     have hrGx:=hrG.below H19
     have HBx:=HB.trans (H19.mono HB.size)
     have jw:IntKind.i64.wrap ((j:Int)+1)=((j+1:Nat):Int):=IntWalk.i64_in _ (by omega)
     refine wS (wR ?_)
     revert a;refine wo rfl rfl (by decide) (fun ev e h=>by simp[go_sem,h]<;>rfl) ?_;intro a hA
     replace hA:=hA.keepN [4,16,17,98,99,100]
     refine wN (nT (wS ?_))
     refine aH hA 100 _ rfl (fun hq4=> ?yE) (fun hq4=> ?nE)
     case yE=>
      have hj:j<mq:=by simp at hq4;omega
      have jj0:(0:Int)≤(j:Int):=by omega
      have jj1:(j:Int)<(mq:Int):=by omega
      have jj2:(j:Int)<(ng:Int):=by omega
      have jj3:j<ng:=by omega
      obtain⟨m,hm⟩:∃m,M[j]?=some m:=⟨_,List.getElem?_eq_getElem (by omega)⟩
      obtain⟨g9,hg9⟩:∃g9,G.2[j]?=some g9:=⟨_,List.getElem?_eq_getElem (by omega)⟩
      obtain⟨hmx,hset⟩:=F4 hm hg9 (by omega)
      obtain⟨M9,hM9⟩:∃M9,List.zipWith (fun(m:aU) (f:aM)=>(⟨m.uid,m.date,f.2,m.a,m.c,m.b⟩:aU)) (M.take j) (G.2.take j)++M.drop j=M9:=⟨_,rfl⟩
      rw[hM9] at hmx hset hoM
      obtain⟨g,c9,hv9,hgB,hglt⟩:=hoM.at_ (by have:=(List.getElem?_eq_some_iff.1 hmx).1;omega)
      have hAm:Am=some ⟨g,0,none⟩:=by injection hv9
      rw[hAm] at hoM
      obtain⟨ag,hAr,hagb, -,q1⟩:=hrGx.cell hg9
      have y1:wx.cell? ⟨(ag.add (j*2)).block,(ag.add (j*2)).off+1,none⟩=some (.int .i64 g9.2):=q1 1 _ (by decide) rfl
      have hgne:g≠w20.heap.size:=eu hoM.row K21 (by decide) g rfl
      refine wp_skip (nT (wS (wB (wS (wR ?_)))))
      revert a;(iterate 2 refine wo rfl rfl (by decide) (fun ev e h=>by simp[go_sem,h]<;>rfl) ?_);intro a hA
      replace hA:=hA.keepN [4,16,17,18,98,99]
      have pR20:=fun(wo:World) (hC:(fun wy=>Below wx.heap.size wx wy) wo)=>have Ky:=K21.below hC K21.lt;have Kz:=K17x.below hC K17x.lt;have yy:=(hC.cell (p:=⟨(ag.add (j*2)).block,(ag.add (j*2)).off+1,none⟩) (by show(ag.add (j*2)).block<_;rw[aD];exact hagb)).trans y1;And.intro (Ky.cell) (And.intro (Kz.cell) (yy))
      refine wN (nT ?_)
      refine aj 9 ?_
      simp only[List.take_succ_cons,List.take_zero,List.drop_succ_cons,List.drop_zero]
      refine ai hA [(.det ?dR200),(.det ?dR201),(.det ?dR202),(.det ?dR203),(.det ?dR204),(.det ?dR205),(.det ?dR206),(.det ?dR207),(.det ?dR208)] [] (fun wy=>Below wx.heap.size wx wy) (aG [] aA) (by kernel_rfl) rfl (by kernel_rfl) (by kernel_rfl) rfl (by kernel_rfl) (by kernel_rfl) (by kernel_rfl) (by kernel_rfl) ((Below.refl _ _).drew) (bF [] [true,true,true,true,true,true,true,true,true] [true,true,true,true,true,true,true,true,true] [] rfl rfl rfl (by kernel_rfl) ⟨trivial,trivial,trivial,trivial,trivial,trivial,trivial,trivial,trivial,trivial⟩ trivial) (fun _ h=>by cases h) (fun _ _ _ _ _ h=>by cases h) (fun _ h=>by cases h) ⟨?oR200, ?oR201, ?oR202, ?oR203, ?oR204, ?oR205, ?oR206, ?oR207, ?oR208,trivial⟩ (by kernel_rfl) ?fR20
      case oR200=>intro ev wo hev hC hs hph;have x0:=se hA hs 17;exact od rfl rfl (by kernel_rfl) hC (aG.of rfl (aA.refl _)) (by simp[go_sem,x0]<;>rfl)
      case oR201=>intro ev wo hev hC hs hph;have x0:=sd hs 102 0;exact od rfl rfl (by kernel_rfl) hC (aG.of rfl (aA.refl _)) (by simp[go_sem,x0,pR20 _ hC]<;>rfl)
      case oR202=>intro ev wo hev hC hs hph;have x0:=se hA hs 18;exact od rfl rfl (by kernel_rfl) hC (aG.of rfl (aA.refl _)) (by simp[go_sem,x0]<;>rfl)
      case oR203=>intro ev wo hev hC hs hph;have x0:=se hA hs 16;exact od rfl rfl (by kernel_rfl) hC (aG.of rfl (aA.refl _)) (by simp[go_sem,x0]<;>rfl)
      case oR204=>intro ev wo hev hC hs hph;have x0:=sd hs 105 3;exact od rfl rfl (by kernel_rfl) hC (aG.of rfl (aA.refl _)) (by simp[go_sem,x0,pR20 _ hC]<;>rfl)
      case oR205=>intro ev wo hev hC hs hph;have x0:=se hA hs 18;exact od rfl rfl (by kernel_rfl) hC (aG.of rfl (aA.refl _)) (by simp[go_sem,x0]<;>rfl)
      case oR206=>intro ev wo hev hC hs hph;have x0:=sd hs 106 4;have x1:=sd hs 107 5;exact od rfl rfl (by kernel_rfl) hC (aG.of rfl (aA.refl _)) (by simp[go_sem,x0,x1,hAr,jj0,jj2,jj3]<;>rfl)
      case oR207=>intro ev wo hev hC hs hph;have x0:=sd hs 108 6;exact od rfl rfl (by kernel_rfl) hC (aG.of rfl (aA.refl _)) (by simp[go_sem,x0]<;>rfl)
      case oR208=>intro ev wo hev hC hs hph;have x0:=sd hs 109 7;exact od rfl rfl (by kernel_rfl) hC (aG.of rfl (aA.refl _)) (by simp[go_sem,x0,pR20 _ hC]<;>rfl)
      intro sg wf hC hph
      intro a hA
      replace hA:=hA.keepN [4,16,17,98,99,103,104,110]
      replace hoM:=hoM.below hC
      replace K21:=K21.below hC K21.lt
      replace H19:=H19.trans (hC.mono H19.size)
      obtain⟨h8,h9⟩:=hoM.put1 (j:=2) (x:=(⟨m.uid,m.date,g9.2,m.a,m.c,m.b⟩:aU)) (u:= .int .i64 g9.2) hmx (by decide) rfl rfl
      have z2:wf.cell? ⟨g,j*4+2,none⟩=some (.int .i64 m.flags):=hoM.cellAt (j:=2) hmx rfl
      revert a;(iterate 2 refine wo rfl rfl (by decide) (fun ev e h=>by simp[go_sem,h,hAm,aS,jj0,jj1,hj,z2,hoM.frozenAt]<;>rfl) ?_);intro a hA
      refine jP hA rfl rfl (fun ev h=>by simp[go_sem,h.get 112 rfl,h.get 110 rfl,hAm,aS,jj0,jj1,hj,z2,hoM.frozenAt];try first|exact⟨rfl,rfl⟩|rfl) ?_
      replace hA:=hA.keepN [4,16,17,98,99]
      refine wN (nB (nT (wR ?_)))
      revert a;(iterate 2 refine wo rfl rfl (by decide) (fun ev e h=>by simp[go_sem,h,jw]<;>rfl) ?_);intro a hA
      replace hA:=hA.keepN [4,16,17,98,99]
      refine wN (nT ?_)
      refine⟨f - 1,by omega,j+1,by omega, ?_,K21.grown h9 (fun e=> ?_),H19.grown h9 H19.size (fun k e=> ?_),hA⟩
      ·rw[←hset,hAm]
       exact h8
      ·injection e with e
       exact hgne e.symm
      ·injection e with e
       omega
     case nE=>
      have hj:j=mq:=by simp at hq4;omega
      rw[hj,←hmq,List.take_length,List.drop_length,List.append_nil,hmq,List.take_of_length_le (by omega)] at hoM
      obtain⟨M2,hM2⟩:∃M2,List.zipWith (fun(m:aU) (f:aM)=>(⟨m.uid,m.date,f.2,m.a,m.c,m.b⟩:aU)) M G.2=M2:=⟨_,rfl⟩
      have hcap2:=Fd (fs:=G.2) hcap
      have hB2:=F3 M G.2 l.s.live hM
      rw[hM2] at hoM hcap2 hB2
      have hM2l:M2.length=mq:=by rw[←hM2,List.length_zipWith];omega
      have hu2:∀m∈M2,m.uid<4294967296:=fun m hm=>by
       rw[←hM2] at hm
       obtain⟨i,hi,he⟩:=List.getElem_of_mem hm
       rw[List.getElem_zipWith] at he
       have hi2:i<M.length:=by rw[List.length_zipWith] at hi;omega
       have h3:(eS M[i])∈M.map eS:=List.mem_map_of_mem (List.getElem_mem hi2)
       rw[hM] at h3
       obtain⟨y,hy,e⟩:=List.mem_map.1 h3
       have h4:y.u=M[i].uid:=congrArg (fun q:Nat×Int×Int×List UInt8=>q.1) e
       have h5:=(hV0.each y hy).2.2
       rw[←he]
       show M[i].uid<_
       omega
      have hms:=Eh hoM hu2 hcap2
      have hrb:mt (boxF (aT (ay d bJ n).1) (b8 (cJ d n)).2)=fU l.s.nm l.s.ep l.s.nx M2:=by
       rw[hfl,hl,hfg,hG,qL hclean]
       exact AE l.s.nm l.s.ep l.s.nx M2 _ hB2
      have hfin:boxF (aT (ay d bJ n).1) (b8 (cJ d n)).2=⟨l.s.nm,l.s.ep,l.s.nx,lV G.2 (l.s.live.map dF)⟩:=by
       rw[hfl,hl,hfg,hG,qL hclean]
      have hEx:=(h.below HBx).env
      replace hA:=hA.keepN [4,17]
      refine wp_exit (xT (xT (xB (nT (wS (wS (wR ?_)))))))
      revert a;refine wo rfl rfl (by decide) (fun ev e h=>by simp[go_sem,h,K21.cell]<;>rfl) ?_;intro a hA
      refine aC hA rfl rfl (by decide) (fun ev h=>aB Tryz.func39 (by kernel_rfl) rfl (h.f _) (by first|(simp only[mL,h.get 114 rfl,h.c]<;>rfl)|(simp[mL,h.get 114 rfl,h.c,K21.cell]<;>rfl))) (Cy l.s.nm Am cm mq l.s.ep l.s.nx M2 wx hEx.max hEx.big.2.2 hEx.tab (by have:=hV0.nm;omega) (by omega) hms) ?_
      rintro e w22 ⟨rfl,hb22⟩
      refine⟨_,rfl,fun a hA=> ?_⟩
      replace K1x:=K1x.below hb22 K1x.lt
      replace K21:=K21.below hb22 K21.lt
      replace hoM:=hoM.below hb22
      replace HBx:=HBx.trans (hb22.mono HBx.size)
      obtain⟨br,hbr⟩:∃b,fU l.s.nm l.s.ep l.s.nx M2=b:=⟨_,rfl⟩
      rw[hbr] at hA hrb
      revert a;refine wo rfl rfl (by decide) (fun ev e h=>by simp[go_sem,h,K21.cell]<;>rfl) ?_;intro a hA
      replace hA:=hA.keepN [4,17,116]
      refine wN (nT ?_)
      refine aH hA 116 _ rfl (fun hq5=> ?yI) (fun hq5=> ?nI)
      case yI=>
       have hb0:br=false:=by simpa using hq5
       refine wS (wR ?_)
       revert a;refine wo rfl rfl (by decide) (fun ev e h=>by simp[go_sem,h,K21.cell]<;>rfl) ?_;intro a hA
       refine bX [.string ⟨#[]⟩, .int .u32 0, .int .u32 0, .slice none 0 0] hA rfl rfl K1x (by rfl) (fun ev h=>by simp[go_sem,h.get 4 rfl,h.get 117 rfl,K21.cell,setAll,K1x.cell,K1x.frozen]) fun w23 (K1x:aI _ _ _ _) hs23=> ?_
       revert a;refine wo rfl rfl (by decide) (fun ev e h=>by simp[go_sem,h,K1x.cell]<;>rfl) ?_;intro a hA
       replace hA:=hA.keepN [4,5]
       refine wN (nT (wp_ret (rT ?_)))
       refine bodyPost_ret (by simp[results,Tryz.results12,go_sem,hA.env 4 _ rfl,hA.env 5 _ rfl,K1x.cell];try first|exact⟨rfl,rfl⟩|rfl) hA.defers ?_
       rw[yk hok (by rw[hrb,hb0])]
       exact⟨_,rfl,ja.zero _ _,hs23.below HBx (Nat.le_refl _)⟩
      case nI=>
       have hb1t:br=true:=by simpa using hq5
       refine wp_skip (nT (wS (wR ?_)))
       revert a;refine wo rfl rfl (by decide) (fun ev e h=>by simp[go_sem,h,K21.cell]<;>rfl) ?_;intro a hA
       have K1o:=K1x
       refine bX [.string l.s.nm, .int .u32 (l.s.ep:Nat), .int .u32 (l.s.nx:Nat), .slice Am mq cm] hA rfl rfl K1x (by rfl) (fun ev h=>by simp[go_sem,h.get 4 rfl,h.get 118 rfl,K21.cell,setAll,K1x.cell,K1x.frozen]) fun w23 (K1x:aI _ _ _ _) hs23=> ?_
       revert a;refine wo rfl rfl (by decide) (fun ev e h=>by simp[go_sem,h,K1x.cell]<;>rfl) ?_;intro a hA
       replace hA:=hA.keepN [4,5]
       refine wN (nT (wp_ret ?_))
       refine bodyPost_ret (by simp[results,Tryz.results12,go_sem,hA.env 4 _ rfl,hA.env 5 _ rfl,K1x.cell];try first|exact⟨rfl,rfl⟩|rfl) hA.defers ?_
       rw[Ae hok hall (by rw[hrb,hb1t]),hfin]
       exact⟨_,rfl,⟨⟨_,M2,rfl,(hoM.onlyK hs23 K1o (by decide) rfl).mono s19,hB2,hcap2⟩⟩,hs23.below HBx (Nat.le_refl _)⟩
theorem tX {k:ae}:∀{l:List (ae×aa)},k∈l.map (·.1)↔(aV k l).isSome=true
 |[]=>by simp[aV]
 |(y,u)::r=>by
  rw[gW,List.map_cons,List.mem_cons]
  by_cases h:y=k
  ·rw[if_pos h];simp[h]
  ·rw[if_neg h,←tX (l:=r)]
   constructor
   ·rintro(e|e)
    ·exact absurd e.symm h
    ·exact e
   ·exact .inr
end Go.Proofs.YtclcfkaphlopeaaGreatDoor
namespace Go.Proofs.YtclcfkaphlopeaaGreatDoor
def rs (b:List UInt8):aa:=⟨b,b.length,true⟩
theorem vJ (b:List UInt8):(rs b).whole=true:=by simp[rs,aa.whole]
structure F6 (d:aN):Prop where
 lost:d.lost=false
 fuse:d.fuse= -1
theorem Bp {d:aN} (h:F6 d):d.burn=d:=by
 obtain⟨cap,files,fuse,lost⟩:=d
 obtain⟨h1,h2⟩:=h
 simp only at h1 h2
 subst h1 h2
 rfl
theorem FJ {d:aN} (h:F6 d) {k:ae} {f:aa} (hg:aV k d.files=some f):fg d k=(0,{d with files:=bN k (rs f.b) d.files}):=by
 obtain⟨cap,files,fuse,lost⟩:=d
 obtain⟨h1,h2⟩:=h
 simp only at h1 h2
 subst h1 h2
 have hc:F6 ⟨cap,files, -1,false⟩:=⟨rfl,rfl⟩
 unfold fg
 rw[if_neg (show ¬(false=true) by decide),hg]
 simp only
 rw[if_neg (show ¬((-1:Int)=0) by decide),Bp hc]
 rfl
def Gx (k:Nat):List UInt8:=if k<10 then[UInt8.ofNat (48+k)] else[49,UInt8.ofNat (38+k)]
end Go.Proofs.YtclcfkaphlopeaaGreatDoor
