/-
  Walk: what a head tells, by the document (cubbyref01.head).
-/
import Derived.Test.YtclcfkaphlopeaaGreatDoorRepc
set_option linter.unusedSimpArgs false
set_option linter.unusedVariables false
set_option maxRecDepth 100000
set_option maxHeartbeats 16000000
namespace Go.Proofs.YtclcfkaphlopeaaGreatDoor
open Go.RowKit
theorem li {b:List UInt8} {a j:Nat}:(b.drop a).getD j 0=b.getD (a+j) 0:=by
 rw[List.getD_eq_getElem?_getD,List.getD_eq_getElem?_getD,List.getElem?_drop]
theorem FL {b:List UInt8} (h:3≤b.length):(b.take 3==[99,117,98])=((b.getD 0 0).toNat==99&&(b.getD 1 0).toNat==117&&(b.getD 2 0).toNat==98):=by
 match b,h with
 |x::y::z::r,_=>
  show([x,y,z]==[99,117,98])=(x.toNat==99&&y.toNat==117&&z.toNat==98)
  have e:∀(u:UInt8) (n:Nat) (k:UInt8),k.toNat=n→(u==k)=(u.toNat==n):=fun u n k hk=>by
   rw[Bool.eq_iff_iff,beq_iff_eq,beq_iff_eq,←hk]
   exact⟨fun h=>by rw[h],fun h=>UInt8.toNat_inj.1 h⟩
  have e1:=e x 99 99 rfl
  have e2:=e y 117 117 rfl
  have e3:=e z 98 98 rfl
  show(x==99&&(y==117&&(z==98&&true)))=_
  rw[e1,e2,e3,Bool.and_true,Bool.and_assoc]
theorem cB {a k c:Nat} (h:a+k=c) (hc:c≤1000000000):IntKind.i64.wrap ((a:Int)+(k:Int))=(c:Int):=by
 rw[IntWalk.i64_in _ (by omega)]
 omega
theorem Be {a:Nat} (h:a<4294967296):IntKind.i64.wrap (a:Int)=(a:Int):=IntWalk.i64_in _ (by omega)
theorem FY {a:Nat} (h:a<4294967296):IntKind.u64.wrap (a:Int)=(a:Int):=IntWalk.u64_in _ (by omega)
theorem HH (a:Nat) (k:Nat):((a:Int) !=(k:Int))= !(a==k):=by
 unfold bne
 congr 1
 rw[Bool.eq_iff_iff,beq_iff_eq,beq_iff_eq]
 omega
theorem sQ (A:Option Addr) (n c at_:Nat) (hn:n<at_+44) (ha:at_≤1000000) (w:World):Calls Tryz.prog 49 #[.slice A n c, .int .i64 (at_:Nat)] w fun ev w'=>ev= .returned (.tuple #[.int .i64 0, .int .i64 0, .bool false])∧w'=w:=by
 have w1:IntKind.i64.wrap ((at_:Int)+44)=(at_:Int)+44:=IntWalk.i64_in _ (by omega)
 have h1:decide ((n:Int)<(at_:Int)+44)=true:=by simp;omega
 refine aK 86 Tryz.func49 rfl rfl (Nat.le_of_ble_eq_true rfl) ?_
 intro a hA;replace hA:=hA.norm
 refine wS (wR ?_)
 refine a7 hA rfl rfl (by decide) (fun ev h=>by simp[go_sem,h.c,w1,h1];try first|exact⟨rfl,rfl⟩|rfl) fun a hA=> ?_
 refine a7 hA rfl rfl (by decide) (fun ev h=>by simp[go_sem,h.c,w1,h1];try first|exact⟨rfl,rfl⟩|rfl) fun a hA=> ?_
 refine a7 hA rfl rfl (by decide) (fun ev h=>by simp[go_sem,h.c,w1,h1];try first|exact⟨rfl,rfl⟩|rfl) fun a hA=> ?_
 replace hA:=hA.keepN [0,1]
 refine wN (nT (wS (wS (wR ?_))))
 refine a7 hA rfl rfl (by decide) (fun ev h=>by simp[go_sem,h.get 1 rfl,w1,h1];try first|exact⟨rfl,rfl⟩|rfl) fun a hA=> ?_
 refine a7 hA rfl rfl (by decide) (fun ev h=>by simp[go_sem,h.c,h.get 8 rfl,w1,h1];try first|exact⟨rfl,rfl⟩|rfl) fun a hA=> ?_
 refine a7 hA rfl rfl (by decide) (fun ev h=>by simp[go_sem,h.get 0 rfl,w1,h1];try first|exact⟨rfl,rfl⟩|rfl) fun a hA=> ?_
 refine a7 hA rfl rfl (by decide) (fun ev h=>by simp[go_sem,h.get 10 rfl,w1,h1];try first|exact⟨rfl,rfl⟩|rfl) fun a hA=> ?_
 refine a7 hA rfl rfl (by decide) (fun ev h=>by simp[go_sem,h.get 9 rfl,h.get 11 rfl,w1,h1];try first|exact⟨rfl,rfl⟩|rfl) fun a hA=> ?_
 refine a7 hA rfl rfl (by decide) (fun ev h=>by simp[go_sem,h.get 12 rfl,w1,h1];try first|exact⟨rfl,rfl⟩|rfl) fun a hA=> ?_
 refine az _ (v:=undef) hA rfl rfl rfl rfl (by decide) (fun hq ev h=>by first|(cases hq;done)|(cases hr;done)) fun a hA=> ?_
 refine az _ (v:=undef) hA rfl rfl rfl rfl (by decide) (fun hq ev h=>by first|(cases hq;done)|(cases hr;done)) fun a hA=> ?_
 refine az _ (v:=undef) hA rfl rfl rfl rfl (by decide) (fun hq ev h=>by first|(cases hq;done)|(cases hr;done)) fun a hA=> ?_
 refine az _ (v:=undef) hA rfl rfl rfl rfl (by decide) (fun hq ev h=>by first|(cases hq;done)|(cases hr;done)) fun a hA=> ?_
 replace hA:=hA.keepN [0,1,13,17]
 refine az _ (v:=undef) hA rfl rfl rfl rfl (by decide) (fun hq ev h=>by first|(cases hq;done)|(cases hr;done)) fun a hA=> ?_
 revert a;(first|refine kj rfl rfl (by decide) rfl rfl rfl ?_|refine wo rfl rfl (by decide) (fun ev e h=>by simp[go_sem,h,lF,iq,w1,h1]<;>rfl) ?_);intro a hA
 refine a7 hA rfl rfl (by decide) (fun ev h=>by simp[go_sem,h.get 19 rfl,w1,h1];try first|exact⟨rfl,rfl⟩|rfl) fun a hA=> ?_
 refine az _ (v:=undef) hA rfl rfl rfl rfl (by decide) (fun hq ev h=>by first|(cases hq;done)|(cases hr;done)) fun a hA=> ?_
 refine az _ (v:=undef) hA rfl rfl rfl rfl (by decide) (fun hq ev h=>by first|(cases hq;done)|(cases hr;done)) fun a hA=> ?_
 refine az _ (v:=undef) hA rfl rfl rfl rfl (by decide) (fun hq ev h=>by first|(cases hq;done)|(cases hr;done)) fun a hA=> ?_
 refine az _ (v:=undef) hA rfl rfl rfl rfl (by decide) (fun hq ev h=>by first|(cases hq;done)|(cases hr;done)) fun a hA=> ?_
 refine az _ (v:=undef) hA rfl rfl rfl rfl (by decide) (fun hq ev h=>by first|(cases hq;done)|(cases hr;done)) fun a hA=> ?_
 refine az _ (v:=undef) hA rfl rfl rfl rfl (by decide) (fun hq ev h=>by first|(cases hq;done)|(cases hr;done)) fun a hA=> ?_
 revert a;(first|refine kj rfl rfl (by decide) rfl rfl rfl ?_|refine wo rfl rfl (by decide) (fun ev e h=>by simp[go_sem,h,lF,iq,w1,h1]<;>rfl) ?_);intro a hA
 replace hA:=hA.keepN [0,1,27]
 refine a7 hA rfl rfl (by decide) (fun ev h=>by simp[go_sem,h.get 27 rfl,w1,h1];try first|exact⟨rfl,rfl⟩|rfl) fun a hA=> ?_
 refine az _ (v:=undef) hA rfl rfl rfl rfl (by decide) (fun hq ev h=>by first|(cases hq;done)|(cases hr;done)) fun a hA=> ?_
 refine az _ (v:=undef) hA rfl rfl rfl rfl (by decide) (fun hq ev h=>by first|(cases hq;done)|(cases hr;done)) fun a hA=> ?_
 refine az _ (v:=undef) hA rfl rfl rfl rfl (by decide) (fun hq ev h=>by first|(cases hq;done)|(cases hr;done)) fun a hA=> ?_
 refine az _ (v:=undef) hA rfl rfl rfl rfl (by decide) (fun hq ev h=>by first|(cases hq;done)|(cases hr;done)) fun a hA=> ?_
 refine az _ (v:=undef) hA rfl rfl rfl rfl (by decide) (fun hq ev h=>by first|(cases hq;done)|(cases hr;done)) fun a hA=> ?_
 refine az _ (v:=undef) hA rfl rfl rfl rfl (by decide) (fun hq ev h=>by first|(cases hq;done)|(cases hr;done)) fun a hA=> ?_
 revert a;(first|refine kj rfl rfl (by decide) rfl rfl rfl ?_|refine wo rfl rfl (by decide) (fun ev e h=>by simp[go_sem,h,lF,iq,w1,h1]<;>rfl) ?_);intro a hA
 replace hA:=hA.keepN [0,1,35]
 refine wN (nT ?_)
 refine aH hA 35 _ rfl (fun hq=> ?yA) (fun hq=> ?nA)
 case nA=>cases hq
 case yA=>
  refine wS (wR ?_)
  revert a;(iterate 3 refine wo rfl rfl (by decide) (fun ev e h=>by simp[go_sem,h,w1,h1]<;>rfl) ?_);intro a hA
  replace hA:=hA.keepN [4,5,6]
  refine wN (nT (wp_ret (rT ?_)))
  refine mW hA 4 5 6 rfl rfl rfl rfl ?_
  exact⟨rfl,rfl⟩
theorem ur (A:Option Addr) (n c at_:Nat) (b:List UInt8) (hl:b.length=n) (hc:n≤c) (h44:at_+44≤n) (hn:n≤1000000) (w:World) (hr:aE w w.heap.size 1 A n (ar b)):
 Calls Tryz.prog 49 #[.slice A n c, .int .i64 (at_:Nat)] w fun ev w'=>∃(k m:Int),ev= .returned (.tuple #[.int .i64 k, .int .i64 m, .bool (ah (b.drop at_))])∧(ah (b.drop at_)=true→k=(cE (b.drop at_):Nat)∧m=(cD (b.drop at_):Nat))∧Below w.heap.size w w':=by
 have h1:decide ((n:Int)<(at_:Int)+44)=false:=by simp;omega
 obtain⟨ad,rfl,had,hcell⟩:=vF hr hl (by omega)
 obtain⟨a1,ha1⟩:∃a,at_+1=a:=⟨_,rfl⟩
 obtain⟨a2,ha2⟩:∃a,at_+2=a:=⟨_,rfl⟩
 obtain⟨a3,ha3⟩:∃a,at_+3=a:=⟨_,rfl⟩
 obtain⟨a4,ha4⟩:∃a,at_+4=a:=⟨_,rfl⟩
 obtain⟨a8,ha8⟩:∃a,at_+8=a:=⟨_,rfl⟩
 obtain⟨a12,ha12⟩:∃a,at_+12=a:=⟨_,rfl⟩
 have jj:∀j:Nat,(0:Int)≤(j:Int):=fun j=>by omega
 have k0:(at_:Int)<(n:Int):=by omega
 have k1:(a1:Int)<(n:Int):=by omega
 have k2:(a2:Int)<(n:Int):=by omega
 have k3:(a3:Int)<(n:Int):=by omega
 have m0:at_<n:=by omega
 have m1:a1<n:=by omega
 have m2:a2<n:=by omega
 have m3:a3<n:=by omega
 have m44:3≤(b.drop at_).length:=by rw[List.length_drop];omega
 have b12:at_+44≤1000000000:=by omega
 have y1:(a4:Int)≤(a8:Int):=by omega
 have y2:(a8:Int)≤(c:Int):=by omega
 have y3:(a8:Int)≤(a12:Int):=by omega
 have y4:(a12:Int)≤(c:Int):=by omega
 have y5:(at_:Int)≤(a8:Int):=by omega
 have y6:a8 - a4=4:=by omega
 have y7:a12 - a8=4:=by omega
 have y8:a8 - at_=8:=by omega
 have hR4:=ew hr (lo:=a4) (hi:=a8) (cap:=c) (by omega) (by omega) hc
 have hR8:=ew hr (lo:=a8) (hi:=a12) (cap:=c) (by omega) (by omega) hc
 have hR0:=ew hr (lo:=at_) (hi:=a8) (cap:=c) (by omega) (by omega) hc
 have l4:((b.drop a4).take 4).length=4:=by rw[List.length_take,List.length_drop];omega
 have l8:((b.drop a8).take 4).length=4:=by rw[List.length_take,List.length_drop];omega
 have l0:((b.drop at_).take 8).length=8:=by rw[List.length_take,List.length_drop];omega
 rw[y6] at hR4
 rw[y7] at hR8
 rw[y8] at hR0
 have hkl:cD (b.drop at_)=dL ((b.drop a4).take 4):=by unfold cD;rw[List.drop_drop,ha4]
 have hkc:jg (b.drop at_)=dL ((b.drop a8).take 4):=by unfold jg;rw[List.drop_drop,ha8]
 have w1:IntKind.i64.wrap ((at_:Int)+44)=(at_:Int)+44:=(cB rfl b12).trans (by rw[Int.natCast_add];rfl)
 have e1:IntKind.i64.wrap ((at_:Int)+1)=(a1:Int):=cB ha1 (Nat.le_trans (by rw[←ha1];exact Nat.add_le_add_left (by decide) _) b12)
 have e2:IntKind.i64.wrap ((at_:Int)+2)=(a2:Int):=cB ha2 (Nat.le_trans (by rw[←ha2];exact Nat.add_le_add_left (by decide) _) b12)
 have e3:IntKind.i64.wrap ((at_:Int)+3)=(a3:Int):=cB ha3 (Nat.le_trans (by rw[←ha3];exact Nat.add_le_add_left (by decide) _) b12)
 have e4:IntKind.i64.wrap ((at_:Int)+4)=(a4:Int):=cB ha4 (Nat.le_trans (by rw[←ha4];exact Nat.add_le_add_left (by decide) _) b12)
 have e8:IntKind.i64.wrap ((at_:Int)+8)=(a8:Int):=cB ha8 (Nat.le_trans (by rw[←ha8];exact Nat.add_le_add_left (by decide) _) b12)
 have e12:IntKind.i64.wrap ((at_:Int)+12)=(a12:Int):=cB ha12 (Nat.le_trans (by rw[←ha12];exact Nat.add_le_add_left (by decide) _) b12)
 have c0:=hcell at_ m0
 have c1:=hcell a1 m1
 have c2:=hcell a2 m2
 have c3:=hcell a3 m3
 have hm3:=FL (b:=b.drop at_) m44
 rw[li,li,li,Nat.add_zero,ha1,ha2] at hm3
 have hkd:cE (b.drop at_)=(b.getD a3 0).toNat:=by unfold cE;rw[li,ha3]
 have lx3:=(b.getD a3 0).toNat_lt
 obtain⟨x0,hx0⟩:∃x,(b.getD at_ 0).toNat=x:=⟨_,rfl⟩
 obtain⟨x1,hx1⟩:∃x,(b.getD a1 0).toNat=x:=⟨_,rfl⟩
 obtain⟨x2,hx2⟩:∃x,(b.getD a2 0).toNat=x:=⟨_,rfl⟩
 obtain⟨x3,hx3⟩:∃x,(b.getD a3 0).toNat=x:=⟨_,rfl⟩
 rw[hx0] at c0 hm3
 rw[hx1] at c1 hm3
 rw[hx2] at c2 hm3
 rw[hx3] at c3 hkd lx3
 clear hx0 hx1 hx2 hx3 hcell
 refine aK 86 Tryz.func49 rfl rfl (Nat.le_of_ble_eq_true rfl) ?_
 intro a hA;replace hA:=hA.norm
 refine wS (wR ?_)
 revert a;(iterate 3 refine wo rfl rfl (by decide) (fun ev e h=>by simp[go_sem,h,w1,h1,e1,e2,c0,c1,c2,jj,k0,k1,k2]<;>rfl) ?_);intro a hA
 replace hA:=hA.keepN [0,1]
 refine wN (nT (wS (wS (wR ?_))))
 revert a;(iterate 6 refine wo rfl rfl (by decide) (fun ev e h=>by simp[go_sem,h,w1,h1,e1,e2,c0,c1,c2,jj,k0,k1,k2]<;>rfl) ?_);(iterate 4 refine wg _ rfl rfl rfl rfl (by decide) (fun hq ev e h=>by simp[go_sem,h,↓aL (aF hq),w1,h1,e1,e2,c0,c1,c2,jj,k0,k1,k2]<;>rfl) ?_);intro a hA
 replace hA:=hA.keepN [0,1,13,17]
 revert a;refine wg _ rfl rfl rfl rfl (by decide) (fun hq ev e h=>by simp[go_sem,h,↓aL (aF hq),w1,h1,e1,e2,c0,c1,c2,jj,k0,k1,k2]<;>rfl) ?_;(first|refine kj rfl rfl (by decide) rfl rfl rfl ?_|refine wo rfl rfl (by decide) (fun ev e h=>by simp[go_sem,h,lF,iq,w1,h1,e1,e2,c0,c1,c2,jj,k0,k1,k2]<;>rfl) ?_);refine wo rfl rfl (by decide) (fun ev e h=>by simp[go_sem,h,w1,h1,e1,e2,c0,c1,c2,jj,k0,k1,k2]<;>rfl) ?_;(iterate 6 refine wg _ rfl rfl rfl rfl (by decide) (fun hq ev e h=>by simp[go_sem,h,↓aL (aF hq),w1,h1,e1,e2,c0,c1,c2,jj,k0,k1,k2]<;>rfl) ?_);(first|refine kj rfl rfl (by decide) rfl rfl rfl ?_|refine wo rfl rfl (by decide) (fun ev e h=>by simp[go_sem,h,lF,iq,w1,h1,e1,e2,c0,c1,c2,jj,k0,k1,k2]<;>rfl) ?_);intro a hA
 replace hA:=hA.keepN [0,1,27]
 revert a;refine wo rfl rfl (by decide) (fun ev e h=>by simp[go_sem,h,w1,h1,e1,e2,c0,c1,c2,jj,k0,k1,k2]<;>rfl) ?_;(iterate 6 refine wg _ rfl rfl rfl rfl (by decide) (fun hq ev e h=>by simp[go_sem,h,↓aL (aF hq),w1,h1,e1,e2,c0,c1,c2,jj,k0,k1,k2]<;>rfl) ?_);(first|refine kj rfl rfl (by decide) rfl rfl rfl ?_|refine wo rfl rfl (by decide) (fun ev e h=>by simp[go_sem,h,lF,iq,w1,h1,e1,e2,c0,c1,c2,jj,k0,k1,k2]<;>rfl) ?_);intro a hA
 replace hA:=hA.keepN [0,1,35]
 refine wN (nT ?_)
 obtain⟨LN,hLN⟩:∃q,dL ((b.drop a4).take 4)=q:=⟨_,rfl⟩
 obtain⟨CN,hCN⟩:∃q,dL ((b.drop a8).take 4)=q:=⟨_,rfl⟩
 have lLN:LN<4294967296:=by
  have h1:=jc ((b.drop a4).take 4)
  rw[l4,hLN] at h1
  exact h1
 rw[hLN] at hkl
 rw[hCN] at hkc
 have hdr:b.drop at_=b.drop at_:=rfl
 obtain⟨B,hB⟩:∃B,b.drop at_=B:=⟨_,rfl⟩
 rw[hB] at hR0 l0 hkl hkc hm3 hkd ⊢
 have hB44:44≤B.length:=by rw[←hB,List.length_drop];rw[hl];exact Nat.le_sub_of_add_le (by rw[Nat.add_comm];exact h44)
 obtain⟨cr,hcr⟩:∃q,sG (B.take 8)=q:=⟨_,rfl⟩
 have hcl:=oX (B.take 8)
 rw[hcr] at hcl
 have hok:ah B=((x0==99&&x1==117&&x2==98)&&(decide (1≤x3)&&decide (x3≤3)&&decide (LN≤30000)&&(CN==cr))):=by
  unfold ah
  rw[hm3,hkd,hkl,hkc,hcr,show decide (44≤B.length)=true by simpa using hB44,Bool.true_and]
 refine aH hA 35 _ rfl (fun hq=> ?yA) (fun hq=> ?nA)
 case yA=>
  have hno:ah B=false:=by
   rw[hok]
   have:(x0==99&&x1==117&&x2==98)=false:=by
    rw[Bool.eq_false_iff]
    intro h
    simp only[Bool.and_eq_true,beq_iff_eq] at h
    obtain⟨⟨rfl,rfl⟩,rfl⟩:=h
    exact absurd hq (by decide)
   rw[this,Bool.false_and]
  refine wS (wR ?_)
  revert a;(iterate 3 refine wo rfl rfl (by decide) (fun ev e h=>by simp[go_sem,h,w1,h1,e1,e2,c0,c1,c2,jj,k0,k1,k2]<;>rfl) ?_);intro a hA
  replace hA:=hA.keepN [4,5,6]
  refine wN (nT (wp_ret (rT ?_)))
  refine mW hA 4 5 6 rfl rfl rfl rfl ?_
  exact⟨0,0,by rw[hno],fun h=>(by rw[hno] at h;cases h),Below.refl _ _⟩
 case nA=>
  have hmg:(x0==99&&x1==117&&x2==98)=true:=by
   simp only[Bool.or_eq_false_iff,bne_eq_false_iff_eq] at hq
   obtain⟨⟨h0,h1⟩,h2⟩:=hq
   have h0:x0=99:=by omega
   have h1:x1=117:=by omega
   have h2:x2=98:=by omega
   subst h0 h1 h2
   rfl
  have j4:=jj a4
  have j8:=jj a8
  have wLN:=Be lLN
  refine wp_skip (nT (wS (wR ?_)))
  revert a;(iterate 6 refine wo rfl rfl (by decide) (fun ev e h=>by simp[go_sem,h,e4,e8,j4,j8,y1,y2,y6,jj]<;>rfl) ?_);intro a hA
  refine aC hA rfl rfl (by decide) (fun ev h=>aB Tryz.func88 (by kernel_rfl) rfl (h.f _) (by first|(simp only[mL,h.get 41 rfl,h.c]<;>rfl)|(simp[mL,h.get 41 rfl,h.c,e4,e8,j4,j8,y1,y2,y6,jj]<;>rfl))) (j5 _ 4 _ ((b.drop a4).take 4) l4 (by decide) _ hR4) ?_
  rintro e wa ⟨rfl,rfl⟩
  refine⟨_,rfl,fun a hA=> ?_⟩
  rw[hLN] at hA
  refine a7 hA rfl rfl (by decide) (fun ev h=>by simp[go_sem,h.get 42 rfl,wLN];try first|exact⟨rfl,rfl⟩|rfl) fun a hA=> ?_
  revert a;refine wo rfl rfl (by decide) (fun ev e h=>by simp[go_sem,h,wLN]<;>rfl) ?_;intro a hA
  replace hA:=hA.keepN [0,1,7]
  refine wN (nT (wS (wS ?_)))
  have wcr:=FY hcl
  have pD:=fun(wo:World) (hC:(fun wy=>Below wa.heap.size wa wy) wo)=>have q3:=(hC.cell (p:=ad.add a3) (by rw[aD];exact had)).trans c3;(q3)
  refine bi hA ((.det ?dD0)::(.det ?dD1)::(.det ?dD2)::(.det ?dD3)::(.det ?dD4)::(.det ?dD5)::(.det ?dD6)::(.det ?dD7)::(.det ?dD8)::(.det ?dD9)::(.det ?dD10)::(.det ?dD11)::(.det ?dD12)::(.det ?dD13)::(.det ?dD14)::(.det ?dD15)::(.det ?dD16)::(.det ?dD17)::(.det ?dD18)::(.det ?dD19)::(.det ?dD20)::(.det ?dD21)::(.det ?dD22)::(.det ?dD23)::(.det ?dD24)::(.det ?dD25)::(.det ?dD26)::(.det ?dD27)::(.det ?dD28)::(.det ?dD29)::(.det ?dD30)::(.det ?dD31)::(.det ?dD32)::(.det ?dD33)::(.det ?dD34)::[]) [] (fun wy=>Below wa.heap.size wa wy) (aG [] aA) (by kernel_rfl) rfl (by kernel_rfl) (by kernel_rfl) rfl ((Below.refl _ _).drew) (bF [] (true::true::true::true::true::true::true::true::true::true::true::true::true::true::true::true::true::true::true::true::true::true::true::true::true::true::true::true::true::true::true::true::true::true::true::[]) (true::true::true::true::true::true::true::true::true::true::true::true::true::true::true::true::true::true::true::true::true::true::true::true::true::true::true::true::true::true::true::true::true::true::true::[]) [] rfl rfl rfl (by kernel_rfl) ⟨trivial,trivial,trivial,trivial,trivial,trivial,trivial,trivial,trivial,trivial,trivial,trivial,trivial,trivial,trivial,trivial,trivial,trivial,trivial,trivial,trivial,trivial,trivial,trivial,trivial,trivial,trivial,trivial,trivial,trivial,trivial,trivial,trivial,trivial,trivial,trivial⟩ trivial) (fun _ h=>by cases h) (fun _ _ _ _ _ h=>by cases h) (fun _ h=>by cases h) ⟨?oD0, ?oD1, ?oD2, ?oD3, ?oD4, ?oD5, ?oD6, ?oD7, ?oD8, ?oD9, ?oD10, ?oD11, ?oD12, ?oD13, ?oD14, ?oD15, ?oD16, ?oD17, ?oD18, ?oD19, ?oD20, ?oD21, ?oD22, ?oD23, ?oD24, ?oD25, ?oD26, ?oD27, ?oD28, ?oD29, ?oD30, ?oD31, ?oD32, ?oD33, ?oD34,trivial⟩ (by kernel_rfl) ?fD
  case oD0=>intro ev wo hev hC hs hph;have x0:=se hA hs 0;exact od rfl rfl (by kernel_rfl) hC (aG.of rfl (aA.refl _)) (by simp[go_sem,x0,e3,e8,e12,jj,k3,y3,y4,y5,y2,y7,y8,wcr]<;>rfl)
  case oD1=>intro ev wo hev hC hs hph;have x0:=se hA hs 1;exact od rfl rfl (by kernel_rfl) hC (aG.of rfl (aA.refl _)) (by simp[go_sem,x0,e3,e8,e12,jj,k3,y3,y4,y5,y2,y7,y8,wcr]<;>rfl)
  case oD2=>intro ev wo hev hC hs hph;have x0:=sd hs 45 1;exact od rfl rfl (by kernel_rfl) hC (aG.of rfl (aA.refl _)) (by simp[go_sem,x0,hev.const,e3,e8,e12,jj,k3,y3,y4,y5,y2,y7,y8,wcr]<;>rfl)
  case oD3=>intro ev wo hev hC hs hph;have x0:=sd hs 44 0;have x1:=sd hs 46 2;exact od rfl rfl (by kernel_rfl) hC (aG.of rfl (aA.refl _)) (by simp[go_sem,x0,x1,e3,e8,e12,jj,k3,y3,y4,y5,y2,y7,y8,wcr]<;>rfl)
  case oD4=>intro ev wo hev hC hs hph;have x0:=sd hs 47 3;exact od rfl rfl (by kernel_rfl) hC (aG.of rfl (aA.refl _)) (by simp[go_sem,x0,pD _ hC,wLN,e3,e8,e12,jj,k3,y3,y4,y5,y2,y7,y8,wcr]<;>rfl)
  case oD5=>intro ev wo hev hC hs hph;have x0:=sd hs 48 4;exact od rfl rfl (by kernel_rfl) hC (aG.of rfl (aA.refl _)) (by simp[go_sem,x0,hev.const,e3,e8,e12,jj,k3,y3,y4,y5,y2,y7,y8,wcr]<;>rfl)
  case oD6=>intro ev wo hev hC hs hph;have x0:=sd hs 49 5;exact od rfl rfl (by kernel_rfl) hC (aG.of rfl (aA.refl _)) (by simp[go_sem,x0,e3,e8,e12,jj,k3,y3,y4,y5,y2,y7,y8,wcr]<;>rfl)
  case oD7=>intro ev wo hev hC hs hph;have x0:=se hA hs 0;have y:=sd hs 50 6;exact bq _ rfl rfl y rfl (by kernel_rfl) hC (aG.of rfl (aA.refl _)) (fun hq=>by simp[go_sem,x0,e3,e8,e12,jj,k3,y3,y4,y5,y2,y7,y8,wcr]<;>rfl) (by rfl)
  case oD8=>intro ev wo hev hC hs hph;have x0:=se hA hs 1;have y:=sd hs 50 6;exact bq _ rfl rfl y rfl (by kernel_rfl) hC (aG.of rfl (aA.refl _)) (fun hq=>by simp[go_sem,x0,e3,e8,e12,jj,k3,y3,y4,y5,y2,y7,y8,wcr]<;>rfl) (by rfl)
  case oD9=>intro ev wo hev hC hs hph;have x0:=sd hs 52 8;have y:=sd hs 50 6;exact bq _ rfl rfl y rfl (by kernel_rfl) hC (aG.of rfl (aA.refl _)) (fun hq=>by simp[go_sem,(x0.trans (aL (aF hq))),hev.const,e3,e8,e12,jj,k3,y3,y4,y5,y2,y7,y8,wcr]<;>rfl) (by rfl)
  case oD10=>intro ev wo hev hC hs hph;have x0:=sd hs 51 7;have x1:=sd hs 53 9;have y:=sd hs 50 6;exact bq _ rfl rfl y rfl (by kernel_rfl) hC (aG.of rfl (aA.refl _)) (fun hq=>by simp[go_sem,(x0.trans (aL (aF hq))),(x1.trans (aL (aF hq))),e3,e8,e12,jj,k3,y3,y4,y5,y2,y7,y8,wcr]<;>rfl) (by rfl)
  case oD11=>intro ev wo hev hC hs hph;have x0:=sd hs 54 10;have y:=sd hs 50 6;exact bq _ rfl rfl y rfl (by kernel_rfl) hC (aG.of rfl (aA.refl _)) (fun hq=>by simp[go_sem,(x0.trans (aL (aF hq))),pD _ hC,wLN,e3,e8,e12,jj,k3,y3,y4,y5,y2,y7,y8,wcr]<;>rfl) (by rfl)
  case oD12=>intro ev wo hev hC hs hph;have x0:=sd hs 55 11;have y:=sd hs 50 6;exact bq _ rfl rfl y rfl (by kernel_rfl) hC (aG.of rfl (aA.refl _)) (fun hq=>by simp[go_sem,(x0.trans (aL (aF hq))),hev.const,e3,e8,e12,jj,k3,y3,y4,y5,y2,y7,y8,wcr]<;>rfl) (by rfl)
  case oD13=>intro ev wo hev hC hs hph;have x0:=sd hs 50 6;have x1:=sd hs 56 12;exact od rfl rfl (by kernel_rfl) hC (aG.of rfl (aA.refl _)) (by rw[gz rfl x0 (hev.const _) x1]<;>rfl)
  case oD14=>intro ev wo hev hC hs hph;have x0:=sd hs 57 13;exact od rfl rfl (by kernel_rfl) hC (aG.of rfl (aA.refl _)) (by simp[go_sem,x0,e3,e8,e12,jj,k3,y3,y4,y5,y2,y7,y8,wcr]<;>rfl)
  case oD15=>intro ev wo hev hC hs hph;have x0:=se hA hs 7;have y:=sd hs 58 14;exact bq _ rfl rfl y rfl (by kernel_rfl) hC (aG.of rfl (aA.refl _)) (fun hq=>by simp[go_sem,x0,e3,e8,e12,jj,k3,y3,y4,y5,y2,y7,y8,wcr]<;>rfl) (by rfl)
  case oD16=>intro ev wo hev hC hs hph;have x0:=sd hs 59 15;have y:=sd hs 58 14;exact bq _ rfl rfl y rfl (by kernel_rfl) hC (aG.of rfl (aA.refl _)) (fun hq=>by simp[go_sem,(x0.trans (aL (aF hq))),hev.const,e3,e8,e12,jj,k3,y3,y4,y5,y2,y7,y8,wcr]<;>rfl) (by rfl)
  case oD17=>intro ev wo hev hC hs hph;have x0:=sd hs 58 14;have x1:=sd hs 60 16;exact od rfl rfl (by kernel_rfl) hC (aG.of rfl (aA.refl _)) (by rw[gz rfl x0 (hev.const _) x1]<;>rfl)
  case oD18=>intro ev wo hev hC hs hph;have x0:=sd hs 61 17;exact od rfl rfl (by kernel_rfl) hC (aG.of rfl (aA.refl _)) (by simp[go_sem,x0,e3,e8,e12,jj,k3,y3,y4,y5,y2,y7,y8,wcr]<;>rfl)
  case oD19=>intro ev wo hev hC hs hph;have x0:=se hA hs 0;have y:=sd hs 62 18;exact bq _ rfl rfl y rfl (by kernel_rfl) hC (aG.of rfl (aA.refl _)) (fun hq=>by simp[go_sem,x0,e3,e8,e12,jj,k3,y3,y4,y5,y2,y7,y8,wcr]<;>rfl) (by rfl)
  case oD20=>intro ev wo hev hC hs hph;have x0:=se hA hs 1;have y:=sd hs 62 18;exact bq _ rfl rfl y rfl (by kernel_rfl) hC (aG.of rfl (aA.refl _)) (fun hq=>by simp[go_sem,x0,e3,e8,e12,jj,k3,y3,y4,y5,y2,y7,y8,wcr]<;>rfl) (by rfl)
  case oD21=>intro ev wo hev hC hs hph;have x0:=sd hs 64 20;have y:=sd hs 62 18;exact bq _ rfl rfl y rfl (by kernel_rfl) hC (aG.of rfl (aA.refl _)) (fun hq=>by simp[go_sem,(x0.trans (aL (aF hq))),hev.const,e3,e8,e12,jj,k3,y3,y4,y5,y2,y7,y8,wcr]<;>rfl) (by rfl)
  case oD22=>intro ev wo hev hC hs hph;have x0:=se hA hs 1;have y:=sd hs 62 18;exact bq _ rfl rfl y rfl (by kernel_rfl) hC (aG.of rfl (aA.refl _)) (fun hq=>by simp[go_sem,x0,e3,e8,e12,jj,k3,y3,y4,y5,y2,y7,y8,wcr]<;>rfl) (by rfl)
  case oD23=>intro ev wo hev hC hs hph;have x0:=sd hs 66 22;have y:=sd hs 62 18;exact bq _ rfl rfl y rfl (by kernel_rfl) hC (aG.of rfl (aA.refl _)) (fun hq=>by simp[go_sem,(x0.trans (aL (aF hq))),hev.const,e3,e8,e12,jj,k3,y3,y4,y5,y2,y7,y8,wcr]<;>rfl) (by rfl)
  case oD24=>intro ev wo hev hC hs hph;have x0:=sd hs 63 19;have x1:=sd hs 65 21;have x2:=sd hs 67 23;have y:=sd hs 62 18;exact bq _ rfl rfl y rfl (by kernel_rfl) hC (aG.of rfl (aA.refl _)) (fun hq=>by simp[go_sem,(x0.trans (aL (aF hq))),(x1.trans (aL (aF hq))),(x2.trans (aL (aF hq))),e3,e8,e12,jj,k3,y3,y4,y5,y2,y7,y8,wcr]<;>rfl) (by rfl)
  case oD25=>
   intro ev wo hev hC hs hph
   have e68:=sd hs 68 24
   have e62:=sd hs 62 18
   have q3:=(hC.cell (p:=ad.add a3) (by rw[aD];exact had)).trans c3
   exact xF _ rfl rfl e62 rfl (by kernel_rfl) (by rfl) (fun hq=>aB Tryz.func88 (by kernel_rfl) rfl (hev.func _) (by first|(simp only[mL,(e68.trans (aL (aF hq))),e62,hev.const]<;>rfl)|(simp[mL,(e68.trans (aL (aF hq))),e62,hev.const]<;>rfl))) (fun hq=>(j5 _ 4 _ ((b.drop a8).take 4) l8 (by decide) wo ((hR8.below hC).more hC.size)).mono fun e' w' h=>⟨by rw[h.1,hCN],h.2▸Below.refl _ _⟩) (fun w3 hb3=>⟨hC.trans (hb3.mono hC.size),aG.of rfl hb3⟩)
  case oD26=>intro ev wo hev hC hs hph;have x0:=se hA hs 0;have y:=sd hs 62 18;exact bq _ rfl rfl y rfl (by kernel_rfl) hC (aG.of rfl (aA.refl _)) (fun hq=>by simp[go_sem,x0,e3,e8,e12,jj,k3,y3,y4,y5,y2,y7,y8,wcr]<;>rfl) (by rfl)
  case oD27=>intro ev wo hev hC hs hph;have x0:=se hA hs 1;have y:=sd hs 62 18;exact bq _ rfl rfl y rfl (by kernel_rfl) hC (aG.of rfl (aA.refl _)) (fun hq=>by simp[go_sem,x0,e3,e8,e12,jj,k3,y3,y4,y5,y2,y7,y8,wcr]<;>rfl) (by rfl)
  case oD28=>intro ev wo hev hC hs hph;have x0:=se hA hs 1;have y:=sd hs 62 18;exact bq _ rfl rfl y rfl (by kernel_rfl) hC (aG.of rfl (aA.refl _)) (fun hq=>by simp[go_sem,x0,e3,e8,e12,jj,k3,y3,y4,y5,y2,y7,y8,wcr]<;>rfl) (by rfl)
  case oD29=>intro ev wo hev hC hs hph;have x0:=sd hs 72 28;have y:=sd hs 62 18;exact bq _ rfl rfl y rfl (by kernel_rfl) hC (aG.of rfl (aA.refl _)) (fun hq=>by simp[go_sem,(x0.trans (aL (aF hq))),hev.const,e3,e8,e12,jj,k3,y3,y4,y5,y2,y7,y8,wcr]<;>rfl) (by rfl)
  case oD30=>intro ev wo hev hC hs hph;have x0:=sd hs 70 26;have x1:=sd hs 71 27;have x2:=sd hs 73 29;have y:=sd hs 62 18;exact bq _ rfl rfl y rfl (by kernel_rfl) hC (aG.of rfl (aA.refl _)) (fun hq=>by simp[go_sem,(x0.trans (aL (aF hq))),(x1.trans (aL (aF hq))),(x2.trans (aL (aF hq))),e3,e8,e12,jj,k3,y3,y4,y5,y2,y7,y8,wcr]<;>rfl) (by rfl)
  case oD31=>
   intro ev wo hev hC hs hph
   have e74:=sd hs 74 30
   have e62:=sd hs 62 18
   have q3:=(hC.cell (p:=ad.add a3) (by rw[aD];exact had)).trans c3
   exact xF _ rfl rfl e62 rfl (by kernel_rfl) (by rfl) (fun hq=>aB Tryz.func89 (by kernel_rfl) rfl (hev.func _) (by first|(simp only[mL,(e74.trans (aL (aF hq))),e62,hev.const]<;>rfl)|(simp[mL,(e74.trans (aL (aF hq))),e62,hev.const]<;>rfl))) (fun hq=>(AB _ 8 _ (B.take 8) wo l0 (by decide) ((hR0.below hC).more hC.size)).mono fun e' w' h=>⟨by rw[h.1,hcr],h.2▸Below.refl _ _⟩) (fun w3 hb3=>⟨hC.trans (hb3.mono hC.size),aG.of rfl hb3⟩)
  case oD32=>intro ev wo hev hC hs hph;have x0:=sd hs 75 31;have y:=sd hs 62 18;exact bq _ rfl rfl y rfl (by kernel_rfl) hC (aG.of rfl (aA.refl _)) (fun hq=>by simp[go_sem,(x0.trans (aL (aF hq))),e3,e8,e12,jj,k3,y3,y4,y5,y2,y7,y8,wcr]<;>rfl) (by rfl)
  case oD33=>intro ev wo hev hC hs hph;have x0:=sd hs 69 25;have x1:=sd hs 76 32;have y:=sd hs 62 18;exact bq _ rfl rfl y rfl (by kernel_rfl) hC (aG.of rfl (aA.refl _)) (fun hq=>by simp[go_sem,(x0.trans (aL (aF hq))),(x1.trans (aL (aF hq))),e3,e8,e12,jj,k3,y3,y4,y5,y2,y7,y8,wcr]<;>rfl) (by rfl)
  case oD34=>intro ev wo hev hC hs hph;have x0:=sd hs 62 18;have x1:=sd hs 77 33;exact od rfl rfl (by kernel_rfl) hC (aG.of rfl (aA.refl _)) (by rw[gz rfl x0 (hev.const _) x1]<;>rfl)
  intro sg wf hC hph
  intro a hA
  replace hA:=hA.keepN [0,1,7,78]
  refine nT ?_
  have hok2:ah B= !(decide ((x3:Int)<1)||decide ((3:Int)<(x3:Int))||decide ((30000:Int)<(LN:Int))||(CN:Int) !=(cr:Int)):=by
   rw[hok,hmg,Bool.true_and,HH]
   have u1:decide ((x3:Int)<1)= !decide (1≤x3):=by rw[Bool.eq_iff_iff];simp;omega
   have u2:decide ((3:Int)<(x3:Int))= !decide (x3≤3):=by rw[Bool.eq_iff_iff];simp;omega
   have u3:decide ((30000:Int)<(LN:Int))= !decide (LN≤30000):=by rw[Bool.eq_iff_iff];simp;omega
   rw[u1,u2,u3]
   simp only[Bool.not_or,Bool.not_not]
  refine aH hA 78 _ rfl (fun hq2=> ?yE) (fun hq2=> ?nE)
  case yE=>
   have hno:ah B=false:=by rw[hok2,hq2];rfl
   refine wS (wR ?_)
   revert a;(iterate 3 refine wo rfl rfl (by decide) (fun ev e h=>by simp[go_sem,h,wLN]<;>rfl) ?_);intro a hA
   replace hA:=hA.keepN [4,5,6]
   refine wN (nT (wp_ret (rT ?_)))
   refine mW hA 4 5 6 rfl rfl rfl rfl ?_
   exact⟨0,0,by rw[hno],fun h=>(by rw[hno] at h;cases h),hC⟩
  case nE=>
   have hyes:ah B=true:=by rw[hok2,hq2];rfl
   have z3:wf.cell? (ad.add a3)=some (.int .u8 (x3:Nat)):=(hC.cell (p:=ad.add a3) (by rw[aD];exact had)).trans c3
   have wx3:IntKind.i64.wrap (x3:Int)=(x3:Int):=Be (Nat.lt_of_lt_of_le lx3 (by decide))
   refine wp_skip (nT (wS (wR ?_)))
   revert a;(iterate 5 refine wo rfl rfl (by decide) (fun ev e h=>by simp[go_sem,h,e3,jj,k3,z3,wx3]<;>rfl) ?_);intro a hA
   refine a7 hA rfl rfl (by decide) (fun ev h=>by simp[go_sem,h.get 83 rfl,e3,jj,k3,z3,wx3];try first|exact⟨rfl,rfl⟩|rfl) fun a hA=> ?_
   revert a;(iterate 4 refine wo rfl rfl (by decide) (fun ev e h=>by simp[go_sem,h,e3,jj,k3,z3,wx3]<;>rfl) ?_);intro a hA
   replace hA:=hA.keepN [4,5,6]
   refine wN (nT (wp_ret ?_))
   refine mW hA 4 5 6 rfl rfl rfl rfl ?_
   exact⟨_,_,by rw[hyes],fun _=>⟨by rw[hkd],by rw[hkl]⟩,hC⟩
theorem xZ (A:Option Addr) (n c at_:Nat) (b:List UInt8) (hl:b.length=n) (hc:n≤c) (hn:n≤1000000) (ha:at_≤n) (w:World) (hr:aE w w.heap.size 1 A n (ar b)):
 Calls Tryz.prog 49 #[.slice A n c, .int .i64 (at_:Nat)] w fun ev w'=>∃(k m:Int),ev= .returned (.tuple #[.int .i64 k, .int .i64 m, .bool (ah (b.drop at_))])∧(ah (b.drop at_)=true→k=(cE (b.drop at_):Nat)∧m=(cD (b.drop at_):Nat))∧Below w.heap.size w w':=by
 rcases Nat.lt_or_ge n (at_+44) with h|h
 ·refine(sQ A n c at_ h (by omega) w).mono fun ev w' ⟨h1,h2⟩=> ?_
  have hno:=kJ (b:=b.drop at_) (by rw[List.length_drop];omega)
  exact⟨0,0,by rw[h1,hno],fun h=>(by rw[hno] at h;cases h),h2▸Below.refl _ _⟩
 ·exact ur A n c at_ b hl hc h hn w hr
theorem pZ (l:List UInt8):∀x∈gQ l,0≤x∧x<256:=fun x hx=>by
 unfold gQ at hx
 obtain⟨b,_,rfl⟩:=List.mem_map.1 hx
 have:=b.toNat_lt
 omega
theorem zB (A:Option Addr) (n c:Nat) (b:List UInt8) (a2:Addr) (k d:Nat) (m:List UInt8) (hl:b.length=n) (hm:m.length=k) (h1:0<n) (h2:0<k) (hc:n≤c) (hn:n≤16000000) (hk:k≤1000000) (w:World) (hM:cX w)
 (hr:aE w w.heap.size 1 A n (ar b)) (hr2:aE w w.heap.size 1 (some a2) k (ar m)):
 Calls Tryz.prog 119 #[.slice A n c, .slice (some a2) k d] w fun ev w'=>ev= .returned (.int .i64 (Lib.index b m))∧Below w.heap.size w w':=by
 obtain⟨mx,hmx⟩:=hM
 obtain⟨ad,rfl,_,_⟩:=hr.2 h1
 have h:=Tryz.bytes_Index_at ad a2 n c k d (gQ b) (gQ m) mx w (by simpa[gQ] using hl) (by simpa[gQ] using hm) (pZ b) (pZ m) (nr hl hr) (nr hm hr2) hc (by omega) (by omega) hmx
 rw[gu,gu] at h
 exact h.mono fun ev w' ⟨h1,q,h2⟩=>⟨h1,by rw[h2];exact vZ (Below.refl _ _) q⟩
theorem wV (s sub:List UInt8):(Lib.index s sub= -1∧∀j,j≤s.length→Lib.occAt s sub j=false)∨∃i:Nat,i≤s.length∧Lib.index s sub=i∧Lib.occAt s sub i=true∧∀j,j<i→Lib.occAt s sub j=false:=by
 have key:∀k,(∀j,j<k→Lib.occAt s sub j=false)∨∃i,i<k∧Lib.occAt s sub i=true∧∀j,j<i→Lib.occAt s sub j=false:=by
  intro k
  induction k with
  |zero=>exact .inl fun j hj=>absurd hj (by omega)
  |succ k ih=>
   rcases ih with ih|⟨i,hi,h1,h2⟩
   ·cases hk:Lib.occAt s sub k with
    |true=>exact .inr ⟨k,by omega,hk,ih⟩
    |false=>
     refine .inl fun j hj=> ?_
     rcases Nat.lt_or_ge j k with h|h
     ·exact ih j h
     ·rw[show j=k by omega];exact hk
   ·exact .inr ⟨i,by omega,h1,h2⟩
 rcases key (s.length+1) with h|⟨i,hi,h1,h2⟩
 ·exact .inl ⟨Lib.index_none fun j hj=>h j (by omega),fun j hj=>h j (by omega)⟩
 ·exact .inr ⟨i,by omega,Lib.index_first (by omega) h1 h2,h1,h2⟩
theorem qo {b:List UInt8} {at_ j:Nat} (hj:at_≤j) (h:ah (b.drop j)=true):Lib.occAt (b.drop at_) [99,117,98] (j - at_)=true:=by
 unfold ah at h
 simp only[Bool.and_eq_true,beq_iff_eq] at h
 have h3:=h.1.2
 unfold Lib.occAt
 rw[List.drop_drop,show at_+(j - at_)=j by omega,List.isPrefixOf_iff_prefix,List.prefix_iff_eq_take]
 exact h3.symm
theorem uS {w:World} {B n q cap:Nat} {A:Option Addr} {l:List UInt8} (h:aE w B 1 A n (ar l)) (h2:q≤n) (hc:n≤cap):aE w B 1 (if cap=q then A else Option.map (fun x=>x.add q) A) (n - q) (ar (l.drop q)):=by
 have:=h.cut (k:=q) h2 hc
 rw[Nat.mul_one,show(ar l).drop q=ar (l.drop q) by rw[kV,kV,List.map_drop]] at this
 exact this
theorem GF {s sub:List UInt8} {i:Nat} (h:Lib.occAt s sub i=true) (h0:0<sub.length):i+sub.length≤s.length:=by
 unfold Lib.occAt at h
 have h1:=List.isPrefixOf_iff_prefix.1 h
 have h2:=h1.length_le
 rw[List.length_drop] at h2
 omega
theorem DO (w1:World):(convert 22 22 (.slice (some ⟨w1.heap.size,0,none⟩) 3 3)).run Tryz.prog (w1.alloc (.cells #[.int .u8 99, .int .u8 117, .int .u8 98] 5))= .ok (.slice (some ⟨w1.heap.size,0,none⟩) 3 3) (w1.alloc (.cells #[.int .u8 99, .int .u8 117, .int .u8 98] 5 (3,4))):=Lib.run_convert_bytes_const (P:=Tryz.prog) w1 22 5 #[.int .u8 99, .int .u8 117, .int .u8 98] 3 3 Tryz.underlying22 Tryz.underlying5
theorem y9 (w1:World):Below w1.heap.size w1 (w1.alloc (.cells #[.int .u8 99, .int .u8 117, .int .u8 98] 5 (3,4)))∧aE (w1.alloc (.cells #[.int .u8 99, .int .u8 117, .int .u8 98] 5 (3,4))) (w1.alloc (.cells #[.int .u8 99, .int .u8 117, .int .u8 98] 5 (3,4))).heap.size 1 (some ⟨w1.heap.size,0,none⟩) 3 (ar [99,117,98]):=
 ⟨(Below.refl _ _).alloc (Nat.le_refl _) _,ii (l:=[99,117,98]) (heap_alloc_new w1 _)⟩
theorem E7 (A:Option Addr) (n c:Nat) (b:List UInt8) (hl:b.length=n) (hc:n≤c) (hn:n≤16000000) (at0:Nat) (h0:at0≤n) (w:World) (hm:cX w) (hg:0<w.heap.size) (hr:aE w w.heap.size 1 A n (ar b)):
 Calls Tryz.prog 99 #[.slice A n c, .int .i64 (at0:Nat)] w fun ev w'=>∃i:Int,ev= .returned (.int .i64 i)∧((i= -1∧∀j,at0≤j→ah (b.drop j)=false)∨∃q:Nat,i=(q:Int)∧at0≤q∧q<n∧ah (b.drop q)=true∧∀j,at0≤j→j<q→ah (b.drop j)=false)∧Below w.heap.size w w':=by
 have HB:=Below.refl w.heap.size w
 refine aK 36 Tryz.func99 rfl rfl (Nat.le_of_ble_eq_true rfl) ?_
 intro a hA;replace hA:=hA.norm
 refine wS (wR ?_)
 revert a;refine wo rfl rfl (by decide) (fun ev e h=>by simp[go_sem,h]<;>rfl) ?_;intro a hA
 replace hA:=hA.keepN [0,1]
 refine wN (nT (wS (wB ?_)))
 refine aQ (fun k a wx=>∃(q:Nat),at0≤q∧q≤n∧k=n - q∧(∀j,at0≤j→j<q→ah (b.drop j)=false)∧At 36 [(0, .slice A n c),(1, .int .i64 (q:Nat))] a∧Below w.heap.size w wx) (n - at0) ?_ ?_
 ·exact⟨at0,Nat.le_refl _,h0,rfl,fun j h1 h2=>absurd h2 (by omega),hA,HB⟩
 clear HB
 rintro k a wx ⟨q,hq0,hqn,hk,hno,hA,HB⟩
 refine wS (wS (wR ?_))
 revert a;(iterate 4 refine wo rfl rfl (by decide) (fun ev e h=>by simp[go_sem,h]<;>rfl) ?_);intro a hA
 replace hA:=hA.keepN [0,1,12]
 refine wN (nT ?_)
 refine aH hA 12 _ rfl (fun hq=> ?yL) (fun hq=> ?nL)
 case nL=>
  have hqe:q=n:=by simp at hq;omega
  subst hqe
  replace hA:=hA.keepN []
  refine wp_exit (xT (xT (xB (nT (wS (wR ?_))))))
  revert a;refine wo rfl rfl (by decide) (fun ev e h=>by simp[go_sem,h]<;>rfl) ?_;intro a hA
  replace hA:=hA.keepN [4]
  refine wN (nT (wp_ret ?_))
  refine ab hA 4 rfl rfl ?_
  refine⟨-1,rfl, .inl ⟨rfl,fun j hj=> ?_⟩,HB⟩
  rcases Nat.lt_or_ge j q with h|h
  ·exact hno j hj h
  ·exact kJ (by rw[List.length_drop];omega)
 case yL=>
  have hlt:q<n:=by simp at hq;omega
  have hrx:=(hr.below HB).more HB.size
  have jq:(0:Int)≤(q:Int):=by omega
  have kq:(q:Int)≤(n:Int):=by omega
  have kc:(q:Int)≤(c:Int):=by omega
  refine wp_skip (nT (wB (wS (wR ?_))))
  revert a;(iterate 3 refine wo rfl rfl (by decide) (fun ev e h=>by simp[go_sem,h,jq,kq,kc]<;>rfl) ?_);intro a hA
  have hcv:=DO wx
  obtain⟨hb2,hR2⟩:=y9 wx
  have hrq:=uS hrx (q:=q) hqn hc
  refine a7 hA rfl rfl (by decide) (fun ev h=>by simp[go_sem,h.c,jq,kq,kc,Nat.zero_add];try first|exact⟨rfl,rfl⟩|rfl) fun a hA=> ?_
  refine a7 hA rfl rfl (by decide) (fun ev h=>by simp[go_sem,h.get 16 rfl,hcv];try first|exact⟨rfl,rfl⟩|rfl) fun a hA=> ?_
  obtain⟨w2,hw2⟩:∃w2,wx.alloc (.cells #[.int .u8 99, .int .u8 117, .int .u8 98] 5 (3,4))=w2:=⟨_,rfl⟩
  rw[hw2] at hb2 hR2 ⊢
  clear hcv hw2
  have hdl:(b.drop q).length=n - q:=by rw[List.length_drop,hl]
  have hB2:=HB.trans (hb2.mono HB.size)
  refine aC hA rfl rfl (by decide) (fun ev h=>aB Tryz.func119 (by kernel_rfl) rfl (h.f _) (by first|(simp only[mL,h.get 15 rfl,h.get 17 rfl,h.c]<;>rfl)|(simp[mL,h.get 15 rfl,h.get 17 rfl,h.c]<;>rfl))) (zB _ (n - q) (c - q) (b.drop q) _ 3 3 [99,117,98] hdl rfl (by omega) (by decide) (by omega) (by omega) (by decide) _ (hm.below hg hB2) ((hrq.below hb2).more hb2.size) hR2) ?_
  rintro e w3 ⟨rfl,hb3⟩
  refine⟨_,rfl,fun a hA=> ?_⟩
  replace HB:=hB2.trans (hb3.mono hB2.size)
  clear hR2 hb2 hrq
  obtain⟨z,hz⟩:∃z,Lib.index (b.drop q) [99,117,98]=z:=⟨_,rfl⟩
  rw[hz] at hA
  have hcs:=wV (b.drop q) [99,117,98]
  rw[hz,hdl] at hcs
  revert a;refine wo rfl rfl (by decide) (fun ev e h=>by simp[go_sem,h]<;>rfl) ?_;intro a hA
  replace hA:=hA.keepN [0,1,5]
  refine wN (nT (wS (wS (wR ?_))))
  revert a;(iterate 2 refine wo rfl rfl (by decide) (fun ev e h=>by simp[go_sem,h]<;>rfl) ?_);intro a hA
  replace hA:=hA.keepN [0,1,5,20]
  refine wN (nT ?_)
  refine aH hA 20 _ rfl (fun hq2=> ?yR) (fun hq2=> ?nR)
  case yR=>
   have hneg:z= -1∧∀j,j≤n - q→Lib.occAt (b.drop q) [99,117,98] j=false:=by
    rcases hcs with h|⟨i,_,h,_⟩
    ·exact h
    ·simp at hq2;omega
   refine wS (wR ?_)
   revert a;refine wo rfl rfl (by decide) (fun ev e h=>by simp[go_sem,h]<;>rfl) ?_;intro a hA
   replace hA:=hA.keepN [4]
   refine wN (nT (wp_ret (rT (rB (rT (rB (rT ?_)))))))
   refine ab hA 4 rfl rfl ?_
   refine⟨-1,rfl, .inl ⟨rfl,fun j hj=> ?_⟩,HB⟩
   rcases Nat.lt_or_ge j q with h|h
   ·exact hno j hj h
   ·cases hh:ah (b.drop j) with
    |false=>rfl
    |true=>
     have h44:=fb hh
     rw[List.length_drop] at h44
     have:=qo h hh
     rw[hneg.2 (j - q) (by omega)] at this
     cases this
  case nR=>
   obtain⟨i,hi,rfl,hocc,hfirst⟩:∃i:Nat,i≤n - q∧z=(i:Int)∧Lib.occAt (b.drop q) [99,117,98] i=true∧∀j,j<i→Lib.occAt (b.drop q) [99,117,98] j=false:=by
    rcases hcs with⟨h,_⟩|h
    ·simp at hq2;omega
    ·exact h
   have hil:=GF hocc (by decide)
   rw[hdl] at hil
   have hil:i+3≤n - q:=hil
   obtain⟨p,hp⟩:∃p,q+i=p:=⟨_,rfl⟩
   have hpn:p<n:=by omega
   have jp:(0:Int)≤(p:Int):=by omega
   have kp:(p:Int)≤(n:Int):=by omega
   have kpc:(p:Int)≤(c:Int):=by omega
   have b1:p≤1000000000:=by omega
   have b2:p+1≤1000000000:=by omega
   have hno2:∀j,at0≤j→j<p→ah (b.drop j)=false:=fun j h1 h2=>by
    rcases Nat.lt_or_ge j q with h|h
    ·exact hno j h1 h
    ·cases hh:ah (b.drop j) with
     |false=>rfl
     |true=>
      have:=qo h hh
      rw[hfirst (j - q) (by omega)] at this
      cases this
   have hrp:=uS ((hr.below HB).more HB.size) (q:=p) (by omega) hc
   have hdp:(b.drop p).length=n - p:=by rw[List.length_drop,hl]
   have m1:n - p≤c - p:=by omega
   have m2:n - p≤16000000:=by omega
   have wp:=cB hp b1
   have wp1:IntKind.i64.wrap ((p:Int)+1)=((p+1:Nat):Int):=cB rfl b2
   refine wp_skip (nT (wS (wR ?_)))
   revert a;(iterate 4 refine wo rfl rfl (by decide) (fun ev e h=>by simp[go_sem,h,wp,jp,kp,kpc]<;>rfl) ?_);intro a hA
   replace hA:=hA.keepN [0,1]
   refine wN (nT (wS (wS (wR ?_))))
   revert a;(iterate 3 refine wo rfl rfl (by decide) (fun ev e h=>by simp[go_sem,h,wp,jp,kp,kpc]<;>rfl) ?_);intro a hA
   refine aC hA rfl rfl (by decide) (fun ev h=>aB Tryz.func98 (by kernel_rfl) rfl (h.f _) (by first|(simp only[mL,h.get 27 rfl,h.c]<;>rfl)|(simp[mL,h.get 27 rfl,h.c,wp,jp,kp,kpc]<;>rfl))) (wT _ (n - p) (c - p) (b.drop p) hdp m1 m2 _ hrp) ?_
   rintro e w4 ⟨kk,mm,rfl,_,hb4⟩
   refine⟨_,rfl,fun a hA=> ?_⟩
   replace HB:=HB.trans (hb4.mono HB.size)
   revert a;(iterate 7 refine wo rfl rfl (by decide) (fun ev e h=>by simp[go_sem,h,wp1]<;>rfl) ?_);intro a hA
   replace hA:=hA.keepN [0,1,8]
   refine wN (nT (wS (wR ?_)))
   revert a;refine wo rfl rfl (by decide) (fun ev e h=>by simp[go_sem,h,wp1]<;>rfl) ?_;intro a hA
   replace hA:=hA.keepN [0,1,32]
   refine wN (nT ?_)
   refine aH hA 32 _ rfl (fun hq3=> ?yS) (fun hq3=> ?nS)
   case yS=>
    refine wS (wR ?_)
    revert a;(iterate 2 refine wo rfl rfl (by decide) (fun ev e h=>by simp[go_sem,h,wp1]<;>rfl) ?_);intro a hA
    replace hA:=hA.keepN [4]
    refine wN (nT (wp_ret (rT (rB (rT (rB (rT ?_)))))))
    refine ab hA 4 rfl rfl ?_
    exact⟨_,rfl, .inr ⟨p,rfl,by omega,hpn,hq3,hno2⟩,HB⟩
   case nS=>
    refine wp_skip (nT (wR ?_))
    revert a;(iterate 3 refine wo rfl rfl (by decide) (fun ev e h=>by simp[go_sem,h,wp1]<;>rfl) ?_);intro a hA
    replace hA:=hA.keepN [0,1]
    refine wN (nB (nT ?_))
    refine⟨n - (p+1),by omega,p+1,by omega,by omega,rfl,fun j h1 h2=> ?_,hA,HB⟩
    rcases Nat.lt_or_ge j p with h|h
    ·exact hno2 j h1 h
    ·rw[show j=p by omega];exact hq3
theorem qQ (A:Option Addr) (n c:Nat) (l:List UInt8) (hl:l.length=n) (hn:n≤100000000) (w:World) (hr:aE w w.heap.size 1 A n (ar l)):
 Calls Tryz.prog 79 #[.slice A n c] w fun ev w'=>∃r,ev= .returned r∧ce w.heap.size w' r l∧Below w.heap.size w w':=by
 have he:=Hf (P:=Tryz.prog) Tryz.underlying22 A n c w
 refine aK 8 Tryz.func79 rfl rfl (Nat.le_of_ble_eq_true rfl) ?_
 intro a hA;replace hA:=hA.norm
 refine wS (wR ?_)
 revert a;refine wo rfl rfl (by decide) (fun ev e h=>by simp[go_sem,h,he]<;>rfl) ?_;intro a hA
 replace hA:=hA.keepN [0]
 refine wN (nT (wS (wS (wR ?_))))
 revert a;(iterate 2 refine wo rfl rfl (by decide) (fun ev e h=>by simp[go_sem,h,he]<;>rfl) ?_);intro a hA
 replace hA:=hA.keepN [0,4]
 refine wN (nT ?_)
 refine aH hA 4 _ rfl (fun hq=> ?yN) (fun hq=> ?nN)
 case yN=>
  have hl0:l=[]:=by
   cases A with
   |none=>
    rcases Nat.eq_zero_or_pos n with h|h
    ·exact List.length_eq_zero_iff.1 (hl.trans h)
    ·obtain⟨ad,e,_⟩:=hr.2 h;cases e
   |some a=>cases hq
  subst hl0
  refine wS (wR ?_)
  revert a;refine wo rfl rfl (by decide) (fun ev e h=>by simp[go_sem,h]<;>rfl) ?_;intro a hA
  replace hA:=hA.keepN [2]
  refine wN (nT (wp_ret (rT ?_)))
  refine ab hA 2 rfl rfl ?_
  exact⟨_,rfl,ce.nil _,Below.refl _ _⟩
 case nN=>
  refine wp_skip (nT (wS (wR ?_)))
  refine aP hA rfl rfl (by decide) (fun ev h=>by simp[go_sem];try first|exact⟨rfl,rfl⟩|rfl) fun w1 a (K:aI _ _ _ _) hz hb hA=> ?_
  have ho:ce w.heap.size w1 (.slice (some ⟨w.heap.size,0,none⟩) 0 0) []:=gy K (Nat.le_refl _)
  revert a;refine wo rfl rfl (by decide) (fun ev e h=>by simp[go_sem,h]<;>rfl) ?_;intro a hA
  obtain⟨r,w2,hr2,ho2,hg2⟩:=ez ho (u:= .slice A n c) ⟨A,c,by rw[hl],by rw[hl];exact(hr.below hb).more hb.size⟩ (by simp;omega) hb.size
  have hb2:=dM hb ho hg2 (Nat.le_refl _) hb.size
  rw[List.nil_append] at ho2
  refine a7 hA rfl rfl (by decide) (fun ev h=>ao rfl (h.get 5 rfl) (h.get 6 rfl) hr2) fun a hA=> ?_
  revert a;refine wo rfl rfl (by decide) (fun ev e h=>by simp[go_sem,h]<;>rfl) ?_;intro a hA
  replace hA:=hA.keepN [2]
  refine wN (nT (wp_ret ?_))
  refine ab hA 2 rfl rfl ?_
  exact⟨_,rfl,ho2,hb2⟩
structure uE where
 at_:Nat
 kind:Nat
 a:Option Addr
 c:Nat
 b:List UInt8
def iE (r:uE):ig:=⟨r.at_,r.kind,r.b⟩
def Es (r:uE):List Value:=[.int .i64 (r.at_:Nat), .int .i64 (r.kind:Nat), .slice r.a r.b.length r.c]
theorem xY (r:uE):∀u∈Es r,u.oneCell'=true:=by
 intro u hu
 unfold Es at hu
 simp only[List.mem_cons,List.not_mem_nil,or_false] at hu
 rcases hu with rfl|rfl|rfl<;>rfl
def BX :Sh uE:=⟨124,121,3,40, .agg #[.int .i64 0, .int .i64 0, .slice none 0 0],Es,fun r=>[(r.a,r.b)],fun _=>rfl,xY,Tryz.underlying121,by kernel_rfl,rfl,by decide,by decide⟩
theorem FC (A:Option Addr) (n c:Nat) (b:List UInt8) (hl:b.length=n) (hc:n≤c) (hn:n≤16000000) (w:World) (hm:cX w) (hg:0<w.heap.size) (hr:aE w w.heap.size 1 A n (ar b)):
 Calls Tryz.prog 59 #[.slice A n c] w fun ev w'=>∃v l,ev= .returned (.tuple #[v, .int .i64 ((gP b).2:Nat)])∧ac BX w.heap.size w' v l∧l.map iE=(gP b).1∧Below w.heap.size w w':=by
 have HB:=Below.refl w.heap.size w
 refine aK 76 Tryz.func59 rfl rfl (Nat.le_of_ble_eq_true rfl) ?_
 intro a hA;replace hA:=hA.norm
 refine wS (wR ?_)
 revert a;(iterate 2 refine wo rfl rfl (by decide) (fun ev e h=>by simp[go_sem,h]<;>rfl) ?_);intro a hA
 replace hA:=hA.keepN [0]
 refine wN (nT (wS (wR ?_)))
 revert a;refine wo rfl rfl (by decide) (fun ev e h=>by simp[go_sem,h]<;>rfl) ?_;intro a hA
 replace hA:=hA.keepN [0,4]
 refine wN (nT (wS (wR ?_)))
 revert a;refine wo rfl rfl (by decide) (fun ev e h=>by simp[go_sem,h]<;>rfl) ?_;intro a hA
 replace hA:=hA.keepN [0,4,5]
 refine wN (nT (wS (wB ?_)))
 refine aQ (fun k a wx=>∃(q t:Nat) (v:Value) (l:List uE),k=n - q∧q≤n∧l.length≤q∧gP b=cC b q t (l.map iE)∧(t=q∨ah (b.drop q)=true)∧At 76 [(0, .slice A n c),(4,v),(5, .int .i64 (q:Nat))] a∧ac BX w.heap.size wx v l∧Below w.heap.size w wx) (n) ?_ ?_
 ·exact⟨0,0,_,[],rfl,by omega,by simp,rfl, .inl rfl,hA,ac.nil _ _,HB⟩
 clear HB
 rintro k a wx ⟨q,t,v,l,hk,hqn,hlen,hsc,ht,hA,ho,HB⟩
 refine wS (wS (wR ?_))
 revert a;(iterate 4 refine wo rfl rfl (by decide) (fun ev e h=>by simp[go_sem,h]<;>rfl) ?_);intro a hA
 replace hA:=hA.keepN [0,4,5,15]
 refine wN (nT ?_)
 refine aH hA 15 _ rfl (fun hq=> ?yL) (fun hq=> ?nL)
 case nL=>
  have hqe:q=n:=by simp at hq;omega
  have htq:t=q:=by
   rcases ht with h|h
   ·exact h
   ·have:=fb h
    rw[List.length_drop] at this
    omega
  rw[dy (by omega)] at hsc
  replace hA:=hA.keepN [4,5]
  refine wp_exit (xT (xT (xB (nT (wS (wR ?_))))))
  revert a;(iterate 4 refine wo rfl rfl (by decide) (fun ev e h=>by simp[go_sem,h]<;>rfl) ?_);intro a hA
  replace hA:=hA.keepN [2,3]
  refine wN (nT (wp_ret ?_))
  refine gJ hA 2 3 rfl rfl rfl ?_
  exact⟨v,l,by rw[hsc,htq],ho,by rw[hsc],HB⟩
 case yL=>
  have hlt:q<n:=by simp at hq;omega
  have jq:(0:Int)≤(q:Int):=by omega
  have kq:(q:Int)≤(n:Int):=by omega
  have kc:(q:Int)≤(c:Int):=by omega
  have m1:n - q≤c - q:=by omega
  have m2:n - q≤16000000:=by omega
  have hdl:(b.drop q).length=n - q:=by rw[List.length_drop,hl]
  have hrq:=uS ((hr.below HB).more HB.size) (q:=q) hqn hc
  refine wp_skip (nT (wB (wS (wR ?_))))
  revert a;(iterate 3 refine wo rfl rfl (by decide) (fun ev e h=>by simp[go_sem,h,jq,kq,kc]<;>rfl) ?_);intro a hA
  refine aC hA rfl rfl (by decide) (fun ev h=>aB Tryz.func98 (by kernel_rfl) rfl (h.f _) (by first|(simp only[mL,h.get 19 rfl,h.c]<;>rfl)|(simp[mL,h.get 19 rfl,h.c,jq,kq,kc]<;>rfl))) (wT _ (n - q) (c - q) (b.drop q) hdl m1 m2 _ hrq) ?_
  rintro e w2 ⟨kk,mm,rfl,hkm,hb2⟩
  refine⟨_,rfl,fun a hA=> ?_⟩
  have HB2:=HB.trans (hb2.mono HB.size)
  have ho2:=ho.below hb2
  revert a;(iterate 7 refine wo rfl rfl (by decide) (fun ev e h=>by simp[go_sem,h]<;>rfl) ?_);intro a hA
  replace hA:=hA.keepN [0,4,5,6,7,8]
  refine wN (nT (wS (wS (wR ?_))))
  revert a;(iterate 2 refine wo rfl rfl (by decide) (fun ev e h=>by simp[go_sem,h]<;>rfl) ?_);intro a hA
  replace hA:=hA.keepN [0,4,5,6,7,25]
  refine wN (nT ?_)
  refine aH hA 25 _ rfl (fun hq2=> ?yH) (fun hq2=> ?nH)
  case yH=>
   have hno:ah (b.drop q)=false:=by simpa using hq2
   obtain rfl:t=q:=by
    rcases ht with h|h
    ·exact h
    ·rw[hno] at h;cases h
   refine wS (wR ?_)
   revert a;(iterate 2 refine wo rfl rfl (by decide) (fun ev e h=>by simp[go_sem,h]<;>rfl) ?_);intro a hA
   refine aC hA rfl rfl (by decide) (fun ev h=>aB Tryz.func99 (by kernel_rfl) rfl (h.f _) (by first|(simp only[mL,h.get 26 rfl,h.get 27 rfl,h.c]<;>rfl)|(simp[mL,h.get 26 rfl,h.get 27 rfl,h.c]<;>rfl))) (E7 A n c b hl hc hn t (by omega) _ (hm.below hg HB2) (Nat.lt_of_lt_of_le hg HB2.size) ((hr.below HB2).more HB2.size)) ?_
   rintro e w3 ⟨z,rfl,hz,hb3⟩
   refine⟨_,rfl,fun a hA=> ?_⟩
   replace ho2:=ho2.below hb3
   replace HB2:=HB2.trans (hb3.mono HB2.size)
   revert a;refine wo rfl rfl (by decide) (fun ev e h=>by simp[go_sem,h]<;>rfl) ?_;intro a hA
   replace hA:=hA.keepN [0,4,5,9]
   refine wN (nT (wS (wS (wR ?_))))
   revert a;(iterate 2 refine wo rfl rfl (by decide) (fun ev e h=>by simp[go_sem,h]<;>rfl) ?_);intro a hA
   replace hA:=hA.keepN [0,4,5,9,30]
   refine wN (nT ?_)
   refine aH hA 30 _ rfl (fun hq3=> ?yI) (fun hq3=> ?nI)
   case yI=>
    have hnone:∀j,t≤j→ah (b.drop j)=false:=by
     rcases hz with⟨_,h⟩|⟨p,rfl,_⟩
     ·exact h
     ·simp at hq3;omega
    rw[DD hnone] at hsc
    refine wS (wR ?_)
    revert a;(iterate 4 refine wo rfl rfl (by decide) (fun ev e h=>by simp[go_sem,h]<;>rfl) ?_);intro a hA
    replace hA:=hA.keepN [2,3]
    refine wN (nT (wp_ret (rT (rT (rB (rT (rB (rT ?_))))))))
    refine gJ hA 2 3 rfl rfl rfl ?_
    exact⟨v,l,by rw[hsc],ho2,by rw[hsc],HB2⟩
   case nI=>
    obtain⟨p,rfl,hp1,hp2,hp3,hp4⟩:∃p:Nat,z=(p:Int)∧t≤p∧p<n∧ah (b.drop p)=true∧∀j,t≤j→j<p→ah (b.drop j)=false:=by
     rcases hz with⟨rfl,_⟩|h
     ·simp at hq3
     ·exact h
    have hne:p≠t:=fun e=>by rw[e,hno] at hp3;cases hp3
    have hskip:=oz (b:=b) (torn:=t) (l:=l.map iE) (p - t) t (fun j h1 h2=>hp4 j h1 (by omega)) (by omega)
    rw[show t+(p - t)=p by omega,←hsc] at hskip
    refine wp_skip (nT (wS (wR ?_)))
    revert a;(iterate 2 refine wo rfl rfl (by decide) (fun ev e h=>by simp[go_sem,h]<;>rfl) ?_);intro a hA
    replace hA:=hA.keepN [0,4,5]
    replace hA:=hA.keepN [0,4,5]
    refine wN (nT (wp_exit (xT (xB (nT ?_)))))
    exact⟨n - p,by omega,p,t,v,l,rfl,by omega,by omega,hskip, .inr hp3,hA,ho2,HB2⟩
  case nH=>
   have hyes:ah (b.drop q)=true:=by simpa using hq2
   obtain⟨rfl,rfl⟩:=hkm hyes
   have h44:=fb hyes
   rw[hdl] at h44
   obtain⟨m,hme⟩:∃m,cD (b.drop q)=m:=⟨_,rfl⟩
   rw[hme] at hA
   have hm30:m≤1000000:=by
    have hy:=hyes
    unfold ah at hy
    simp only[Bool.and_eq_true,decide_eq_true_eq] at hy
    have:=hy.2.1.2
    omega
   have b0:n - q - 44≤1000000000:=by omega
   have s1:IntKind.i64.wrap ((n:Int) - (q:Int))=((n - q:Nat):Int):=by rw[IntWalk.i64_in _ (by omega)];omega
   obtain⟨nq,hnq⟩:∃x,n - q=x:=⟨_,rfl⟩
   rw[hnq] at s1
   have s2:IntKind.i64.wrap ((nq:Int) - 44)=((nq - 44:Nat):Int):=by clear s1;rw[IntWalk.i64_in _ (by omega)];omega
   obtain⟨r44,hr44⟩:∃x,nq - 44=x:=⟨_,rfl⟩
   rw[hr44] at s2
   refine wp_skip (nT (wS (wS (wR ?_))))
   revert a;(iterate 7 refine wo rfl rfl (by decide) (fun ev e h=>by simp[go_sem,h,s1,s2]<;>rfl) ?_);intro a hA
   replace hA:=hA.keepN [0,4,5,6,7,40]
   refine wN (nT ?_)
   refine aH hA 40 _ rfl (fun hq3=> ?yT) (fun hq3=> ?nT)
   case yT=>
    have hgt:r44<m:=by clear s1 s2;simp at hq3;omega
    rw[ic hyes (by clear s1 s2;omega)] at hsc
    refine wS (wR ?_)
    revert a;(iterate 4 refine wo rfl rfl (by decide) (fun ev e h=>by simp[go_sem,h]<;>rfl) ?_);intro a hA
    replace hA:=hA.keepN [2,3]
    refine wN (nT (wp_ret (rT (rB (rT (rB (rT ?_)))))))
    refine gJ hA 2 3 rfl rfl rfl ?_
    exact⟨v,l,by rw[hsc],ho2,by rw[hsc],HB2⟩
   case nT=>
    have hle:m≤r44:=by clear s1 s2;simp at hq3;omega
    clear s1 s2
    have g1:q+44+m≤n:=by omega
    have g2:q+44+m≤16000000:=by omega
    have p1:q+44≤q+44+m:=by omega
    have p2:q+12≤q+44:=by omega
    have p3:q+44≤n:=by omega
    have p4:q+44≤16000000:=by omega
    have hpl:(cA (b.drop q)).length=m:=by
     unfold cA
     rw[hme,List.drop_drop,List.length_take,List.length_drop,hl]
     omega
    have hpe:(b.drop (q+44)).take (q+44+m - (q+44))=cA (b.drop q):=by
     unfold cA
     rw[hme,List.drop_drop,show q+44+m - (q+44)=m by omega]
    have hde:(b.drop (q+12)).take (q+44 - (q+12))=((b.drop q).drop 12).take 32:=by
     rw[List.drop_drop,show q+44 - (q+12)=32 by omega]
    have hdl2:(((b.drop q).drop 12).take 32).length=32:=by
     rw[List.drop_drop,List.length_take,List.length_drop,hl]
     omega
    have hrR:=(hr.below HB2).more HB2.size
    have hR1:=ew hrR p1 g1 hc
    have hR2:=ew hrR p2 p3 hc
    rw[hpe,show q+44+m - (q+44)=m by omega] at hR1
    rw[hde,show q+44 - (q+12)=32 by omega] at hR2
    have hscr:=jD (b:=b) (at_:=q) (torn:=t) (l:=l.map iE) hyes (by rw[hme,hl];omega)
    rw[←hsc,hme] at hscr
    obtain⟨q44,hq44⟩:∃x,q+44=x:=⟨_,rfl⟩
    obtain⟨q12,hq12⟩:∃x,q+12=x:=⟨_,rfl⟩
    obtain⟨qm,hqm⟩:∃x,q+44+m=x:=⟨_,rfl⟩
    rw[hq44] at g1 g2 p1 p2 p3 p4 hR1 hqm hscr
    rw[hqm] at g1 g2 p1 hscr
    rw[hq12] at p2 hR2
    have i1:(0:Int)≤(q44:Int):=by omega
    have i2:(q44:Int)≤(qm:Int):=by omega
    have i3:(qm:Int)≤(c:Int):=by omega
    have i4:(0:Int)≤(q12:Int):=by omega
    have i5:(q12:Int)≤(q44:Int):=by omega
    have i6:(q44:Int)≤(c:Int):=by omega
    have d1:qm - q44=m:=by omega
    have d2:q44 - q12=32:=by omega
    have w1':44+m≤1000000000:=by omega
    have g3:q44≤1000000000:=by omega
    have g4:qm≤1000000000:=by omega
    obtain⟨m44,hm44⟩:∃x,44+m=x:=⟨_,rfl⟩
    have hqm4:q+m44=qm:=by omega
    rw[hm44] at w1'
    have f1:IntKind.i64.wrap ((q:Int)+44)=(q44:Int):=cB (k:=44) hq44 g3
    have f2:IntKind.i64.wrap ((q44:Int)+(m:Int))=(qm:Int):=cB hqm g4
    have f4:IntKind.i64.wrap ((44:Int)+(m:Int))=(m44:Int):=cB (a:=44) hm44 w1'
    have f5:IntKind.i64.wrap ((q:Int)+(m44:Int))=(qm:Int):=cB hqm4 g4
    have f6:IntKind.i64.wrap ((q44:Int) - 32)=(q12:Int):=by
     clear f1 f2 f4 f5
     rw[IntWalk.i64_in _ (by omega)]
     omega
    refine wp_skip (nT (wS (wR ?_)))
    revert a;(iterate 9 refine wo rfl rfl (by decide) (fun ev e h=>by simp[go_sem,h,f1,f2,i1,i2,i3,d1]<;>rfl) ?_);intro a hA
    replace hA:=hA.keepN [0,4,5,6,7,10]
    refine wN (nT (wS (wS (wR ?_))))
    revert a;refine wo rfl rfl (by decide) (fun ev e h=>by simp[go_sem,h,f1,f2,i1,i2,i3,d1]<;>rfl) ?_;intro a hA
    refine aC hA rfl rfl (by decide) (fun ev h=>aB Tryz.func100 (by kernel_rfl) rfl (h.f _) (by first|(simp only[mL,h.get 51 rfl,h.c]<;>rfl)|(simp[mL,h.get 51 rfl,h.c,f1,f2,i1,i2,i3,d1]<;>rfl))) (qX _ m _ (cA (b.drop q)) hpl hm30 _ hR1) ?_
    rintro e w3 ⟨rfl,hb3⟩
    refine⟨_,rfl,fun a hA=> ?_⟩
    have HB3:=HB2.trans (hb3.mono HB2.size)
    replace ho2:=ho2.below hb3
    replace hR1:=(hR1.below hb3).more hb3.size
    replace hR2:=(hR2.below hb3).more hb3.size
    refine aP hA rfl rfl (by decide) (fun ev h=>by simp[go_sem,f1,f2,i1,i2,i3,d1];try first|exact⟨rfl,rfl⟩|rfl) fun w4 a (K9:aI _ _ _ _) hz4 hb4 hA=> ?_
    have hd32:=pJ (bK (cA (b.drop q)))
    refine di (ar (cP (cA (b.drop q)))) hA rfl rfl K9 (by rfl) hd32 (by kernel_rfl) (rp _) rfl (fun ev h=>⟨h.get 11 rfl,h.get 52 rfl⟩) fun w5 (K9:aI _ _ _ _) hs5=> ?_
    have hb5:=hs5.below hb4 (Nat.le_refl _)
    replace HB3:=HB3.trans (hb5.mono HB3.size)
    replace ho2:=ho2.below hb5
    replace hR1:=(hR1.below hb5).more hb5.size
    replace hR2:=(hR2.below hb5).more hb5.size
    have hR9:=ii (l:=cP (cA (b.drop q))) K9
    rw[bK] at hR9
    have hkb:cE (b.drop q)≤3:=by
     unfold ah at hyes
     simp only[Bool.and_eq_true,decide_eq_true_eq] at hyes
     exact hyes.2.1.1.2
    clear hb4 hb5 hs5 hb3
    replace hA:=hA.keepN [0,4,5,6,7,10,11]
    refine wN (nT (wS ?_))
    refine bi hA [(.det ?dE0),(.det ?dE1),(.det ?dE2),(.det ?dE3),(.det ?dE4),(.det ?dE5),(.det ?dE6),(.det ?dE7),(.det ?dE8)] [] (fun wy=>Below w5.heap.size w5 wy) (aG [] aA) (by kernel_rfl) rfl (by kernel_rfl) (by kernel_rfl) rfl ((Below.refl _ _).drew) (bF [] [true,true,true,true,true,true,true,true,true] [true,true,true,true,true,true,true,true,true] [] rfl rfl rfl (by kernel_rfl) ⟨trivial,trivial,trivial,trivial,trivial,trivial,trivial,trivial,trivial,trivial⟩ trivial) (fun _ h=>by cases h) (fun _ _ _ _ _ h=>by cases h) (fun _ h=>by cases h) ⟨?oE0, ?oE1, ?oE2, ?oE3, ?oE4, ?oE5, ?oE6, ?oE7, ?oE8,trivial⟩ (by kernel_rfl) ?fE
    case oE0=>intro ev wo hev hC hs hph;have x0:=se hA hs 11;exact od rfl rfl (by kernel_rfl) hC (aG.of rfl (aA.refl _)) (by simp[go_sem,x0,f1,f6,i4,i5,i6,d2]<;>rfl)
    case oE1=>intro ev wo hev hC hs hph;have x0:=se hA hs 0;exact od rfl rfl (by kernel_rfl) hC (aG.of rfl (aA.refl _)) (by simp[go_sem,x0,f1,f6,i4,i5,i6,d2]<;>rfl)
    case oE2=>intro ev wo hev hC hs hph;have x0:=se hA hs 5;exact od rfl rfl (by kernel_rfl) hC (aG.of rfl (aA.refl _)) (by simp[go_sem,x0,f1,f6,i4,i5,i6,d2]<;>rfl)
    case oE3=>intro ev wo hev hC hs hph;have x0:=sd hs 55 2;exact od rfl rfl (by kernel_rfl) hC (aG.of rfl (aA.refl _)) (by simp[go_sem,x0,hev.const,f1,f6,i4,i5,i6,d2]<;>rfl)
    case oE4=>intro ev wo hev hC hs hph;have x0:=sd hs 56 3;exact od rfl rfl (by kernel_rfl) hC (aG.of rfl (aA.refl _)) (by simp[go_sem,x0,hev.const,f1,f6,i4,i5,i6,d2]<;>rfl)
    case oE5=>intro ev wo hev hC hs hph;have x0:=se hA hs 5;exact od rfl rfl (by kernel_rfl) hC (aG.of rfl (aA.refl _)) (by simp[go_sem,x0,f1,f6,i4,i5,i6,d2]<;>rfl)
    case oE6=>intro ev wo hev hC hs hph;have x0:=sd hs 58 5;exact od rfl rfl (by kernel_rfl) hC (aG.of rfl (aA.refl _)) (by simp[go_sem,x0,hev.const,f1,f6,i4,i5,i6,d2]<;>rfl)
    case oE7=>intro ev wo hev hC hs hph;have x0:=sd hs 54 1;have x1:=sd hs 57 4;have x2:=sd hs 59 6;exact od rfl rfl (by kernel_rfl) hC (aG.of rfl (aA.refl _)) (by simp[go_sem,x0,x1,x2,f1,f6,i4,i5,i6,d2]<;>rfl)
    case oE8=>
     intro ev wo hev hC hs hph
     have e53:=sd hs 53 0
     have e60:=sd hs 60 7
     exact bm (aJ rfl) rfl (by kernel_rfl) ((gV _ _ 32 _ 32 _ (cP (cA (b.drop q))) (((b.drop q).drop 12).take 32) wo (bK _) hdl2 ((hR9.below hC).more hC.size) ((hR2.below hC).more hC.size)).mono fun e' w' h=>⟨h.1,h.2▸Below.refl _ _⟩) (aB Tryz.func36 (by kernel_rfl) rfl (hev.func _) (by first|(simp only[mL,e53,e60,hev.const]<;>rfl)|(simp[mL,e53,e60,hev.const]<;>rfl))) (by rfl) (fun w3 hb3=>⟨hC.trans (hb3.mono hC.size),aG.of rfl hb3⟩)
    intro sg wf hC hph
    intro a hA
    replace hA:=hA.keepN [0,4,5,6,7,10,61]
    refine nT ?_
    have HB4:=HB3.trans (hC.mono HB3.size)
    replace ho2:=ho2.below hC
    replace hR1:=(hR1.below hC).more hC.size
    clear hR9 hR2 hC K9
    have hrec:ed b q=bif (cP (cA (b.drop q))==((b.drop q).drop 12).take 32) then[⟨q,cE (b.drop q),cA (b.drop q)⟩] else[]:=rfl
    have hk2:n - qm<n - q:=by clear f1 f2 f4 f5 f6;omega
    have hlq:l.length<qm:=by clear f1 f2 f4 f5 f6;omega
    refine aH hA 61 _ rfl (fun hq4=> ?yG) (fun hq4=> ?nG)
    case nG=>
     rw[hrec,hq4,cond_false,List.append_nil] at hscr
     refine wp_skip (nT (wR ?_))
     revert a;(iterate 5 refine wo rfl rfl (by decide) (fun ev e h=>by simp[go_sem,h,f4,f5]<;>rfl) ?_);intro a hA
     replace hA:=hA.keepN [0,4,5]
     refine wN (nB (nT ?_))
     exact⟨n - qm,by rw[hk];exact hk2,qm,qm,v,l,rfl,g1,Nat.le_of_lt hlq,hscr, .inl rfl,hA,ho2,HB4⟩
    case yG=>
     rw[hrec,hq4,cond_true] at hscr
     refine wR ?_
     revert a;(iterate 4 refine wo rfl rfl (by decide) (fun ev e h=>by simp[go_sem,h,f1,f6,i4,i5,i6,d2]<;>rfl) ?_);intro a hA
     refine aC hA rfl rfl (by decide) (fun ev h=>aB Tryz.func79 (by kernel_rfl) rfl (h.f _) (by first|(simp only[mL,h.get 65 rfl,h.c]<;>rfl)|(simp[mL,h.get 65 rfl,h.c,f1,f6,i4,i5,i6,d2]<;>rfl))) (qQ _ m _ (cA (b.drop q)) hpl (by clear f1 f2 f4 f5 f6;omega) _ hR1) ?_
     rintro e w7 ⟨cl,rfl,hcl,hb7⟩
     refine⟨_,rfl,fun a hA=> ?_⟩
     replace HB4:=HB4.trans (hb7.mono HB4.size)
     have hvlt:=World.ownsRow.lt ho2.row
     replace ho2:=ho2.below hb7
     have hclt:=World.ownsRow.lt hcl
     obtain⟨A8,c8,rfl,hR8⟩:=hcl.took
     revert a;refine wo rfl rfl (by decide) (fun ev e h=>by simp[go_sem,h,f1,f6,i4,i5,i6,d2]<;>rfl) ?_;intro a hA
     refine aP hA rfl rfl (by decide) (fun ev h=>by simp[go_sem,h.get 67 rfl,f1,f6,i4,i5,i6,d2];try first|exact⟨rfl,rfl⟩|rfl) fun w8 a (K8:aI _ _ _ _) hz8 hb8 hA=> ?_
     replace HB4:=HB4.trans (hb8.mono HB4.size)
     replace ho2:=ho2.below hb8
     replace hR8:=(hR8.below hb8).more hb8.size
     have hrow:bu BX w8 _ [(⟨q,cE (b.drop q),A8,c8,cA (b.drop q)⟩:uE)]:=ey (s:=BX) (x:=⟨q,cE (b.drop q),A8,c8,cA (b.drop q)⟩) K8 (fun p hp=>by rw[List.mem_singleton.1 hp];exact hR8)
     obtain⟨r,w9,hr9,ho9,hgr, -⟩:=eT ho2 hrow (fun g hg x hx p hp=>by
      rw[List.mem_singleton.1 hx] at hp
      rw[List.mem_singleton.1 hp]
      intro hn ad ha he
      replace ha:A8=some ad:=ha
      have h1:=(hvlt g hg).2
      have h2:=(hclt ad.block (by rw[ha];rfl)).1
      omega) (by clear f1 f2 f4 f5 f6;simp;omega) HB4.size
     have HB9:=dN HB4 ho2 hgr (Nat.le_refl _) HB4.size
     refine a7 hA rfl rfl (by decide) (fun ev h=>ao rfl (h.get 62 rfl) (h.get 68 rfl) hr9) fun a hA=> ?_
     revert a;refine wo rfl rfl (by decide) (fun ev e h=>by simp[go_sem,h,f4,f5]<;>rfl) ?_;intro a hA
     replace hA:=hA.keepN [0,4,5,7]
     refine wN (nT (wR ?_))
     revert a;(iterate 5 refine wo rfl rfl (by decide) (fun ev e h=>by simp[go_sem,h,f4,f5]<;>rfl) ?_);intro a hA
     replace hA:=hA.keepN [0,4,5]
     refine wN (nB (nT ?_))
     exact⟨n - qm,by rw[hk];exact hk2,qm,qm,r,l++[⟨q,cE (b.drop q),A8,c8,cA (b.drop q)⟩],rfl,g1,by rw[List.length_append];exact hlq,by rw[List.map_append];exact hscr, .inl rfl,hA,ho9,HB9⟩
def em (k:Nat) (at_:Nat) (p:List UInt8):aX:=⟨(k:Int),(ko p).1,(mN (k:Int) p).1,(kn (k:Int) p).1,((mp (k:Int) p).1.1:Nat),((mp (k:Int) p).1.2:Nat),(DX (k:Int) p).1,at_⟩
def eL (l:List ig):List aX:=l.flatMap fun r=>bif bk (r.kind:Int) r.b then[em r.kind r.at_ r.b] else[]
def cM (b:List UInt8):List aX:=eL (gP b).1
theorem pd {l:List ig} {j:Nat} {r:ig} (hx:l[j]?=some r):eL (l.take (j+1))=eL (l.take j)++bif bk (r.kind:Int) r.b then[em r.kind r.at_ r.b] else[]:=by
 unfold eL
 rw[List.take_add_one,hx,List.flatMap_append]
 congr 1
 simp
theorem kU (l:List aX) (n:aX):bG (l++[n])=dU (bG l) n:=by unfold bG;rw[List.foldl_append];rfl
theorem mu (b:List UInt8):∀(f at_ torn:Nat) (l:List ig),b.length - at_≤f→(cC b at_ torn l).1.length≤l.length+(b.length - at_)
 |0,at_,torn,l,h=>by rw[dy (by omega)];exact Nat.le_add_right _ _
 |f+1,at_,torn,l,h=>by
  rcases Nat.lt_or_ge at_ b.length with h1|h1
  ·cases hh:ah (b.drop at_) with
   |false=>
    rw[ib hh h1]
    have:=mu b f (at_+1) torn l (by omega)
    omega
   |true=>
    rcases Nat.lt_or_ge b.length (cD (b.drop at_)+44+at_) with h2|h2
    ·rw[ic hh h2]
     exact Nat.le_add_right _ _
    ·rw[jD hh h2]
     have h3:=mu b f (at_+44+cD (b.drop at_)) (at_+44+cD (b.drop at_)) (l++ed b at_) (by omega)
     have h4:(ed b at_).length≤1:=by
      unfold ed
      cases cP (cA (b.drop at_))==((b.drop at_).drop 12).take 32<;>simp
     rw[List.length_append] at h3
     omega
  ·rw[dy h1];exact Nat.le_add_right _ _
theorem xt (b:List UInt8):(gP b).1.length≤b.length:=by
 have:=mu b b.length 0 0 [] (by omega)
 unfold gP
 simpa using this
theorem GK {b:List UInt8} (h:ah b=true):(cA b).length≤30000:=by
 unfold ah at h
 simp only[Bool.and_eq_true,decide_eq_true_eq] at h
 unfold cA
 rw[List.length_take]
 have:=h.2.1.2
 omega
theorem mv (b:List UInt8):∀(f at_ torn:Nat) (l:List ig),b.length - at_≤f→(∀r∈l,r.b.length≤30000)→∀r∈(cC b at_ torn l).1,r.b.length≤30000
 |0,at_,torn,l,h,hl=>by rw[dy (by omega)];exact hl
 |f+1,at_,torn,l,h,hl=>by
  rcases Nat.lt_or_ge at_ b.length with h1|h1
  ·cases hh:ah (b.drop at_) with
   |false=>
    rw[ib hh h1]
    exact mv b f (at_+1) torn l (by omega) hl
   |true=>
    rcases Nat.lt_or_ge b.length (cD (b.drop at_)+44+at_) with h2|h2
    ·rw[ic hh h2]
     exact hl
    ·rw[jD hh h2]
     refine mv b f (at_+44+cD (b.drop at_)) (at_+44+cD (b.drop at_)) (l++ed b at_) (by omega) fun r hr=> ?_
     rcases List.mem_append.1 hr with hr|hr
     ·exact hl r hr
     ·unfold ed at hr
      cases hd:cP (cA (b.drop at_))==((b.drop at_).drop 12).take 32 with
      |false=>rw[hd] at hr;cases hr
      |true=>
       rw[hd] at hr
       rw[List.mem_singleton.1 hr]
       exact GK hh
  ·rw[dy h1];exact hl
theorem xv (b:List UInt8):∀r∈(gP b).1,r.b.length≤30000:=mv b b.length 0 0 [] (by omega) fun r hr=>(by cases hr)
theorem kG {k:Int} {p:List UInt8} (h:bk k p=true):(k=1∨k=2∨k=3)∧(k=2→1≤(kn k p).1):=by
 unfold bk at h
 simp only[Bool.and_eq_true] at h
 have hf:=h.2.1
 unfold af at hf
 simp only[Bool.and_eq_true] at hf
 have hf:=hf.2
 cases h1:k==1 with
 |true=>have:k=1:=by simpa using h1
        exact⟨.inl this,fun h=>by omega⟩
 |false=>
  rw[h1,cond_false] at hf
  cases h2:k==2 with
  |true=>
   have h2':k=2:=by simpa using h2
   rw[h2,cond_true] at hf
   simp only[Bool.and_eq_true] at hf
   have hf:=hf.2
   unfold kZ at hf
   simp only[Bool.and_eq_true,decide_eq_true_eq] at hf
   exact⟨.inr (.inl h2'),fun _=>hf.1⟩
  |false=>
   rw[h2,cond_false] at hf
   simp only[Bool.and_eq_true] at hf
   have:k=3:=by simpa using hf.1.1.1
   exact⟨.inr (.inr this),fun h=>by omega⟩
theorem ET {s:fo} {n:aX} (hs:∀x∈s.live,1≤x.u) (hn:n.k=2→1≤n.u):∀x∈(dU s n).live,1≤x.u:=by
 intro x hx
 have hx:x∈du s.live n:=hx
 unfold du at hx
 cases h2:n.k==2 with
 |true=>
  rw[h2,cond_true] at hx
  rcases List.mem_append.1 hx with h|h
  ·exact hs x h
  ·rw[List.mem_singleton.1 h];exact hn (by simpa using h2)
 |false=>
  rw[h2,cond_false] at hx
  cases h3:n.k==3 with
  |true=>
   rw[h3,cond_true] at hx
   exact hs x (List.mem_filter.1 hx).1
  |false=>rw[h3,cond_false] at hx;exact hs x hx
theorem wZ (s:fo) (n:aX):(dU s n).live.length≤s.live.length+1:=by
 show(du s.live n).length≤_
 unfold du
 cases n.k==2
 ·cases n.k==3
  ·simp
  ·have:=List.length_filter_le (fun x=> !fP n x) s.live
   simp only[cond_true,cond_false]
   omega
 ·simp
theorem Eq (A:Option Addr) (n c:Nat) (b:List UInt8) (hl:b.length=n) (hc:n≤c) (hn:n≤16000000) (w:World) (hm:cX w) (hg:0<w.heap.size) (htab:Lib.TabIs Tryz.prog w "internal/strconv.uint64pow10" .u64 Lib.pow10Tab) (hr:aE w w.heap.size 1 A n (ar b)):
 Calls Tryz.prog 26 #[.slice A n c] w fun ev w'=>∃v L,ev= .returned (.agg #[.string (bG (cM b)).nm, .int .u32 ((bG (cM b)).ep:Nat), .int .u32 ((bG (cM b)).nx:Nat),v, .int .i64 ((gP b).2:Nat), .bool (al (bG (cM b)))])∧ac dA w.heap.size w' v L∧L.map iw=(bG (cM b)).live.map iS∧Below w.heap.size w w':=by
 have Ht:=Lib.tabBelow_of_tabIs htab
 refine aK 41 Tryz.func26 rfl rfl (Nat.le_of_ble_eq_true rfl) ?_
 intro a hA;replace hA:=hA.norm
 refine wS (wR ?_)
 refine aP hA rfl rfl (by decide) (fun ev h=>by simp[go_sem];try first|exact⟨rfl,rfl⟩|rfl) fun w1 a (K2:aI _ _ _ _) hz1 hb1 hA=> ?_
 replace hA:=hA.keepN [0,2]
 refine wN (nT (wS (wR ?_)))
 revert a;refine wo rfl rfl (by decide) (fun ev e h=>by simp[go_sem,h]<;>rfl) ?_;intro a hA
 refine aC hA rfl rfl (by decide) (fun ev h=>aB Tryz.func59 (by kernel_rfl) rfl (h.f _) (by first|(simp only[mL,h.get 11 rfl,h.c]<;>rfl)|(simp[mL,h.get 11 rfl,h.c]<;>rfl))) (FC A n c b hl hc hn _ (hm.below hg hb1) (Nat.lt_of_lt_of_le hg hb1.size) ((hr.below hb1).more hb1.size)) ?_
 rintro e w2 ⟨vs,l,rfl,hos,hlm,hb2⟩
 refine⟨_,rfl,fun a hA=> ?_⟩
 replace K2:=K2.below hb2 K2.lt
 have HB:=hb1.trans (hb2.mono hb1.size)
 have hosl:=World.ownsRow.lt hos.row
 obtain⟨As,cs,rfl,hrs,_⟩:=hos.reads
 obtain⟨T,hT⟩:∃T,(gP b).2=T:=⟨_,rfl⟩
 rw[hT] at hA
 revert a;(iterate 5 refine wo rfl rfl (by decide) (fun ev e h=>by simp[go_sem,h]<;>rfl) ?_);intro a hA
 replace hA:=hA.keepN [2,3,4]
 refine wN (nT (wS (wR ?_)))
 revert a;(iterate 2 refine wo rfl rfl (by decide) (fun ev e h=>by simp[go_sem,h]<;>rfl) ?_);intro a hA
 have K20:=K2
 refine ap [.string ⟨#[]⟩, .int .u32 0, .int .u32 1, .slice none 0 0, .int .i64 (T:Nat), .bool false] hA rfl rfl (by decide) (fun ev h=>by simp[go_sem];try first|exact⟨rfl,rfl⟩|rfl) rfl rfl (by rfl) (fun w1 g ev hb h=>by simp[go_sem,h.get 5 rfl,h.get 16 rfl,setAll,hb.cell,hb.frozen]) fun w3 a (KL:aI _ _ _ _) hz3 hb3 hA=> ?_
 replace K2:=K2.below hb3 K2.lt
 replace HB:=HB.trans (hb3.mono HB.size)
 replace hA:=hA.keepN [2,3,5]
 refine wN (nT (wS (wS (wR ?_))))
 revert a;(iterate 3 refine wo rfl rfl (by decide) (fun ev e h=>by simp[go_sem,h]<;>rfl) ?_);intro a hA
 replace hA:=hA.keepN [2,5,17,18,19]
 refine wN (nT (wB ?_))
 obtain⟨pl,hpl⟩:∃x,w2.heap.size=x:=⟨_,rfl⟩
 rw[hpl] at KL hA
 have hpw:w.heap.size<pl:=by have:=K2.lt;have:=hb1.size;have:=hb2.size;omega
 have hb3':Below pl w2 w3:=hpl▸hb3
 have hll:l.length≤n:=by
  have:=xt b
  rw[←hlm,List.length_map] at this
  omega
 refine aQ (fun kk a wx=>∃(j:Nat) (v:Value) (L:List eR) (S:fo),j+kk=l.length∧At 41 [(2, .pointer (some ⟨w.heap.size,0,none⟩)),(5, .pointer (some ⟨pl,0,none⟩)),(17, .slice As l.length cs),(18, .int .i64 (l.length:Nat)),(19, .int .i64 (j:Nat))] a∧S=bG (eL ((l.map iE).take j))∧aI wx pl 77 #[.string S.nm, .int .u32 (S.ep:Nat), .int .u32 (S.nx:Nat),v, .int .i64 (T:Nat), .bool false]∧ac dA (pl+1) wx v L∧L.map iw=S.live.map iS∧(∀x∈S.live,1≤x.u)∧S.live.length≤j∧Below pl w2 wx∧pl<wx.heap.size) (l.length) ?_ ?_
 ·exact⟨0,_,[],wb,by omega,hA,rfl,KL,ac.nil _ _,rfl,fun x hx=>(by cases hx),Nat.zero_le _,hb3',KL.lt⟩
 clear KL hb3 hb3'
 rintro kk a wx ⟨j,v,L,S,hjk,hA,hS,KL,ho,hlv,huid,hlen,HL,hplx⟩
 refine wS (wR ?_)
 revert a;refine wo rfl rfl (by decide) (fun ev e h=>by simp[go_sem,h]<;>rfl) ?_;intro a hA
 replace hA:=hA.keepN [2,5,17,18,19,20]
 refine wN (nT (wS ?_))
 refine aH hA 20 _ rfl (fun hq=> ?yI) (fun hq=> ?nI)
 case nI=>
  have hjn:j=l.length:=by simp at hq;omega
  have hSb:S=bG (cM b):=by
   rw[hS,hjn,List.take_of_length_le (by simp),hlm]
   rfl
  rw[←hSb]
  have h1:∀x∈L,1≤x.m.uid:=fun x hx=>by
   have h2:iw x∈S.live.map iS:=by rw[←hlv];exact List.mem_map_of_mem hx
   obtain⟨y,hy,e⟩:=List.mem_map.1 h2
   have h3:=congrArg (fun q=>q.2.1) e
   have h4:y.u=x.m.uid:=h3
   rw[←h4]
   exact huid y hy
  have hLl:L.length=S.live.length:=by have:=congrArg List.length hlv;simpa using this
  have K2:=K20.below (hpl▸HL) K20.lt
  obtain⟨A0,c0,rfl,hrr,_⟩:=ho.reads
  replace hA:=hA.keepN [2,5]
  refine wp_exit (xT (xT (xB (nT (wS (wR ?_))))))
  refine aC hA rfl rfl (by decide) (fun ev h=>aB Tryz.func61 (by kernel_rfl) rfl (h.f _) (by first|(simp only[mL,h.get 5 rfl,h.c]<;>rfl)|(simp[mL,h.get 5 rfl,h.c]<;>rfl))) (Bu pl S (T:Int) false A0 L.length c0 L _ KL hrr rfl (by omega) hlv h1) ?_
  rintro e w9 ⟨rfl,hb9⟩
  refine⟨_,rfl,fun a hA=> ?_⟩
  replace KL:=KL.below hb9 KL.lt
  replace ho:=ho.below hb9
  replace K2:=K2.below hb9 K2.lt
  replace HL:=HL.trans (hb9.mono (Nat.le_of_lt hplx))
  have KL0:=KL
  revert a;refine wo rfl rfl (by decide) (fun ev e h=>by simp[go_sem,h]<;>rfl) ?_;intro a hA
  refine aq ([.string S.nm, .int .u32 (S.ep:Nat), .int .u32 (S.nx:Nat), .slice A0 L.length c0, .int .i64 (T:Nat), .bool (al S)]) _ hA rfl rfl KL (j:=5) (by rfl) (fun ev h=>by simp[go_sem,h.get 39 rfl,h.get 38 rfl,KL.cell,KL.frozen];try first|exact⟨rfl,rfl⟩|rfl) fun w10 (KL:aI _ _ _ _) hs10=> ?_
  replace HL:=hs10.below HL (Nat.le_refl _)
  replace ho:=ho.onlyK hs10 KL0 (by decide) rfl
  replace K2:=hs10.blk K2 (by omega)
  replace hA:=hA.keepN [2,5]
  refine wN (nT (wS (wR ?_)))
  revert a;refine wo rfl rfl (by decide) (fun ev e h=>by simp[go_sem,h,KL.cell]<;>rfl) ?_;intro a hA
  have K29:=K2
  refine bX [.string S.nm, .int .u32 (S.ep:Nat), .int .u32 (S.nx:Nat), .slice A0 L.length c0, .int .i64 (T:Nat), .bool (al S)] hA rfl rfl K2 (by rfl) (fun ev h=>by simp[go_sem,h.get 2 rfl,h.get 40 rfl,KL.cell,setAll,K2.cell,K2.frozen]) fun w11 (K2:aI _ _ _ _) hs11=> ?_
  have HBB:Below w.heap.size w w10:=(hb1.trans (hb2.mono hb1.size)).trans (HL.mono (Nat.le_of_lt hpw))
  replace hA:=hA.keepN [2]
  refine wN (nT (wp_ret ?_))
  refine bodyPost_ret (by simp[results,Tryz.results26,go_sem,hA.env 2 _ rfl,K2.cell];try first|exact⟨rfl,rfl⟩|rfl) hA.defers ?_
  exact⟨_,L,by rw[hT],(ho.onlyK hs11 K29 (by decide) rfl).mono (by omega),hlv,hs11.below HBB (Nat.le_refl _)⟩
 case yI=>
  have hlt:j<l.length:=by simp at hq;omega
  obtain⟨x,hx⟩:∃x,l[j]?=some x:=⟨_,List.getElem?_eq_getElem (by omega)⟩
  have hxb:x.b.length≤1000000:=by
   have h1:iE x∈(gP b).1:=by rw[←hlm];exact List.mem_map_of_mem (List.mem_of_getElem? hx)
   have:=xv b _ h1
   have h2:(iE x).b.length=x.b.length:=rfl
   omega
  have hxr0:=hrs.octs x (List.mem_of_getElem? hx) (x.a,x.b) (List.mem_singleton.2 rfl)
  obtain⟨ad,rfl,hadl,kz,kk'⟩:=hrs.cell hx
  have hadp:ad.block<pl:=hpl▸hadl
  have z0:wx.cell? (ad.add (j*3))=some (.int .i64 (x.at_:Nat)):=(HL.cell (by rw[aD];exact hadp)).trans (kz _ rfl)
  have z1:=(HL.cell (p:=⟨(ad.add (j*3)).block,(ad.add (j*3)).off+1,none⟩) (by show(ad.add _).block<_;rw[aD];exact hadp)).trans (kk' 1 _ (by decide) rfl)
  have z2:=(HL.cell (p:=⟨(ad.add (j*3)).block,(ad.add (j*3)).off+2,none⟩) (by show(ad.add _).block<_;rw[aD];exact hadp)).trans (kk' 2 _ (by decide) rfl)
  have jj0:(0:Int)≤(j:Int):=by omega
  have jj1:(j:Int)<(l.length:Int):=by omega
  have hwj:IntKind.i64.wrap ((j:Int)+1)=(j:Int)+1:=IntWalk.i64_in _ (by omega)
  refine wp_skip (nT (wS (wB (wS (wR ?_)))))
  revert a;(iterate 2 refine wo rfl rfl (by decide) (fun ev e h=>by simp[go_sem,h,z0,z1,z2,jj0,jj1]<;>rfl) ?_);intro a hA
  refine ap [.int .i64 (x.at_:Nat), .int .i64 (x.kind:Nat), .slice x.a x.b.length x.c] hA rfl rfl (by decide) (fun ev h=>by simp[go_sem,z0,z1,z2,jj0,jj1];try first|exact⟨rfl,rfl⟩|rfl) rfl rfl (by rfl) (fun w1 g ev hb h=>by simp[go_sem,h.get 7 rfl,h.get 22 rfl,z0,z1,z2,jj0,jj1,setAll,hb.cell,hb.frozen]) fun w5 a (K7:aI _ _ _ _) hz5 hb5 hA=> ?_
  replace KL:=KL.below hb5 KL.lt
  replace ho:=ho.below hb5
  replace HL:=HL.trans (hb5.mono (Nat.le_of_lt hplx))
  have hpl5:pl<w5.heap.size:=by omega
  clear z0 z1 z2 kz kk' hb5
  have HBB:Below w.heap.size w w5:=(hb1.trans (hb2.mono hb1.size)).trans (HL.mono (Nat.le_of_lt hpw))
  have hxr:=hxr0.below (hpl▸HL)
  replace hA:=hA.keepN [2,5,7,17,18,19]
  refine wN (nT (wS (wR ?_)))
  revert a;(iterate 4 refine wo rfl rfl (by decide) (fun ev e h=>by simp[go_sem,h,K7.cell]<;>rfl) ?_);intro a hA
  have hvlt:=World.ownsRow.lt ho.row
  refine aC hA rfl rfl (by decide) (fun ev h=>aB Tryz.func23 (by kernel_rfl) rfl (h.f _) (by first|(simp only[mL,h.get 25 rfl,h.get 27 rfl,h.c]<;>rfl)|(simp[mL,h.get 25 rfl,h.get 27 rfl,h.c,K7.cell]<;>rfl))) (qV (x.kind:Int) x.a x.b.length x.c x.b rfl hxb _ (hm.below hg HBB) (Nat.lt_of_lt_of_le hg HBB.size) (Ht _ HBB) hxr) ?_
  rintro e w6 ⟨na,nc,rfl,hoct,hb6⟩
  refine⟨_,rfl,fun a hA=> ?_⟩
  replace KL:=KL.below hb6 KL.lt
  replace ho:=ho.below hb6
  replace K7:=K7.below hb6 K7.lt
  replace HL:=HL.trans (hb6.mono (Nat.le_of_lt hpl5))
  have hpl6:pl<w6.heap.size:=Nat.lt_of_lt_of_le hpl5 hb6.size
  have hsu:=pd (l:=l.map iE) (j:=j) (r:=iE x) (by rw[List.getElem?_map,hx];rfl)
  obtain⟨m,hme⟩:∃m,vO (x.kind:Int) x.b na nc=m:=⟨_,rfl⟩
  cases hd:bk (x.kind:Int) x.b with
  |false=>
   rw[hd] at hA
   rw[show bk ((iE x).kind:Int) (iE x).b=false from hd,cond_false,List.append_nil] at hsu
   unfold rH at hA
   rw[cond_false,cond_false] at hA
   revert a;(iterate 3 refine wo rfl rfl (by decide) (fun ev e h=>by simp[go_sem,h,hwj]<;>rfl) ?_);intro a hA
   refine ap [.int .i64 0, .int .u32 0, .string ⟨#[]⟩, .int .u32 0, .int .i64 0, .int .i64 0, .slice none 0 0] hA rfl rfl (by decide) (fun ev h=>by simp[go_sem,hwj];try first|exact⟨rfl,rfl⟩|rfl) rfl rfl (by rfl) (fun w1 g ev hb h=>by simp[go_sem,h.get 8 rfl,h.get 29 rfl,hwj,setAll,hb.cell,hb.frozen]) fun w7 a (K8:aI _ _ _ _) hz7 hb7 hA=> ?_
   replace KL:=KL.below hb7 KL.lt
   replace ho:=ho.below hb7
   replace HL:=HL.trans (hb7.mono (Nat.le_of_lt hpl6))
   have hpl7:pl<w7.heap.size:=by omega
   revert a;refine wo rfl rfl (by decide) (fun ev e h=>by simp[go_sem,h,hwj]<;>rfl) ?_;intro a hA
   replace hA:=hA.keepN [2,5,7,8,9,17,18,19]
   refine wN (nT (wS (wR ?_)))
   revert a;(iterate 2 refine wo rfl rfl (by decide) (fun ev e h=>by simp[go_sem,h,hwj]<;>rfl) ?_);intro a hA
   replace hA:=hA.keepN [2,5,7,8,17,18,19,32]
   refine wN (nT ?_)
   refine aH hA 32 _ rfl (fun hq2=> ?yE) (fun hq2=> ?nE)
   case yE=>cases hq2
   case nE=>
    refine wp_skip (nB (nT (wR ?_)))
    revert a;(iterate 2 refine wo rfl rfl (by decide) (fun ev e h=>by simp[go_sem,h,hwj]<;>rfl) ?_);intro a hA
    replace hA:=hA.keepN [2,5,17,18,19]
    refine wN (nT ?_)
    rw[show((j:Int)+1)=((j+1:Nat):Int) by omega] at hA
    exact⟨kk - 1,by omega,j+1,v,L,S,by omega,hA,by rw[hsu];exact hS,KL,ho,hlv,huid,by omega,HL,hpl7⟩
  |true=>
   rw[hd] at hA
   rw[show bk ((iE x).kind:Int) (iE x).b=true from hd,cond_true] at hsu
   rw[cond_true,cond_true,hme] at hA
   unfold fQ at hA
   obtain⟨ho1,ho2⟩:=hoct hd
   have hma:m.a=na:=by rw[←hme];rfl
   have hmb:m.b=(DX (x.kind:Int) x.b).1:=by rw[←hme];rfl
   have hmu:m.uid<4294967296:=by rw[←hme];exact um _ _
   have hmR:bj w6 (m.a,m.b):=by
    show aE w6 w6.heap.size 1 m.a m.b.length (ar m.b)
    rw[hma,hmb]
    exact ho1
   revert a;(iterate 3 refine wo rfl rfl (by decide) (fun ev e h=>by simp[go_sem,h,hwj]<;>rfl) ?_);intro a hA
   refine ap [.int .i64 (x.kind:Nat), .int .u32 ((ko x.b).1:Nat), .string (mN (x.kind:Int) x.b).1, .int .u32 (m.uid:Nat), .int .i64 m.date, .int .i64 m.flags, .slice m.a m.b.length m.c] hA rfl rfl (by decide) (fun ev h=>by simp[go_sem,hwj];try first|exact⟨rfl,rfl⟩|rfl) rfl rfl (by rfl) (fun w1 g ev hb h=>by simp[go_sem,h.get 8 rfl,h.get 29 rfl,hwj,setAll,hb.cell,hb.frozen]) fun w7 a (K8:aI _ _ _ _) hz7 hb7 hA=> ?_
   replace KL:=KL.below hb7 KL.lt
   replace ho:=ho.below hb7
   replace K7:=K7.below hb7 K7.lt
   replace HL:=HL.trans (hb7.mono (Nat.le_of_lt hpl6))
   replace hmR:=hmR.below hb7
   have hpl7:pl<w7.heap.size:=by omega
   revert a;refine wo rfl rfl (by decide) (fun ev e h=>by simp[go_sem,h,hwj]<;>rfl) ?_;intro a hA
   replace hA:=hA.keepN [2,5,7,8,9,17,18,19]
   refine wN (nT (wS (wR ?_)))
   revert a;(iterate 2 refine wo rfl rfl (by decide) (fun ev e h=>by simp[go_sem,h,hwj]<;>rfl) ?_);intro a hA
   replace hA:=hA.keepN [2,5,7,8,17,18,19,32]
   refine wN (nT ?_)
   refine aH hA 32 _ rfl (fun hq2=> ?yE2) (fun hq2=> ?nE2)
   case nE2=>cases hq2
   case yE2=>
    refine wR ?_
    revert a;(iterate 3 refine wo rfl rfl (by decide) (fun ev e h=>by simp[go_sem,h,K8.cell,K7.cell]<;>rfl) ?_);intro a hA
    have hLl:L.length=S.live.length:=by have:=congrArg List.length hlv;simpa using this
    have hoffm:∀g,v.ownBlock=some g→jR g (m.a,m.b):=fun g hg hn ad' ha he=>by
     have h1:=(hvlt g hg).2
     have h2:=ho2 ad' (by rw[←hma];exact ha)
     omega
    refine aC hA rfl rfl (by decide) (fun ev h=>aB Tryz.func60 (by kernel_rfl) rfl (h.f _) (by first|(simp only[mL,h.get 5 rfl,h.get 33 rfl,h.get 35 rfl,h.c]<;>rfl)|(simp[mL,h.get 5 rfl,h.get 33 rfl,h.get 35 rfl,h.c,K8.cell,K7.cell]<;>rfl))) (FM pl (pl+1) (x.kind:Int) (ko x.b).1 (mN (x.kind:Int) x.b).1 m x.at_ S (T:Int) false v L _ (kG hd).1 (Nat.lt_succ_self _) hpl7 KL ho (by omega) hlv hmR hoffm hmu (em x.kind x.at_ x.b) (by rw[←hme];rfl)) ?_
    rintro e w8 ⟨rfl,v',L',KL',ho',hlv',hb8⟩
    refine⟨_,rfl,fun a hA=> ?_⟩
    have HL8:=HL.trans hb8
    have hlen8:=wZ S (em x.kind x.at_ x.b)
    have hsz8:=hb8.size
    replace hA:=hA.keepN [2,5,17,18,19]
    refine wN (nB (nT (wR ?_)))
    revert a;(iterate 2 refine wo rfl rfl (by decide) (fun ev e h=>by simp[go_sem,h,hwj]<;>rfl) ?_);intro a hA
    replace hA:=hA.keepN [2,5,17,18,19]
    refine wN (nT ?_)
    rw[show((j:Int)+1)=((j+1:Nat):Int) by omega] at hA
    exact⟨kk - 1,by omega,j+1,v',L',dU S (em x.kind x.at_ x.b),by omega,hA,by rw[hsu,kU,←hS];rfl,KL',ho',hlv',ET huid (kG hd).2,by omega,HL8,by omega⟩
theorem BL (a b:Nat):((a:Int)==(b:Int))=(a==b):=by rw[Bool.eq_iff_iff,beq_iff_eq,beq_iff_eq];omega
def tq (x y:aU):Bool:=x.uid==y.uid&&x.date==y.date&&x.flags==y.flags&&x.b==y.b
def jC :List aU→List aU→Bool
 |[],[]=>true
 |x::r,y::s=>tq x y&&jC r s
 |_,_=>false
theorem tp :∀{l m:List aU},l.length≠m.length→jC l m=false
 |[],[],h=>absurd rfl h
 |[],_::_,_=>rfl
 |_::_,[],_=>rfl
 |x::r,y::s,h=>by
  unfold jC
  rw[tp (l:=r) (m:=s) (by simpa using h),Bool.and_false]
theorem Ex {l m:List aU} {j:Nat} {x y:aU} (hx:l[j]?=some x) (hy:m[j]?=some y):jC (l.drop j) (m.drop j)=(tq x y&&jC (l.drop (j+1)) (m.drop (j+1))):=by
 rw[List.drop_eq_getElem_cons (List.getElem?_eq_some_iff.1 hx).1,(List.getElem?_eq_some_iff.1 hx).2,List.drop_eq_getElem_cons (List.getElem?_eq_some_iff.1 hy).1,(List.getElem?_eq_some_iff.1 hy).2]
 rfl
def gq (n1:ByteArray) (e1 x1:Nat) (l1:List aU) (n2:ByteArray) (e2 x2:Nat) (l2:List aU):Bool:=n1.toList==n2.toList&&e1==e2&&x1==x2&&jC l1 l2
theorem xc (x y:aU) (w:World) (hx:aE w w.heap.size 1 x.a x.b.length (ar x.b)) (hy:aE w w.heap.size 1 y.a y.b.length (ar y.b)):
 Calls Tryz.prog 41 #[.agg #[.int .u32 (x.uid:Nat), .int .i64 x.date, .int .i64 x.flags, .slice x.a x.b.length x.c], .agg #[.int .u32 (y.uid:Nat), .int .i64 y.date, .int .i64 y.flags, .slice y.a y.b.length y.c]] w fun ev w'=>ev= .returned (.bool (tq x y))∧Below w.heap.size w w':=by
 refine aK 33 Tryz.func41 rfl rfl (Nat.le_of_ble_eq_true rfl) ?_
 intro a hA;replace hA:=hA.norm
 refine wS (wR ?_)
 refine aP hA rfl rfl (by decide) (fun ev h=>by simp[go_sem,h.get 0 rfl];try first|exact⟨rfl,rfl⟩|rfl) fun w1 a (K:aI _ _ _ _) hz0 hb0 hA=> ?_
 replace hx:=(hx.below hb0).more hb0.size
 replace hy:=(hy.below hb0).more hb0.size
 refine aP hA rfl rfl (by decide) (fun ev h=>by simp[go_sem,h.get 1 rfl];try first|exact⟨rfl,rfl⟩|rfl) fun w2 a (K2:aI _ _ _ _) hz2 hb2 hA=> ?_
 replace hx:=(hx.below hb2).more hb2.size
 replace hy:=(hy.below hb2).more hb2.size
 replace K:=K.below hb2 K.lt
 have HB:=hb0.trans (hb2.mono (by omega))
 revert a;refine wo rfl rfl (by decide) (fun ev e h=>by simp[go_sem,h,K.cell,K2.cell,aY rfl hx,aY rfl hy]<;>rfl) ?_;intro a hA
 replace hA:=hA.keepN [2,3]
 refine wN (nT (wS (wR ?_)))
 revert a;(iterate 6 refine wo rfl rfl (by decide) (fun ev e h=>by simp[go_sem,h,K.cell,K2.cell,aY rfl hx,aY rfl hy]<;>rfl) ?_);(iterate 4 refine wg _ rfl rfl rfl rfl (by decide) (fun hq ev e h=>by simp[go_sem,h,↓aL (aF hq),K.cell,K2.cell,aY rfl hx,aY rfl hy]<;>rfl) ?_);intro a hA
 replace hA:=hA.keepN [2,3,10,12,14]
 revert a;refine wg _ rfl rfl rfl rfl (by decide) (fun hq ev e h=>by simp[go_sem,h,↓aL (aF hq),K.cell,K2.cell,aY rfl hx,aY rfl hy]<;>rfl) ?_;refine j9 rfl rfl (by decide) rfl rfl rfl ?_;refine wo rfl rfl (by decide) (fun ev e h=>by simp[go_sem,h,K.cell,K2.cell,aY rfl hx,aY rfl hy]<;>rfl) ?_;(iterate 5 refine wg _ rfl rfl rfl rfl (by decide) (fun hq ev e h=>by simp[go_sem,h,↓aL (aF hq),K.cell,K2.cell,aY rfl hx,aY rfl hy]<;>rfl) ?_);refine j9 rfl rfl (by decide) rfl rfl rfl ?_;refine wo rfl rfl (by decide) (fun ev e h=>by simp[go_sem,h,K.cell,K2.cell,aY rfl hx,aY rfl hy]<;>rfl) ?_;intro a hA
 replace hA:=hA.keepN [2,3,24]
 revert a;(iterate 2 refine wg _ rfl rfl rfl rfl (by decide) (fun hq ev e h=>by simp[go_sem,h,↓aL (aF hq),K.cell,K2.cell,aY rfl hx,aY rfl hy]<;>rfl) ?_);intro a hA
 refine az _ hA rfl rfl rfl rfl (by decide) (fun hq ev h=>by simp[go_sem,((h.get 26 rfl).trans (aL (aF hq))),K.cell,K2.cell,aY rfl hx,aY rfl hy];try first|exact⟨rfl,rfl⟩|rfl) fun a hA=> ?_
 revert a;(iterate 2 refine wg _ rfl rfl rfl rfl (by decide) (fun hq ev e h=>by simp[go_sem,h,↓aL (aF hq),K.cell,K2.cell,aY rfl hx,aY rfl hy]<;>rfl) ?_);intro a hA
 refine az _ hA rfl rfl rfl rfl (by decide) (fun hq ev h=>by simp[go_sem,((h.get 29 rfl).trans (aL (aF hq))),K.cell,K2.cell,aY rfl hx,aY rfl hy];try first|exact⟨rfl,rfl⟩|rfl) fun a hA=> ?_
 revert a;refine wg _ rfl rfl rfl rfl (by decide) (fun hq ev e h=>by simp[go_sem,h,↓aL (aF hq),K.cell,K2.cell,aY rfl hx,aY rfl hy]<;>rfl) ?_;refine j9 rfl rfl (by decide) rfl rfl rfl ?_;refine wo rfl rfl (by decide) (fun ev e h=>by simp[go_sem,h,K.cell,K2.cell,aY rfl hx,aY rfl hy]<;>rfl) ?_;intro a hA
 replace hA:=hA.keepN [4]
 refine wN (nT (wp_ret ?_))
 refine ab hA 4 rfl rfl ?_
 exact⟨bH (by rw[BL];rfl),HB⟩
theorem E3 (x:aU):∀u∈C9 x,u.oneCell'=true:=by
 intro u hu
 unfold C9 at hu
 simp only[List.mem_cons,List.not_mem_nil,or_false] at hu
 rcases hu with rfl|rfl|rfl|rfl<;>rfl
def de :Sh aU:=⟨64,39,4,48, .agg #[.int .u32 0, .int .i64 0, .int .i64 0, .slice none 0 0],C9,fun x=>[(x.a,x.b)],fun _=>rfl,E3,Tryz.underlying39,by kernel_rfl,rfl,by decide,by decide⟩
def eS (x:aU):Nat×Int×Int×List UInt8:=(x.uid,x.date,x.flags,x.b)
structure sC (w:World) (A:Option Addr) (n:Nat) (l:List aU):Prop where
 len:l.length=n
 row:aE w w.heap.size 4 A n (l.flatMap C9)
 octs:∀m∈l,aE w w.heap.size 1 m.a m.b.length (ar m.b)
theorem sC.below {w w':World} {A:Option Addr} {n:Nat} {l:List aU} (h:sC w A n l) (hb:Below w.heap.size w w'):sC w' A n l:=
 ⟨h.len,(h.row.below hb).more hb.size,fun m hm=>((h.octs m hm).below hb).more hb.size⟩
theorem sC.at_ {w:World} {A:Option Addr} {n i:Nat} {l:List aU} {m:aU} (h:sC w A n l) (hm:l[i]?=some m):∃ad,A=some ad∧(ad.add (i*4)).block<w.heap.size∧
 w.cell? (ad.add (i*4))=some (.int .u32 (m.uid:Nat))∧w.cell? ⟨(ad.add (i*4)).block,(ad.add (i*4)).off+1,none⟩=some (.int .i64 m.date)∧w.cell? ⟨(ad.add (i*4)).block,(ad.add (i*4)).off+2,none⟩=some (.int .i64 m.flags)∧w.cell? ⟨(ad.add (i*4)).block,(ad.add (i*4)).off+3,none⟩=some (.slice m.a m.b.length m.c):=by
 have hlt:=(List.getElem?_eq_some_iff.1 hm).1
 have:=h.len
 obtain⟨ad,e,hb,h0,hj⟩:=oL ws h.row (by omega) hm
 exact⟨ad,e,by rw[aD];exact hb,h0 _ rfl,hj 1 _ (by omega) rfl,hj 2 _ (by omega) rfl,hj 3 _ (by omega) rfl⟩
theorem bu.msgR {w:World} {A:Option Addr} {l:List aU} (h:bu de w A l):sC w A l.length l:=⟨rfl,h.row,fun m hm=>h.octs m hm (m.a,m.b) (List.mem_singleton.2 rfl)⟩
theorem kf (nm nm2:ByteArray) (A A2:Option Addr) (c c2 n n2 e e2 nx nx2:Nat) (l l2:List aU) (w:World) (hn:n≤140737488355328) (hms:sC w A n l) (hms2:sC w A2 n2 l2):
 Calls Tryz.prog 14 #[.agg (mI nm e nx A n c), .agg (mI nm2 e2 nx2 A2 n2 c2)] w fun ev w'=>ev= .returned (.bool (gq nm e nx l nm2 e2 nx2 l2))∧Below w.heap.size w w':=by
 have hl:=hms.len
 have hl2:=hms2.len
 refine aK 53 Tryz.func14 rfl rfl (Nat.le_of_ble_eq_true rfl) ?_
 intro a hA;replace hA:=hA.norm
 refine wS (wR ?_)
 refine aP hA rfl rfl (by decide) (fun ev h=>by simp[go_sem,h.get 0 rfl];try first|exact⟨rfl,rfl⟩|rfl) fun w1 a (K:aI _ _ _ _) hz0 hb0 hA=> ?_
 replace hms:=hms.below hb0
 replace hms2:=hms2.below hb0
 refine aP hA rfl rfl (by decide) (fun ev h=>by simp[go_sem,h.get 1 rfl];try first|exact⟨rfl,rfl⟩|rfl) fun w2 a (K2:aI _ _ _ _) hz2 hb2 hA=> ?_
 replace hms:=hms.below hb2
 replace hms2:=hms2.below hb2
 replace K:=K.below hb2 K.lt
 have HB:=Below.refl w2.heap.size w2
 unfold mI at K K2
 revert a;refine wo rfl rfl (by decide) (fun ev e h=>by simp[go_sem,h,K.cell,K2.cell]<;>rfl) ?_;intro a hA
 replace hA:=hA.keepN [2,3]
 refine wN (nT (wS (wS (wR ?_))))
 revert a;(iterate 6 refine wo rfl rfl (by decide) (fun ev e h=>by simp[go_sem,h,K.cell,K2.cell]<;>rfl) ?_);(iterate 4 refine wg _ rfl rfl rfl rfl (by decide) (fun hq ev e h=>by simp[go_sem,h,↓aL (aF hq),K.cell,K2.cell]<;>rfl) ?_);intro a hA
 replace hA:=hA.keepN [2,3,11,13,15]
 revert a;refine wg _ rfl rfl rfl rfl (by decide) (fun hq ev e h=>by simp[go_sem,h,↓aL (aF hq),K.cell,K2.cell]<;>rfl) ?_;refine kj rfl rfl (by decide) rfl rfl rfl ?_;refine wo rfl rfl (by decide) (fun ev e h=>by simp[go_sem,h,K.cell,K2.cell]<;>rfl) ?_;(iterate 5 refine wg _ rfl rfl rfl rfl (by decide) (fun hq ev e h=>by simp[go_sem,h,↓aL (aF hq),K.cell,K2.cell]<;>rfl) ?_);refine kj rfl rfl (by decide) rfl rfl rfl ?_;refine wo rfl rfl (by decide) (fun ev e h=>by simp[go_sem,h,K.cell,K2.cell]<;>rfl) ?_;intro a hA
 replace hA:=hA.keepN [2,3,25]
 revert a;(iterate 7 refine wg _ rfl rfl rfl rfl (by decide) (fun hq ev e h=>by simp[go_sem,h,↓aL (aF hq),K.cell,K2.cell]<;>rfl) ?_);refine kj rfl rfl (by decide) rfl rfl rfl ?_;intro a hA
 replace hA:=hA.keepN [2,3,33]
 refine wN (nT ?_)
 have hbs:gq nm e nx l nm2 e2 nx2 l2=(!(!nm.toList==nm2.toList||(e:Int) !=(e2:Int)||(nx:Int) !=(nx2:Int)||(n:Int) !=(n2:Int))&&jC l l2):=by
  unfold gq
  simp only[bne,BL]
  by_cases h:n=n2
  ·subst h;simp
  ·rw[tp (by omega)];simp
 obtain⟨q,hqe⟩:∃q,(!nm.toList==nm2.toList||(e:Int) !=(e2:Int)||(nx:Int) !=(nx2:Int)||(n:Int) !=(n2:Int))=q:=⟨_,rfl⟩
 have hnn:q=false→n=n2:=fun h=>by rw[h] at hqe;simp at hqe;omega
 rw[hqe] at hbs hA
 rw[hbs]
 refine aH hA 33 _ rfl (fun hq=> ?yE) (fun hq=> ?nE)
 case yE=>
  subst hq
  refine wS (wR ?_)
  revert a;refine wo rfl rfl (by decide) (fun ev e h=>by simp[go_sem,h,K.cell,K2.cell]<;>rfl) ?_;intro a hA
  replace hA:=hA.keepN [4]
  refine wN (nT (wp_ret (rT ?_)))
  refine ab hA 4 rfl rfl ?_
  exact⟨rfl,hb0.trans ((hb2.trans (HB.mono hb2.size)).mono hb0.size)⟩
 case nE=>
  subst hq
  obtain rfl:=hnn rfl
  rw[Bool.not_false,Bool.true_and]
  refine wp_skip (nT (wS (wS (wR ?_))))
  revert a;(iterate 4 refine wo rfl rfl (by decide) (fun ev e h=>by simp[go_sem,h,K.cell,K2.cell]<;>rfl) ?_);intro a hA
  replace hA:=hA.keepN [2,3,36,37]
  refine wN (nT (wB ?_))
  refine aQ (fun k a wx=>∃(j:Nat),j+k=n∧At 53 [(2, .pointer (some ⟨w.heap.size,0,none⟩)),(3, .pointer (some ⟨w1.heap.size,0,none⟩)),(36, .int .i64 (n:Nat)),(37, .int .i64 (j:Nat))] a∧jC l l2=jC (l.drop j) (l2.drop j)∧Below w2.heap.size w2 wx) (n) ?_ ?_
  ·exact⟨0,by omega,hA,rfl,HB⟩
  clear HB
  rintro k a wx ⟨j,hjk,hA,hall,HB⟩
  refine wS (wR ?_)
  revert a;refine wo rfl rfl (by decide) (fun ev e h=>by simp[go_sem,h]<;>rfl) ?_;intro a hA
  replace hA:=hA.keepN [2,3,36,37,38]
  refine wN (nT (wS ?_))
  refine aH hA 38 _ rfl (fun hq=> ?yL) (fun hq=> ?nL)
  case yL=>
   have hlt:j<n:=by simp at hq;omega
   obtain⟨x,hx⟩:∃x,l[j]?=some x:=⟨_,List.getElem?_eq_getElem (by omega)⟩
   obtain⟨y,hy⟩:∃y,l2[j]?=some y:=⟨_,List.getElem?_eq_getElem (by omega)⟩
   rw[Ex hx hy] at hall
   obtain⟨ad,rfl,hadl,k0,k1,k2,k3⟩:=hms.at_ hx
   obtain⟨ad2,rfl,hadl2,l0,l1,l2',l3⟩:=hms2.at_ hy
   have jj0:(0:Int)≤(j:Int):=by omega
   have jj1:(j:Int)<(n:Int):=by omega
   have hwj:IntKind.i64.wrap ((j:Int)+1)=(j:Int)+1:=IntWalk.i64_in _ (by omega)
   refine wp_skip (nT (wS (wB (wS (wR ?_)))))
   revert a;(iterate 2 refine wo rfl rfl (by decide) (fun ev e h=>by simp[go_sem,h]<;>rfl) ?_);intro a hA
   replace hA:=hA.keepN [2,3,5,36,37]
   have pD:=fun(wo:World) (hC:(fun wy=>Below w2.heap.size w2 wy) wo)=>have Kx:=K.below hC K.lt;have Kx2:=K2.below hC K2.lt;have z0:=(hC.cell hadl).trans k0;have z1:=(hC.cell (p:=⟨(ad.add (j*4)).block,(ad.add (j*4)).off+1,none⟩) hadl).trans k1;have z2:=(hC.cell (p:=⟨(ad.add (j*4)).block,(ad.add (j*4)).off+2,none⟩) hadl).trans k2;have z3:=(hC.cell (p:=⟨(ad.add (j*4)).block,(ad.add (j*4)).off+3,none⟩) hadl).trans k3;have y0:=(hC.cell hadl2).trans l0;have y1:=(hC.cell (p:=⟨(ad2.add (j*4)).block,(ad2.add (j*4)).off+1,none⟩) hadl2).trans l1;have y2:=(hC.cell (p:=⟨(ad2.add (j*4)).block,(ad2.add (j*4)).off+2,none⟩) hadl2).trans l2';have y3:=(hC.cell (p:=⟨(ad2.add (j*4)).block,(ad2.add (j*4)).off+3,none⟩) hadl2).trans l3;And.intro (Kx.cell) (And.intro (Kx2.cell) (And.intro (z0) (And.intro (z1) (And.intro (z2) (And.intro (z3) (And.intro (y0) (And.intro (y1) (And.intro (y2) (y3)))))))))
   refine wN (nT (wS ?_))
   refine bi hA [(.det ?dD0),(.det ?dD1),(.det ?dD2),(.det ?dD3),(.det ?dD4),(.det ?dD5),(.det ?dD6),(.det ?dD7),(.det ?dD8),(.det ?dD9),(.det ?dD10),(.det ?dD11)] [] (fun wy=>Below w2.heap.size w2 wy) (aG [] aA) (by kernel_rfl) rfl (by kernel_rfl) (by kernel_rfl) rfl (HB.drew) (bF [] [true,true,true,true,true,true,true,true,true,true,true,true] [true,true,true,true,true,true,true,true,true,true,true,true] [] rfl rfl rfl (by kernel_rfl) ⟨trivial,trivial,trivial,trivial,trivial,trivial,trivial,trivial,trivial,trivial,trivial,trivial,trivial⟩ trivial) (fun _ h=>by cases h) (fun _ _ _ _ _ h=>by cases h) (fun _ h=>by cases h) ⟨?oD0, ?oD1, ?oD2, ?oD3, ?oD4, ?oD5, ?oD6, ?oD7, ?oD8, ?oD9, ?oD10, ?oD11,trivial⟩ (by kernel_rfl) ?fD
   case oD0=>intro ev wo hev hC hs hph;have x0:=se hA hs 2;exact od rfl rfl (by kernel_rfl) hC (aG.of rfl (aA.refl _)) (by simp[go_sem,x0]<;>rfl)
   case oD1=>intro ev wo hev hC hs hph;have x0:=sd hs 40 0;exact od rfl rfl (by kernel_rfl) hC (aG.of rfl (aA.refl _)) (by simp[go_sem,x0,pD _ hC]<;>rfl)
   case oD2=>intro ev wo hev hC hs hph;have x0:=se hA hs 5;exact od rfl rfl (by kernel_rfl) hC (aG.of rfl (aA.refl _)) (by simp[go_sem,x0]<;>rfl)
   case oD3=>intro ev wo hev hC hs hph;have x0:=sd hs 41 1;have x1:=sd hs 42 2;exact od rfl rfl (by kernel_rfl) hC (aG.of rfl (aA.refl _)) (by simp[go_sem,x0,x1,jj0,jj1]<;>rfl)
   case oD4=>intro ev wo hev hC hs hph;have x0:=sd hs 43 3;exact od rfl rfl (by kernel_rfl) hC (aG.of rfl (aA.refl _)) (by simp[go_sem,x0,pD _ hC]<;>rfl)
   case oD5=>intro ev wo hev hC hs hph;have x0:=se hA hs 3;exact od rfl rfl (by kernel_rfl) hC (aG.of rfl (aA.refl _)) (by simp[go_sem,x0]<;>rfl)
   case oD6=>intro ev wo hev hC hs hph;have x0:=sd hs 45 5;exact od rfl rfl (by kernel_rfl) hC (aG.of rfl (aA.refl _)) (by simp[go_sem,x0,pD _ hC]<;>rfl)
   case oD7=>intro ev wo hev hC hs hph;have x0:=se hA hs 5;exact od rfl rfl (by kernel_rfl) hC (aG.of rfl (aA.refl _)) (by simp[go_sem,x0]<;>rfl)
   case oD8=>intro ev wo hev hC hs hph;have x0:=sd hs 46 6;have x1:=sd hs 47 7;exact od rfl rfl (by kernel_rfl) hC (aG.of rfl (aA.refl _)) (by simp[go_sem,x0,x1,jj0,jj1]<;>rfl)
   case oD9=>intro ev wo hev hC hs hph;have x0:=sd hs 48 8;exact od rfl rfl (by kernel_rfl) hC (aG.of rfl (aA.refl _)) (by simp[go_sem,x0,pD _ hC]<;>rfl)
   case oD10=>
    intro ev wo hev hC hs hph
    have e44:=sd hs 44 4
    have e49:=sd hs 49 9
    have Kx:=K.below hC K.lt
    have Kx2:=K2.below hC K2.lt
    have z0:=(hC.cell hadl).trans k0
    have z1:=(hC.cell (p:=⟨(ad.add (j*4)).block,(ad.add (j*4)).off+1,none⟩) hadl).trans k1
    have z2:=(hC.cell (p:=⟨(ad.add (j*4)).block,(ad.add (j*4)).off+2,none⟩) hadl).trans k2
    have z3:=(hC.cell (p:=⟨(ad.add (j*4)).block,(ad.add (j*4)).off+3,none⟩) hadl).trans k3
    have y0:=(hC.cell hadl2).trans l0
    have y1:=(hC.cell (p:=⟨(ad2.add (j*4)).block,(ad2.add (j*4)).off+1,none⟩) hadl2).trans l1
    have y2:=(hC.cell (p:=⟨(ad2.add (j*4)).block,(ad2.add (j*4)).off+2,none⟩) hadl2).trans l2'
    have y3:=(hC.cell (p:=⟨(ad2.add (j*4)).block,(ad2.add (j*4)).off+3,none⟩) hadl2).trans l3
    exact bm (aJ rfl) rfl (by kernel_rfl) (xc x y _ (((hms.octs x (List.mem_of_getElem? hx)).below hC).more hC.size) (((hms2.octs y (List.mem_of_getElem? hy)).below hC).more hC.size)) (aB Tryz.func41 (by kernel_rfl) rfl (hev.func _) (by first|(simp only[mL,e44,e49,hev.const]<;>rfl)|(simp[mL,e44,e49,hev.const]<;>rfl))) (by rfl) (fun w3 hb3=>⟨hC.trans (hb3.mono hC.size),aG.of rfl hb3⟩)
   case oD11=>intro ev wo hev hC hs hph;have x0:=sd hs 50 10;exact od rfl rfl (by kernel_rfl) hC (aG.of rfl (aA.refl _)) (by simp[go_sem,x0]<;>rfl)
   intro sg wf hC hph
   intro a hA
   replace hA:=hA.keepN [2,3,36,37,51]
   refine nT ?_
   refine aH hA 51 _ rfl (fun hq2=> ?yR) (fun hq2=> ?nR)
   case yR=>
    have hq2:tq x y=false:=by simpa using hq2
    rw[hq2,Bool.false_and] at hall
    refine wS (wR ?_)
    revert a;refine wo rfl rfl (by decide) (fun ev e h=>by simp[go_sem,h,hwj]<;>rfl) ?_;intro a hA
    replace hA:=hA.keepN [4]
    refine wN (nT (wp_ret (rB (rT (rT (rB (rT ?_)))))))
    refine ab hA 4 rfl rfl ?_
    exact⟨bH hall.symm,hb0.trans ((hb2.trans (hC.mono hb2.size)).mono hb0.size)⟩
   case nR=>
    have hq2:tq x y=true:=by simpa using hq2
    rw[hq2,Bool.true_and] at hall
    refine wp_skip (nB (nT (wR ?_)))
    revert a;(iterate 2 refine wo rfl rfl (by decide) (fun ev e h=>by simp[go_sem,h,hwj]<;>rfl) ?_);intro a hA
    replace hA:=hA.keepN [2,3,36,37]
    refine wN (nT ?_)
    rw[show((j:Int)+1)=((j+1:Nat):Int) by omega] at hA
    exact⟨k - 1,by omega,j+1,by omega,hA,hall,hC⟩
  case nL=>
   have hjn:j=n:=by simp at hq;omega
   subst hjn
   rw[List.drop_of_length_le (by omega),List.drop_of_length_le (by omega)] at hall
   replace hA:=hA.keepN []
   refine wp_exit (xT (xT (xB (nT (wS (wR ?_))))))
   revert a;refine wo rfl rfl (by decide) (fun ev e h=>by simp[go_sem,h]<;>rfl) ?_;intro a hA
   replace hA:=hA.keepN [4]
   refine wN (nT (wp_ret ?_))
   refine ab hA 4 rfl rfl ?_
   exact⟨by rw[hall];rfl,hb0.trans ((hb2.trans (HB.mono hb2.size)).mono hb0.size)⟩
theorem tA {M:Type} {f:M→List Value} {k:Nat} (hf:∀x,(f x).length=k):∀(l:List M) (i j:Nat) (x y:M) (u:Value),l[i]?=some x→j<k→f y=(f x).set j u→(l.set i y).flatMap f=(l.flatMap f).set (i*k+j) u
 |[],i,j,x,y,u,h,_,_=>by cases h
 |z::r,0,j,x,y,u,h,hj,hy=>by
  injection h with h
  subst h
  rw[List.set_cons_zero,List.flatMap_cons,List.flatMap_cons,hy,Nat.zero_mul,Nat.zero_add,List.set_append_left _ _ (by rw[hf];exact hj)]
 |z::r,i+1,j,x,y,u,h,hj,hy=>by
  rw[List.set_cons_succ,List.flatMap_cons,List.flatMap_cons,tA hf r i j x y u h hj hy,List.set_append_right _ _ (by rw[hf,Nat.succ_mul];omega),hf]
  congr 2
  rw[Nat.succ_mul]
  omega
section
variable {M:Type} {s:Sh M} {B:Nat} {w w':World} {l:List M} {g n c i j:Nat}
theorem ac.put1 {x y:M} {u:Value} (h:ac s B w (.slice (some ⟨g,0,none⟩) n c) l) (hy:l[i]?=some y) (hj:j<s.k) (hx:s.f x=(s.f y).set j u) (hp:s.parts x=s.parts y):
 ac s B (w.setCell ⟨g,i*s.k+j,none⟩ u) (.slice (some ⟨g,0,none⟩) n c) (l.set i x)∧w.grownBy (w.setCell ⟨g,i*s.k+j,none⟩ u) (some g):=by
 have hn:=h.len
 have hr:=h.row
 rw[hn] at hr
 obtain⟨h1,h2⟩:=hr.stored (i*s.k+j) u
 rw[←tA s.len l i j y x u hy hj hx] at h1
 have keep:∀{p},bj w p→jR g p→bj (w.setCell ⟨g,i*s.k+j,none⟩ u) p:=fun{p} hp hg=>cT hp hg (fun j hj hne=>h2.block j hj (fun e=>hne (Option.some.inj e))) h2.size
 have hm0:=List.mem_of_getElem? hy
 refine⟨⟨by rw[List.length_set,hn];exact h1,fun m hm p hp'=> ?_,fun g' hg' m hm p hp'=> ?_⟩,h2⟩
 ·rcases List.mem_or_eq_of_mem_set hm with hm|hm
  ·exact keep (h.octs m hm p hp') (h.off g rfl m hm p hp')
  ·subst hm
   rw[hp] at hp'
   exact keep (h.octs y hm0 p hp') (h.off g rfl y hm0 p hp')
 ·rcases List.mem_or_eq_of_mem_set hm with hm|hm
  ·exact h.off g' hg' m hm p hp'
  ·subst hm
   rw[hp] at hp'
   exact h.off g' hg' y hm0 p hp'
theorem ac.cellAt {x:M} {u:Value} (h:ac s B w (.slice (some ⟨g,0,none⟩) n c) l) (hx:l[i]?=some x) (hk:(s.f x)[j]?=some u):w.cell? ⟨g,i*s.k+j,none⟩=some u:=by
 have hn:=h.len
 have hr:=h.row
 rw[hn] at hr
 have hi:=(List.getElem?_eq_some_iff.1 hx).1
 have hj:j<s.k:=by have:=(List.getElem?_eq_some_iff.1 hk).1;rw[s.len] at this;exact this
 have hle:i*s.k+s.k≤n*s.k:=by rw[←Nat.succ_mul];exact Nat.mul_le_mul_right _ (by omega)
 rw[hr.cellAt _ (by omega)]
 exact(je s.len l i j x hx hj).trans hk
theorem ac.frozenAt (h:ac s B w (.slice (some ⟨g,0,none⟩) n c) l) (k:Nat):w.frozen? ⟨g,k,none⟩=false:=by
 have hn:=h.len
 have hr:=h.row
 rw[hn] at hr
 exact hr.frozenAt k
theorem ac.grown {v:Value} {row:Option Nat} (h:ac s B w v l) (hg:w.grownBy w' row) (hne:∀g,v.ownBlock=some g→row≠some g) (hoff:∀g,row=some g→∀m∈l,∀p∈s.parts m,jR g p):ac s B w' v l:=by
 refine⟨fV h.row fun g hg'=>hg.block g (World.ownsRow.lt h.row g hg').2 (fun e=>hne g hg' e.symm),fun m hm p hp=> ?_,h.off⟩
 cases hb:row with
 |none=>exact(aE.grown (h.octs m hm p hp) hg (Nat.le_refl _) fun g hg'=>by rw[hb] at hg';cases hg').more hg.size
 |some g=>exact cT (h.octs m hm p hp) (hoff g hb m hm p hp) (fun j hj hne=>hg.block j hj (fun e=>by rw[hb] at e;exact hne (Option.some.inj e))) hg.size
theorem ac.ne {M2:Type} {s2:Sh M2} {B2:Nat} {v v2:Value} {l2:List M2} (h:ac s B w v l) (h2:ac s2 B2 w v2 l2) (ht:s2.T≠s.T) {g:Nat} (hg:v.ownBlock=some g):v2.ownBlock≠some g:=fun hg2=>by
 obtain⟨cs,hc⟩:=oC h.row hg
 obtain⟨cs2,hc2⟩:=oC h2.row hg2
 rw[hc] at hc2
 injection hc2 with hc2
 injection hc2 with _ hc2
 exact ht hc2.symm
end
end Go.Proofs.YtclcfkaphlopeaaGreatDoor
namespace Go.Proofs.YtclcfkaphlopeaaGreatDoor
def iv (a:Nat) (l:List aX):Nat:=((l.getLast?).map aX.u).getD a
theorem z7 (a:Nat) (n:aX) (l:List aX):iv a (n::l)=iv n.u l:=by
 unfold iv
 cases l with
 |nil=>rfl
 |cons m r=>rw[List.getLast?_cons_cons];simp[List.getLast?_cons]
theorem z8 (a:Nat) (l:List aX) (n:aX):iv a (l++[n])=n.u:=by
 unfold iv
 rw[List.getLast?_concat]
 rfl
theorem rY (E:Nat) (n:aX):∀(a:Nat) (l:List aX),dx E a (l++[n])=(dx E a l&&(n.ep==E&&decide (iv a l<n.u)&& !(n.u==4294967295)))
 |a,[]=>by
  show dx E a [n]=_
  unfold dx dx iv
  simp
  rfl
 |a,m::l=>by
  rw[List.cons_append]
  unfold dx
  rw[rY E n m.u l,z7]
  simp only[Bool.and_assoc]
def zP (n:aX) (r:List aX):Bool:= !(n.k==2)||r.any fun m=>m.k==3&&fP m n
theorem xI {l:List aX} {j:Nat} {x:aX} (hx:l[j]?=some x):bt (l.drop j)=(bif zP x (l.drop (j+1)) then[] else[x])++bt (l.drop (j+1)):=by
 have hj:=(List.getElem?_eq_some_iff.1 hx).1
 have e:l.drop j=x::l.drop (j+1):=by
  rw[List.drop_eq_getElem_cons hj]
  congr 1
  exact(List.getElem?_eq_some_iff.1 hx).2
 rw[e]
 conv=>lhs;unfold bt
 unfold zP
 cases x.k==2<;>cases (l.drop (j+1)).any (fun m=>m.k==3&&fP m x)<;>rfl
theorem Dc {α:Type} {p:α→Bool} {l:List α} {j:Nat} {x:α} (hx:l[j]?=some x):(l.drop j).any p=(p x||(l.drop (j+1)).any p):=by
 have hj:=(List.getElem?_eq_some_iff.1 hx).1
 rw[List.drop_eq_getElem_cons hj,List.any_cons,(List.getElem?_eq_some_iff.1 hx).2]
theorem Ci {l:List aX} {j:Nat} {x:aX} (hx:l[j]?=some x):gh (l.take (j+1))=max (gh (l.take j)) x.ep:=by
 rw[List.take_add_one,hx]
 exact t7 x _
theorem Ck {l:List aX} {j:Nat} {x:aX} (hx:l[j]?=some x):lR (l.take (j+1))=bif decide (x.k<3) then x.nm else lR (l.take j):=by
 rw[List.take_add_one,hx]
 unfold lR
 rw[List.foldl_append]
 rfl
theorem Cl {E:Nat} {l:List aX} {j:Nat} {x:aX} (hx:l[j]?=some x):iD E (l.take (j+1))=jX E (iD E (l.take j)) x:=by
 rw[List.take_add_one,hx]
 exact tb E x _
theorem rM :∀l:List aX,(bt l).length≤l.length
 |[]=>Nat.le_refl _
 |n::r=>by
  have:=rM r
  unfold bt
  cases n.k==2&& !r.any (fun m=>m.k==3&&fP m n)<;>simp<;>omega
theorem ov :∀(i:Nat) (l:List aX),(fR i l).length=l.length
 |_,[]=>rfl
 |i,_::r=>by unfold fR;rw[List.length_cons,List.length_cons,ov (i+1) r]
theorem ou :∀(i:Nat) (l:List aX) (j:Nat),(fR i l)[j]?=(l[j]?).map fun n=>((i+j+1)%4294967296,n.d,n.f,n.o)
 |_,[],j=>by unfold fR;simp
 |i,n::r,0=>by unfold fR;simp
 |i,n::r,j+1=>by
  unfold fR
  rw[List.getElem?_cons_succ,List.getElem?_cons_succ,ou (i+1) r j]
  rw[show i+1+j+1=i+(j+1)+1 by omega]
def z0 (n:aX):aX:={n with at_:=0}
theorem Gq (n:aX) (r:List aX):(r.map z0).any (fun m=>m.k==3&&fP m (z0 n))=r.any (fun m=>m.k==3&&fP m n):=by
 rw[List.any_map];rfl
theorem t8 :∀l:List aX,bt (l.map z0)=(bt l).map z0
 |[]=>rfl
 |n::r=>by
  rw[List.map_cons]
  unfold bt
  rw[Gq,t8 r]
  show(bif n.k==2&&_ then z0 n::_ else _)=_
  cases n.k==2&& !r.any (fun m=>m.k==3&&fP m n)<;>rfl
theorem xH (l:List aX):dV (l.map z0)={dV l with live:=(dV l).live.map z0}:=by
 have e1:∀(e:Nat),(l.map z0).foldl (fun e n=>max e n.ep) e=l.foldl (fun e n=>max e n.ep) e:=fun e=>by rw[List.foldl_map];rfl
 have e2:∀(s:ByteArray),(l.map z0).foldl (fun s n=>bif decide (n.k<3) then n.nm else s) s=l.foldl (fun s n=>bif decide (n.k<3) then n.nm else s) s:=fun s=>by rw[List.foldl_map];rfl
 have e3:∀(E x:Nat),(l.map z0).foldl (jX E) x=l.foldl (jX E) x:=fun E x=>by rw[List.foldl_map];rfl
 unfold dV lR gh iD
 rw[e1,e2,e3,t8]
theorem xp (E:Nat):∀(a:Nat) (l:List aX),dx E a (l.map z0)=dx E a l
 |_,[]=>rfl
 |a,n::r=>by
  rw[List.map_cons]
  unfold dx
  rw[show(z0 n).u=n.u from rfl,xp E n.u r]
  rfl
theorem Bt (l:List aX):al (dV (l.map z0))=al (dV l):=by
 rw[xH]
 unfold al
 exact xp _ _ _
theorem xl :∀(i:Nat) (l:List aX),fR i (l.map z0)=fR i l
 |_,[]=>rfl
 |i,n::r=>by
  rw[List.map_cons]
  unfold fR
  rw[xl (i+1) r]
  rfl
theorem F9 (l:List aX):bQ (dV (l.map z0))=bQ (dV l):=by
 unfold bQ
 rw[Bt,xH]
 simp only[xl,List.length_map,List.map_map]
 rfl
end Go.Proofs.YtclcfkaphlopeaaGreatDoor
namespace Go.Proofs.YtclcfkaphlopeaaGreatDoor
open Go.RowKit
def qB :Sh (Nat×Nat):=⟨135,86,2,16, .agg #[.int .u32 0, .int .i64 0],fun q=>[.int .u32 (q.1:Nat), .int .i64 (q.2:Nat)],fun _=>[],fun _=>rfl,fun q u hu=>by
 simp only[List.mem_cons,List.not_mem_nil,or_false] at hu
 rcases hu with rfl|rfl<;>rfl,Tryz.underlying86,by kernel_rfl,rfl,by decide,by decide⟩
def ub :Sh (Nat×Int):=⟨100,79,2,16, .agg #[.int .u32 0, .int .i64 0],fun q=>[.int .u32 (q.1:Nat), .int .i64 q.2],fun _=>[],fun _=>rfl,fun q u hu=>by
 simp only[List.mem_cons,List.not_mem_nil,or_false] at hu
 rcases hu with rfl|rfl<;>rfl,Tryz.underlying79,by kernel_rfl,rfl,by decide,by decide⟩
def qe (x:eR):Nat×Nat:=(x.m.uid,x.at_)
def k9 (x:eR):Nat×Int:=(x.m.uid,x.m.flags)
def iy (cl:Bool) (nm:ByteArray):Bool:= !cl||nm.toList.isEmpty
theorem CU (nm:ByteArray) (ep nx:Nat) (z:Int) (cl:Bool) (A:Option Addr) (c n:Nat) (L:List eR) (w:World) (hn:n≤1000000) (hl:L.length=n) (hr:bu dA w A L):
 Calls Tryz.prog 33 #[.agg #[.string nm, .int .u32 (ep:Nat), .int .u32 (nx:Nat), .slice A n c, .int .i64 z, .bool cl]] w
  fun ev w'=>(iy cl nm=true→ev= .returned (.tuple #[.agg #[.string ⟨#[]⟩, .int .u32 0, .int .u32 0, .int .i64 0, .slice none 0 0], .agg #[.int .u32 0, .slice none 0 0]]))∧(iy cl nm=false→∃v u,ev= .returned (.tuple #[.agg #[.string nm, .int .u32 (ep:Nat), .int .u32 (nx:Nat), .int .i64 z,v], .agg #[.int .u32 (ep:Nat),u]])∧ac qB w.heap.size w' v (L.map qe)∧ac ub w.heap.size w' u (L.map k9))∧Below w.heap.size w w':=by
 refine aK 63 Tryz.func33 rfl rfl (Nat.le_of_ble_eq_true rfl) ?_
 intro a hA;replace hA:=hA.norm
 refine wS (wR ?_)
 refine aP hA rfl rfl (by decide) (fun ev h=>by simp[go_sem,h.get 0 rfl];try first|exact⟨rfl,rfl⟩|rfl) fun w1 a (K1:aI _ _ _ _) hz1 hb1 hA=> ?_
 refine aP hA rfl rfl (by decide) (fun ev h=>by simp[go_sem];try first|exact⟨rfl,rfl⟩|rfl) fun w2 a (K2:aI _ _ _ _) hz2 hb2 hA=> ?_
 replace K1:=K1.below hb2 K1.lt
 refine aP hA rfl rfl (by decide) (fun ev h=>by simp[go_sem];try first|exact⟨rfl,rfl⟩|rfl) fun w3 a (K3:aI _ _ _ _) hz3 hb3 hA=> ?_
 replace K1:=K1.below hb3 K1.lt
 replace K2:=K2.below hb3 K2.lt
 replace hA:=hA.keepN [1,2,3]
 refine wN (nT (wS (wS (wR ?_))))
 revert a;(iterate 4 refine wo rfl rfl (by decide) (fun ev e h=>by simp[go_sem,h,K1.cell]<;>rfl) ?_);(iterate 3 refine wg _ rfl rfl rfl rfl (by decide) (fun hq ev e h=>by simp[go_sem,h,↓aL (aF hq),K1.cell]<;>rfl) ?_);refine kj rfl rfl (by decide) rfl rfl rfl ?_;intro a hA
 replace hA:=hA.keepN [1,2,3,15]
 refine wN (nT ?_)
 obtain⟨p2,hp2⟩:∃x,w1.heap.size=x:=⟨_,rfl⟩
 obtain⟨p3,hp3⟩:∃x,w2.heap.size=x:=⟨_,rfl⟩
 rw[hp2] at K2 hA
 rw[hp3] at K3 hA
 have h12:w.heap.size<p2:=by omega
 have h23:p2<p3:=by omega
 have h33:p3<w3.heap.size:=by omega
 have HB:Below w.heap.size w w3:=hb1.trans ((hb2.mono (by omega)).trans (hb3.mono (by omega)))
 obtain⟨q,hqe⟩:∃q,iy cl nm=q:=⟨_,rfl⟩
 rw[show(!cl||nm.toList.isEmpty)=q from hqe] at hA
 rw[hqe]
 refine aH hA 15 _ rfl (fun hq=> ?yQ) (fun hq=> ?nQ)
 case yQ=>
  subst hq
  refine wS (wR ?_)
  revert a;(iterate 2 refine wo rfl rfl (by decide) (fun ev e h=>by simp[go_sem,h,K1.cell]<;>rfl) ?_);intro a hA
  refine bX [.string ⟨#[]⟩, .int .u32 0, .int .u32 0, .int .i64 0, .slice none 0 0] hA rfl rfl K2 (by rfl) (fun ev h=>by simp[go_sem,h.get 2 rfl,h.get 16 rfl,K1.cell,setAll,K2.cell,K2.frozen]) fun w4 (K2:aI _ _ _ _) hs4=> ?_
  replace K3:=hs4.blk K3 (by omega)
  replace HB:=hs4.below HB (by omega)
  refine bX [.int .u32 0, .slice none 0 0] hA rfl rfl K3 (by rfl) (fun ev h=>by simp[go_sem,h.get 3 rfl,h.get 17 rfl,K1.cell,setAll,K3.cell,K3.frozen]) fun w5 (K3:aI _ _ _ _) hs5=> ?_
  replace K2:=hs5.blk K2 (by omega)
  replace HB:=hs5.below HB (by omega)
  replace hA:=hA.keepN [2,3]
  refine wN (nT (wp_ret (rT ?_)))
  refine bodyPost_ret (by simp[results,Tryz.results33,go_sem,hA.env 2 _ rfl,hA.env 3 _ rfl,K2.cell,K3.cell];try first|exact⟨rfl,rfl⟩|rfl) hA.defers ?_
  exact⟨fun _=>rfl,fun h=>(by cases h),HB⟩
 case nQ=>
  subst hq
  refine wp_skip (nT (wS (wR ?_)))
  revert a;(iterate 9 refine wo rfl rfl (by decide) (fun ev e h=>by simp[go_sem,h,K1.cell]<;>rfl) ?_);intro a hA
  refine ap [.string nm, .int .u32 (ep:Nat), .int .u32 (nx:Nat), .int .i64 z, .slice none 0 0] hA rfl rfl (by decide) (fun ev h=>by simp[go_sem,K1.cell];try first|exact⟨rfl,rfl⟩|rfl) rfl rfl (by rfl) (fun w1 g ev hb h=>by simp[go_sem,h.get 4 rfl,h.get 26 rfl,K1.cell,setAll,hb.cell,hb.frozen]) fun w4 a (K4:aI _ _ _ _) hz4 hb4 hA=> ?_
  replace K1:=K1.below hb4 K1.lt
  replace K2:=K2.below hb4 K2.lt
  replace K3:=K3.below hb4 K3.lt
  replace hA:=hA.keepN [1,2,3,4]
  refine wN (nT (wS (wR ?_)))
  revert a;(iterate 3 refine wo rfl rfl (by decide) (fun ev e h=>by simp[go_sem,h,K1.cell]<;>rfl) ?_);intro a hA
  refine ap [.int .u32 (ep:Nat), .slice none 0 0] hA rfl rfl (by decide) (fun ev h=>by simp[go_sem,K1.cell];try first|exact⟨rfl,rfl⟩|rfl) rfl rfl (by rfl) (fun w1 g ev hb h=>by simp[go_sem,h.get 5 rfl,h.get 29 rfl,K1.cell,setAll,hb.cell,hb.frozen]) fun w5 a (K5:aI _ _ _ _) hz5 hb5 hA=> ?_
  replace K1:=K1.below hb5 K1.lt
  replace K2:=K2.below hb5 K2.lt
  replace K3:=K3.below hb5 K3.lt
  replace K4:=K4.below hb5 K4.lt
  obtain⟨p4,hp4⟩:∃x,w3.heap.size=x:=⟨_,rfl⟩
  obtain⟨p5,hp5⟩:∃x,w4.heap.size=x:=⟨_,rfl⟩
  rw[hp4] at K4 hA
  rw[hp5] at K5 hA
  have h45:p4<p5:=by omega
  have h34:p3<p4:=by omega
  have HB5:Below w.heap.size w w5:=HB.trans ((hb4.mono (by omega)).trans (hb5.mono (by omega)))
  have h5:p5<w5.heap.size:=by omega
  replace hA:=hA.keepN [1,2,3,4,5]
  refine wN (nT (wS (wS (wR ?_))))
  revert a;(iterate 4 refine wo rfl rfl (by decide) (fun ev e h=>by simp[go_sem,h,K1.cell]<;>rfl) ?_);intro a hA
  replace hA:=hA.keepN [2,3,4,5,31,32,33]
  refine wN (nT (wB ?_))
  refine aQ (fun kk a wx=>∃(j:Nat) (v u:Value),j+kk=n∧At 63 [(2, .pointer (some ⟨p2,0,none⟩)),(3, .pointer (some ⟨p3,0,none⟩)),(4, .pointer (some ⟨p4,0,none⟩)),(5, .pointer (some ⟨p5,0,none⟩)),(31, .slice A n c),(32, .int .i64 (n:Nat)),(33, .int .i64 (j:Nat))] a∧aI wx p4 88 #[.string nm, .int .u32 (ep:Nat), .int .u32 (nx:Nat), .int .i64 z,v]∧aI wx p5 90 #[.int .u32 (ep:Nat),u]∧ac qB (p5+1) wx v ((L.take j).map qe)∧ac ub (p5+1) wx u ((L.take j).map k9)∧Below p4 w5 wx) (n) ?_ ?_
  ·exact⟨0,_,_,by omega,hA,K4,K5,ac.nil _ _,ac.nil _ _,(Below.refl w5.heap.size w5).mono (by omega)⟩
  clear K4 K5
  rintro kk a wx ⟨j,v,u,hjk,hA,K4,K5,hov,hou,HL⟩
  obtain⟨Av,cv,rfl,_⟩:=hov.reads
  obtain⟨Au,cu,rfl,_⟩:=hou.reads
  obtain⟨q1,hq1⟩:∃q,((L.take j).map qe).length=q:=⟨_,rfl⟩
  obtain⟨q2,hq2⟩:∃q,((L.take j).map k9).length=q:=⟨_,rfl⟩
  rw[hq1] at K4 hov
  rw[hq2] at K5 hou
  have hwx:w5.heap.size≤wx.heap.size:=HL.size
  have HBx:Below w.heap.size w wx:=HB5.trans (HL.mono (by omega))
  refine wS (wR ?_)
  revert a;refine wo rfl rfl (by decide) (fun ev e h=>by simp[go_sem,h]<;>rfl) ?_;intro a hA
  replace hA:=hA.keepN [2,3,4,5,31,32,33,34]
  refine wN (nT (wS ?_))
  refine aH hA 34 _ rfl (fun hq=> ?yI) (fun hq=> ?nI)
  case yI=>
   have hlt:j<n:=by simp at hq;omega
   obtain⟨x,hx⟩:∃x,L[j]?=some x:=⟨_,List.getElem?_eq_getElem (by omega)⟩
   have hle:((L.take j).map qe).length≤j:=by rw[List.length_map,List.length_take];omega
   have hle2:((L.take j).map k9).length≤j:=by rw[List.length_map,List.length_take];omega
   have e1:(L.take (j+1)).map qe=(L.take j).map qe++[qe x]:=by rw[List.take_add_one,hx,List.map_append];rfl
   have e2:(L.take (j+1)).map k9=(L.take j).map k9++[k9 x]:=by rw[List.take_add_one,hx,List.map_append];rfl
   obtain⟨ad,rfl,hadl,kz,kk'⟩:=hr.cell hx
   have z0:wx.cell? (ad.add (j*6))=some (.int .u32 (x.m.uid:Nat)):=(HBx.cell (by rw[aD];exact hadl)).trans (kz _ rfl)
   have zz:∀d u,0<d→(mV x)[d]?=some u→wx.cell? ⟨(ad.add (j*6)).block,(ad.add (j*6)).off+d,none⟩=some u:=fun d u hd hu=>(HBx.cell (by show(ad.add _).block<_;rw[aD];exact hadl)).trans (kk' d _ hd hu)
   have z1:=zz 1 _ (by decide) rfl
   have z2:=zz 2 _ (by decide) rfl
   have z3:=zz 3 _ (by decide) rfl
   have z4:=zz 4 _ (by decide) rfl
   have z5:=zz 5 _ (by decide) rfl
   have jj0:(0:Int)≤(j:Int):=by omega
   have jj1:(j:Int)<(n:Int):=by omega
   have hwj:IntKind.i64.wrap ((j:Int)+1)=(j:Int)+1:=IntWalk.i64_in _ (by omega)
   refine wp_skip (nT (wS (wB (wS (wR ?_)))))
   revert a;(iterate 2 refine wo rfl rfl (by decide) (fun ev e h=>by simp[go_sem,h,z0,z1,z2,z3,z4,z5,jj0,jj1]<;>rfl) ?_);intro a hA
   refine ap [.int .u32 (x.m.uid:Nat), .int .i64 x.m.date, .int .i64 x.m.flags, .slice x.m.a x.m.b.length x.m.c, .int .u32 (x.ep:Nat), .int .i64 (x.at_:Nat)] hA rfl rfl (by decide) (fun ev h=>by simp[go_sem,z0,z1,z2,z3,z4,z5,jj0,jj1];try first|exact⟨rfl,rfl⟩|rfl) rfl rfl (by rfl) (fun w1 g ev hb h=>by simp[go_sem,h.get 7 rfl,h.get 36 rfl,z0,z1,z2,z3,z4,z5,jj0,jj1,setAll,hb.cell,hb.frozen]) fun w6 a (K7:aI _ _ _ _) hz6 hb6 hA=> ?_
   replace K4:=K4.below hb6 K4.lt
   replace K5:=K5.below hb6 K5.lt
   replace hov:=hov.below hb6
   replace hou:=hou.below hb6
   replace HL:=HL.trans (hb6.mono (by omega))
   clear z0 zz z1 z2 z3 z4 z5
   replace hA:=hA.keepN [2,3,4,5,7,31,32,33]
   refine wN (nT (wS (wR ?_)))
   revert a;(iterate 8 refine wo rfl rfl (by decide) (fun ev e h=>by simp[go_sem,h,K7.cell,K4.cell]<;>rfl) ?_);intro a hA
   refine aP hA rfl rfl (by decide) (fun ev h=>by simp[go_sem,h.get 44 rfl,K7.cell,K4.cell];try first|exact⟨rfl,rfl⟩|rfl) fun w7 a (K8:aI _ _ _ _) hz7 hb7 hA=> ?_
   replace K4:=K4.below hb7 K4.lt
   replace K5:=K5.below hb7 K5.lt
   replace hov:=hov.below hb7
   replace hou:=hou.below hb7
   replace K7:=K7.below hb7 K7.lt
   replace HL:=HL.trans (hb7.mono (by omega))
   have hrow:bu qB w7 _ [qe x]:=ey (s:=qB) (x:=qe x) K8 (fun p hp=>(by cases hp))
   have hvlt:=World.ownsRow.lt hov.row
   have hult:=World.ownsRow.lt hou.row
   obtain⟨r,w8,hr8,ho8,hg8, -⟩:=eT hov hrow (fun _ _ m _ p hp=>(by cases hp)) (by simp;omega) (by omega)
   refine a7 hA rfl rfl (by decide) (fun ev h=>ao rfl (h.get 38 rfl) (h.get 45 rfl) hr8) fun a hA=> ?_
   have hs8:=hg8.size
   replace HL:=dN HL hov hg8 (by omega) (by omega)
   replace K4:=K4.grown hg8 (fun e=>by have:=(hvlt p4 e.symm).1;omega)
   replace K5:=K5.grown hg8 (fun e=>by have:=(hvlt p5 e.symm).1;omega)
   replace K7:=K7.grown hg8 (fun e=>eu hov.row K7 (by decide) _ e.symm rfl)
   replace hou:=hou.grown hg8 (fun g hg=>hou.ne hov (by decide) hg) (fun _ _ _ _ p hp=>(by cases hp))
   obtain⟨A8,c8,rfl,_⟩:=ho8.reads
   have K40:=K4
   revert a;refine wo rfl rfl (by decide) (fun ev e h=>by simp[go_sem,h,K7.cell,K4.cell]<;>rfl) ?_;intro a hA
   refine aq ([.string nm, .int .u32 (ep:Nat), .int .u32 (nx:Nat), .int .i64 z, .slice A8 ((L.take j).map qe++[qe x]).length c8]) _ hA rfl rfl K4 (j:=4) (by rfl) (fun ev h=>by simp[go_sem,h.get 47 rfl,h.get 46 rfl,K7.cell,K4.cell,K4.cell,K4.frozen];try first|exact⟨rfl,rfl⟩|rfl) fun w9 (K4:aI _ _ _ _) hs9=> ?_
   replace ho8:=ho8.onlyK hs9 K40 (by decide) rfl
   replace hou:=hou.onlyK hs9 K40 (by decide) rfl
   replace K5:=hs9.blk K5 (by omega)
   replace K7:=hs9.blk K7 (by have:=K7.lt;intro e;subst e;have:=K40;exact absurd (K7.symm.trans this) (by intro h;injection h with h;injection h with _ h _;exact absurd h (by decide)))
   replace HL:=hs9.below HL (Nat.le_refl _)
   have hs9':=hs9.size
   replace hA:=hA.keepN [2,3,4,5,7,31,32,33]
   refine wN (nT (wR ?_))
   revert a;(iterate 9 refine wo rfl rfl (by decide) (fun ev e h=>by simp[go_sem,h,K7.cell,K5.cell]<;>rfl) ?_);intro a hA
   refine aP hA rfl rfl (by decide) (fun ev h=>by simp[go_sem,h.get 56 rfl,K7.cell,K5.cell];try first|exact⟨rfl,rfl⟩|rfl) fun w10 a (K11:aI _ _ _ _) hz10 hb10 hA=> ?_
   replace K4:=K4.below hb10 K4.lt
   replace K5:=K5.below hb10 K5.lt
   replace ho8:=ho8.below hb10
   replace hou:=hou.below hb10
   replace HL:=HL.trans (hb10.mono (by omega))
   have hrow2:bu ub w10 _ [k9 x]:=ey (s:=ub) (x:=k9 x) K11 (fun p hp=>(by cases hp))
   have hult2:=World.ownsRow.lt hou.row
   obtain⟨r2,w11,hr11,ho11,hg11, -⟩:=eT hou hrow2 (fun _ _ m _ p hp=>(by cases hp)) (by simp;omega) (by omega)
   refine a7 hA rfl rfl (by decide) (fun ev h=>ao rfl (h.get 49 rfl) (h.get 57 rfl) hr11) fun a hA=> ?_
   replace HL:=dN HL hou hg11 (by omega) (by omega)
   replace K4:=K4.grown hg11 (fun e=>by have:=(hult2 p4 e.symm).1;omega)
   replace K5:=K5.grown hg11 (fun e=>by have:=(hult2 p5 e.symm).1;omega)
   replace ho8:=ho8.grown hg11 (fun g hg=>ho8.ne hou (by decide) hg) (fun _ _ _ _ p hp=>(by cases hp))
   obtain⟨A11,c11,rfl,_⟩:=ho11.reads
   have K50:=K5
   revert a;refine wo rfl rfl (by decide) (fun ev e h=>by simp[go_sem,h,K7.cell,K5.cell]<;>rfl) ?_;intro a hA
   replace hA:=hA.keepN [2,3,4,5,31,32,33,58,59]
   refine aq ([.int .u32 (ep:Nat), .slice A11 ((L.take j).map k9++[k9 x]).length c11]) _ hA rfl rfl K5 (j:=1) (by rfl) (fun ev h=>by simp[go_sem,h.get 59 rfl,h.get 58 rfl,K7.cell,K5.cell,K5.cell,K5.frozen];try first|exact⟨rfl,rfl⟩|rfl) fun w12 (K5:aI _ _ _ _) hs12=> ?_
   replace ho11:=ho11.onlyK hs12 K50 (by decide) rfl
   replace ho8:=ho8.onlyK hs12 K50 (by decide) rfl
   replace K4:=hs12.blk K4 (by omega)
   replace HL:=hs12.below HL (by omega)
   replace hA:=hA.keepN [2,3,4,5,31,32,33]
   refine wN (nB (nT (wR ?_)))
   revert a;(iterate 2 refine wo rfl rfl (by decide) (fun ev e h=>by simp[go_sem,h,hwj]<;>rfl) ?_);intro a hA
   replace hA:=hA.keepN [2,3,4,5,31,32,33]
   refine wN (nT ?_)
   rw[show((j:Int)+1)=((j+1:Nat):Int) by omega] at hA
   exact⟨kk - 1,by omega,j+1,_,_,by omega,hA,K4,K5,by rw[e1];exact ho8,by rw[e2];exact ho11,HL⟩
  case nI=>
   have hjn:j=n:=by simp at hq;omega
   rw[List.take_of_length_le (by omega)] at hov hou
   have K2x:=K2.below HL (by omega)
   have K3x:=K3.below HL (by omega)
   replace hA:=hA.keepN [2,3,4,5]
   have pD:=fun(wo:World) (hC:(fun wy=>dZ p2 wx wy) wo)=>have Kx:=hC.blk K4 (by omega);have Ky:=hC.blk K5 (by omega);And.intro (Kx.cell) (Ky.cell)
   refine wp_exit (xT (xT (xB (nT (wS ?_)))))
   refine aj 3 ?_
   simp only[List.take_succ_cons,List.take_zero,List.drop_succ_cons,List.drop_zero]
   refine ai hA [(.det ?dD0),(.det ?dD1),(.det undef)] [⟨none,(some 2),[],fun _=>(fun wy=>aI wy p2 88 #[.string ⟨#[]⟩, .int .u32 0, .int .u32 0, .int .i64 0, .slice none 0 0]),fun _ _ _ _ h=>h⟩,⟨(some 2),none,[],fun _=>(fun wy=>aI wy p2 88 #[.string nm, .int .u32 (ep:Nat), .int .u32 (nx:Nat), .int .i64 z, .slice Av q1 cv]),fun _ _ _ _ h=>h⟩] (fun wy=>dZ p2 wx wy) (aG [(2,(fun wy wz=>dZ p2 wy wz))] aA) (by kernel_rfl) rfl (by kernel_rfl) (by kernel_rfl) rfl (by kernel_rfl) (by kernel_rfl) (by kernel_rfl) (by kernel_rfl) (⟨rfl,rfl,rfl,rfl,fun _ _=>rfl⟩) (bF [(2,(fun wy wz=>dZ p2 wy wz))] [true,true,true] [true,true,true] [] rfl rfl rfl (by kernel_rfl) ⟨trivial,trivial,trivial,trivial⟩ trivial) (List.forall_mem_cons.2 ⟨(fun hn=>K2x.drew),(List.forall_mem_cons.2 ⟨(fun hn=>by cases hn),(fun _ h=>by cases h)⟩)⟩) (rO [(2,(fun wy wz=>dZ p2 wy wz))] [(none,(some 2)),((some 2),none)] [] rfl (by kernel_rfl) (List.forall_mem_cons.2 ⟨fun _=>fun _ _ _ hp hb=>hp.below hb hp.lt,(List.forall_mem_cons.2 ⟨fun _=>fun _ _ _ hp hb=>hp.below hb hp.lt,(fun _ h=>by cases h)⟩)⟩) trivial) (List.forall_mem_cons.2 ⟨(fun a h=>by first|(exact(Ea h).elim)|(injection h with h;subst h;exact Nat.le_of_ble_eq_true rfl)),(List.forall_mem_cons.2 ⟨(fun a h=>by first|(exact(Ea h).elim)|(injection h with h;subst h;exact Nat.le_of_ble_eq_true rfl)),(fun _ h=>by cases h)⟩)⟩) ⟨?oD0, ?oD1, ?oD2,trivial⟩ (by kernel_rfl) ?fD
   case oD0=>intro ev wo hev hC hs hph;have x0:=se hA hs 4;exact od rfl rfl (by kernel_rfl) hC (aG.of rfl (aA.refl _)) (by simp[go_sem,x0,pD _ hC]<;>rfl)
   case oD1=>intro ev wo hev hC hs hph;have x0:=se hA hs 5;exact od rfl rfl (by kernel_rfl) hC (aG.of rfl (aA.refl _)) (by simp[go_sem,x0,pD _ hC]<;>rfl)
   case oD2=>
    intro ev wo hev hC hs hph
    have e2:=se hA hs 2
    have e61:=sd hs 61 0
    have Kx:=hC.blk K4 (by omega)
    have Ky:=hC.blk K5 (by omega)
    have hk:=(hph _ List.mem_cons_self (by kernel_rfl))
    have hs:=dZ.setAll (g:=p2) [.string nm, .int .u32 (ep:Nat), .int .u32 (nx:Nat), .int .i64 z, .slice Av q1 cv] 0 wo
    have hK2:aI (setAll wo p2 0 [.string nm, .int .u32 (ep:Nat), .int .u32 (nx:Nat), .int .i64 z, .slice Av q1 cv]) p2 88 #[.string nm, .int .u32 (ep:Nat), .int .u32 (nx:Nat), .int .i64 z, .slice Av q1 cv]:=by simpa using ij [.string nm, .int .u32 (ep:Nat), .int .u32 (nx:Nat), .int .i64 z, .slice Av q1 cv] 0 _ _ hk rfl
    exact bf (aJ rfl) (sn (w':=setAll wo p2 0 [.string nm, .int .u32 (ep:Nat), .int .u32 (nx:Nat), .int .i64 z, .slice Av q1 cv]) (by simp[go_sem,e2,e61,setAll,hk.cell,hk.frozen]) ⟨hC.trans hs,aG.sp rfl hs,rfl,(List.forall_mem_cons.2 ⟨fun h=>(Ea h).elim,(List.forall_mem_cons.2 ⟨fun _=>hK2,(fun _ h=>by cases h)⟩)⟩)⟩)
   intro sg wf hC hph
   intro a hA
   replace hA:=hA.keepN [2,3,62]
   have K2y:=(hph _ (List.mem_cons_of_mem _ List.mem_cons_self) rfl)
   replace hov:=hov.onlyK hC K2x (by decide) rfl
   replace hou:=hou.onlyK hC K2x (by decide) rfl
   have K3y:=hC.blk K3x (by omega)
   have K3z:=K3y
   refine bX [.int .u32 (ep:Nat), .slice Au q2 cu] hA rfl rfl K3y (by rfl) (fun ev h=>by simp[go_sem,h.get 3 rfl,h.get 62 rfl,setAll,K3y.cell,K3y.frozen]) fun w13 (K3y:aI _ _ _ _) hs13=> ?_
   have K2w:=hs13.blk K2y (by omega)
   replace hA:=hA.keepN [2,3]
   refine wN (nT (wp_ret ?_))
   refine bodyPost_ret (by simp[results,Tryz.results33,go_sem,hA.env 2 _ rfl,hA.env 3 _ rfl,K2w.cell,K3y.cell];try first|exact⟨rfl,rfl⟩|rfl) hA.defers ?_
   exact⟨fun h=>(by cases h),fun _=>⟨_,_,rfl,(hov.onlyK hs13 K3z (by decide) rfl).mono (by omega),(hou.onlyK hs13 K3z (by decide) rfl).mono (by omega)⟩,hs13.below (hC.below HBx (by omega)) (by omega)⟩
theorem Cb (s:ByteArray) (hs:s.size≤9223372036854775807) (w:World) (hm:cX w):
 Calls Tryz.prog 107 #[.string s] w fun e w'=>e= .returned (.bool (ba s))∧Below w.heap.size w w':=by
 obtain⟨m,hm⟩:=hm
 have R:=Lib.hid (rF s m w hs hm)
 unfold ba
 generalize (eG s).1=t at*
 generalize (eG s).2=ok at*
 clear hm
 go_enter Tryz.func107,Tryz.ntmps107
 go_wp2_with fail
 refine R.out.mono ?_
 rintro e w1 ⟨rfl,hb⟩
 cases ok with
 |true=>
  go_wp2
  go_ret
  exact⟨rfl,hb⟩
 |false=>
  go_wp2
  go_ret
  exact⟨rfl,hb⟩
theorem Gm (ad:Addr) (j k:Nat) (hk:0<k):ad.add (j+k)=⟨(ad.add j).block,(ad.add j).off+k,none⟩:=by
 unfold Addr.add;by_cases h:j=0<;>simp[h]<;>omega
theorem IV {w:World} {g:Nat} {p:Nat×Nat} {l:List UInt8} (h:w.heap[g]?=some (.cells (ar l).toArray 5 p)):aE w w.heap.size 1 (some ⟨g,0,none⟩) l.length (ar l):=by
 refine⟨by rw[bg,Nat.mul_one],fun _=>⟨_,rfl,tT h,fun j u hu=> ?_⟩⟩
 have ha:(⟨g,0,none⟩:Addr).add j=⟨g,j,none⟩:=by unfold Addr.add;split<;>simp_all
 rw[ha,cell_of_row w g j _ _ p h]
 simpa using hu
theorem Co (k:Nat) (hk:1≤k∧k≤3) (A:Option Addr) (n c:Nat) (hn:60000<n) (w:World):
 Calls Tryz.prog 108 #[.int .i64 (k:Nat), .slice A n c] w fun e w'=>e= .returned (.tuple #[.slice none 0 0, .int .i64 3])∧w'=w:=by
 have k1:decide ((k:Int)<1)=false:=by simp;omega
 have k2:decide (3<(k:Int))=false:=by simp;omega
 have k3:decide (60000<(n:Int))=true:=by simp;omega
 go_enter Tryz.func108,Tryz.ntmps108
 go_wp2
 go_ret2
 exact⟨rfl,rfl⟩
theorem Ej (k:Nat) (hk:1≤k∧k≤3) (A:Option Addr) (n c:Nat) (l:List UInt8) (hl:l.length=n) (hn:n≤60000) (w:World) (hr:aE w w.heap.size 1 A n (ar l)):
 Calls Tryz.prog 108 #[.int .i64 (k:Nat), .slice A n c] w fun e w'=>∃v,e= .returned (.tuple #[v, .int .i64 0])∧w'.ownsRow w.heap.size 5 1 v (cy k l).length (ar (cy k l))∧Below w.heap.size w w':=by
 have k1:decide ((k:Int)<1)=false:=by simp;omega
 have k2:decide (3<(k:Int))=false:=by simp;omega
 have k3:decide (60000<(n:Int))=false:=by simp;omega
 have hb0:=(Below.refl w.heap.size w).alloc (Nat.le_refl _) (.cells #[.slice none 0 0, .bool false] 138)
 have ho0:=BT (w:=w) (Nat.le_refl w.heap.size)
 have hr0:=hr.below hb0
 obtain⟨w0,hw0⟩:∃w0,w.alloc (.cells #[.slice none 0 0, .bool false] 138)=w0:=⟨_,rfl⟩
 rw[hw0] at hb0 ho0 hr0
 obtain⟨o,ho⟩:∃o,w.heap.size=o:=⟨_,rfl⟩
 have hob:Hid (w.heap.size≤o):=by show _≤_;omega
 have hbl:Below w0.heap.size w0 (w0.alloc (.cells #[.int .u8 112, .int .u8 97, .int .u8 103] 5 (3,4))):=(Below.refl _ _).alloc (Nat.le_refl _) _
 have hlit:aE (w0.alloc (.cells #[.int .u8 112, .int .u8 97, .int .u8 103] 5 (3,4))) (w0.alloc (.cells #[.int .u8 112, .int .u8 97, .int .u8 103] 5 (3,4))).heap.size 1 (some ⟨w0.heap.size,0,none⟩) 3 (ar [112,97,103]):=IV (l:=[112,97,103]) (p:=(3,4)) (heap_alloc_new w0 _)
 rw[show cf w0 w.heap.size w.heap.size [] false (.slice none 0 0)=cf w0 w.heap.size o [] false (.slice none 0 0) by rw[ho]] at ho0
 have R1:=Lib.hid (kO (ho0.below hbl) (Nat.le_trans hb0.size hbl.size) (by simp) (some ⟨w0.heap.size,0,none⟩) 3 3 [112,97,103] rfl (by omega) hlit)
 have HB0:=Lib.hid (((fp.of_below (B:=w.heap.size) (o:=o) (hb0.mono (Nat.le_refl _)))).below hbl)
 have HR:=Lib.hid hr
 have HC0:Hid (w.heap.size≤w.heap.size):=Nat.le_refl _
 have HBW:Hid (∀w',fp w.heap.size o w w'→Below w.heap.size w w'):=fun w' h=>h.toBelow (Nat.le_refl _) (Nat.le_refl _) hob.out
 have hcv:=Lib.run_convert_bytes_const (P:=Tryz.prog) w0 22 5 #[.int .u8 112, .int .u8 97, .int .u8 103] 3 3 Tryz.underlying22 Tryz.underlying5
 clear hb0 ho0 hr0 hbl hlit hr
 go_enter Tryz.func108,Tryz.ntmps108
 go_wp2_with fail
 refine R1.out.mono ?_
 rintro e w1 ⟨rfl,⟨v1,h1⟩,hb1⟩
 have hB1:=HB0.out.trans hb1
 have R2:=Lib.hid (gH h1 hB1.size (by simp) k 1 (by omega) (by omega))
 have HB1:=Lib.hid hB1
 clear h1 hb1 hB1 R1 HB0 hcv
 go_wp2_with fail
 refine R2.out.mono ?_
 rintro e w2 ⟨rfl,⟨v2,h2⟩,hb2⟩
 have hB2:=HB1.out.trans hb2
 have R3:=Lib.hid (gH h2 hB2.size (by simp[aO]) n 4 (by omega) (by omega))
 have HB2:=Lib.hid hB2
 clear h2 hb2 hB2 R2 HB1
 go_wp2_with fail
 refine R3.out.mono ?_
 rintro e w3 ⟨rfl,⟨v3,h3⟩,hb3⟩
 have hB3:=HB2.out.trans hb3
 have R4:=Lib.hid (kO h3 hB3.size (by simp[aO]) A n c l hl (by omega) ((HR.out.below (HBW.out _ hB3)).more hB3.size))
 have HB3:=Lib.hid hB3
 clear h3 hb3 hB3 R3 HB2
 go_wp2_with fail
 refine R4.out.mono ?_
 rintro e w4 ⟨rfl,⟨v4,h4⟩,hb4⟩
 have hh:((([]++[112,97,103])++be 1 k)++be 4 n)++l=df k l:=by
  unfold df
  rw[hl]
  simp[be]
 rw[hh] at h4
 have hB4:=HB3.out.trans hb4
 have hpl:(df k l).length≤60008:=by rw[ke];omega
 have R5:=Lib.hid (lu h4 (by omega))
 have H4:=Lib.hid h4
 have HB4:=Lib.hid hB4
 clear h4 hb4 hB4 R4 HB3 hh
 go_wp2_with fail
 refine R5.out.mono ?_
 rintro e w5 ⟨r5,rfl,ho5,hb5⟩
 obtain⟨A5,c5,rfl,hr5⟩:=en ho5
 have R6:=Lib.hid (uR A5 _ c5 _ w5 rfl (by omega) hr5)
 have hB5:=HB4.out.below hb5
 have hcl:=Gv (df k l)
 have R7:=Lib.hid (gH (H4.out.below hb5) hB5.size (by omega) (sG (df k l)) 4 (by omega) (by omega))
 have HB5:=Lib.hid hB5
 clear ho5 hb5 hr5 hB5 H4 HB4 R5
 obtain⟨cr,hcr⟩:∃cr,sG (df k l)=cr:=⟨_,rfl⟩
 rw[hcr] at R6 R7 hcl
 have HCR:=Lib.hid hcr
 clear hcr
 go_wp2_with fail
 refine R6.out.mono ?_
 rintro e w6 ⟨rfl,rfl⟩
 go_wp2_with fail
 refine R7.out.mono ?_
 rintro e w7 ⟨rfl,⟨v7,h7⟩,hb7⟩
 have hh:df k l++be 4 cr=cy k l:=by unfold cy;rw[HCR.out]
 rw[hh] at h7
 have R8:=Lib.hid (lu h7 (by rw[kP];omega))
 have HB7:=Lib.hid (HB5.out.trans hb7)
 clear h7 hb7 R7 HB5 hh
 go_wp2_with fail
 refine R8.out.mono ?_
 rintro e w8 ⟨r8,rfl,ho8,hb8⟩
 have HO8:=Lib.hid (eo ho8 HB7.out.size)
 have HB8:=Lib.hid (HBW.out _ (HB7.out.below hb8))
 clear ho8 hb8
 go_wp2
 go_ret2
 exact⟨r8,rfl,HO8.out,HB8.out⟩
theorem xO (k:Nat) (hk:1≤k∧k≤3) (A:Option Addr) (n c:Nat) (l:List UInt8) (hl:l.length=n) (w:World) (hr:aE w w.heap.size 1 A n (ar l)):
 Calls Tryz.prog 108 #[.int .i64 (k:Nat), .slice A n c] w fun e w'=>∃v,e= .returned (.tuple #[v, .int .i64 (if n≤60000 then 0 else 3)])∧w'.ownsRow w.heap.size 5 1 v (if n≤60000 then cy k l else[]).length (ar (if n≤60000 then cy k l else[]))∧Below w.heap.size w w':=by
 by_cases hn:n≤60000
 ·rw[if_pos hn,if_pos hn]
  exact Ej k hk A n c l hl hn w hr
 ·rw[if_neg hn,if_neg hn]
  refine(Co k hk A n c (by omega) w).mono ?_
  rintro e w' ⟨rfl,rfl⟩
  exact⟨_,rfl,World.ownsRow_nil _ _ _ _,Below.refl _ _⟩
theorem wq {w:World} {B n c:Nat} {A:Option Addr} {l:List UInt8} (hl:l.length=n) (hc:n≤c) (h12:12≤n) (hr:aE w B 1 A n (ar l)):∃ad,A=some ad∧aE w B 1 (some (ad.add 8)) (n - 12) (ar (iC l)):=by
 obtain⟨ad,rfl,_,_⟩:=hr.2 (by omega)
 refine⟨ad,rfl, ?_⟩
 have h1:=hr.drop8 (k:=8) (c:=c) (by omega) hc
 rw[if_neg (by omega)] at h1
 have h2:=h1.take8 (k:=n - 12) (by omega)
 unfold iC
 rw[hl]
 exact h2
theorem zw (k:Nat) (A:Option Addr) (n c:Nat) (hn:n<12) (w:World):
 Calls Tryz.prog 74 #[.int .i64 (k:Nat), .slice A n c] w fun e w'=>e= .returned (.tuple #[.slice none 0 0, .int .i64 9])∧w'=w:=by
 have k3:decide ((n:Int)<12)=true:=by simp;omega
 go_enter Tryz.func74,Tryz.ntmps74
 go_wp2
 go_ret2
 exact⟨rfl,rfl⟩
theorem Ek (k:Nat) (hk:1≤k∧k≤3) (ad:Addr) (n c:Nat) (hc:n≤c) (h12:12≤n) (hn:n≤5000000) (l:List UInt8) (hl:l.length=n) (w:World) (hr:aE w w.heap.size 1 (some ad) n (ar l)):
 Calls Tryz.prog 74 #[.int .i64 (k:Nat), .slice (some ad) n c] w fun e w'=>∃v,e= .returned (.tuple #[v, .int .i64 (if(dC k l).isSome=true then 0 else 9)])∧w'.ownsRow w.heap.size 5 1 v ((dC k l).getD []).length (ar ((dC k l).getD []))∧Below w.heap.size w w':=by
 have k3:decide ((n:Int)<12)=false:=by simp;omega
 obtain⟨_,e,hm⟩:=wq hl hc h12 hr
 injection e with e
 subst e
 have hml:(iC l).length=n - 12:=by have:=hm.1;rw[bg] at this;omega
 obtain⟨m,hmn⟩:∃m,n - 12=m:=⟨_,rfl⟩
 rw[hmn] at hm hml
 have e4:(n:Int) - 4=((m+8:Nat):Int):=by omega
 have R1:=Lib.hid (xO k hk (some (ad.add 8)) m (c - 8) (iC l) hml w hm)
 have HR:=Lib.hid hr
 have HM:=Lib.hid hm
 have h88:m+8 - 8=m:=by omega
 have ea:ad.add 8=⟨ad.block,ad.off+8,none⟩:=by unfold Addr.add;simp
 rw[ea] at R1 HM
 have i1:(8:Int)≤(n:Int) - 4:=by omega
 have i2:(n:Int) - 4≤(c:Int):=by omega
 clear hr hm ea
 have hpg:dC k l=if m≤60000∧cy k (iC l)=l then some (iC l) else none:=by
  unfold dC
  rw[hml]
  by_cases h:m≤60000∧cy k (iC l)=l
  ·rw[if_pos ⟨by omega,h.1,h.2⟩,if_pos h]
  ·rw[if_neg (fun h'=>h h'.2),if_neg h]
 by_cases hm6:m≤60000
 ·rw[if_pos hm6,if_pos hm6] at R1
  by_cases heq:cy k (iC l)=l
  ·have hv:dC k l=some (iC l):=by rw[hpg,if_pos ⟨hm6,heq⟩]
   rw[hv]
   rw[heq] at R1
   dsimp only[Option.isSome_some,Option.getD_some]
   rw[if_pos rfl,hml]
   have hll:(l==l)=true:=by simp
   have HML:=Lib.hid hml
   clear hpg hv heq hml
   go_enter Tryz.func74,Tryz.ntmps74
   go_wp2_with fail
   refine R1.out.mono ?_
   rintro e w1 ⟨v1,rfl,ho1,hb1⟩
   obtain⟨A1,c1,rfl,hr1⟩:=en ho1
   have hr':=(HR.out.below hb1).more hb1.size
   have hm':=(HM.out.below hb1).more hb1.size
   rw[hl] at hr1 ⊢
   have R2:=Lib.hid (gV A1 (some ad) n c1 n c l l w1 hl hl hr1 hr')
   rw[hll] at R2
   have R3:=Lib.hid (oW (some ⟨ad.block,ad.off+8,none⟩) m (c - 8) (iC l) w1 HML.out (by omega) hm')
   have HB1:=Lib.hid hb1
   clear ho1 hb1 hr1 hr' hm' R1
   go_wp2_with fail
   refine R2.out.mono ?_
   rintro e w2 ⟨rfl,rfl⟩
   go_wp2_with fail
   refine R3.out.mono ?_
   rintro e w3 ⟨v3,rfl,ho3,hb3⟩
   have HO3:=Lib.hid (eo ho3 HB1.out.size)
   have HB3:=Lib.hid (HB1.out.trans (hb3.mono HB1.out.size))
   clear ho3 hb3
   go_wp2
   go_ret2
   exact⟨v3,rfl,HO3.out,HB3.out⟩
  ·have hv:dC k l=none:=by rw[hpg,if_neg (fun h=>heq h.2)]
   rw[hv]
   dsimp only[Option.isSome_none,Option.getD_none]
   rw[if_neg (by decide)]
   have hll:(cy k (iC l)==l)=false:=by simpa using heq
   obtain⟨pb,hpb⟩:∃pb,cy k (iC l)=pb:=⟨_,rfl⟩
   rw[hpb] at R1 hll
   clear hpg hv heq hml hpb
   go_enter Tryz.func74,Tryz.ntmps74
   go_wp2_with fail
   refine R1.out.mono ?_
   rintro e w1 ⟨v1,rfl,ho1,hb1⟩
   obtain⟨A1,c1,rfl,hr1⟩:=en ho1
   have hr':=(HR.out.below hb1).more hb1.size
   have R2:=Lib.hid (gV A1 (some ad) pb.length c1 n c pb l w1 rfl hl hr1 hr')
   rw[hll] at R2
   have HB1:=Lib.hid hb1
   clear ho1 hb1 hr1 hr' R1
   go_wp2_with fail
   refine R2.out.mono ?_
   rintro e w2 ⟨rfl,rfl⟩
   go_wp2
   go_ret2
   exact⟨_,rfl,World.ownsRow_nil _ _ _ _,HB1.out⟩
 ·rw[if_neg hm6,if_neg hm6] at R1
  have hv:dC k l=none:=by rw[hpg,if_neg (fun h=>hm6 h.1)]
  rw[hv]
  dsimp only[Option.isSome_none,Option.getD_none]
  rw[if_neg (by decide)]
  clear hpg hv hml
  go_enter Tryz.func74,Tryz.ntmps74
  go_wp2_with fail
  refine R1.out.mono ?_
  rintro e w1 ⟨v1,rfl,ho1,hb1⟩
  have HB1:=Lib.hid hb1
  clear ho1 hb1 R1
  go_wp2
  go_ret2
  exact⟨_,rfl,World.ownsRow_nil _ _ _ _,HB1.out⟩
theorem Ei (k:Nat) (hk:1≤k∧k≤3) (A:Option Addr) (n c:Nat) (hc:n≤c) (hn:n≤5000000) (l:List UInt8) (hl:l.length=n) (w:World) (hr:aE w w.heap.size 1 A n (ar l)):
 Calls Tryz.prog 74 #[.int .i64 (k:Nat), .slice A n c] w fun e w'=>∃v,e= .returned (.tuple #[v, .int .i64 (if(dC k l).isSome=true then 0 else 9)])∧w'.ownsRow w.heap.size 5 1 v ((dC k l).getD []).length (ar ((dC k l).getD []))∧Below w.heap.size w w':=by
 by_cases h12:12≤n
 ·obtain⟨ad,rfl,_⟩:=hr.2 (by omega)
  exact Ek k hk ad n c hc h12 hn l hl w hr
 ·have e:dC k l=none:=by unfold dC;rw[if_neg (fun h=>by omega)]
  rw[e]
  refine(zw k A n c (by omega) w).mono ?_
  rintro e w' ⟨rfl,rfl⟩
  exact⟨_,rfl,World.ownsRow_nil _ _ _ _,Below.refl _ _⟩
def ll (n:Nat):Int:=if n≤60000 then 0 else 3
def lU (k:Nat) (l:List UInt8):List UInt8:=if l.length≤60000 then cy k l else[]
theorem GJ (k:Nat) (hk:1≤k∧k≤3) (A:Option Addr) (c:Nat) (l:List UInt8) (w:World) (hr:aE w w.heap.size 1 A l.length (ar l)):
 Calls Tryz.prog 108 #[.int .i64 (k:Nat), .slice A l.length c] w fun e w'=>∃v,e= .returned (.tuple #[v, .int .i64 (ll l.length)])∧w'.ownsRow w.heap.size 5 1 v (lU k l).length (ar (lU k l))∧Below w.heap.size w w':=xO k hk A l.length c l rfl w hr
theorem BV {w:World} {B o:Nat} {l:List UInt8} {v0:Value} (h:cf w B o l false v0) (hl:l.length≤800000000) (k:Nat) (hk:1≤k∧k≤3):
 Calls Tryz.prog 73 #[.int .i64 (k:Nat), .pointer (some ⟨o,0,none⟩)] w fun e w'=>∃r,e= .returned (.tuple #[r, .int .i64 (ll l.length)])∧w'.ownsRow w.heap.size 5 1 r (lU k l).length (ar (lU k l))∧Below w.heap.size w w':=by
 have R1:=Lib.hid (lu h hl)
 clear h
 go_enter Tryz.func73,Tryz.ntmps73
 go_wp2_with fail
 refine R1.out.mono ?_
 rintro e w1 ⟨v1,rfl,ho1,hb1⟩
 obtain⟨A1,c1,rfl,hr1⟩:=en ho1
 have R2:=Lib.hid (GJ k hk A1 c1 l w1 hr1)
 have HB1:=Lib.hid hb1
 clear ho1 hr1 hb1 R1
 go_wp2_with fail
 refine R2.out.mono ?_
 rintro e w2 ⟨v2,rfl,ho2,hb2⟩
 have HO2:=Lib.hid (eo ho2 HB1.out.size)
 have HB2:=Lib.hid (HB1.out.trans (hb2.mono HB1.out.size))
 clear ho2 hb2 R2
 go_wp2
 go_ret2
 exact⟨v2,rfl,HO2.out,HB2.out⟩
theorem Ez (A1 A2:Option Addr) (n c m d:Nat) (l1 l2:List UInt8) (e:Int) (w:World) (h1:l1.length=n) (h2:l2.length=m) (r1:aE w w.heap.size 1 A1 n (ar l1)) (r2:aE w w.heap.size 1 A2 m (ar l2)):
 Calls Tryz.prog 76 #[.slice A1 n c, .int .i64 e, .slice A2 m d] w fun e' w'=>e'= .returned (.bool (decide (e=0)&&(l1==l2)))∧w'=w:=by
 have R:=Lib.hid (gV A1 A2 n c m d l1 l2 w h1 h2 r1 r2)
 generalize (l1==l2)=q at*
 clear r1 r2
 by_cases he:e=0
 ·subst he
  go_enter Tryz.func76,Tryz.ntmps76
  go_wp2_with fail
  refine R.out.mono ?_
  rintro e w1 ⟨rfl,rfl⟩
  go_wp2
  go_ret
  exact⟨by simp,rfl⟩
 ·have g1:(e==0)=false:=by simpa using he
  have g2:decide (e=0)=false:=by simpa using he
  rw[g2,Bool.false_and]
  clear he g2
  go_enter Tryz.func76,Tryz.ntmps76
  go_wp2
  go_ret
  exact⟨rfl,rfl⟩
abbrev aM :=Nat×Int
def lJ (q:aM):List Value:=[.int .u32 (q.1:Nat), .int .i64 q.2]
def cW (l:List aM):List Value:=l.flatMap lJ
theorem tW :∀(l:List aM) (i:Nat) (x:aM),l[i]?=some x→∀j,j<2→(cW l)[i*2+j]?=(lJ x)[j]?
 |y::r,0,x,h,j,hj=>by
  injection h with h
  subst h
  unfold cW
  rw[List.flatMap_cons,List.getElem?_append_left (by show 0*2+j<2;omega),Nat.zero_mul,Nat.zero_add]
 |y::r,i+1,x,h,j,hj=>by
  have ih:=tW r i x h j hj
  unfold cW at ih ⊢
  rw[List.flatMap_cons,List.getElem?_append_right (by show 2≤_;omega)]
  have e:(i+1)*2+j - (lJ y).length=i*2+j:=by show(i+1)*2+j - 2=_;omega
  rw[e]
  exact ih
theorem sN (l m:List aM):cW (l++m)=cW l++cW m:=List.flatMap_append
theorem zh (l:List aM):∀u∈cW l,u.oneCell'=true:=by
 intro u hu
 simp only[cW,List.mem_flatMap] at hu
 obtain⟨x,_,hx⟩:=hu
 simp only[lJ,List.mem_cons,List.not_mem_nil,or_false] at hx
 rcases hx with rfl|rfl<;>rfl
theorem qC {w:World} {k:Nat} {ad:Addr} {l:List aM} {x:aM} (hc:∀j u,(cW l)[j]?=some u→w.cell? (ad.add j)=some u) (hx:l[k]?=some x):
 w.cell? (ad.add (k*2))=some (.int .u32 (x.1:Nat))∧w.cell? ⟨(ad.add (k*2)).block,(ad.add (k*2)).off+1,none⟩=some (.int .i64 x.2):=by
 have h:∀j u,j<2→(lJ x)[j]?=some u→w.cell? (ad.add (k*2+j))=some u:=fun j u hj hu=>hc _ u (by rw[tW l k x hx j hj];exact hu)
 have h0:=h 0 _ (by omega) rfl
 have h1:=h 1 _ (by omega) rfl
 rw[Gm _ _ _ (by omega)] at h1
 exact⟨h0,h1⟩
def dj (l:List aM):Nat→Nat
 |0=>0
 |j+1=>match l[j]? with|some y=>y.1|none=>0
theorem mi {l:List aM} {j:Nat} {x:aM} (hx:l[j]?=some x):dj l (j+1)=x.1:=by
 show(match l[j]? with|some y=>y.1|none=>0)=_
 rw[hx]
def ju (good:aM→Bool) (l:List aM) (j:Nat) (x:aM):Bool:=decide (dj l j<x.1)&&good x
def ue (good:aM→Bool) (l:List aM) (j:Nat):Bool:=match l[j]? with|some x=>ju good l j x|none=>true
def ek (good:aM→Bool) (l:List aM) (j:Nat):Bool:=(List.range j).all (ue good l)
theorem lH (good:aM→Bool) {l:List aM} {j:Nat} {x:aM} (hx:l[j]?=some x):ek good l (j+1)=(ek good l j&&ju good l j x):=by
 unfold ek
 rw[List.range_succ,List.all_append]
 simp[ue,hx]
theorem nz {good:aM→Bool} {l:List aM} {j:Nat} {x:aM} (hx:l[j]?=some x) (h:ju good l j x=false):ek good l l.length=false:=by
 unfold ek
 rw[List.all_eq_false]
 exact⟨j,List.mem_range.2 (List.getElem?_eq_some_iff.1 hx).1,by unfold ue;rw[hx];simp only[h];simp⟩
theorem wm {good:aM→Bool} {l:List aM} {j:Nat} {x:aM} (hx:l[j]?=some x) (h:ek good l l.length=true):ju good l j x=true:=by
 cases hs:ju good l j x with
 |true=>rfl
 |false=>rw[nz hx hs] at h;cases h
def mT (q:aM):Bool:=decide (0≤q.2)&&decide (q.2≤31)
def aZ (e:Nat) (l:List aM):Bool:=ek mT l l.length&&decide (1≤e)&&decide (l.length≤500)
theorem rW (A:Option Addr) (c n e:Nat) (l:List aM) (w:World) (hu:∀q∈l,q.1<4294967296) (he:e<4294967296) (hn2:l.length=n) (hn:n≤100000) (hr:aE w w.heap.size 2 A n (cW l)):
 Calls Tryz.prog 109 #[.agg #[.int .u32 (e:Nat), .slice A n c]] w fun ev w'=>ev= .returned (.bool (aZ e l))∧Below w.heap.size w w':=by
 have hb0:=(Below.refl w.heap.size w).alloc (Nat.le_refl _) (.cells #[.int .u32 (e:Nat), .slice A n c] 90)
 have hk0:aI (w.alloc (.cells #[.int .u32 (e:Nat), .slice A n c] 90)) w.heap.size 90 #[.int .u32 (e:Nat), .slice A n c]:=aI.new w _ _
 have hr0:=(hr.below hb0).more hb0.size
 obtain⟨w0,hw0⟩:∃w0,w.alloc (.cells #[.int .u32 (e:Nat), .slice A n c] 90)=w0:=⟨_,rfl⟩
 obtain⟨o,ho⟩:∃o,w.heap.size=o:=⟨_,rfl⟩
 rw[hw0] at hb0 hk0 hr0
 rw[ho] at hk0
 have HR:=Lib.hid hr0
 have HK:=Lib.hid hk0
 have HB0:=Lib.hid hb0
 have HU:=Lib.hid hu
 have HL:=Lib.hid hn2
 obtain⟨rv,hrv⟩:∃rv,aZ e l=rv:=⟨_,rfl⟩
 have HRV:=Lib.hid hrv
 rw[hrv]
 have z1:w0.cell? ⟨o,1,none⟩=some (.slice A n c):=by rw[hk0.cell];rfl
 clear hr hr0 hk0 hb0 hu hn2 hrv
 go_enter Tryz.func109,Tryz.ntmps109
 go_wp2
 have HO:Hid (w.heap.size=o):=ho
 clear hw0 ho z1
 go_loopw [3,9] (fun z k wr=>∃(j ln:Nat),k= .int .i64 j∧j≤n∧z= .int .u32 (ln:Nat)∧ln<4294967296∧Hid (ln=dj l j)∧Hid (ek mT l j=true)∧Hid (Below w0.heap.size w0 wr)) (fun _ k _=>n - (intOf k).toNat)
 case atStart=>exact⟨0,0,rfl,by omega,rfl,by omega,rfl,rfl,Below.refl _ _⟩
 case round=>
  obtain⟨j,ln,rfl,hj,rfl,hln,hlast,hall,hb⟩:=hrel
  by_cases hlt:j<n
  ·obtain⟨x,hx⟩:∃x,l[j]?=some x:=⟨_,List.getElem?_eq_getElem (by have:=HL.out;omega)⟩
   have hxu:=HU.out x (List.mem_of_getElem? hx)
   have HX:=Lib.hid hx
   obtain⟨ad,rfl,hadl,hc⟩:=(HR.out.below hb.out).2 (by omega)
   obtain⟨k0,k1⟩:=qC hc hx
   obtain⟨xu,xf⟩:=x
   simp only at k0 k1 hxu
   have hadl':(ad.add (j*2)).block<wr.heap.size:=by rw[aD];exact Nat.lt_of_lt_of_le hadl hb.out.size
   have hbx:=(Below.refl wr.heap.size wr).alloc (Nat.le_refl _) (.cells #[.int .u32 (xu:Nat), .int .i64 xf] 100)
   have HB1:=Lib.hid (hb.out.trans (hbx.mono hb.out.size))
   have hs0:=HB0.out.size
   have hs1:=hb.out.size
   clear hx hc hbx
   by_cases ha:xu≤ln
   ·have g1:decide (xu≤ln)=true:=by simp;omega
    have g2:decide ((xu:Int)≤(ln:Int))=true:=by simp;omega
    have hno:aZ e l=false:=by
     unfold aZ
     rw[nz HX.out (by unfold ju;rw[←hlast.out];simp;omega)]
     rfl
    rw[HRV.out] at hno
    subst hno
    go_wp2
    go_ret
    exact⟨rfl,HB0.out.trans (HB1.out.mono HB0.out.size)⟩
   ·have g1:decide (xu≤ln)=false:=by simp;omega
    have g2:decide ((xu:Int)≤(ln:Int))=false:=by simp;omega
    by_cases hg:mT (xu,xf)=true
    ·have hgg:=hg
     unfold mT at hgg
     simp only[Bool.and_eq_true,decide_eq_true_eq] at hgg
     have g3:decide (xf<0)=false:=by simp;omega
     have g4:decide (31<xf)=false:=by simp;omega
     have hn1:ek mT l (j+1)=true:=by
      rw[lH mT HX.out,hall.out,Bool.true_and]
      unfold ju
      rw[hg,←hlast.out];simp;omega
     have HN1:=Lib.hid hn1
     have HL1:=Lib.hid (mi HX.out)
     clear hg hgg hn1
     go_wp2
     go_roundw
     case rel=>exact⟨j+1,xu,by go_num,by omega,rfl,hxu,HL1.out.symm,HN1,HB1⟩
     case measure=>simp[intOf];omega
    ·have hno:aZ e l=false:=by
      unfold aZ
      rw[nz HX.out (by unfold ju;rw[Bool.eq_false_iff.2 hg];simp)]
      rfl
     rw[HRV.out] at hno
     subst hno
     have hor:xf<0∨(0≤xf∧31<xf):=by
      unfold mT at hg
      simp only[Bool.and_eq_true,decide_eq_true_eq] at hg
      omega
     clear hg
     rcases hor with h|⟨h1,h2⟩
     ·have g3:decide (xf<0)=true:=by simp;omega
      go_wp2
      go_ret
      exact⟨rfl,HB0.out.trans (HB1.out.mono HB0.out.size)⟩
     ·have g3:decide (xf<0)=false:=by simp;omega
      have g4:decide (31<xf)=true:=by simp;omega
      go_wp2
      go_ret
      exact⟨rfl,HB0.out.trans (HB1.out.mono HB0.out.size)⟩
  ·obtain rfl:j=n:=by omega
   have hk2:=HK.out.below hb.out HK.out.lt
   have z0:wr.cell? ⟨o,0,none⟩=some (.int .u32 (e:Nat)):=by rw[hk2.cell];rfl
   have z1:wr.cell? ⟨o,1,none⟩=some (.slice A j c):=by rw[hk2.cell];rfl
   have hrv:(decide (1≤e)&&decide (j≤500))=rv:=by
    rw[←HRV.out]
    unfold aZ
    rw[HL.out,hall.out,Bool.true_and]
   have HRV2:=Lib.hid hrv
   clear hk2 hrv
   by_cases h1:1≤e
   ·have g1:decide (1≤e)=true:=by simp;omega
    have g2:decide ((1:Int)≤(e:Int))=true:=by simp;omega
    have g3:decide ((j:Int)≤500)=decide (j≤500):=by rw[Bool.eq_iff_iff];simp;omega
    have hq:decide (j≤500)=rv:=by rw[←HRV2.out,g1];rfl
    have HQ:=Lib.hid hq
    obtain⟨q,hq5⟩:∃q,decide (j≤500)=q:=⟨_,rfl⟩
    rw[hq5] at HQ g3
    clear hq
    go_wp2
    go_ret
    rw[←HQ.out]
    exact⟨by first|rfl|trivial,HB0.out.trans (hb.out.mono HB0.out.size)⟩
   ·have g1:decide (1≤e)=false:=by simp;omega
    have g2:decide ((1:Int)≤(e:Int))=false:=by simp;omega
    have hq:false=rv:=by rw[←HRV2.out,g1];rfl
    have HQ:=Lib.hid hq
    clear hq
    go_wp2
    go_ret
    rw[←HQ.out]
    exact⟨by first|rfl|trivial,HB0.out.trans (hb.out.mono HB0.out.size)⟩
def fj (q:aM):List UInt8:=be 4 q.1++be 1 q.2.toNat
def eV (e:Nat) (l:List aM):List UInt8:=be 4 e++be 2 l.length++l.flatMap fj
def dq (e:Nat) (l:List aM):Int:=if aZ e l=true then 0 else 1
def dI (e:Nat) (l:List aM):List UInt8:=if aZ e l=true then cy 2 (eV e l) else[]
theorem ny (l:List aM):(l.flatMap fj).length=l.length*5:=by
 induction l with
 |nil=>simp
 |cons x r ih=>
  rw[List.flatMap_cons,List.length_append,List.length_cons,ih]
  have:(fj x).length=5:=by unfold fj;simp[aO]
  omega
theorem o8 {e:Nat} {l:List aM} (h:aZ e l=true):1≤e∧l.length≤500:=by
 unfold aZ at h
 simp only[Bool.and_eq_true,decide_eq_true_eq] at h
 exact⟨h.1.2,h.2⟩
theorem qh {e:Nat} {l:List aM} (h:aZ e l=true):(eV e l).length≤3000:=by
 have:=(o8 h).2
 unfold eV
 rw[List.length_append,List.length_append,aO,aO,ny]
 omega
theorem qi {e:Nat} {l:List aM} (h:aZ e l=true) {j:Nat} {x:aM} (hx:l[j]?=some x):0≤x.2∧x.2≤31:=by
 unfold aZ at h
 simp only[Bool.and_eq_true] at h
 have:=wm hx h.1.1
 unfold ju mT at this
 simp only[Bool.and_eq_true,decide_eq_true_eq] at this
 exact this.2
theorem oH (A:Option Addr) (c n e:Nat) (l:List aM) (w:World) (hu:∀q∈l,q.1<4294967296) (he:e<4294967296) (hn2:l.length=n) (hn:n≤100000) (hr:aE w w.heap.size 2 A n (cW l)):
 Calls Tryz.prog 75 #[.agg #[.int .u32 (e:Nat), .slice A n c]] w fun ev w'=>∃r,ev= .returned (.tuple #[r, .int .i64 (dq e l)])∧w'.ownsRow w.heap.size 5 1 r (dI e l).length (ar (dI e l))∧Below w.heap.size w w':=by
 have hb0:=(Below.refl w.heap.size w).alloc (Nat.le_refl _) (.cells #[.int .u32 (e:Nat), .slice A n c] 90)
 have hk0:aI (w.alloc (.cells #[.int .u32 (e:Nat), .slice A n c] 90)) w.heap.size 90 #[.int .u32 (e:Nat), .slice A n c]:=aI.new w _ _
 have hr0:=(hr.below hb0).more hb0.size
 have hlt0:w.heap.size<(w.alloc (.cells #[.int .u32 (e:Nat), .slice A n c] 90)).heap.size:=hk0.lt
 obtain⟨w0,hw0⟩:∃w0,w.alloc (.cells #[.int .u32 (e:Nat), .slice A n c] 90)=w0:=⟨_,rfl⟩
 obtain⟨ob,hob⟩:∃ob,w.heap.size=ob:=⟨_,rfl⟩
 rw[hw0] at hb0 hk0 hr0 hlt0
 rw[hob] at hk0 hlt0
 have R1:=Lib.hid (rW A c n e l w0 hu he hn2 hn hr0)
 have HR:=Lib.hid hr0
 have HK:=Lib.hid hk0
 have HB0:=Lib.hid hb0
 have HU:=Lib.hid hu
 have HL:=Lib.hid hn2
 have HOB:=Lib.hid hob
 have z0:w0.cell? ⟨ob,0,none⟩=some (.int .u32 (e:Nat)):=by rw[hk0.cell];rfl
 have z1:w0.cell? ⟨ob,1,none⟩=some (.slice A n c):=by rw[hk0.cell];rfl
 unfold dq dI
 cases hv:aZ e l with
 |false=>
  rw[hv] at R1
  rw[if_neg (by simp),if_neg (by simp)]
  clear hr hr0 hk0 hb0 hu hn2 hv
  go_enter Tryz.func75,Tryz.ntmps75
  go_wp2_with fail
  refine R1.out.mono ?_
  rintro ev w1 ⟨rfl,hb1⟩
  go_wp2
  go_ret2
  exact⟨_,rfl,World.ownsRow_nil _ _ _ _,HB0.out.trans (hb1.mono HB0.out.size)⟩
 |true=>
  rw[hv] at R1
  rw[if_pos rfl,if_pos rfl]
  obtain⟨_,hl500⟩:=o8 hv
  have HP:Hid (∀(j:Nat) (x:aM),l[j]?=some x→0≤x.2∧x.2≤31):=fun j x hx=>qi hv hx
  have HTL:=Lib.hid (qh hv)
  have hn500:n≤500:=by omega
  clear hr hr0 hk0 hb0 hu hn2 hv hl500
  go_enter Tryz.func75,Tryz.ntmps75
  go_wp2_with fail
  clear hw0 hob
  refine R1.out.mono ?_
  rintro ev w1 ⟨rfl,hb1⟩
  have hk1:=HK.out.below hb1 HK.out.lt
  have hbo:=(Below.refl w1.heap.size w1).alloc (Nat.le_refl _) (.cells #[.slice none 0 0, .bool false] 138)
  have ho0:=BT (w:=w1) (B:=w0.heap.size) hb1.size
  have hk2:=hk1.alloc (.cells #[.slice none 0 0, .bool false] 138)
  obtain⟨w2,hw2⟩:∃w2,w1.alloc (.cells #[.slice none 0 0, .bool false] 138)=w2:=⟨_,rfl⟩
  obtain⟨o,ho⟩:∃o,w1.heap.size=o:=⟨_,rfl⟩
  have hoo:Hid (w0.heap.size≤o):=by show _≤_;have:=hb1.size;omega
  rw[hw2,ho] at ho0
  rw[hw2] at hbo hk2
  have hbw:=hb1.trans (hbo.mono hb1.size)
  have R2:=Lib.hid (gH ho0 hbw.size (by simp) e 4 (by omega) (by omega))
  have y0:w2.cell? ⟨ob,0,none⟩=some (.int .u32 (e:Nat)):=by rw[hk2.cell];rfl
  have HBW:=Lib.hid hbw
  have HK2:=Lib.hid hk2
  have hobo:ob≠o:=by have:=hoo.out;omega
  clear hb1 hbo ho0 R1 hbw hk1 hk2 z0 z1
  go_wp2_with fail
  clear hw2 ho
  refine R2.out.mono ?_
  rintro ev w3 ⟨rfl,⟨v3,h3⟩,hb3⟩
  have hk3:=HK2.out.obut hb3 hobo (by decide)
  have hbw3:=HBW.out.trans (hb3.toBelow HBW.out.size (Nat.le_refl _) hoo.out)
  have y1:w3.cell? ⟨ob,1,none⟩=some (.slice A n c):=by rw[hk3.cell];rfl
  have R3:=Lib.hid (gH h3 hbw3.size (by rw[List.length_append,aO];simp) n 2 (by omega) (by omega))
  have HBW3:=Lib.hid hbw3
  have HK3:=Lib.hid hk3
  clear h3 hb3 hbw3 hk3 R2 y0
  go_wp2_with fail
  refine R3.out.mono ?_
  rintro ev w4 ⟨rfl,⟨v4,h4⟩,hb4⟩
  have hk4:=HK3.out.obut hb4 hobo (by decide)
  have x1:w4.cell? ⟨ob,1,none⟩=some (.slice A n c):=by rw[hk4.cell];rfl
  have HB4:=Lib.hid (HBW3.out.trans (hb4.toBelow HBW3.out.size (Nat.le_refl _) hoo.out))
  have HO4:=Lib.hid h4
  clear h4 hb4 hk4 R3 y1
  go_wp2
  clear x1
  go_loopw [21] (fun k wr=>∃(j:Nat) (v:Value),k= .int .i64 j∧j≤n∧Hid (cf wr w0.heap.size o (be 4 e++be 2 n++(l.take j).flatMap fj) false v)∧Hid (Below w0.heap.size w0 wr)) (fun k _=>n - (intOf k).toNat)
  case atStart=>exact⟨0,v4,rfl,by omega,by simpa using HO4,HB4⟩
  case round=>
   obtain⟨j,v,rfl,hj,ho,hb⟩:=hrel
   by_cases hlt:j<n
   ·obtain⟨x,hx⟩:∃x,l[j]?=some x:=⟨_,List.getElem?_eq_getElem (by have:=HL.out;omega)⟩
    obtain⟨p0,p1⟩:=HP.out j x hx
    have hxu:=HU.out x (List.mem_of_getElem? hx)
    obtain⟨xu,xf⟩:=x
    obtain⟨xn,rfl⟩:∃xn:Nat,xf=xn:=⟨xf.toNat,by simp only at p0;omega⟩
    obtain⟨ad,rfl,hadl,hc⟩:=(HR.out.below hb.out).2 (by omega)
    obtain⟨k0,k1⟩:=qC hc hx
    simp only at k0 k1 p0 p1 hxu
    have hadl':(ad.add (j*2)).block<wr.heap.size:=by rw[aD];exact Nat.lt_of_lt_of_le hadl hb.out.size
    have hbx:=(Below.refl wr.heap.size wr).alloc (Nat.le_refl _) (.cells #[.int .u32 (xu:Nat), .int .i64 (xn:Nat)] 100)
    have hxb:aI (wr.alloc (.cells #[.int .u32 (xu:Nat), .int .i64 (xn:Nat)] 100)) wr.heap.size 100 #[.int .u32 (xu:Nat), .int .i64 (xn:Nat)]:=aI.new wr _ _
    have ho1:=ho.out.below hbx
    have hb1:=hb.out.trans (hbx.mono hb.out.size)
    have hfl:((l.take j).flatMap fj).length≤2500:=by rw[ny,List.length_take];omega
    have hlen:(be 4 e++be 2 n++(l.take j).flatMap fj).length≤2510:=by rw[List.length_append,List.length_append,aO,aO];omega
    have hst:be 4 e++be 2 n++(l.take (j+1)).flatMap fj=((be 4 e++be 2 n++(l.take j).flatMap fj)++be 4 xu)++be 1 xn:=by
     rw[List.take_add_one,hx]
     simp[fj,List.flatMap_append,List.append_assoc]
    have HST:=Lib.hid hst
    obtain⟨gp,hgp⟩:∃gp,wr.heap.size=gp:=⟨_,rfl⟩
    have hgo:gp≠o:=by have:=ho.out.cells.lt;omega
    obtain⟨w5,hw5⟩:∃w5,wr.alloc (.cells #[.int .u32 (xu:Nat), .int .i64 (xn:Nat)] 100)=w5:=⟨_,rfl⟩
    rw[hw5] at hxb ho1 hb1
    rw[hgp] at hxb
    have R5:=Lib.hid (gH ho1 hb1.size (by omega) xu 4 (by omega) (by omega))
    have z0:w5.cell? ⟨gp,0,none⟩=some (.int .u32 (xu:Nat)):=by rw[hxb.cell];rfl
    have HB1:=Lib.hid hb1
    have HXB:=Lib.hid hxb
    clear hx hc hst hadl hbx hxb ho1 hb1 hfl
    go_wp2_with fail
    clear hw5 hgp k0 k1 hadl'
    refine R5.out.mono ?_
    rintro ev w6 ⟨rfl,⟨v6,h6⟩,hb6⟩
    have hx6:=HXB.out.obut hb6 hgo (by decide)
    have hb16:=HB1.out.trans (hb6.toBelow HB1.out.size (Nat.le_refl _) hoo.out)
    have z1:w6.cell? ⟨gp,1,none⟩=some (.int .i64 (xn:Nat)):=by rw[hx6.cell];rfl
    have R6:=Lib.hid (gH h6 hb16.size (by rw[List.length_append,aO];omega) xn 1 (by omega) (by omega))
    have HB16:=Lib.hid hb16
    clear h6 hb6 hb16 hx6 R5 z0
    go_wp2_with fail
    refine R6.out.mono ?_
    rintro ev w7 ⟨rfl,⟨v7,h7⟩,hb7⟩
    rw[←HST.out] at h7
    have H7:=Lib.hid h7
    have HB7:=Lib.hid (HB16.out.trans (hb7.toBelow HB16.out.size (Nat.le_refl _) hoo.out))
    clear h7 hb7 R6 z1
    go_wp2
    go_roundw
    case rel=>exact⟨j+1,v7,by go_num,by omega,H7,HB7⟩
    case measure=>simp[intOf];omega
   ·obtain rfl:j=n:=by omega
    have hfin:be 4 e++be 2 j++(l.take j).flatMap fj=eV e l:=by
     unfold eV
     rw[List.take_of_length_le (by have:=HL.out;omega),HL.out]
    have ho1:=ho.out
    rw[hfin] at ho1
    have R9:=Lib.hid (BV ho1 (by have:=HTL.out;omega) 2 (by omega))
    have he9:ll (eV e l).length=0:=by unfold ll;rw[if_pos (by have:=HTL.out;omega)]
    have hp9:lU 2 (eV e l)=cy 2 (eV e l):=by unfold lU;rw[if_pos (by have:=HTL.out;omega)]
    rw[he9,hp9] at R9
    clear ho1 hfin he9 hp9
    go_wp2_with fail
    refine R9.out.mono ?_
    rintro ev w9 ⟨r9,rfl,ho9,hb9⟩
    have HO9:=Lib.hid (eo ho9 (Nat.le_trans HB0.out.size hb.out.size))
    have HB9:=Lib.hid (HB0.out.trans ((hb.out.trans (hb9.mono hb.out.size)).mono HB0.out.size))
    clear ho9 hb9
    go_wp2
    go_ret2
    exact⟨r9,rfl,HO9.out,HB9.out⟩
def jT {V:Type} (o:Option V):Int:=if o.isSome=true then 0 else 9
theorem dn.grownT {w w':World} {i:Nat} {s:l5} {v vL:Value} (h:dn w i s v) {base n size:Nat} {e:TypeId} {xs:List Value} (ho:w.ownsRow base e size vL n xs) (h1:166≠e) (h2:5≠e) (hg:w.grownBy w' vL.ownBlock):dn w' i s v:=by
 have hi:=h.cells.grown hg (fun e=>eu ho h.cells h1 i e.symm rfl)
 refine⟨hi, ?_⟩
 rcases h.row with h|⟨ad,c,e,hc,hr,hu⟩
 ·exact .inl h
 ·have hk:w'.heap[ad.block]?=w.heap[ad.block]?:=hg.block ad.block hu.lt (fun e=>by
   obtain⟨cs',hc⟩:=oC ho e.symm
   obtain⟨cs,p,hh⟩:=hu
   rw[hh] at hc
   injection hc with hc
   injection hc with _ hc
   exact h2 hc)
  refine .inr ⟨ad,c,e,hc,⟨hr.1,fun hn=> ?_⟩,hu.same hk⟩
  obtain⟨ad',e',hlt,hcc⟩:=hr.2 hn
  injection e' with e'
  subst e'
  exact⟨ad,rfl,Nat.lt_of_lt_of_le hlt hg.size,fun j u hu'=>(World.cell?_of_block (by rw[aD];exact hk)).trans (hcc j u hu')⟩
def bU (k:Nat):Nat→l5→List aM×l5
 |0,s=>([],s)
 |n+1,s=>((bU k n s).1++[((eW (bU k n s).2 4).1,((eW (eW (bU k n s).2 4).2 k).1:Int))],(eW (eW (bU k n s).2 4).2 k).2)
theorem nk (k:Nat):∀(n:Nat) (s:l5),(bU k n s).1.length=n
 |0,_=>rfl
 |n+1,s=>by
  show(_++[_]).length=_
  rw[List.length_append,nk k n s];rfl
theorem mU (k:Nat):∀(n:Nat) (s:l5),(bU k n s).2.rest.length≤s.rest.length
 |0,_=>Nat.le_refl _
 |n+1,s=>Nat.le_trans (da _ _) (Nat.le_trans (da _ _) (mU k n s))
theorem np (k:Nat):∀(n:Nat) (s:l5),∀q∈(bU k n s).1,q.1<4294967296
 |0,_,q,h=>by cases h
 |n+1,s,q,h=>by
  rcases List.mem_append.1 h with h|h
  ·exact np k n s q h
  ·rw[List.mem_singleton] at h
   subst h
   exact iL _ 4
def dJ (p:List UInt8):Nat×List aM:=((eW ⟨p,false⟩ 4).1,(bU 1 (eW (eW ⟨p,false⟩ 4).2 2).1 (eW (eW ⟨p,false⟩ 4).2 2).2).1)
def bC (b:List UInt8):Option (Nat×List aM):=match dC 2 b with
 |none=>none
 |some p=>if aZ (dJ p).1 (dJ p).2=true∧cy 2 (eV (dJ p).1 (dJ p).2)=b then some (dJ p) else none
theorem C5 :(Tryz.prog.info? 100).map (fun i=>(i.zero,i.size,i.bytes))=some (some (.agg #[.int .u32 0, .int .i64 0]),2,16):=by kernel_rfl
def uJ (tys:Array TypeId) (ty:TypeId) (args:Array Value):Sem Value:=Builtin.append_ tys ty args
theorem De (tys:Array TypeId) (ty:TypeId) (args:Array Value):Builtin.append_ tys ty args=uJ tys ty args:=rfl
theorem xq {w:World} {B n:Nat} {v:Value} {l m:List aM} (h:w.ownsRow B 100 2 v n (cW l)) {A:Option Addr} (c:Nat) {k n2 Bd:Nat} (hk:m.length=k) (hn2:n+k=n2) (hr:aE w Bd 2 A k (cW m)) (hlen:n2≤1000000) (hB:B≤w.heap.size):
 ∃A' c' w',(uJ #[79,79] 79 #[v, .slice A k c]).run Tryz.prog w= .ok (.slice A' n2 c') w'∧w'.ownsRow B 100 2 (.slice A' n2 c') n2 (cW (l++m))∧w.grownBy w' v.ownBlock:=by
 subst hk hn2
 obtain⟨i0,hi0,hz0,hz1,hz2⟩:=eK C5
 obtain⟨v',w',hrun,ho,hg⟩:=gL (P:=Tryz.prog) w B 79 79 100 i0 _ 2 16 Tryz.underlying79 hi0 hz0 hz1 hz2 rfl (by omega) v n (cW l) h A m.length c (cW m) (n8.of_reads hr (zh m)) (by unfold maxLen;omega) (by omega) hB
 rw[←sN] at ho
 obtain⟨A',c',rfl,_,_⟩:=cQ ho
 exact⟨A',c',w',hrun,ho,hg⟩
theorem IW {w:World} {g:Nat} {t:TypeId} {x:aM} (h:aI w g t #[.int .u32 (x.1:Nat), .int .i64 x.2]):aE w w.heap.size 2 (some ⟨g,0,none⟩) 1 (cW [x]):=by
 refine⟨rfl,fun _=>⟨⟨g,0,none⟩,rfl,h.lt,fun j u hu=> ?_⟩⟩
 have ha:(⟨g,0,none⟩:Addr).add j=⟨g,j,none⟩:=by unfold Addr.add;split<;>simp_all
 rw[ha,h.cell,←hu]
 rcases j with _|_|j<;>rfl
theorem Ga {w:World} {i:Nat} {s:l5} {v:Value} (h:dn w i s v) (hl:s.rest.length≤1000000) (n:Nat) (z:Int) (hz:(n:Int)=z) (hn:1≤n∧n≤7):
 Calls Tryz.prog 52 #[.pointer (some ⟨i,0,none⟩), .int .i64 z] w fun e w'=>e= .returned (.int .i64 ((eW s n).1:Nat))∧(∃v',dn w' i (eW s n).2 v')∧fY i w w':=by
 subst hz
 exact qq h hl n hn
theorem dn.setFar {w:World} {i:Nat} {s:l5} {v:Value} (h:dn w i s v) {xb:Nat} {t:TypeId} {cs:Array Value} (hx:aI w xb t cs) (ht:t≠5) (hne:xb≠i) (k:Nat) (u:Value):dn (w.setCell ⟨xb,k,none⟩ u) i s v:=by
 refine⟨h.cells.far (p:=⟨xb,k,none⟩) (fun e=>hne e.symm) u, ?_⟩
 rcases h.row with h|⟨ad,c,e,hc,hr,hu⟩
 ·exact .inl h
 ·have hne2:ad.block≠xb:=fun e=>by
   obtain⟨cs',p,hh⟩:=hu
   unfold aI at hx
   rw[e,hx] at hh
   injection hh with hh
   injection hh with _ hh
   exact ht hh
  have hk:(w.setCell ⟨xb,k,none⟩ u).heap[ad.block]?=w.heap[ad.block]?:=Below.heap_setCell w ⟨xb,k,none⟩ u ad.block hne2
  refine .inr ⟨ad,c,e,hc,⟨hr.1,fun hn=> ?_⟩,hu.same hk⟩
  obtain⟨ad',e',hlt,hcc⟩:=hr.2 hn
  injection e' with e'
  subst e'
  exact⟨ad,rfl,by simpa[World.setCell] using hlt,fun j u' hu'=>(World.cell?_of_block (by rw[aD];exact hk)).trans (hcc j u' hu')⟩
theorem aI.set2 {w:World} {g:Nat} {t:TypeId} {u0 u1 a b:Value} (h:aI w g t #[u0,u1]):aI ((w.setCell ⟨g,0,none⟩ a).setCell ⟨g,1,none⟩ b) g t #[a,b]:=(h.set_ 0 a).set_ 1 b
theorem wG {w0 w:World} {xb i j eN xu n2:Nat} {xn:Int} {s:l5} {v vL:Value} {l:List aM} (hb:Below w0.heap.size w0 w) (hxb:w0.heap.size≤xb) (hx:aI w xb 90 #[.int .u32 (eN:Nat),vL])
 (ho:w.ownsRow w0.heap.size 100 2 vL j (cW l)) (hn2:j+1=n2) (hj:n2≤1000000) (hi:dn w i s v) (hne:xb≠i):
 ∃A' c' w',(uJ #[79,79] 79 #[vL, .slice (some ⟨w.heap.size,0,none⟩) 1 1]).run Tryz.prog (w.alloc (.cells #[.int .u32 (xu:Nat), .int .i64 xn] 100))= .ok (.slice A' n2 c') w'∧
  w'.cell? ⟨xb,1,none⟩=some vL∧w'.frozen? ⟨xb,1,none⟩=false∧Hid (aI (w'.setCell ⟨xb,1,none⟩ (.slice A' n2 c')) xb 90 #[.int .u32 (eN:Nat), .slice A' n2 c']∧
  (w'.setCell ⟨xb,1,none⟩ (.slice A' n2 c')).ownsRow w0.heap.size 100 2 (.slice A' n2 c') n2 (cW (l++[(xu,xn)]))∧dn (w'.setCell ⟨xb,1,none⟩ (.slice A' n2 c')) i s v∧Below w0.heap.size w0 (w'.setCell ⟨xb,1,none⟩ (.slice A' n2 c'))):=by
 have hbx:=(Below.refl w.heap.size w).alloc (Nat.le_refl _) (.cells #[.int .u32 (xu:Nat), .int .i64 xn] 100)
 have hlit:aI (w.alloc (.cells #[.int .u32 (xu:Nat), .int .i64 xn] 100)) w.heap.size 100 #[.int .u32 (xu:Nat), .int .i64 xn]:=aI.new w _ _
 have ho1:=dv ho hbx
 have hb1:=hb.trans (hbx.mono hb.size)
 obtain⟨A',c',w',E,ho2,hg⟩:=xq (m:=[(xu,xn)]) ho1 1 rfl hn2 (IW (x:=(xu,xn)) hlit) hj hb1.size
 have hx2:=(hx.below hbx hx.lt).grown hg (fun e=>eu ho1 (hx.below hbx hx.lt) (by decide) xb e.symm rfl)
 have hi2:=(hi.below hbx).grownT ho1 (by decide) (by decide) hg
 have hb2:=hb1.grown hg hb1.size (fun k hk=>(ho1.lt k hk).1)
 refine⟨A',c',w',E,by rw[hx2.cell];rfl,hx2.frozen 1, ?_, ?_,hi2.setFar hx2 (by decide) hne 1 _,Below.setCell hb2 hxb _⟩
 ·exact hx2.set_ 1 _
 ·exact fV ho2 fun g hgg=>Below.heap_setCell _ _ _ _ (eu ho2 hx2 (by decide) g hgg)
attribute [local go_sem ↓ 100000] De
def b8 (o:Option (Nat×List aM)):Nat×List aM:=o.getD (0,[])
theorem nj (A:Option Addr) (c n:Nat) (b:List UInt8) (w:World) (hn2:b.length=n) (hn:n≤5000000) (hcn:n≤c) (hr:aE w w.heap.size 1 A n (ar b)):
 Calls Tryz.prog 35 #[.slice A n c] w fun ev w'=>∃r,ev= .returned (.tuple #[.agg #[.int .u32 ((b8 (bC b)).1:Nat),r], .int .i64 (jT (bC b))])∧w'.ownsRow w.heap.size 100 2 r (b8 (bC b)).2.length (cW (b8 (bC b)).2)∧Below w.heap.size w w':=by
 have hb0:=(Below.refl w.heap.size w).alloc (Nat.le_refl _) (.cells #[.int .u32 0, .slice none 0 0] 90)
 have hk0:aI (w.alloc (.cells #[.int .u32 0, .slice none 0 0] 90)) w.heap.size 90 #[.int .u32 0, .slice none 0 0]:=aI.new w _ _
 have hr0:=(hr.below hb0).more hb0.size
 obtain⟨w0,hw0⟩:∃w0,w.alloc (.cells #[.int .u32 0, .slice none 0 0] 90)=w0:=⟨_,rfl⟩
 obtain⟨rb,hrb⟩:∃rb,w.heap.size=rb:=⟨_,rfl⟩
 rw[hw0] at hb0 hk0 hr0
 rw[hrb] at hk0
 have R1:=Lib.hid (Ei 2 (by omega) A n c hcn hn b hn2 w0 hr0)
 have HR:=Lib.hid hr0
 have HK:=Lib.hid hk0
 have HB0:=Lib.hid hb0
 have HN:=Lib.hid hn2
 have HRB:=Lib.hid hrb
 obtain⟨G,hG⟩:∃G,bC b=G:=⟨_,rfl⟩
 rw[hG]
 cases hp:dC 2 b with
 |none=>
  rw[hp] at R1
  have e1:(if(none:Option (List UInt8)).isSome=true then(0:Int) else 9)=9:=rfl
  rw[e1] at R1
  have e2:jT (none:Option (Nat×List aM))=9:=rfl
  obtain rfl:G=none:=by rw[←hG];unfold bC;rw[hp]
  rw[e2]
  clear hr hr0 hk0 hb0 hn2 hp e1 e2 hG
  go_enter Tryz.func35,Tryz.ntmps35
  go_wp2_with fail
  clear hw0 hrb
  refine R1.out.mono ?_
  rintro ev w1 ⟨v1,rfl,_,hb1⟩
  have hk1:=HK.out.below hb1 HK.out.lt
  have f0:=hk1.frozen 0
  have f1:=hk1.frozen 1
  have y0:w1.cell? ⟨rb,0,none⟩=some (.int .u32 0):=by rw[hk1.cell];rfl
  have y1:w1.cell? ⟨rb,1,none⟩=some (.slice none 0 0):=by rw[hk1.cell];rfl
  have HB1:=Lib.hid (HB0.out.trans (hb1.mono HB0.out.size))
  have hk2:=(hk1.set_ 0 (.int .u32 0)).set_ 1 (.slice none 0 0)
  have q0:((w1.setCell ⟨rb,0,none⟩ (.int .u32 0)).setCell ⟨rb,1,none⟩ (.slice none 0 0)).cell? ⟨rb,0,none⟩=some (.int .u32 0):=by rw[hk2.cell];rfl
  have q1:((w1.setCell ⟨rb,0,none⟩ (.int .u32 0)).setCell ⟨rb,1,none⟩ (.slice none 0 0)).cell? ⟨rb,1,none⟩=some (.slice none 0 0):=by rw[hk2.cell];rfl
  have HBF:Hid (Below w.heap.size w ((w1.setCell ⟨rb,0,none⟩ (.int .u32 0)).setCell ⟨rb,1,none⟩ (.slice none 0 0))):=Below.setCell (Below.setCell HB1.out (by show _≤rb;have:=HRB.out;omega) _) (by show _≤rb;have:=HRB.out;omega) _
  clear hb1 hk1 hk2
  go_wp2
  obtain⟨wf,hwf⟩:∃wf,(w1.setCell ⟨rb,0,none⟩ (.int .u32 0)).setCell ⟨rb,1,none⟩ (.slice none 0 0)=wf:=⟨_,rfl⟩
  rw[hwf] at q0 q1 HBF ⊢
  refine bodyPost_ret (v:= .tuple #[.agg #[.int .u32 0, .slice none 0 0], .int .i64 9]) (by simp[results,Tryz.results35,go_sem,q0,q1];try rfl) rfl ?_
  exact⟨_,rfl,World.ownsRow_nil _ _ _ _,HBF.out⟩
 |some p=>
  rw[hp] at R1
  have e1:(if(some p:Option (List UInt8)).isSome=true then(0:Int) else 9)=0:=rfl
  rw[e1] at R1
  dsimp only[Option.getD_some] at R1
  have HG:Hid (G=if aZ (dJ p).1 (dJ p).2=true∧cy 2 (eV (dJ p).1 (dJ p).2)=b then some (dJ p) else none):=by rw[←hG];unfold bC;rw[hp];exact rfl
  obtain⟨ge,hge⟩:∃ge,jT G=ge:=⟨_,rfl⟩
  obtain⟨gf,hgf⟩:∃gf,b8 G=gf:=⟨_,rfl⟩
  rw[hge,hgf]
  obtain⟨gfe,gfl⟩:=gf
  obtain⟨gfn,hgfn⟩:∃gfn,gfl.length=gfn:=⟨_,rfl⟩
  dsimp only
  rw[hgfn]
  have HGE:=Lib.hid hge
  have HGF:=Lib.hid hgf
  have HGN:=Lib.hid hgfn
  clear hge hgf hgfn
  have hpl:p.length≤60000:=by
   unfold dC at hp
   split at hp
   ·rename_i h
    injection hp with hp
    rw[←hp];exact h.2.1
   ·cases hp
  obtain⟨pn,hpn⟩:∃pn,p.length=pn:=⟨_,rfl⟩
  rw[hpn] at R1 hpl
  have HPN:=Lib.hid hpn
  clear hr hr0 hk0 hb0 hn2 hp e1 hpn hG
  go_enter Tryz.func35,Tryz.ntmps35
  go_wp2_with fail
  clear hw0 hrb
  refine R1.out.mono ?_
  rintro ev w1 ⟨v1,rfl,ho1,hb1⟩
  obtain⟨A1,c1,e1,hr1⟩:=en ho1
  rw[HPN.out] at e1 hr1
  subst e1
  have R2:=Lib.hid (zV A1 pn c1 p HPN.out (by omega) w1 hr1)
  have HB1:=Lib.hid hb1
  clear ho1 hr1 hb1 R1
  go_wp2_with fail
  refine R2.out.mono ?_
  rintro ev w2 ⟨i,vi,rfl,hi,hle,hb2⟩
  have hiw:w0.heap.size≤i:=Nat.le_trans HB1.out.size hle
  have R3:=Lib.hid (qq hi (by show p.length≤_;have:=HPN.out;omega) 4 (by omega))
  have HB2:=Lib.hid (HB1.out.trans (hb2.mono HB1.out.size))
  have heN:(eW ⟨p,false⟩ 4).1<4294967296:=iL _ 4
  have hrest:(eW ⟨p,false⟩ 4).2.rest.length≤60000:=Nat.le_trans (da _ _) (by show p.length≤_;have:=HPN.out;omega)
  obtain⟨eN,hen⟩:∃eN,(eW ⟨p,false⟩ 4).1=eN:=⟨_,rfl⟩
  obtain⟨sa,hsa⟩:∃sa,(eW ⟨p,false⟩ 4).2=sa:=⟨_,rfl⟩
  have hrf:dJ p=(eN,(bU 1 (eW sa 2).1 (eW sa 2).2).1):=by rw[←hen,←hsa];rfl
  rw[hen] at heN R3
  rw[hsa] at hrest R3
  clear hi hb2 hle R2 hen hsa
  go_wp2_with fail
  refine R3.out.mono ?_
  rintro ev w3 ⟨rfl,⟨v3,h3⟩,hb3⟩
  have hb03:=HB2.out.trans (hb3.toBelow HB2.out.size hiw)
  have hbx:=(Below.refl w3.heap.size w3).alloc (Nat.le_refl _) (.cells #[.int .u32 (eN:Nat), .slice none 0 0] 90)
  have hxk:aI (w3.alloc (.cells #[.int .u32 (eN:Nat), .slice none 0 0] 90)) w3.heap.size 90 #[.int .u32 (eN:Nat), .slice none 0 0]:=aI.new w3 _ _
  have h3x:=h3.below hbx
  have hil:=h3.cells.lt
  have hxi:w3.heap.size≠i:=by omega
  have hx0:w0.heap.size≤w3.heap.size:=hb03.size
  have hb04:=hb03.trans (hbx.mono hb03.size)
  have R4:=Lib.hid (qq h3x (by omega) 2 (by omega))
  have hcn:(eW sa 2).1<65536:=iL _ 2
  have hrest2:(eW sa 2).2.rest.length≤60000:=Nat.le_trans (da _ _) hrest
  obtain⟨cnt,hcnt⟩:∃cnt,(eW sa 2).1=cnt:=⟨_,rfl⟩
  obtain⟨s0,hs0⟩:∃s0,(eW sa 2).2=s0:=⟨_,rfl⟩
  rw[hcnt,hs0] at R4 hrf
  rw[hcnt] at hcn
  rw[hs0] at hrest2
  have HRF:=Lib.hid hrf
  have HX4:=Lib.hid hxk
  have HB4:=Lib.hid hb04
  clear h3 hb3 hb03 hbx hxk h3x hil hb04 R3 hcnt hs0 hrf
  go_wp2_with fail
  refine R4.out.mono ?_
  rintro ev w5 ⟨rfl,⟨v5,h5⟩,hb5⟩
  have HX5:Hid (aI w5 w3.heap.size 90 #[.int .u32 (eN:Nat), .slice none 0 0]):=(hb5.block w3.heap.size HX4.out.lt hxi).trans HX4.out
  have HI5:=Lib.hid h5
  have HB5:=Lib.hid (HB4.out.trans (hb5.toBelow HB4.out.size hiw))
  clear h5 hb5 R4 HX4 HB4
  generalize w3.heap.size=xb at*
  have y51:w5.cell? ⟨xb,1,none⟩=some (.slice none 0 0):=by rw[HX5.out.cell];rfl
  go_wp2
  clear y51
  go_loopw [27] (fun k wr=>∃(j:Nat) (vL vi:Value),k= .int .i64 j∧j≤cnt∧Hid (aI wr xb 90 #[.int .u32 (eN:Nat),vL])∧Hid (wr.ownsRow w0.heap.size 100 2 vL j (cW (bU 1 j s0).1))∧Hid (dn wr i (bU 1 j s0).2 vi)∧Hid (Below w0.heap.size w0 wr)) (fun k _=>cnt - (intOf k).toNat)
  case atStart=>exact⟨0,_,v5,rfl,by omega,HX5,World.ownsRow_nil _ _ _ _,HI5,HB5⟩
  case round=>
   obtain⟨j,vL,vi,rfl,hj,hx,ho,hi,hb⟩:=hrel
   have hsz:=hb.out.size
   by_cases hlt:j<cnt
   ·have hbd:Below wr.heap.size wr wr.drew:=(Below.refl _ _).drew
    have hrl:(bU 1 j s0).2.rest.length≤1000000:=Nat.le_trans (mU 1 j s0) (by omega)
    have R6:=Lib.hid (Ga (hi.out.below hbd) hrl 4 4 rfl (by omega))
    have hst:bU 1 (j+1) s0=((bU 1 j s0).1++[((eW (bU 1 j s0).2 4).1,((eW (eW (bU 1 j s0).2 4).2 1).1:Int))],(eW (eW (bU 1 j s0).2 4).2 1).2):=rfl
    have hxu:(eW (bU 1 j s0).2 4).1<4294967296:=iL _ 4
    have hxf:(eW (eW (bU 1 j s0).2 4).2 1).1<256:=iL _ 1
    have hrl2:(eW (bU 1 j s0).2 4).2.rest.length≤1000000:=Nat.le_trans (da _ _) hrl
    obtain⟨lj,hlj⟩:∃lj,(bU 1 j s0).1=lj:=⟨_,rfl⟩
    obtain⟨sj,hsj⟩:∃sj,(bU 1 j s0).2=sj:=⟨_,rfl⟩
    rw[hlj] at ho hst
    rw[hsj] at hst R6 hi hxu hxf hrl2
    obtain⟨xu,hxue⟩:∃xu,(eW sj 4).1=xu:=⟨_,rfl⟩
    obtain⟨s1,hs1⟩:∃s1,(eW sj 4).2=s1:=⟨_,rfl⟩
    rw[hxue] at hst R6 hxu
    rw[hs1] at hst R6 hxf hrl2
    have R7:=Lib.hid (fun(w':World) (v':Value) (h':dn w' i s1 v')=>Ga h' hrl2 1 1 rfl (by omega))
    obtain⟨xf,hxfe⟩:∃xf,(eW s1 1).1=xf:=⟨_,rfl⟩
    obtain⟨s2,hs2⟩:∃s2,(eW s1 1).2=s2:=⟨_,rfl⟩
    rw[hxfe] at hst R7 hxf
    rw[hs2] at hst R7
    obtain⟨j1,hj1⟩:∃j1,j+1=j1:=⟨_,rfl⟩
    have hj1b:j1≤1000000:=by omega
    have HJ1:=Lib.hid hj1
    rw[hj1] at hst
    have HST:=Lib.hid hst
    have hwu:IntKind.u32.wrap (xu:Int)=(xu:Int):=by rw[IntKind.wrap_u32'];omega
    have c0:wr.cell? ⟨xb,1,none⟩=some vL:=by rw[hx.out.cell];rfl
    have hxl:=hx.out.lt
    clear hst hlj hsj hxue hs1 hxfe hs2 hrl hrl2 hj1
    go_wp2_with fail
    go_region_with (first
     |((with_reducible refine R6.out.mono ?_);rintro ev w6 ⟨rfl,⟨v6,h6⟩,hb6⟩;have c6:w6.cell? ⟨xb,1,none⟩=some vL:=(World.cell?_of_block (hb6.block xb hxl hxi)).trans c0;have h7:=R7.out w6 v6 h6;have hx6:Hid (aI w6 xb 90 #[.int .u32 (eN:Nat),vL]):=(hb6.block xb hxl hxi).trans hx.out;have ho6:=Lib.hid (fV (w':=w6) ho.out (fun g hg=>hb6.block g (ho.out.lt g hg).2 (eu ho.out hi.out.cells (by decide) g hg)));have HI6:=Lib.hid h6.cells;have hB6:=Lib.hid (hb.out.trans ((hbd.mono hsz).trans (hb6.toBelow hsz hiw)));have R8:=Lib.hid h7;clear h6 h7)
     |((with_reducible refine R8.out.mono ?_);rintro ev w7 ⟨rfl,⟨v7,h7⟩,hb7⟩;have hxl6:=hx6.out.lt;have hx7:aI w7 xb 90 #[.int .u32 (eN:Nat),vL]:=(hb7.block xb hxl6 hxi).trans hx6.out;have hxl7:xb<w7.heap.size:=hx7.lt;have c7:w7.cell? ⟨xb,1,none⟩=some vL:=(World.cell?_of_block (hb7.block xb hxl6 hxi)).trans c6;have ho7:=fV (w':=w7) ho6.out (fun g hg=>hb7.block g (ho6.out.lt g hg).2 (eu ho6.out HI6.out (by decide) g hg));have hB7:=hB6.out.trans (hb7.toBelow hB6.out.size hiw);have hfr:=wG (xu:=xu) (xn:=(xf:Nat)) hB7 hx0 hx7 ho7 HJ1.out hj1b h7 hxi;obtain⟨A8,c8,w8,E8,c9,f9,HF8⟩:=hfr;clear h7 hx7 ho7 hB7 hb7))
    all_goals (try go_wp2_with fail)
    all_goals go_roundw
    all_goals first
     |exact⟨j1,_,v7,by rw[←HJ1.out];go_num,by have:=HJ1.out;omega,HF8.out.1,(by rw[HST.out];exact HF8.out.2.1),(by rw[HST.out];exact HF8.out.2.2.1),HF8.out.2.2.2⟩
     |(simp[intOf];omega)
   ·obtain rfl:j=cnt:=by omega
    obtain⟨L,hL⟩:∃L,(bU 1 j s0).1=L:=⟨_,rfl⟩
    have hLl:L.length=j:=by rw[←hL];exact nk _ _ _
    have hLu:∀q∈L,q.1<4294967296:=by rw[←hL];exact np _ _ _
    have hrf:=HRF.out
    rw[hL] at hrf
    have hg2:=HG.out
    rw[hrf] at hg2
    dsimp only at hg2
    have hol:=ho.out
    rw[hL] at hol
    obtain⟨AL,cL,rfl,hrL,hcL⟩:=cQ hol
    have R10:=Lib.hid (oH AL cL j eN L wr hLu heN hLl (by omega) hrL)
    have HOL:=Lib.hid hol
    have HLL:=Lib.hid hLl
    have HG2:=Lib.hid hg2
    have x0:wr.cell? ⟨xb,0,none⟩=some (.int .u32 (eN:Nat)):=by rw[hx.out.cell];rfl
    have x1:wr.cell? ⟨xb,1,none⟩=some (.slice AL j cL):=by rw[hx.out.cell];rfl
    clear hol hrL hcL hLl hLu hg2 hrf hL ho hi HRF HG
    go_wp2_with fail
    refine R10.out.mono ?_
    rintro ev w8 ⟨r8,rfl,ho8,hb8⟩
    obtain⟨A8,c8,rfl,hr8⟩:=en ho8
    have hB8:=hb.out.trans (hb8.mono hsz)
    have R11:=Lib.hid (Ez A8 A (dI eN L).length c8 n c (dI eN L) b (dq eN L) w8 rfl HN.out hr8 ((HR.out.below hB8).more hB8.size))
    have HO8:=Lib.hid (dv HOL.out hb8)
    have HX8:=Lib.hid (hx.out.below hb8 hx.out.lt)
    have HK8:=Lib.hid (HK.out.below hB8 HK.out.lt)
    have HB8:=Lib.hid hB8
    have hres:(decide (dq eN L=0)&&(dI eN L==b))=decide (aZ eN L=true∧cy 2 (eV eN L)=b):=by
     unfold dq dI
     cases aZ eN L
     ·simp
     ·simp only[if_pos,decide_true,Bool.true_and,true_and]
      rw[Bool.eq_iff_iff];simp
    rw[hres] at R11
    obtain⟨q,hq⟩:∃q,decide (aZ eN L=true∧cy 2 (eV eN L)=b)=q:=⟨_,rfl⟩
    rw[hq] at R11
    have HQ:=Lib.hid hq
    generalize (dI eN L).length=tn at*
    generalize dq eN L=te at*
    clear ho8 hb8 hr8 hB8 hres hq R10 x0 x1
    go_wp2_with fail
    refine R11.out.mono ?_
    rintro ev w9 ⟨rfl,rfl⟩
    have z0:w9.cell? ⟨xb,0,none⟩=some (.int .u32 (eN:Nat)):=by rw[HX8.out.cell];rfl
    have z1:w9.cell? ⟨xb,1,none⟩=some (.slice AL j cL):=by rw[HX8.out.cell];rfl
    have y0:w9.cell? ⟨rb,0,none⟩=some (.int .u32 0):=by rw[HK8.out.cell];rfl
    have y1:w9.cell? ⟨rb,1,none⟩=some (.slice none 0 0):=by rw[HK8.out.cell];rfl
    have f0:=HK8.out.frozen 0
    have f1:=HK8.out.frozen 1
    have hrw:w.heap.size≤rb:=by have:=HRB.out;omega
    have HBW:=Lib.hid (HB0.out.trans (HB8.out.mono HB0.out.size))
    cases q with
    |true=>
     have hqq:=of_decide_eq_true HQ.out
     have hgg:G=some (eN,L):=by rw[HG2.out,if_pos hqq]
     have hge:ge=0:=by rw[←HGE.out,hgg];rfl
     have hgf:(gfe,gfl)=(eN,L):=by rw[←HGF.out,hgg];rfl
     injection hgf with hgf1 hgf2
     subst hge hgf1 hgf2
     have hgn:gfn=j:=by rw[←HGN.out,HLL.out]
     subst hgn
     have hkf:=HK8.out.set2 (a:= .int .u32 (gfe:Nat)) (b:= .slice AL gfn cL)
     have hof:=fV (w':=(w9.setCell ⟨rb,0,none⟩ (.int .u32 (gfe:Nat))).setCell ⟨rb,1,none⟩ (.slice AL gfn cL)) HO8.out (fun g hg=>by
      have hne:=eu HO8.out HK8.out (by decide) g hg
      exact(Below.heap_setCell _ ⟨rb,1,none⟩ _ g hne).trans (Below.heap_setCell _ ⟨rb,0,none⟩ _ g hne))
     have HF:Hid ((((w9.setCell ⟨rb,0,none⟩ (.int .u32 (gfe:Nat))).setCell ⟨rb,1,none⟩ (.slice AL gfn cL)).cell? ⟨rb,0,none⟩=some (.int .u32 (gfe:Nat))∧((w9.setCell ⟨rb,0,none⟩ (.int .u32 (gfe:Nat))).setCell ⟨rb,1,none⟩ (.slice AL gfn cL)).cell? ⟨rb,1,none⟩=some (.slice AL gfn cL))∧
      ((w9.setCell ⟨rb,0,none⟩ (.int .u32 (gfe:Nat))).setCell ⟨rb,1,none⟩ (.slice AL gfn cL)).ownsRow w.heap.size 100 2 (.slice AL gfn cL) gfn (cW gfl)∧Below w.heap.size w ((w9.setCell ⟨rb,0,none⟩ (.int .u32 (gfe:Nat))).setCell ⟨rb,1,none⟩ (.slice AL gfn cL))):=
      ⟨⟨by rw[hkf.cell];rfl,by rw[hkf.cell];rfl⟩,eo hof HB0.out.size,Below.setCell (Below.setCell HBW.out hrw _) hrw _⟩
     clear hkf hof hgg hqq
     go_wp2
     obtain⟨wf,hwf⟩:∃wf,(w9.setCell ⟨rb,0,none⟩ (.int .u32 (gfe:Nat))).setCell ⟨rb,1,none⟩ (.slice AL gfn cL)=wf:=⟨_,rfl⟩
     rw[hwf] at HF ⊢
     obtain⟨⟨q0,q1⟩,hof,hbf⟩:=HF.out
     refine bodyPost_ret (v:= .tuple #[.agg #[.int .u32 (gfe:Nat), .slice AL gfn cL], .int .i64 0]) (by simp[results,Tryz.results35,go_sem,q0,q1];try rfl) rfl ?_
     exact⟨_,rfl,hof,hbf⟩
    |false=>
     have hqq:=of_decide_eq_false HQ.out
     have hgg:G=none:=by rw[HG2.out,if_neg hqq]
     have hge:ge=9:=by rw[←HGE.out,hgg];rfl
     have hgf:(gfe,gfl)=(0,[]):=by rw[←HGF.out,hgg];rfl
     injection hgf with hgf1 hgf2
     subst hge hgf1 hgf2
     have hgn:gfn=0:=by rw[←HGN.out];rfl
     subst hgn
     have hkf:=HK8.out.set2 (a:= .int .u32 0) (b:= .slice none 0 0)
     have HF:Hid ((((w9.setCell ⟨rb,0,none⟩ (.int .u32 0)).setCell ⟨rb,1,none⟩ (.slice none 0 0)).cell? ⟨rb,0,none⟩=some (.int .u32 0)∧((w9.setCell ⟨rb,0,none⟩ (.int .u32 0)).setCell ⟨rb,1,none⟩ (.slice none 0 0)).cell? ⟨rb,1,none⟩=some (.slice none 0 0))∧
      Below w.heap.size w ((w9.setCell ⟨rb,0,none⟩ (.int .u32 0)).setCell ⟨rb,1,none⟩ (.slice none 0 0))):=
      ⟨⟨by rw[hkf.cell];rfl,by rw[hkf.cell];rfl⟩,Below.setCell (Below.setCell HBW.out hrw _) hrw _⟩
     clear hkf hgg hqq
     go_wp2
     obtain⟨wf,hwf⟩:∃wf,(w9.setCell ⟨rb,0,none⟩ (.int .u32 0)).setCell ⟨rb,1,none⟩ (.slice none 0 0)=wf:=⟨_,rfl⟩
     rw[hwf] at HF ⊢
     obtain⟨⟨q0,q1⟩,hbf⟩:=HF.out
     refine bodyPost_ret (v:= .tuple #[.agg #[.int .u32 0, .slice none 0 0], .int .i64 9]) (by simp[results,Tryz.results35,go_sem,q0,q1];try rfl) rfl ?_
     exact⟨_,rfl,World.ownsRow_nil _ _ _ _,hbf⟩
theorem rQ {l:List aM} (h:∀x∈l,x.1<4294967296∧0≤x.2∧x.2≤31):∀j,j≤l.length→bU 1 j ⟨l.flatMap fj,false⟩=(l.take j,⟨(l.drop j).flatMap fj,false⟩)
 |0,_=>rfl
 |j+1,hj=>by
  have ih:=rQ h j (by omega)
  obtain⟨x,hx⟩:∃x,l[j]?=some x:=⟨_,List.getElem?_eq_getElem (by omega)⟩
  have hd:l.drop j=x::l.drop (j+1):=by
   have hlt:=(List.getElem?_eq_some_iff.1 hx).1
   rw[List.drop_eq_getElem_cons hlt,(List.getElem?_eq_some_iff.1 hx).2]
  obtain⟨h0,h1,h2⟩:=h x (List.mem_of_getElem? hx)
  rw[bU,ih]
  simp only
  rw[hd,List.flatMap_cons]
  unfold fj
  rw[List.append_assoc,kK 4 x.1 _ (by omega)]
  simp only
  rw[kK 1 x.2.toNat _ (by omega),List.take_add_one,hx]
  simp only[Option.toList_some]
  rw[show((x.2.toNat:Nat):Int)=x.2 by omega]
theorem zx {e:Nat} {l:List aM} (he:e<4294967296) (hu:∀q∈l,q.1<4294967296) (h:aZ e l=true):dJ (eV e l)=(e,l):=by
 have h5:=o8 h
 unfold dJ eV
 rw[List.append_assoc,kK 4 e _ (by omega)]
 simp only
 rw[kK 2 l.length _ (by omega)]
 simp only
 rw[rQ (fun x hx=>⟨hu x hx,by
  obtain⟨j,hj,e⟩:=List.getElem_of_mem hx
  exact qi h (j:=j) (by rw[List.getElem?_eq_getElem hj,e])⟩) l.length (Nat.le_refl _)]
 simp
theorem uW {e:Nat} {l:List aM} (he:e<4294967296) (hu:∀q∈l,q.1<4294967296) (h:aZ e l=true):bC (cy 2 (eV e l))=some (e,l):=by
 unfold bC
 rw[uj (by have:=qh h;omega)]
 simp only
 rw[zx he hu h,if_pos ⟨h,rfl⟩]
def tG (nx:Nat) (q:aM):Bool:=(decide (q.1<nx)||decide (nx=4294967295))&&decide (0≤q.2)&&decide (q.2≤4294967295)
def bW (nm:ByteArray) (e nx:Nat) (u:Int) (l:List aM):Bool:=ek (tG nx) l l.length&&ba nm&&decide (1≤e)&&decide (1≤nx)&&decide (0≤u)&&decide (u≤4294967295)&&decide (l.length≤500)
theorem He (nx:Nat) (l:List aM) (j xu:Nat) (xf:Int):ju (tG nx) l j (xu,xf)= !(decide (xu≤dj l j)||decide (nx≤xu)&&((nx:Int) !=4294967295)||decide (xf<0)||decide (4294967295<xf)):=by
 unfold ju tG
 rw[Bool.eq_iff_iff]
 simp
 omega
theorem Hh (e:Nat):decide ((1:Int)≤(e:Int))=decide (1≤e):=by rw[Bool.eq_iff_iff];simp;omega
theorem Cc (e:Nat):decide ((e:Int)≤500)=decide (e≤500):=by rw[Bool.eq_iff_iff];simp;omega
theorem rX (nm:ByteArray) (A:Option Addr) (c n e nx:Nat) (u:Int) (l:List aM) (w:World) (hm:cX w) (hg:0<w.heap.size) (hs:nm.size≤9223372036854775807) (hu:∀q∈l,q.1<4294967296) (hnx:nx<4294967296) (hl:l.length=n) (hn:n≤9223372036854775807) (hr:aE w w.heap.size 2 A n (cW l)):
 Calls Tryz.prog 70 #[.agg #[.string nm, .int .u32 (e:Nat), .int .u32 (nx:Nat), .int .i64 u, .slice A n c]] w fun ev w'=>ev= .returned (.bool (bW nm e nx u l))∧Below w.heap.size w w':=by
 refine aK 71 Tryz.func70 rfl rfl (Nat.le_of_ble_eq_true rfl) ?_
 intro a hA;replace hA:=hA.norm
 refine wS (wR ?_)
 refine aP hA rfl rfl (by decide) (fun ev h=>by simp[go_sem,h.get 0 rfl];try first|exact⟨rfl,rfl⟩|rfl) fun w1 a (K:aI _ _ _ _) hz hb0 hA=> ?_
 replace hr:=(hr.below hb0).more hb0.size
 replace hm:=hm.below hg hb0;replace hg:=Nat.lt_of_lt_of_le hg hb0.size
 have HB:=Below.refl w1.heap.size w1
 revert a;refine wo rfl rfl (by decide) (fun ev e h=>by simp[go_sem,h,(K.below HB K.lt).cell]<;>rfl) ?_;intro a hA
 replace hA:=hA.keepN [1]
 refine wN (nT (wS (wR ?_)))
 revert a;refine wo rfl rfl (by decide) (fun ev e h=>by simp[go_sem,h,(K.below HB K.lt).cell]<;>rfl) ?_;intro a hA
 replace hA:=hA.keepN [1,3]
 refine wN (nT (wS (wS (wR ?_))))
 revert a;(iterate 4 refine wo rfl rfl (by decide) (fun ev e h=>by simp[go_sem,h,(K.below HB K.lt).cell]<;>rfl) ?_);intro a hA
 replace hA:=hA.keepN [1,3,7,8,9]
 refine wN (nT (wB ?_))
 refine aQ (fun k a wx=>∃(j:Nat),j+k=n∧At 71 [(1, .pointer (some ⟨w.heap.size,0,none⟩)),(3, .int .u32 (dj l j:Nat)),(7, .slice A n c),(8, .int .i64 (n:Nat)),(9, .int .i64 (j:Nat))] a∧ek (tG nx) l j=true∧Below w1.heap.size w1 wx) (n) ?_ ?_
 ·exact⟨0,by omega,hA,rfl,HB⟩
 rintro k a wx ⟨j,hjk,hA,hall,HB⟩
 refine wS (wR ?_)
 revert a;refine wo rfl rfl (by decide) (fun ev e h=>by simp[go_sem,h,(K.below HB K.lt).cell]<;>rfl) ?_;intro a hA
 replace hA:=hA.keepN [1,3,7,8,9,10]
 refine wN (nT (wS ?_))
 refine aH hA 10 _ rfl (fun hq=> ?yL) (fun hq=> ?nL)
 case yL=>
  have hlt:j<n:=by simp at hq;omega
  obtain⟨x,hx⟩:∃x,l[j]?=some x:=⟨_,List.getElem?_eq_getElem (by omega)⟩
  obtain⟨ad,rfl,hadl,hc⟩:=hr.2 (by omega)
  obtain⟨k0,k1⟩:=qC hc hx
  have hadl':(ad.add (j*2)).block<w1.heap.size:=by rw[aD];exact hadl
  obtain⟨xu,xf⟩:=x
  have hxu:=hu _ (List.mem_of_getElem? hx)
  simp only at k0 k1 hxu
  have z0:=(HB.cell hadl').trans k0
  have z1:=(HB.cell (p:=⟨(ad.add (j*2)).block,(ad.add (j*2)).off+1,none⟩) hadl').trans k1
  have jj0:(0:Int)≤(j:Int):=by omega
  have jj1:(j:Int)<(n:Int):=by omega
  have K0:=K.below HB K.lt
  refine wp_skip (nT (wS (wB (wS (wR ?_)))))
  revert a;(iterate 2 refine wo rfl rfl (by decide) (fun ev e h=>by simp[go_sem,h,K0.cell,z0,z1,jj0,jj1]<;>rfl) ?_);intro a hA
  refine ap [.int .u32 (xu:Nat), .int .i64 xf] hA rfl rfl (by decide) (fun ev h=>by simp[go_sem,K0.cell,z0,z1,jj0,jj1];try first|exact⟨rfl,rfl⟩|rfl) rfl rfl (by rfl) (fun w1 g ev hb h=>by simp[go_sem,h.get 5 rfl,h.get 12 rfl,K0.cell,z0,z1,jj0,jj1,setAll,hb.cell,hb.frozen]) fun w2 a (Ke:aI _ _ _ _) hz hb hA=> ?_
  replace K0:=K0.below hb K0.lt
  replace HB:=HB.trans (hb.mono HB.size)
  replace hA:=hA.keepN [1,3,5,7,8,9]
  refine wN (nT (wS (wS (wR ?_))))
  revert a;(iterate 5 refine wo rfl rfl (by decide) (fun ev e h=>by simp[go_sem,h,K0.cell,Ke.cell]<;>rfl) ?_);(iterate 5 refine wg _ rfl rfl rfl rfl (by decide) (fun hq ev e h=>by simp[go_sem,h,↓aL (aF hq),K0.cell,Ke.cell]<;>rfl) ?_);intro a hA
  replace hA:=hA.keepN [1,5,7,8,9,17,22]
  revert a;refine wg _ rfl rfl rfl rfl (by decide) (fun hq ev e h=>by simp[go_sem,h,↓aL (aF hq),K0.cell,Ke.cell]<;>rfl) ?_;(iterate 3 refine IC _ _ rfl rfl rfl rfl (by decide) (fun hq hr ev e h=>by simp[go_sem,h,↓aL (ax hq hr),↓aL hq,K0.cell,Ke.cell]<;>rfl) ?_);intro a hA
  refine az _ hA rfl rfl rfl rfl (by decide) (fun hq ev h=>by exact iz rfl (((h.get 23 rfl).trans (aL (aF hq)))) (((h.get 26 rfl).trans (wM (aF hq)))) (h.c _)) fun a hA=> ?_
  revert a;refine kj rfl rfl (by decide) rfl rfl rfl ?_;refine wo rfl rfl (by decide) (fun ev e h=>by simp[go_sem,h,K0.cell,Ke.cell]<;>rfl) ?_;(iterate 3 refine wg _ rfl rfl rfl rfl (by decide) (fun hq ev e h=>by simp[go_sem,h,↓aL (aF hq),K0.cell,Ke.cell]<;>rfl) ?_);intro a hA
  replace hA:=hA.keepN [1,5,7,8,9,29,32]
  revert a;refine kj rfl rfl (by decide) rfl rfl rfl ?_;refine wo rfl rfl (by decide) (fun ev e h=>by simp[go_sem,h,K0.cell,Ke.cell]<;>rfl) ?_;(iterate 3 refine wg _ rfl rfl rfl rfl (by decide) (fun hq ev e h=>by simp[go_sem,h,↓aL (aF hq),K0.cell,Ke.cell]<;>rfl) ?_);refine kj rfl rfl (by decide) rfl rfl rfl ?_;intro a hA
  replace hA:=hA.keepN [1,5,7,8,9,38]
  refine wN (nT ?_)
  have hme:=He nx l j xu xf
  obtain⟨q,hqe⟩:∃q,(decide (xu≤dj l j)||decide (nx≤xu)&&((nx:Int) !=4294967295)||decide (xf<0)||decide (4294967295<xf))=q:=⟨_,rfl⟩
  rw[hqe] at hme hA
  refine aH hA 38 _ rfl (fun hq=> ?yR) (fun hq=> ?nR)
  case yR=>
   subst hq
   refine wS (wR ?_)
   revert a;refine wo rfl rfl (by decide) (fun ev e h=>by simp[go_sem,h,K0.cell,Ke.cell]<;>rfl) ?_;intro a hA
   replace hA:=hA.keepN [2]
   refine wN (nT (wp_ret (rT (rB (rT (rT (rB (rT ?_))))))))
   refine ab hA 2 rfl rfl ?_
   exact⟨bH (by unfold bW;rw[nz hx hme];simp),hb0.trans (HB.mono hb0.size)⟩
  case nR=>
   subst hq
   have hj1:((j:Int)+1)=((j+1:Nat):Int):=by omega
   have hwj:IntKind.i64.wrap ((j:Int)+1)=(j:Int)+1:=IntWalk.i64_in _ (by omega)
   refine wp_skip (nT (wR ?_))
   revert a;(iterate 3 refine wo rfl rfl (by decide) (fun ev e h=>by simp[go_sem,h,K0.cell,Ke.cell,hwj]<;>rfl) ?_);intro a hA
   replace hA:=hA.keepN [1,3,7,8,9]
   refine wN (nB (nT (wR ?_)))
   revert a;(iterate 2 refine wo rfl rfl (by decide) (fun ev e h=>by simp[go_sem,h,K0.cell,Ke.cell,hwj]<;>rfl) ?_);intro a hA
   replace hA:=hA.keepN [1,3,7,8,9]
   refine wN (nT ?_)
   have hxl:=mi hx
   simp only at hxl
   rw[←hxl,hj1] at hA
   exact⟨k - 1,by omega,j+1,by omega,hA,by rw[lH _ hx,hall,hme];rfl,HB⟩
 case nL=>
  have hjn:j=n:=by simp at hq;omega
  subst hjn
  have K0:=K.below HB K.lt
  replace hA:=hA.keepN [1]
  refine wp_exit (xT (xT (xB (nT (wS (wR ?_))))))
  revert a;(iterate 2 refine wo rfl rfl (by decide) (fun ev e h=>by simp[go_sem,h,K0.cell]<;>rfl) ?_);intro a hA
  refine aC hA rfl rfl (by decide) (fun ev h=>aB Tryz.func107 (by kernel_rfl) rfl (h.f _) (by first|(simp only[mL,h.get 43 rfl,h.c]<;>rfl)|(simp[mL,h.get 43 rfl,h.c,K0.cell]<;>rfl))) (Cb nm hs wx (hm.below hg HB)) ?_
  rintro e w2 ⟨rfl,hb⟩
  refine⟨_,rfl,fun a hA=> ?_⟩
  replace K0:=K0.below hb K0.lt
  replace HB:=HB.trans (hb.mono HB.size)
  revert a;refine wo rfl rfl (by decide) (fun ev e h=>by simp[go_sem,h,K0.cell]<;>rfl) ?_;(iterate 3 refine wg _ rfl rfl rfl rfl (by decide) (fun hq ev e h=>by simp[go_sem,h,↓aL (aF hq),K0.cell]<;>rfl) ?_);refine j9 rfl rfl (by decide) rfl rfl rfl ?_;refine wo rfl rfl (by decide) (fun ev e h=>by simp[go_sem,h,K0.cell]<;>rfl) ?_;(iterate 2 refine wg _ rfl rfl rfl rfl (by decide) (fun hq ev e h=>by simp[go_sem,h,↓aL (aF hq),K0.cell]<;>rfl) ?_);intro a hA
  replace hA:=hA.keepN [1,50,52]
  revert a;refine wg _ rfl rfl rfl rfl (by decide) (fun hq ev e h=>by simp[go_sem,h,↓aL (aF hq),K0.cell]<;>rfl) ?_;refine j9 rfl rfl (by decide) rfl rfl rfl ?_;refine wo rfl rfl (by decide) (fun ev e h=>by simp[go_sem,h,K0.cell]<;>rfl) ?_;(iterate 3 refine wg _ rfl rfl rfl rfl (by decide) (fun hq ev e h=>by simp[go_sem,h,↓aL (aF hq),K0.cell]<;>rfl) ?_);refine j9 rfl rfl (by decide) rfl rfl rfl ?_;refine wo rfl rfl (by decide) (fun ev e h=>by simp[go_sem,h,K0.cell]<;>rfl) ?_;(iterate 2 refine wg _ rfl rfl rfl rfl (by decide) (fun hq ev e h=>by simp[go_sem,h,↓aL (aF hq),K0.cell]<;>rfl) ?_);intro a hA
  replace hA:=hA.keepN [1,60,62]
  revert a;refine wg _ rfl rfl rfl rfl (by decide) (fun hq ev e h=>by simp[go_sem,h,↓aL (aF hq),K0.cell]<;>rfl) ?_;refine j9 rfl rfl (by decide) rfl rfl rfl ?_;refine wo rfl rfl (by decide) (fun ev e h=>by simp[go_sem,h,K0.cell]<;>rfl) ?_;(iterate 4 refine wg _ rfl rfl rfl rfl (by decide) (fun hq ev e h=>by simp[go_sem,h,↓aL (aF hq),K0.cell]<;>rfl) ?_);refine j9 rfl rfl (by decide) rfl rfl rfl ?_;refine wo rfl rfl (by decide) (fun ev e h=>by simp[go_sem,h,K0.cell]<;>rfl) ?_;intro a hA
  replace hA:=hA.keepN [2]
  refine wN (nT (wp_ret ?_))
  refine ab hA 2 rfl rfl ?_
  exact⟨bH (by unfold bW;rw[hl,hall];simp only[Hh,Cc,Bool.true_and]),hb0.trans (HB.mono hb0.size)⟩
def mM (q:aM):List UInt8:=be 4 q.1++be 4 q.2.toNat
def iu (nm:ByteArray) (e nx:Nat) (u:Int) (l:List aM):List UInt8:=iG nm++[e,nx,u.toNat].flatMap (be 4)++be 2 l.length++l.flatMap mM
def me (nm:ByteArray) (e nx:Nat) (u:Int) (l:List aM):Int:=if bW nm e nx u l=true then 0 else 1
def jI (nm:ByteArray) (e nx:Nat) (u:Int) (l:List aM):List UInt8:=if bW nm e nx u l=true then cy 1 (iu nm e nx u l) else[]
theorem pS (l:List aM):(l.flatMap mM).length=l.length*8:=by
 induction l with
 |nil=>simp
 |cons x r ih=>
  rw[List.flatMap_cons,List.length_append,List.length_cons,ih]
  have:(mM x).length=8:=by unfold mM;simp[aO]
  omega
theorem uL (xs:List Nat):(xs.flatMap (be 4)).length=xs.length*4:=by
 induction xs with
 |nil=>simp
 |cons x r ih=>rw[List.flatMap_cons,List.length_append,List.length_cons,ih,aO];omega
theorem jy (s:ByteArray):(iG s).length=2+s.size:=by unfold iG;simp[aO]
theorem tM {nm:ByteArray} {e nx:Nat} {u:Int} {l:List aM} (h:bW nm e nx u l=true):nm.size≤60∧ba nm=true∧1≤e∧1≤nx∧0≤u∧u≤4294967295∧l.length≤500:=by
 unfold bW at h
 simp only[Bool.and_eq_true,decide_eq_true_eq] at h
 exact⟨fk h.1.1.1.1.1.2,h.1.1.1.1.1.2,h.1.1.1.1.2,h.1.1.1.2,h.1.1.2,h.1.2,h.2⟩
theorem EN {nm:ByteArray} {e nx:Nat} {u:Int} {l:List aM} (h:bW nm e nx u l=true) {j:Nat} {x:aM} (hx:l[j]?=some x):0≤x.2∧x.2≤4294967295:=by
 unfold bW at h
 simp only[Bool.and_eq_true] at h
 have:=wm hx h.1.1.1.1.1.1
 unfold ju tG at this
 simp only[Bool.and_eq_true,decide_eq_true_eq] at this
 exact⟨this.2.1.2,this.2.2⟩
theorem zX {nm:ByteArray} {e nx:Nat} {u:Int} {l:List aM} (h:bW nm e nx u l=true):(iu nm e nx u l).length≤5000:=by
 obtain⟨h1,_,_,_,_,_,h2⟩:=tM h
 unfold iu
 rw[List.length_append,List.length_append,List.length_append,jy,uL,aO,pS]
 simp
 omega
theorem tB {M:Type} {f:M→List UInt8} {l:List M} {j:Nat} {x:M} (hx:l[j]?=some x):(l.take (j+1)).flatMap f=(l.take j).flatMap f++f x:=by
 rw[List.take_add_one,hx]
 simp[List.flatMap_append]
theorem kQ (nm:ByteArray) (A:Option Addr) (c n e nx:Nat) (u:Int) (l:List aM) (w:World) (hm:cX w) (hg:0<w.heap.size) (hs:nm.size≤9223372036854775807) (hu:∀q∈l,q.1<4294967296) (he:e<4294967296) (hnx:nx<4294967296) (hl:l.length=n) (hn:n≤9223372036854775807) (hr:aE w w.heap.size 2 A n (cW l)):
 Calls Tryz.prog 34 #[.agg #[.string nm, .int .u32 (e:Nat), .int .u32 (nx:Nat), .int .i64 u, .slice A n c]] w fun ev w'=>∃r,ev= .returned (.tuple #[r, .int .i64 (me nm e nx u l)])∧ce w.heap.size w' r (jI nm e nx u l)∧Below w.heap.size w w':=by
 refine aK 54 Tryz.func34 rfl rfl (Nat.le_of_ble_eq_true rfl) ?_
 intro a hA;replace hA:=hA.norm
 refine wS (wR ?_)
 refine aP hA rfl rfl (by decide) (fun ev h=>by simp[go_sem,h.get 0 rfl];try first|exact⟨rfl,rfl⟩|rfl) fun w1 a (K:aI _ _ _ _) hz hb0 hA=> ?_
 replace hr:=(hr.below hb0).more hb0.size
 replace hm:=hm.below hg hb0;replace hg:=Nat.lt_of_lt_of_le hg hb0.size
 have HB:=Below.refl w1.heap.size w1
 revert a;(iterate 2 refine wo rfl rfl (by decide) (fun ev e h=>by simp[go_sem,h,(K.below HB K.lt).cell]<;>rfl) ?_);intro a hA
 replace hA:=hA.keepN [1]
 refine wN (nT (wS (wS (wR ?_))))
 revert a;refine wo rfl rfl (by decide) (fun ev e h=>by simp[go_sem,h,(K.below HB K.lt).cell]<;>rfl) ?_;intro a hA
 refine aC hA rfl rfl (by decide) (fun ev h=>aB Tryz.func70 (by kernel_rfl) rfl (h.f _) (by first|(simp only[mL,h.get 9 rfl,h.c]<;>rfl)|(simp[mL,h.get 9 rfl,h.c,(K.below HB K.lt).cell]<;>rfl))) (rX nm A c n e nx u l _ (hm.below hg HB) (Nat.lt_of_lt_of_le hg HB.size) hs hu hnx hl hn ((hr.below HB).more HB.size)) ?_
 rintro e w2 ⟨rfl,hb⟩
 refine⟨_,rfl,fun a hA=> ?_⟩
 replace HB:=HB.trans (hb.mono HB.size)
 revert a;refine wo rfl rfl (by decide) (fun ev e h=>by simp[go_sem,h,(K.below HB K.lt).cell]<;>rfl) ?_;intro a hA
 replace hA:=hA.keepN [1,11]
 refine wN (nT ?_)
 unfold me jI
 refine aH hA 11 _ rfl (fun hv=> ?yA) (fun hv=> ?nA)
 case yA=>
  have hv:bW nm e nx u l=false:=by simpa using hv
  rw[hv,if_neg (by simp),if_neg (by simp)]
  refine wS (wR ?_)
  revert a;(iterate 2 refine wo rfl rfl (by decide) (fun ev e h=>by simp[go_sem,h,(K.below HB K.lt).cell]<;>rfl) ?_);intro a hA
  replace hA:=hA.keepN [2,3]
  refine wN (nT (wp_ret (rT ?_)))
  refine gJ hA 2 3 rfl rfl rfl ?_
  exact⟨_,rfl,ce.nil _,hb0.trans (HB.mono hb0.size)⟩
 case nA=>
  have hv:bW nm e nx u l=true:=by simpa using hv
  rw[hv,if_pos rfl,if_pos rfl]
  obtain⟨h60,_,h1e,h1x,hu0,hu1,h500⟩:=tM hv
  have hil:=zX hv
  obtain⟨ut,rfl⟩:∃ut:Nat,u=(ut:Nat):=⟨u.toNat,by omega⟩
  refine wp_skip (nT (wS (wR ?_)))
  have hB2:=HB.size
  refine aP hA rfl rfl (by decide) (fun ev h=>by simp[go_sem,(K.below HB K.lt).cell];try first|exact⟨rfl,rfl⟩|rfl) fun w3 a (Ko:aI _ _ _ _) hz hb hA=> ?_
  replace HB:=HB.trans (hb.mono HB.size)
  obtain⟨o,hoe⟩:∃o,w2.heap.size=o:=⟨_,rfl⟩
  rw[hoe] at Ko hA hB2
  have hO:cf w3 w1.heap.size o [] false (.slice none 0 0):=⟨hB2,Ko,World.ownsRow_nil _ _ _ _⟩
  have K0:=K.below HB K.lt
  replace hA:=hA.keepN [1,4]
  refine wN (nT (wS (wR ?_)))
  revert a;(iterate 2 refine wo rfl rfl (by decide) (fun ev e h=>by simp[go_sem,h,K0.cell]<;>rfl) ?_);intro a hA
  refine aC hA rfl rfl (by decide) (fun ev h=>aB Tryz.func71 (by kernel_rfl) rfl (h.f _) (by first|(simp only[mL,h.get 4 rfl,h.get 13 rfl,h.c]<;>rfl)|(simp[mL,h.get 4 rfl,h.get 13 rfl,h.c,K0.cell]<;>rfl))) (xK hO HB.size (by simp) nm (by omega)) ?_
  rintro e w4 ⟨rfl,⟨v4,hO⟩,hob⟩
  refine⟨_,rfl,fun a hA=> ?_⟩
  replace HB:=HB.trans (hob.toBelow HB.size (Nat.le_refl _) hB2)
  have K0:=K.below HB K.lt
  have hwe:IntKind.i64.wrap (e:Int)=(e:Int):=IntWalk.i64_in _ (by omega)
  have hwx:IntKind.i64.wrap (nx:Int)=(nx:Int):=IntWalk.i64_in _ (by omega)
  replace hA:=hA.keepN [1,4]
  refine wN (nT (wS (wS (wR ?_))))
  revert a;(iterate 2 refine wo rfl rfl (by decide) (fun ev e h=>by simp[go_sem,h,K0.cell,hwe,hwx]<;>rfl) ?_);intro a hA
  refine a7 hA rfl rfl (by decide) (fun ev h=>by simp[go_sem,h.get 16 rfl,K0.cell,hwe,hwx];try first|exact⟨rfl,rfl⟩|rfl) fun a hA=> ?_
  revert a;(iterate 2 refine wo rfl rfl (by decide) (fun ev e h=>by simp[go_sem,h,K0.cell,hwe,hwx]<;>rfl) ?_);intro a hA
  refine a7 hA rfl rfl (by decide) (fun ev h=>by simp[go_sem,h.get 19 rfl,K0.cell,hwe,hwx];try first|exact⟨rfl,rfl⟩|rfl) fun a hA=> ?_
  revert a;(iterate 2 refine wo rfl rfl (by decide) (fun ev e h=>by simp[go_sem,h,K0.cell,hwe,hwx]<;>rfl) ?_);intro a hA
  obtain⟨ga,hga⟩:∃ga,w4.heap.size=ga:=⟨_,rfl⟩
  have hgo:ga≠o:=by have:=hO.cells.lt;omega
  have hgB:=HB.size
  refine aP hA rfl rfl (by decide) (fun ev h=>by simp[go_sem,h.get 17 rfl,h.get 20 rfl,h.get 22 rfl,K0.cell,hwe,hwx];try first|exact⟨rfl,rfl⟩|rfl) fun w5 a (Ka:aI _ _ _ _) hz hb hA=> ?_
  replace HB:=HB.trans (hb.mono HB.size)
  replace hO:=hO.below hb
  rw[hga] at Ka hA hgB
  revert a;(iterate 2 refine wo rfl rfl (by decide) (fun ev e h=>by simp[go_sem,h,K0.cell,hwe,hwx]<;>rfl) ?_);intro a hA
  replace hA:=hA.keepN [1,4,23,24,25]
  refine wN (nT (wB ?_))
  refine aQ (fun k a wx=>∃(j:Nat) (v:Value),j+k=3∧At 54 [(1, .pointer (some ⟨w.heap.size,0,none⟩)),(4, .pointer (some ⟨o,0,none⟩)),(23, .slice (some ⟨ga,0,none⟩) 3 3),(24, .int .i64 3),(25, .int .i64 (j:Nat))] a∧cf wx w1.heap.size o (iG nm++([e,nx,ut].take j).flatMap (be 4)) false v∧aI wx ga 2 #[.int .i64 (e:Nat), .int .i64 (nx:Nat), .int .i64 (ut:Nat)]∧Below w1.heap.size w1 wx) (3) ?_ ?_
  ·exact⟨0,v4,by omega,hA,by simpa using hO,Ka,HB⟩
  rintro k a wx ⟨j,v,hjk,hA,hO,Ka,HB⟩
  refine wS (wR ?_)
  revert a;refine wo rfl rfl (by decide) (fun ev e h=>by simp[go_sem,h,K0.cell,hwe,hwx]<;>rfl) ?_;intro a hA
  replace hA:=hA.keepN [1,4,23,24,25,26]
  refine wN (nT (wS ?_))
  refine aH hA 26 _ rfl (fun hq=> ?yL) (fun hq=> ?nL)
  case yL=>
   have hlt:j<3:=by simp at hq;omega
   have jj0:(0:Int)≤(j:Int):=by omega
   have jj1:(j:Int)<3:=by omega
   obtain⟨xj,hxj⟩:∃xj,[e,nx,ut][j]?=some xj:=⟨_,List.getElem?_eq_getElem (by simpa using hlt)⟩
   have hcj:wx.cell? ⟨ga,j,none⟩=some (.int .i64 (xj:Nat)):=by
    rw[Ka.cell]
    rcases j with _|_|_|j<;>simp at hxj ⊢<;>first|(subst hxj;rfl)|omega
   have hxl:xj<4294967296:=by
    have:=List.mem_of_getElem? hxj
    simp at this
    omega
   have hfl:(([e,nx,ut].take j).flatMap (be 4)).length≤12:=by rw[uL,List.length_take];simp;omega
   refine wp_skip (nT (wS (wB (wS (wR ?_)))))
   revert a;(iterate 3 refine wo rfl rfl (by decide) (fun ev e h=>by simp[go_sem,h,jj0,jj1,hcj]<;>rfl) ?_);intro a hA
   replace hA:=hA.keepN [1,4,6,23,24,25]
   refine wN (nT (wR ?_))
   revert a;refine wo rfl rfl (by decide) (fun ev e h=>by simp[go_sem,h,jj0,jj1,hcj]<;>rfl) ?_;intro a hA
   refine aC hA rfl rfl (by decide) (fun ev h=>aB Tryz.func72 (by kernel_rfl) rfl (h.f _) (by first|(simp only[mL,h.get 4 rfl,h.get 29 rfl,h.c]<;>rfl)|(simp[mL,h.get 4 rfl,h.get 29 rfl,h.c,jj0,jj1,hcj]<;>rfl))) (gH hO HB.size (by rw[List.length_append,jy];omega) xj 4 (by omega) (by omega)) ?_
   rintro e w6 ⟨rfl,⟨v6,hO⟩,hob⟩
   refine⟨_,rfl,fun a hA=> ?_⟩
   replace HB:=HB.trans (hob.toBelow HB.size (Nat.le_refl _) hB2)
   have Ka:=Ka.obut hob hgo (by decide)
   have hwj:IntKind.i64.wrap ((j:Int)+1)=(j:Int)+1:=IntWalk.i64_in _ (by omega)
   replace hA:=hA.keepN [1,4,23,24,25]
   refine wN (nB (nT (wR ?_)))
   revert a;(iterate 2 refine wo rfl rfl (by decide) (fun ev e h=>by simp[go_sem,h,hwj]<;>rfl) ?_);intro a hA
   replace hA:=hA.keepN [1,4,23,24,25]
   refine wN (nT ?_)
   have hj1:((j:Int)+1)=((j+1:Nat):Int):=by omega
   rw[hj1] at hA
   rw[List.append_assoc,←tB hxj] at hO
   exact⟨k - 1,by omega,j+1,v6,by omega,hA,hO,Ka,HB⟩
  case nL=>
   have hj3:j=3:=by simp at hq;omega
   subst hj3
   have hO:cf wx w1.heap.size o (iG nm++[e,nx,ut].flatMap (be 4)) false v:=hO
   have hx3:([e,nx,ut].flatMap (be 4)).length=12:=by rw[uL];rfl
   have K0:=K.below HB K.lt
   replace hA:=hA.keepN [1,4]
   refine wp_exit (xT (xT (xB (nT (wS (wR ?_))))))
   revert a;(iterate 3 refine wo rfl rfl (by decide) (fun ev e h=>by simp[go_sem,h,K0.cell]<;>rfl) ?_);intro a hA
   refine aC hA rfl rfl (by decide) (fun ev h=>aB Tryz.func72 (by kernel_rfl) rfl (h.f _) (by first|(simp only[mL,h.get 4 rfl,h.get 34 rfl,h.c]<;>rfl)|(simp[mL,h.get 4 rfl,h.get 34 rfl,h.c,K0.cell]<;>rfl))) (gH hO HB.size (by rw[List.length_append,jy];omega) n 2 (by omega) (by omega)) ?_
   rintro e w7 ⟨rfl,⟨v7,hO⟩,hob⟩
   refine⟨_,rfl,fun a hA=> ?_⟩
   replace HB:=HB.trans (hob.toBelow HB.size (Nat.le_refl _) hB2)
   replace K0:=K.below HB K.lt
   replace hA:=hA.keepN [1,4]
   refine wN (nT (wS (wS (wR ?_))))
   revert a;(iterate 4 refine wo rfl rfl (by decide) (fun ev e h=>by simp[go_sem,h,K0.cell]<;>rfl) ?_);intro a hA
   replace hA:=hA.keepN [4,37,38,39]
   refine wN (nT (wB ?_))
   refine aQ (fun k a wx=>∃(j:Nat) (v:Value),j+k=n∧At 54 [(4, .pointer (some ⟨o,0,none⟩)),(37, .slice A n c),(38, .int .i64 (n:Nat)),(39, .int .i64 (j:Nat))] a∧cf wx w1.heap.size o (iG nm++[e,nx,ut].flatMap (be 4)++be 2 n++(l.take j).flatMap mM) false v∧Below w1.heap.size w1 wx) (n) ?_ ?_
   ·exact⟨0,v7,by omega,hA,by simpa using hO,HB⟩
   clear HB hO K0 Ka
   rintro k a wx ⟨j,v,hjk,hA,hO,HB⟩
   refine wS (wR ?_)
   revert a;refine wo rfl rfl (by decide) (fun ev e h=>by simp[go_sem,h]<;>rfl) ?_;intro a hA
   replace hA:=hA.keepN [4,37,38,39,40]
   refine wN (nT (wS ?_))
   refine aH hA 40 _ rfl (fun hq=> ?yM) (fun hq=> ?nM)
   case yM=>
    have hlt:j<n:=by simp at hq;omega
    obtain⟨x,hx⟩:∃x,l[j]?=some x:=⟨_,List.getElem?_eq_getElem (by omega)⟩
    obtain⟨ad,rfl,hadl,hc⟩:=hr.2 (by omega)
    obtain⟨k0,k1⟩:=qC hc hx
    have hadl':(ad.add (j*2)).block<w1.heap.size:=by rw[aD];exact hadl
    obtain⟨xu,xf⟩:=x
    have hxu:=hu _ (List.mem_of_getElem? hx)
    obtain⟨hf0,hf1⟩:=EN hv hx
    simp only at k0 k1 hxu hf0 hf1
    obtain⟨xn,rfl⟩:∃xn:Nat,xf=(xn:Nat):=⟨xf.toNat,by omega⟩
    have z0:=(HB.cell hadl').trans k0
    have z1:=(HB.cell (p:=⟨(ad.add (j*2)).block,(ad.add (j*2)).off+1,none⟩) hadl').trans k1
    have jj0:(0:Int)≤(j:Int):=by omega
    have jj1:(j:Int)<(n:Int):=by omega
    have hwu:IntKind.i64.wrap (xu:Int)=(xu:Int):=IntWalk.i64_in _ (by omega)
    have hfl:((l.take j).flatMap mM).length≤4000:=by rw[pS,List.length_take];omega
    refine wp_skip (nT (wS (wB (wS (wR ?_)))))
    revert a;(iterate 2 refine wo rfl rfl (by decide) (fun ev e h=>by simp[go_sem,h,z0,z1,jj0,jj1,hwu]<;>rfl) ?_);intro a hA
    obtain⟨g5,hg5⟩:∃g5,wx.heap.size=g5:=⟨_,rfl⟩
    have hgo5:g5≠o:=by have:=hO.cells.lt;omega
    refine ap [.int .u32 (xu:Nat), .int .i64 (xn:Nat)] hA rfl rfl (by decide) (fun ev h=>by simp[go_sem,z0,z1,jj0,jj1,hwu];try first|exact⟨rfl,rfl⟩|rfl) rfl rfl (by rfl) (fun w1 g ev hb h=>by simp[go_sem,h.get 8 rfl,h.get 42 rfl,z0,z1,jj0,jj1,hwu,setAll,hb.cell,hb.frozen]) fun w8 a (Ke:aI _ _ _ _) hz hb hA=> ?_
    replace HB:=HB.trans (hb.mono HB.size)
    replace hO:=hO.below hb
    rw[hg5] at Ke hA
    replace hA:=hA.keepN [4,8,37,38,39]
    refine wN (nT (wS (wR ?_)))
    revert a;(iterate 2 refine wo rfl rfl (by decide) (fun ev e h=>by simp[go_sem,h,Ke.cell,hwu]<;>rfl) ?_);intro a hA
    refine a7 hA rfl rfl (by decide) (fun ev h=>by simp[go_sem,h.get 44 rfl,Ke.cell,hwu];try first|exact⟨rfl,rfl⟩|rfl) fun a hA=> ?_
    refine aC hA rfl rfl (by decide) (fun ev h=>aB Tryz.func72 (by kernel_rfl) rfl (h.f _) (by first|(simp only[mL,h.get 4 rfl,h.get 45 rfl,h.c]<;>rfl)|(simp[mL,h.get 4 rfl,h.get 45 rfl,h.c,Ke.cell,hwu]<;>rfl))) (gH hO HB.size (by simp only[List.length_append,jy,aO];omega) xu 4 (by omega) (by omega)) ?_
    rintro e w9 ⟨rfl,⟨v9,hO⟩,hob⟩
    refine⟨_,rfl,fun a hA=> ?_⟩
    replace HB:=HB.trans (hob.toBelow HB.size (Nat.le_refl _) hB2)
    replace Ke:=Ke.obut hob hgo5 (by decide)
    replace hA:=hA.keepN [4,8,37,38,39]
    refine wN (nT (wR ?_))
    revert a;(iterate 2 refine wo rfl rfl (by decide) (fun ev e h=>by simp[go_sem,h,Ke.cell,hwu]<;>rfl) ?_);intro a hA
    refine aC hA rfl rfl (by decide) (fun ev h=>aB Tryz.func72 (by kernel_rfl) rfl (h.f _) (by first|(simp only[mL,h.get 4 rfl,h.get 48 rfl,h.c]<;>rfl)|(simp[mL,h.get 4 rfl,h.get 48 rfl,h.c,Ke.cell,hwu]<;>rfl))) (gH hO HB.size (by simp only[List.length_append,jy,aO];omega) xn 4 (by omega) (by omega)) ?_
    rintro e w10 ⟨rfl,⟨v10,hO⟩,hob⟩
    refine⟨_,rfl,fun a hA=> ?_⟩
    replace HB:=HB.trans (hob.toBelow HB.size (Nat.le_refl _) hB2)
    have hwj:IntKind.i64.wrap ((j:Int)+1)=(j:Int)+1:=IntWalk.i64_in _ (by omega)
    replace hA:=hA.keepN [4,37,38,39]
    refine wN (nB (nT (wR ?_)))
    revert a;(iterate 2 refine wo rfl rfl (by decide) (fun ev e h=>by simp[go_sem,h,hwj]<;>rfl) ?_);intro a hA
    replace hA:=hA.keepN [4,37,38,39]
    refine wN (nT ?_)
    have hj1:((j:Int)+1)=((j+1:Nat):Int):=by omega
    rw[hj1] at hA
    have hst:iG nm++[e,nx,ut].flatMap (be 4)++be 2 n++(l.take (j+1)).flatMap mM=iG nm++[e,nx,ut].flatMap (be 4)++be 2 n++(l.take j).flatMap mM++be 4 xu++be 4 xn:=by
     rw[tB hx]
     simp[mM]
    rw[←hst] at hO
    exact⟨k - 1,by omega,j+1,v10,by omega,hA,hO,HB⟩
   case nM=>
    have hjn:j=n:=by simp at hq;omega
    subst hjn
    have hfin:iG nm++[e,nx,ut].flatMap (be 4)++be 2 j++(l.take j).flatMap mM=iu nm e nx (ut:Nat) l:=by
     unfold iu
     rw[List.take_of_length_le (by omega),hl,Int.toNat_natCast]
    rw[hfin] at hO
    replace hA:=hA.keepN [4]
    refine wp_exit (xT (xT (xB (nT (wS (wR ?_))))))
    have hwx:=Nat.le_trans hb0.size HB.size
    refine aC hA rfl rfl (by decide) (fun ev h=>aB Tryz.func73 (by kernel_rfl) rfl (h.f _) (by first|(simp only[mL,h.get 4 rfl,h.c]<;>rfl)|(simp[mL,h.get 4 rfl,h.c]<;>rfl))) (BV hO (by omega) 1 (by omega)) ?_
    rintro e w11 ⟨r,rfl,ho,hb⟩
    refine⟨_,rfl,fun a hA=> ?_⟩
    replace HB:=HB.trans (hb.mono HB.size)
    have he9:ll (iu nm e nx (ut:Nat) l).length=0:=by unfold ll;rw[if_pos (by omega)]
    have hp9:lU 1 (iu nm e nx (ut:Nat) l)=cy 1 (iu nm e nx (ut:Nat) l):=by unfold lU;rw[if_pos (by omega)]
    rw[he9] at hA
    rw[hp9] at ho
    revert a;(iterate 4 refine wo rfl rfl (by decide) (fun ev e h=>by simp[go_sem,h]<;>rfl) ?_);intro a hA
    replace hA:=hA.keepN [2,3]
    refine wN (nT (wp_ret ?_))
    refine gJ hA 2 3 rfl rfl rfl ?_
    exact⟨r,rfl,(ce.of ho).mono hwx,hb0.trans (HB.mono hb0.size)⟩
theorem vz {k:Int} {e:Nat} {nm:ByteArray} {m:aU} (h:af k e nm m=true):(fL k e nm m).length≤20100:=by
 obtain⟨_,h60,h20,_,_⟩:=eJ h
 have l1:=qa k m
 have l2:=qb k m
 have l3:=qc k nm
 unfold fL
 simp only[List.length_append,aO]
 omega
theorem lA {k:Int} {e:Nat} {nm:ByteArray} {m:aU} (h:af k e nm m=true):∃q:Nat,k=(q:Int)∧1≤q∧q≤3:=by
 obtain⟨_,_,_,hk,_⟩:=eJ h
 rcases hk with rfl|rfl|rfl
 ·exact⟨1,rfl,by decide,by decide⟩
 ·exact⟨2,rfl,by decide,by decide⟩
 ·exact⟨3,rfl,by decide,by decide⟩
def zN (k:Int) (e:Nat) (nm:ByteArray) (m:aU):List UInt8:=dr k.toNat (fL k e nm m)
theorem sD (k:Int) (e:Nat) (nm:ByteArray) (m:aU) (w:World) (hm:cX w) (hg:0<w.heap.size) (htab:Lib.TabIs Tryz.prog w "internal/strconv.uint64pow10" .u64 Lib.pow10Tab) (hs:nm.size≤9223372036854775807) (he:e<4294967296) (hu:m.uid<4294967296) (hr:aE w w.heap.size 1 m.a m.b.length (ar m.b)):
 Calls Tryz.prog 66 #[.agg (fQ k e nm m)] w fun ev w'=>∃r,ev= .returned (.tuple #[r, .int .i64 (bif af k e nm m then 0 else 1)])∧ce w.heap.size w' r (bif af k e nm m then zN k e nm m else[])∧Below w.heap.size w w':=by
 have Ht:=Lib.tabBelow_of_tabIs htab
 refine aK 20 Tryz.func66 rfl rfl (Nat.le_of_ble_eq_true rfl) ?_
 intro a hA;replace hA:=hA.norm
 refine wS (wR ?_)
 refine aP hA rfl rfl (by decide) (fun ev h=>by simp[go_sem,h.get 0 rfl];try first|exact⟨rfl,rfl⟩|rfl) fun w1 a (K:aI _ _ _ _) hz hb0 hA=> ?_
 unfold fQ at K
 have HB:=hb0
 revert a;(iterate 2 refine wo rfl rfl (by decide) (fun ev e h=>by simp[go_sem,h,K.cell]<;>rfl) ?_);intro a hA
 replace hA:=hA.keepN [1]
 refine wN (nT (wS (wR ?_)))
 revert a;refine wo rfl rfl (by decide) (fun ev e h=>by simp[go_sem,h,K.cell]<;>rfl) ?_;intro a hA
 refine aC hA rfl rfl (by decide) (fun ev h=>aB Tryz.func58 (by kernel_rfl) rfl (h.f _) (by first|(simp only[mL,h.get 7 rfl,h.c]<;>rfl)|(simp[mL,h.get 7 rfl,h.c,K.cell]<;>rfl))) (qd k e nm m _ (hm.below hg hb0) (Nat.lt_of_lt_of_le hg hb0.size) (htab:=Ht _ hb0) hs he hu ((hr.below hb0).more hb0.size)) ?_
 rintro e w2 ⟨r,rfl,ho,hb2⟩
 refine⟨_,rfl,fun a hA=> ?_⟩
 replace HB:=HB.trans (hb2.mono HB.size)
 replace K:=K.below hb2 K.lt
 cases hf:af k e nm m with
 |false=>
  rw[hf,cond_false] at hA
  revert a;(iterate 5 refine wo rfl rfl (by decide) (fun ev e h=>by simp[go_sem,h]<;>rfl) ?_);intro a hA
  replace hA:=hA.keepN [1,4,5]
  refine wN (nT (wS (wS (wR ?_))))
  revert a;(iterate 2 refine wo rfl rfl (by decide) (fun ev e h=>by simp[go_sem,h]<;>rfl) ?_);intro a hA
  replace hA:=hA.keepN [1,4,5,12]
  refine wN (nT ?_)
  refine aH hA 12 _ rfl (fun hq=> ?yA) (fun hq=> ?nA)
  case yA=>
   refine wS (wR ?_)
   revert a;(iterate 3 refine wo rfl rfl (by decide) (fun ev e h=>by simp[go_sem,h]<;>rfl) ?_);intro a hA
   replace hA:=hA.keepN [2,3]
   refine wN (nT (wp_ret (rT ?_)))
   refine gJ hA 2 3 rfl rfl rfl ?_
   exact⟨_,rfl,ce.nil _,HB⟩
  case nA=>cases hq
 |true=>
  rw[hf,cond_true] at hA
  rw[hf,cond_true] at ho
  obtain⟨q,rfl,hq1,hq3⟩:=lA hf
  have hlen:=vz hf
  obtain⟨Ar,cr,e0,hR,_⟩:=cQ ho
  subst e0
  revert a;(iterate 5 refine wo rfl rfl (by decide) (fun ev e h=>by simp[go_sem,h,K.cell]<;>rfl) ?_);intro a hA
  replace hA:=hA.keepN [1,4,5]
  refine wN (nT (wS (wS (wR ?_))))
  revert a;(iterate 2 refine wo rfl rfl (by decide) (fun ev e h=>by simp[go_sem,h,K.cell]<;>rfl) ?_);intro a hA
  replace hA:=hA.keepN [1,4,5,12]
  refine wN (nT ?_)
  refine aH hA 12 _ rfl (fun hq=> ?yB) (fun hq=> ?nB)
  case yB=>cases hq
  case nB=>
   refine wp_skip (nT (wS (wR ?_)))
   revert a;(iterate 3 refine wo rfl rfl (by decide) (fun ev e h=>by simp[go_sem,h,K.cell]<;>rfl) ?_);intro a hA
   refine aC hA rfl rfl (by decide) (fun ev h=>aB Tryz.func103 (by kernel_rfl) rfl (h.f _) (by first|(simp only[mL,h.get 15 rfl,h.get 16 rfl,h.c]<;>rfl)|(simp[mL,h.get 15 rfl,h.get 16 rfl,h.c,K.cell]<;>rfl))) (CK q hq1 hq3 Ar _ cr (fL q e nm m) rfl (by omega) _ hR) ?_
   rintro e w3 ⟨r3,rfl,ho3,hb3⟩
   refine⟨_,rfl,fun a hA=> ?_⟩
   replace HB:=HB.trans (hb3.mono HB.size)
   replace K:=K.below hb3 K.lt
   revert a;(iterate 4 refine wo rfl rfl (by decide) (fun ev e h=>by simp[go_sem,h,K.cell]<;>rfl) ?_);intro a hA
   replace hA:=hA.keepN [2,3]
   refine wN (nT (wp_ret ?_))
   refine gJ hA 2 3 rfl rfl rfl ?_
   exact⟨_,rfl,eo ho3 (Nat.le_trans hb0.size hb2.size),HB⟩
theorem Dz (u d f:Int) (A:Option Addr) (n c:Nat) (w:World) (htab:Lib.TabIs Tryz.prog w "internal/strconv.uint64pow10" .u64 Lib.pow10Tab):
 Calls Tryz.prog 81 #[.agg #[.int .u32 u, .int .i64 d, .int .i64 f, .slice A n c]] w fun e w'=>e= .returned (.bool (gD d f))∧Below w.heap.size w w':=by
 have Ht:=Lib.tabBelow_of_tabIs htab
 refine aK 17 Tryz.func81 rfl rfl (Nat.le_of_ble_eq_true rfl) ?_
 intro a hA;replace hA:=hA.norm
 refine wS (wR ?_)
 refine aP hA rfl rfl (by decide) (fun ev h=>by simp[go_sem,h.get 0 rfl];try first|exact⟨rfl,rfl⟩|rfl) fun w1 a (K:aI _ _ _ _) hz hb hA=> ?_
 revert a;refine wo rfl rfl (by decide) (fun ev e h=>by simp[go_sem,h,K.cell]<;>rfl) ?_;intro a hA
 replace hA:=hA.keepN [1]
 refine wN (nT (wS (wR ?_)))
 revert a;(iterate 2 refine wo rfl rfl (by decide) (fun ev e h=>by simp[go_sem,h,K.cell]<;>rfl) ?_);intro a hA
 refine aC hA rfl rfl (by decide) (fun ev h=>aB Tryz.func113 (by kernel_rfl) rfl (h.f _) (by first|(simp only[mL,h.get 4 rfl,h.c]<;>rfl)|(simp[mL,h.get 4 rfl,h.c,K.cell]<;>rfl))) (rP d _ (Ht _ hb)) ?_
 rintro e w2 ⟨s,rfl,hs,hb1⟩
 refine⟨_,rfl,fun a hA=> ?_⟩
 have K2:=K.below hb1 K.lt
 have HB:=hb.trans (hb1.mono hb.size)
 revert a;(iterate 2 refine wo rfl rfl (by decide) (fun ev e h=>by simp[go_sem,h,K2.cell]<;>rfl) ?_);(iterate 3 refine wg _ rfl rfl rfl rfl (by decide) (fun hq ev e h=>by simp[go_sem,h,↓aL (aF hq),K2.cell]<;>rfl) ?_);refine j9 rfl rfl (by decide) rfl rfl rfl ?_;refine wo rfl rfl (by decide) (fun ev e h=>by simp[go_sem,h,K2.cell]<;>rfl) ?_;refine wg _ rfl rfl rfl rfl (by decide) (fun hq ev e h=>by simp[go_sem,h,↓aL (aF hq),K2.cell]<;>rfl) ?_;intro a hA
 replace hA:=hA.keepN [12,13]
 revert a;(iterate 2 refine wg _ rfl rfl rfl rfl (by decide) (fun hq ev e h=>by simp[go_sem,h,↓aL (aF hq),K2.cell]<;>rfl) ?_);refine j9 rfl rfl (by decide) rfl rfl rfl ?_;refine wo rfl rfl (by decide) (fun ev e h=>by simp[go_sem,h,K2.cell]<;>rfl) ?_;intro a hA
 replace hA:=hA.keepN [2]
 refine wN (nT (wp_ret ?_))
 refine ab hA 2 rfl rfl ?_
 exact⟨bH (by rw[hs];unfold gD;simp),HB⟩
theorem E4 (nx:Nat) (l:List aU) (j:Nat) (m:aU):iX nx l j m= !(decide (m.uid≤lG l j)||decide (nx≤m.uid)|| !gD m.date m.flags||decide (20000<m.b.length)):=by
 unfold iX BJ
 rw[Bool.eq_iff_iff]
 simp
theorem IG (nm:ByteArray) (e nx n:Nat):(!(eG nm).snd|| !(eG nm).fst.toList==nm.toList||decide ((e:Int)<1)||decide ((nx:Int)<1)||decide ((500:Int)<(n:Int)))= !(ba nm&&decide (1≤e)&&decide (1≤nx)&&decide (n≤500)):=by
 unfold ba
 rw[show decide ((e:Int)<1)= !decide (1≤e) by rw[Bool.eq_iff_iff];simp;omega,show decide ((nx:Int)<1)= !decide (1≤nx) by rw[Bool.eq_iff_iff];simp;omega,show decide ((500:Int)<(n:Int))= !decide (n≤500) by rw[Bool.eq_iff_iff];simp;omega]
 simp only[Bool.not_and]
theorem wu (n:Nat):decide ((20000:Int)<(n:Int))=decide (20000<n):=by rw[Bool.eq_iff_iff];simp;omega
theorem Cy (nm:ByteArray) (A:Option Addr) (c n e nx:Nat) (l:List aU) (w:World) (hm:cX w) (hg:0<w.heap.size) (htab:Lib.TabIs Tryz.prog w "internal/strconv.uint64pow10" .u64 Lib.pow10Tab) (hs:nm.size≤9223372036854775807) (hn:n≤9223372036854775807) (hr:yr w A n l):
 Calls Tryz.prog 39 #[.agg (mI nm e nx A n c)] w fun ev w'=>ev= .returned (.bool (fU nm e nx l))∧Below w.heap.size w w':=by
 have Ht:=Lib.tabBelow_of_tabIs htab
 obtain⟨mx,hmx⟩:=hm
 have hl:=hr.len
 refine aK 70 Tryz.func39 rfl rfl (Nat.le_of_ble_eq_true rfl) ?_
 intro a hA;replace hA:=hA.norm
 refine wS (wR ?_)
 refine aP hA rfl rfl (by decide) (fun ev h=>by simp[go_sem,h.get 0 rfl];try first|exact⟨rfl,rfl⟩|rfl) fun w1 a (K:aI _ _ _ _) hz hb0 hA=> ?_
 replace hr:=hr.below hb0
 have HB:=Below.refl w1.heap.size w1
 unfold mI at K
 revert a;refine wo rfl rfl (by decide) (fun ev e h=>by simp[go_sem,h,(K.below HB K.lt).cell]<;>rfl) ?_;intro a hA
 replace hA:=hA.keepN [1]
 refine wN (nT (wS (wR ?_)))
 revert a;(iterate 2 refine wo rfl rfl (by decide) (fun ev e h=>by simp[go_sem,h,(K.below HB K.lt).cell]<;>rfl) ?_);intro a hA
 refine aC hA rfl rfl (by decide) (fun ev h=>aB Tryz.func80 (by kernel_rfl) rfl (h.f _) (by first|(simp only[mL,h.get 10 rfl,h.c]<;>rfl)|(simp[mL,h.get 10 rfl,h.c,(K.below HB K.lt).cell]<;>rfl))) (rF nm mx _ hs ((hb0.cell hg).trans hmx)) ?_
 rintro e w2 ⟨rfl,hb⟩
 refine⟨_,rfl,fun a hA=> ?_⟩
 replace HB:=HB.trans (hb.mono HB.size)
 have K0:=K.below HB K.lt
 revert a;(iterate 5 refine wo rfl rfl (by decide) (fun ev e h=>by simp[go_sem,h,K0.cell]<;>rfl) ?_);intro a hA
 replace hA:=hA.keepN [1,3,4]
 refine wN (nT (wS (wS (wR ?_))))
 revert a;(iterate 3 refine wo rfl rfl (by decide) (fun ev e h=>by simp[go_sem,h,K0.cell]<;>rfl) ?_);(iterate 4 refine wg _ rfl rfl rfl rfl (by decide) (fun hq ev e h=>by simp[go_sem,h,↓aL (aF hq),K0.cell]<;>rfl) ?_);refine kj rfl rfl (by decide) rfl rfl rfl ?_;refine wo rfl rfl (by decide) (fun ev e h=>by simp[go_sem,h,K0.cell]<;>rfl) ?_;refine wg _ rfl rfl rfl rfl (by decide) (fun hq ev e h=>by simp[go_sem,h,↓aL (aF hq),K0.cell]<;>rfl) ?_;intro a hA
 replace hA:=hA.keepN [1,22,23]
 revert a;(iterate 2 refine wg _ rfl rfl rfl rfl (by decide) (fun hq ev e h=>by simp[go_sem,h,↓aL (aF hq),K0.cell]<;>rfl) ?_);refine kj rfl rfl (by decide) rfl rfl rfl ?_;refine wo rfl rfl (by decide) (fun ev e h=>by simp[go_sem,h,K0.cell]<;>rfl) ?_;(iterate 3 refine wg _ rfl rfl rfl rfl (by decide) (fun hq ev e h=>by simp[go_sem,h,↓aL (aF hq),K0.cell]<;>rfl) ?_);refine kj rfl rfl (by decide) rfl rfl rfl ?_;refine wo rfl rfl (by decide) (fun ev e h=>by simp[go_sem,h,K0.cell]<;>rfl) ?_;refine wg _ rfl rfl rfl rfl (by decide) (fun hq ev e h=>by simp[go_sem,h,↓aL (aF hq),K0.cell]<;>rfl) ?_;intro a hA
 replace hA:=hA.keepN [1,32,33]
 revert a;(iterate 3 refine wg _ rfl rfl rfl rfl (by decide) (fun hq ev e h=>by simp[go_sem,h,↓aL (aF hq),K0.cell]<;>rfl) ?_);refine kj rfl rfl (by decide) rfl rfl rfl ?_;intro a hA
 replace hA:=hA.keepN [1,37]
 refine wN (nT ?_)
 obtain⟨q,hqe⟩:∃q,(ba nm&&decide (1≤e)&&decide (1≤nx)&&decide (n≤500))=q:=⟨_,rfl⟩
 rw[IG,hqe] at hA
 have hbr:fU nm e nx l=(q&&ix nx l n):=by unfold fU;rw[hl,hqe]
 rw[hbr]
 refine aH hA 37 _ rfl (fun hq=> ?yA) (fun hq=> ?nA)
 case yA=>
  have hq:q=false:=by simpa using hq
  subst hq
  refine wS (wR ?_)
  revert a;refine wo rfl rfl (by decide) (fun ev e h=>by simp[go_sem,h,K0.cell]<;>rfl) ?_;intro a hA
  replace hA:=hA.keepN [2]
  refine wN (nT (wp_ret (rT ?_)))
  refine ab hA 2 rfl rfl ?_
  exact⟨rfl,hb0.trans (HB.mono hb0.size)⟩
 case nA=>
  have hq:q=true:=by simpa using hq
  subst hq
  rw[Bool.true_and]
  refine wp_skip (nT (wS (wR ?_)))
  revert a;refine wo rfl rfl (by decide) (fun ev e h=>by simp[go_sem,h,K0.cell]<;>rfl) ?_;intro a hA
  replace hA:=hA.keepN [1,5]
  refine wN (nT (wS (wS (wR ?_))))
  revert a;(iterate 4 refine wo rfl rfl (by decide) (fun ev e h=>by simp[go_sem,h,K0.cell]<;>rfl) ?_);intro a hA
  replace hA:=hA.keepN [1,5,39,40,41]
  refine wN (nT (wB ?_))
  refine aQ (fun k a wx=>∃(j:Nat),j+k=n∧At 70 [(1, .pointer (some ⟨w.heap.size,0,none⟩)),(5, .int .u32 (lG l j:Nat)),(39, .slice A n c),(40, .int .i64 (n:Nat)),(41, .int .i64 (j:Nat))] a∧ix nx l j=true∧Below w1.heap.size w1 wx) (n) ?_ ?_
  ·exact⟨0,by omega,hA,rfl,HB⟩
  clear HB K0
  rintro k a wx ⟨j,hjk,hA,hall,HB⟩
  refine wS (wR ?_)
  revert a;refine wo rfl rfl (by decide) (fun ev e h=>by simp[go_sem,h]<;>rfl) ?_;intro a hA
  replace hA:=hA.keepN [1,5,39,40,41,42]
  refine wN (nT (wS ?_))
  refine aH hA 42 _ rfl (fun hq=> ?yL) (fun hq=> ?nL)
  case yL=>
   have hlt:j<n:=by simp at hq;omega
   obtain⟨x,hx⟩:∃x,l[j]?=some x:=⟨_,List.getElem?_eq_getElem (by omega)⟩
   obtain⟨ad,rfl,hadl,k0,k1,k2,k3⟩:=hr.at_ hx
   have z0:=(HB.cell hadl).trans k0
   have z1:=(HB.cell (p:=⟨(ad.add (j*4)).block,(ad.add (j*4)).off+1,none⟩) hadl).trans k1
   have z2:=(HB.cell (p:=⟨(ad.add (j*4)).block,(ad.add (j*4)).off+2,none⟩) hadl).trans k2
   have z3:=(HB.cell (p:=⟨(ad.add (j*4)).block,(ad.add (j*4)).off+3,none⟩) hadl).trans k3
   have jj0:(0:Int)≤(j:Int):=by omega
   have jj1:(j:Int)<(n:Int):=by omega
   have hwj:IntKind.i64.wrap ((j:Int)+1)=(j:Int)+1:=IntWalk.i64_in _ (by omega)
   have K0:=K.below HB K.lt
   refine wp_skip (nT (wS (wB (wS (wR ?_)))))
   revert a;(iterate 2 refine wo rfl rfl (by decide) (fun ev e h=>by simp[go_sem,h,K0.cell,z0,z1,z2,z3,jj0,jj1]<;>rfl) ?_);intro a hA
   refine ap [.int .u32 (x.uid:Nat), .int .i64 x.date, .int .i64 x.flags, .slice x.a x.b.length x.c] hA rfl rfl (by decide) (fun ev h=>by simp[go_sem,K0.cell,z0,z1,z2,z3,jj0,jj1];try first|exact⟨rfl,rfl⟩|rfl) rfl rfl (by rfl) (fun w1 g ev hb h=>by simp[go_sem,h.get 7 rfl,h.get 44 rfl,K0.cell,z0,z1,z2,z3,jj0,jj1,setAll,hb.cell,hb.frozen]) fun w5 a (Ke:aI _ _ _ _) hz5 hb hA=> ?_
   replace K0:=K0.below hb K0.lt
   replace HB:=HB.trans (hb.mono HB.size)
   replace hA:=hA.keepN [1,5,7,39,40,41]
   refine wN (nT (wS (wS (wR ?_))))
   revert a;(iterate 5 refine wo rfl rfl (by decide) (fun ev e h=>by simp[go_sem,h,K0.cell,Ke.cell]<;>rfl) ?_);(iterate 5 refine wg _ rfl rfl rfl rfl (by decide) (fun hq ev e h=>by simp[go_sem,h,↓aL (aF hq),K0.cell,Ke.cell]<;>rfl) ?_);intro a hA
   replace hA:=hA.keepN [1,7,39,40,41,49,54]
   revert a;refine kj rfl rfl (by decide) rfl rfl rfl ?_;refine wo rfl rfl (by decide) (fun ev e h=>by simp[go_sem,h,K0.cell,Ke.cell]<;>rfl) ?_;refine wg _ rfl rfl rfl rfl (by decide) (fun hq ev e h=>by simp[go_sem,h,↓aL (aF hq),K0.cell,Ke.cell]<;>rfl) ?_;intro a hA
   refine dK _ hA rfl rfl rfl rfl (by decide) (fun hq ev h=>aB Tryz.func81 (by kernel_rfl) rfl (h.f _) (by first|(simp only[mL,((h.get 57 rfl).trans (aL (aF hq))),h.c]<;>rfl)|(simp[mL,((h.get 57 rfl).trans (aL (aF hq))),h.c,K0.cell,Ke.cell]<;>rfl))) (fun hq=>Dz (x.uid:Nat) x.date x.flags x.a x.b.length x.c _ (Ht _ (hb0.trans (HB.mono hb0.size)))) fun a w6 hb hA=> ?_
   replace K0:=K0.below hb K0.lt
   replace HB:=HB.trans (hb.mono HB.size)
   replace Ke:=Ke.below hb Ke.lt
   revert a;refine wg _ rfl rfl rfl rfl (by decide) (fun hq ev e h=>by simp[go_sem,h,↓aL (aF hq),K0.cell,Ke.cell]<;>rfl) ?_;refine kj rfl rfl (by decide) rfl rfl rfl ?_;refine wo rfl rfl (by decide) (fun ev e h=>by simp[go_sem,h,K0.cell,Ke.cell]<;>rfl) ?_;(iterate 4 refine wg _ rfl rfl rfl rfl (by decide) (fun hq ev e h=>by simp[go_sem,h,↓aL (aF hq),K0.cell,Ke.cell]<;>rfl) ?_);intro a hA
   replace hA:=hA.keepN [1,7,39,40,41,61,65]
   revert a;refine kj rfl rfl (by decide) rfl rfl rfl ?_;intro a hA
   replace hA:=hA.keepN [1,7,39,40,41,66]
   refine wN (nT ?_)
   have hme:=E4 nx l j x
   rw[wu] at hA
   obtain⟨q,hqe⟩:∃q,(decide (x.uid≤lG l j)||decide (nx≤x.uid)|| !gD x.date x.flags||decide (20000<x.b.length))=q:=⟨_,rfl⟩
   rw[hqe] at hme hA
   refine aH hA 66 _ rfl (fun hq2=> ?yR) (fun hq2=> ?nR)
   case yR=>
    subst hq2
    refine wS (wR ?_)
    revert a;refine wo rfl rfl (by decide) (fun ev e h=>by simp[go_sem,h,K0.cell,Ke.cell]<;>rfl) ?_;intro a hA
    replace hA:=hA.keepN [2]
    refine wN (nT (wp_ret (rT (rB (rT (rT (rB (rT ?_))))))))
    refine ab hA 2 rfl rfl ?_
    exact⟨bH (by rw[←hl];exact(GC hx hme).symm),hb0.trans (HB.mono hb0.size)⟩
   case nR=>
    subst hq2
    refine wp_skip (nT (wR ?_))
    revert a;(iterate 3 refine wo rfl rfl (by decide) (fun ev e h=>by simp[go_sem,h,K0.cell,Ke.cell,hwj]<;>rfl) ?_);intro a hA
    replace hA:=hA.keepN [1,5,39,40,41]
    refine wN (nB (nT (wR ?_)))
    revert a;(iterate 2 refine wo rfl rfl (by decide) (fun ev e h=>by simp[go_sem,h,K0.cell,Ke.cell,hwj]<;>rfl) ?_);intro a hA
    replace hA:=hA.keepN [1,5,39,40,41]
    refine wN (nT ?_)
    have hj1:((j:Int)+1)=((j+1:Nat):Int):=by omega
    rw[←qt hx,hj1] at hA
    exact⟨k - 1,by omega,j+1,by omega,hA,by rw[rD hx,hall,hme];rfl,HB⟩
  case nL=>
   have hjn:j=n:=by simp at hq;omega
   subst hjn
   replace hA:=hA.keepN []
   refine wp_exit (xT (xT (xB (nT (wS (wR ?_))))))
   revert a;refine wo rfl rfl (by decide) (fun ev e h=>by simp[go_sem,h]<;>rfl) ?_;intro a hA
   replace hA:=hA.keepN [2]
   refine wN (nT (wp_ret ?_))
   refine ab hA 2 rfl rfl ?_
   exact⟨bH hall.symm,hb0.trans (HB.mono hb0.size)⟩
abbrev St (l:List UInt8):ByteArray:=⟨l.toArray⟩
theorem eA (a b:List UInt8):St a++St b=St (a++b):=by
 refine ByteArray.ext ?_
 simp[ByteArray.data_append]
def bJ :ae:=[108,111,103]
def ct :ae:=[105,100,120]
def cV :ae:=[102,108,103]
def cz :ae:=[110,101,119]
def aR (kind:ae) (n:Nat):ae:=kind++[46]++Lib.decDigits n
def gN (r:Int×aN) (f:aN→Int×aN):Int×aN:=if r.1=0 then f r.2 else r
def pQ (d:aN) (k:ae):Int×aN:=if(bo d k).1=7 then(0,(bo d k).2) else bo d k
def jV (d:aN) (k:ae) (b:List UInt8):Int×aN:=
 gN (pQ d cz) fun d=>gN (d7 d cz b) fun d=>gN (fg d cz) fun d=>cY d cz k
structure dW where
 s:fo
 torn:Nat
def aT (b:List UInt8):dW:=⟨bG (cM b),(gP b).2⟩
structure oS where
 nm:ByteArray
 e:Nat
 nx:Nat
 u:Int
 l:List aM
def sK (n:aX):aM:=(n.u,(n.at_:Int))
def uc (n:aX):aM:=(n.u,n.f)
def dQ (l:dW):oS:=bif iy (al l.s) l.s.nm then⟨⟨#[]⟩,0,0,0,[]⟩ else⟨l.s.nm,l.s.ep,l.s.nx,(l.torn:Int),l.s.live.map sK⟩
def gZ (l:dW):Nat×List aM:=bif iy (al l.s) l.s.nm then(0,[]) else(l.s.ep,l.s.live.map uc)
def oS.err (x:oS):Int:=me x.nm x.e x.nx x.u x.l
def oS.page (x:oS):List UInt8:=jI x.nm x.e x.nx x.u x.l
def iP (ms:List aM) (q:aM):aM:=match ms.find? fun m=>m.1==q.1 with
 |some m=>(q.1,m.2)
 |none=>q
structure Gj where
 b:List UInt8
 c:List UInt8
 e:Int
def bP (l:dW) (ms:List aM):Gj:=
 if dq (gZ l).1 ((gZ l).2.map (iP ms))=0 then⟨dI (gZ l).1 ((gZ l).2.map (iP ms)),(dQ l).page,(dQ l).err⟩
 else⟨[],[],dq (gZ l).1 ((gZ l).2.map (iP ms))⟩
def ec (d:aN) (n:Nat) (l:dW) (ms:List aM):Int×aN:=
 if(bP l ms).e=0 then gN (jV d (aR cV n) (bP l ms).b) fun d=>jV d (aR ct n) (bP l ms).c else((bP l ms).e,d)
def ay (d:aN) (kind:ae) (n:Nat):List UInt8×Int:=bv d (aR kind n)
def tz (x:oS) (f:Nat×List aM):Bool:=x.e==f.1&&x.l.map (·.1)==f.2.map (·.1)
def mJ :eU:=⟨⟨#[]⟩,0,0,[]⟩
abbrev mH :=Nat×Int×Int×List UInt8
def lV (fs:List aM) (ms:List mH):List mH:=List.zipWith (fun m (f:aM)=>(m.1,m.2.1,f.2,m.2.2.2)) ms fs
def kr (m:mH):aU:=⟨m.1,m.2.1,m.2.2.1,none,m.2.2.2.length,m.2.2.2⟩
def mt (b:eU):Bool:=fU b.nm b.ep b.nx (b.msgs.map kr)
def cJ (d:aN) (n:Nat):Option (Nat×List aM):=bC (ay d cV n).1
def fX (d:aN) (n:Nat):Bool:=
 (dQ (aT (ay d bJ n).1)).err==0&&al (aT (ay d bJ n).1).s&&(aT (ay d bJ n).1).torn==(ay d bJ n).1.length
  &&jT (cJ d n)==0&&(dQ (aT (ay d bJ n).1)).page==(ay d ct n).1&&tz (dQ (aT (ay d bJ n).1)) (b8 (cJ d n))
def boxF (l:dW) (fs:List aM):eU:={bQ l.s with msgs:=lV fs (bQ l.s).msgs}
def bS (d:aN) (n:Nat):eU×Int:=
 if(ay d bJ n).2=0 then
  if fX d n=true∧mt (boxF (aT (ay d bJ n).1) (b8 (cJ d n)).2)=true then(boxF (aT (ay d bJ n).1) (b8 (cJ d n)).2,0) else(mJ,9)
 else(mJ,(ay d bJ n).2)
theorem EQ {d:aN} {k:ae} {b:List UInt8} (h0:¬(bo d cz).1=0) (h7:¬(bo d cz).1=7):jV d k b=bo d cz:=by
 unfold jV pQ gN
 rw[if_neg h7,if_neg h0]
theorem H0 {d:aN} {k:ae} {b:List UInt8} (h:(bo d cz).1=0∨(bo d cz).1=7):jV d k b=gN (d7 (bo d cz).2 cz b) fun d=>gN (fg d cz) fun d=>cY d cz k:=by
 unfold jV pQ
 by_cases h7:(bo d cz).1=7
 ·rw[if_pos h7];rfl
 ·rw[if_neg h7]
  have h0:=h.resolve_right h7
  unfold gN
  rw[if_pos h0]
theorem gn {r:Int×aN} {f:aN→Int×aN} (h:¬r.1=0):gN r f=r:=by unfold gN;rw[if_neg h]
theorem eg {r:Int×aN} {f:aN→Int×aN} (h:r.1=0):gN r f=f r.2:=by unfold gN;rw[if_pos h]
def ak.frame (n:ak):List UInt8:=zN n.kind n.ep n.nm n.m
def ak.at_ (n:ak) (p:Nat):aX:=⟨n.kind,n.ep,n.nm,n.m.uid,n.m.date,n.m.flags,n.m.b,p⟩
structure iT (n:ak):Prop where
 ok:af n.kind n.ep n.nm n.m=true
 ep:n.ep<4294967296
 uid:n.m.uid<4294967296
def bA (l:List ak):List UInt8:=l.flatMap ak.frame
def bh :Nat→List ak→List aX
 |_,[]=>[]
 |p,n::r=>n.at_ p::bh (p+n.frame.length) r
def oI (p:Nat) (n:ak):ig:=⟨p,n.kind.toNat,fL n.kind n.ep n.nm n.m⟩
def oq :Nat→List ak→List ig
 |_,[]=>[]
 |p,n::r=>oI p n::oq (p+n.frame.length) r
theorem tE {n:ak}:n.frame.length=44+(fL n.kind n.ep n.nm n.m).length:=gx _ _
theorem pm {b r:List UInt8}:∀(l:List ak) (at_ torn:Nat) (R:List ig),(∀n∈l,iT n)→b.drop at_=bA l++r→cC b at_ torn R=cC b (at_+(bA l).length) (if l=[] then torn else at_+(bA l).length) (R++oq at_ l)
 |[],at_,torn,R,_,_=>by
  unfold oq bA
  simp
 |n::l,at_,torn,R,hf,hb=>by
  have hn:=hf n List.mem_cons_self
  obtain⟨q,hq,h1,h3⟩:=lA hn.ok
  have hlen:=vz hn.ok
  have e0:bA (n::l)=n.frame++bA l:=by unfold bA;rw[List.flatMap_cons]
  have hfr:n.frame=dr q (fL n.kind n.ep n.nm n.m):=by
   unfold ak.frame zN
   rw[hq]
   rfl
  rw[e0,List.append_assoc] at hb
  have hd:b.drop (at_+n.frame.length)=bA l++r:=by
   rw[←List.drop_drop,hb,List.drop_left' rfl]
  rw[AJ (k:=q) (p:=fL n.kind n.ep n.nm n.m) (r:=bA l++r) (by rw[hb,hfr]) h1 h3 (by omega)]
  have ea:at_+44+(fL n.kind n.ep n.nm n.m).length=at_+n.frame.length:=by rw[tE];omega
  rw[ea,pm l _ _ _ (fun m hm=>hf m (List.mem_cons_of_mem _ hm)) hd]
  have er:oI at_ n=⟨at_,q,fL n.kind n.ep n.nm n.m⟩:=by unfold oI;rw[hq];rfl
  have et:(if l=[] then at_+n.frame.length else at_+n.frame.length+(bA l).length)=at_+(bA (n::l)).length:=by
   rw[e0,List.length_append]
   split
   ·rename_i h;rw[h];rfl
   ·omega
  rw[et,if_neg (by simp),e0,List.length_append,List.append_assoc]
  show cC b (at_+n.frame.length+(bA l).length) _ (R++([(⟨at_,q,fL n.kind n.ep n.nm n.m⟩:ig)]++_))=cC b _ _ (R++(oI at_ n::oq (at_+n.frame.length) l))
  rw[er,Nat.add_assoc]
  rfl
theorem t6 :∀(l:List ak) (p:Nat),(∀n∈l,iT n)→eL (oq p l)=bh p l
 |[],_,_=>rfl
 |n::l,p,hf=>by
  have hn:=hf n List.mem_cons_self
  obtain⟨q,hq,h1,h3⟩:=lA hn.ok
  have ih:=t6 l (p+n.frame.length) fun m hm=>hf m (List.mem_cons_of_mem _ hm)
  unfold eL at ih ⊢
  unfold oq bh
  rw[List.flatMap_cons,ih]
  have hk:((oI p n).kind:Int)=n.kind:=by unfold oI;rw[hq];rfl
  have hb:(oI p n).b=fL n.kind n.ep n.nm n.m:=rfl
  rw[hk,hb,Bx hn.ok hn.ep hn.uid,cond_true]
  have e:em (oI p n).kind (oI p n).at_ (fL n.kind n.ep n.nm n.m)=n.at_ p:=by
   obtain⟨_,_,_,d0,d1,f0,f1⟩:=iA hn.ok
   unfold em
   rw[hk,uk hn.ep,uo hn.ok hn.ep hn.uid,ul hn.ok hn.ep hn.uid,un hn.ok hn.ep hn.uid,uq hn.ok hn.ep hn.uid]
   show aX.mk n.kind n.ep n.nm n.m.uid ((n.m.date.toNat:Nat):Int) ((n.m.flags.toNat:Nat):Int) n.m.b p=_
   rw[Int.toNat_of_nonneg d0,Int.toNat_of_nonneg f0]
   rfl
  rw[e]
  rfl
theorem FB (l:List ak) (hf:∀n∈l,iT n):cM (bA l)=bh 0 l∧(gP (bA l)).2=(bA l).length:=by
 have h:=pm (b:=bA l) (r:=[]) l 0 0 [] hf (by simp)
 rw[dy (at_:=0+(bA l).length) (by omega)] at h
 unfold cM gP
 rw[h]
 refine⟨by rw[List.nil_append];exact t6 l 0 hf, ?_⟩
 show(if l=[] then 0 else 0+(bA l).length)=_
 split
 ·rename_i h;rw[h];rfl
 ·omega
theorem xD (b:List UInt8):∀x∈cM b,m6 x:=by
 intro x hx
 unfold cM eL at hx
 obtain⟨r,_,hr⟩:=List.mem_flatMap.1 hx
 cases hd:bk (r.kind:Int) r.b with
 |false=>rw[hd] at hr;cases hr
 |true=>
  rw[hd,cond_true,List.mem_singleton] at hr
  subst hr
  exact(kG hd).1
def oA (u:Nat):aU:=⟨u,0,0,none,0,[]⟩
def fz (nm:ByteArray) (ep:Nat):ak:=⟨1,ep,nm,oA 0⟩
def dB (nm:ByteArray) (ep:Nat) (m:aU):ak:=⟨2,ep,nm,m⟩
def iB (ep u:Nat):ak:=⟨3,ep,⟨#[]⟩,oA u⟩
def dc (a:Nat) (l:List aU):Nat:=((l.getLast?).map aU.uid).getD a
theorem qr (a:Nat) (n:aU) (l:List aU):dc a (n::l)=dc n.uid l:=by
 unfold dc
 cases l with
 |nil=>rfl
 |cons m r=>rw[List.getLast?_cons_cons];simp[List.getLast?_cons]
theorem mg (a:Nat) (l:List aU) (n:aU):dc a (l++[n])=n.uid:=by
 unfold dc
 rw[List.getLast?_concat]
 rfl
def kh (ep nx last:Nat):List ak:=if aW last<nx then[iB ep (nx - 1)] else[]
def dS (nm:ByteArray) (ep nx:Nat) (l:List aU):List ak:=fz nm ep::(l.map (dB nm ep)++kh ep nx (dc 0 l))
def dk (nx:Nat):Nat→List aU→Bool
 |_,[]=>true
 |last,m::r=>decide (last<m.uid)&&(decide (m.uid<nx)||nx==4294967295)&&dk nx m.uid r
def Cm (n:ak):Bool:=af n.kind n.ep n.nm n.m
def dE (nm:ByteArray) (ep nx:Nat) (l:List aU):Bool:=dk nx 0 l&&(dS nm ep nx l).all Cm
def wD (m:aU):Bool:=gD m.date m.flags&&decide (m.b.length≤20000)
theorem mD {nx:Nat}:∀{a:Nat} {l:List aU},dk nx a l=true→∀m∈l,a<m.uid∧m.uid≤dc a l∧(m.uid<nx∨nx=4294967295)
 |_,[],_,m,h=>by cases h
 |a,x::r,h,m,hm=>by
  unfold dk at h
  simp only[Bool.and_eq_true,Bool.or_eq_true,decide_eq_true_eq,beq_iff_eq] at h
  obtain⟨⟨h1,h2⟩,h3⟩:=h
  rw[qr]
  rcases List.mem_cons.1 hm with e|hm
  ·subst e
   refine⟨h1, ?_,h2⟩
   cases r with
   |nil=>exact Nat.le_refl _
   |cons y r=>have h4:=mD h3 y List.mem_cons_self;omega
  ·have h4:=mD h3 m hm
   exact⟨by omega,h4.2⟩
theorem qK (u:Nat):1≤aW u:=by unfold aW;split<;>omega
theorem GH (nm:ByteArray) (ep:Nat):Cm (fz nm ep)=(decide (1≤ep)&&ba nm):=by
 unfold Cm fz af oA kX
 simp
theorem BS (nm:ByteArray) (ep:Nat) (m:aU):Cm (dB nm ep m)=(decide (1≤ep)&&(ba nm&&(decide (1≤m.uid)&&wD m))):=by
 unfold Cm dB af kZ wD
 simp
theorem Ee (ep u:Nat):Cm (iB ep u)=(decide (1≤ep)&&decide (1≤u)):=by
 unfold Cm iB af oA kX
 simp[ByteArray.toList_eq]
theorem Ef {ep nx last:Nat} (h:1≤ep):(kh ep nx last).all Cm=true:=by
 unfold kh
 split
 ·have:=qK last
  rw[List.all_cons,Ee]
  simp
  omega
 ·rfl
theorem rz (nm:ByteArray) (ep nx:Nat) (l:List aU):dE nm ep nx l=(ba nm&&decide (1≤ep)&&(dk nx 0 l&&l.all wD)):=by
 unfold dE dS
 rw[List.all_cons,List.all_append,GH,List.all_map]
 cases hr:dk nx 0 l with
 |false=>simp
 |true=>
  by_cases he:1≤ep
  ·rw[Ef he]
   have e:l.all (Cm∘dB nm ep)=l.all fun m=>ba nm&&wD m:=by
    rw[Bool.eq_iff_iff,List.all_eq_true,List.all_eq_true]
    have hp:=mD hr
    constructor
    ·intro h m hm
     have:=h m hm
     rw[Function.comp,BS] at this
     simp only[Bool.and_eq_true,decide_eq_true_eq] at this ⊢
     exact⟨this.2.1,this.2.2.2⟩
    ·intro h m hm
     have:=h m hm
     rw[Function.comp,BS]
     simp only[Bool.and_eq_true,decide_eq_true_eq] at this ⊢
     exact⟨he,this.1,by have:=(hp m hm).1;omega,this.2⟩
   rw[e]
   cases ba nm<;>simp[he]
  ·simp[he]
theorem ni {nm:ByteArray} {ep nx:Nat} {l:List aU} (h:dE nm ep nx l=true) (he:ep<4294967296) (hx:nx<4294967296) (hu:∀m∈l,m.uid<4294967296):∀n∈dS nm ep nx l,iT n:=by
 intro n hn
 unfold dE at h
 rw[Bool.and_eq_true,List.all_eq_true] at h
 have h1:=h.2 n hn
 have h2:n.ep<4294967296∧n.m.uid<4294967296:=by
  unfold dS at hn
  rcases List.mem_cons.1 hn with e|hn
  ·subst e;exact⟨he,by show 0<_;omega⟩
  ·rcases List.mem_append.1 hn with hn|hn
   ·obtain⟨m,hm,rfl⟩:=List.mem_map.1 hn
    exact⟨he,hu m hm⟩
   ·unfold kh at hn
    split at hn
    ·rw[List.mem_singleton] at hn
     subst hn
     exact⟨he,by show nx - 1<_;omega⟩
    ·cases hn
 exact⟨h1,h2.1,h2.2⟩
theorem tv (nm:ByteArray) (ep:Nat):∀(l:List aU) (p x:Nat) (L:List aX),(bh p (l.map (dB nm ep))).foldl dU ⟨nm,ep,x,L⟩=⟨nm,ep,l.foldl (fun x m=>max x (aW m.uid)) x,L++bh p (l.map (dB nm ep))⟩
 |[],p,x,L=>by unfold bh;simp
 |m::l,p,x,L=>by
  rw[List.map_cons]
  unfold bh
  rw[List.foldl_cons]
  have e:dU ⟨nm,ep,x,L⟩ ((dB nm ep m).at_ p)=⟨nm,ep,max x (aW m.uid),L++[(dB nm ep m).at_ p]⟩:=by
   unfold dU vN pT du ak.at_ dB
   simp
  rw[e,tv nm ep l,List.foldl_cons,List.append_assoc]
  rfl
theorem BR {nx:Nat}:∀{a:Nat} {l:List aU},(∀m∈l,m.uid<4294967296)→dk nx a l=true→l.foldl (fun x m=>max x (aW m.uid)) (aW a)=aW (dc a l)
 |_,[],_,_=>rfl
 |a,x::r,hu,h=>by
  unfold dk at h
  simp only[Bool.and_eq_true,decide_eq_true_eq] at h
  have hx:=hu x List.mem_cons_self
  rw[List.foldl_cons,qr]
  have e:max (aW a) (aW x.uid)=aW x.uid:=by
   unfold aW
   split<;>split<;>omega
  rw[e]
  exact BR (fun m hm=>hu m (List.mem_cons_of_mem _ hm)) h.2
theorem sb {nm:ByteArray} {ep:Nat}:∀(p:Nat) (l:List aU),(bh p (l.map (dB nm ep))).map dF=l.map fun m=>(m.uid,m.date,m.flags,m.b)
 |_,[]=>rfl
 |p,x::r=>by
  rw[List.map_cons]
  unfold bh
  rw[List.map_cons,sb _ r,List.map_cons]
  rfl
theorem yb {nm:ByteArray} {ep:Nat} {x:aX}:∀{p:Nat} {l:List aU},x∈bh p (l.map (dB nm ep))→∃m∈l,x.u=m.uid
 |_,[],h=>by cases h
 |p,y::r,h=>by
  rw[List.map_cons] at h
  unfold bh at h
  rcases List.mem_cons.1 h with e|h
  ·subst e;exact⟨y,List.mem_cons_self,rfl⟩
  ·obtain⟨m,hm,e⟩:=yb h
   exact⟨m,List.mem_cons_of_mem _ hm,e⟩
theorem lO :∀(p:Nat) (l r:List ak),bh p (l++r)=bh p l++bh (p+(bA l).length) r
 |p,[],r=>rfl
 |p,n::l,r=>by
  show n.at_ p::bh (p+n.frame.length) (l++r)=n.at_ p::(bh (p+n.frame.length) l++bh (p+(bA (n::l)).length) r)
  rw[lO _ l r]
  unfold bA
  rw[List.flatMap_cons,List.length_append,Nat.add_assoc]
end Go.Proofs.YtclcfkaphlopeaaGreatDoor
