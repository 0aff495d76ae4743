/-
  Walks by facts on slots: a whole array, or struct, is loaded, stored, answered, whatever its cells.
-/
import Derived.Test.YtclcfkaphlopeaaGreatDoorRepb
import Derived.Lib.SlBytesConst
set_option linter.unusedSimpArgs false
set_option linter.unusedVariables false
set_option maxRecDepth 100000
set_option maxHeartbeats 16000000
namespace Go.Proofs.YtclcfkaphlopeaaGreatDoor
open Go Go.RowKit
def u9 (d:TypeDesc):Bool:=match d with| .struct _| .array _ _=>true|_=>false
section
variable {P:Program} {Q:Exit→Act→World→Prop} {a:Act} {w w':World} {n:Nat} {Γ:oR} {l rest:List Oper} {o:Oper} {t:Nat} {v:Value} {ev:Operand→Value} {g k:Nat} {T T':TypeId} {cs:List Value} {d:TypeDesc}
theorem vk (K:aI w g T cs.toArray) (hu:P.underlying T'=some d) (hd:u9 d=true) (hi:(P.info? T').map (·.size)=some k) (hk:cs.length=k):(loadVar T' ⟨g,0,none⟩).run P w= .ok (.agg cs.toArray) w:=
 run_loadVar_row w g T T' cs.toArray (0,0) d K hu (by cases d<;>first|rfl|(cases hd)) (by rw[hi,List.size_toArray,hk])
theorem fa {x:Operand} (K:aI w g T cs.toArray) (hu:P.underlying T'=some d) (hd:u9 d=true) (hi:(P.info? T').map (·.size)=some k) (hk:cs.length=k) (ho:o.op= .load T' x) (hx:ev x= .pointer (some ⟨g,0,none⟩)):(execOp ev o).run P w= .ok (.value (.agg cs.toArray)) w:=by
 have h:=vk K hu hd hi hk
 unfold execOp
 simp only[ho]
 simp[Instr.loadAt,Instr.sureAddr,hx,h,Result.andThen]
theorem dZ.setRow {cs:Array Value}:dZ g w (w.setRow g cs):=⟨rfl,rfl,rfl,by unfold World.setRow;simp,fun i hi=>by
 unfold World.setRow
 simp only[Array.getElem?_modify]
 rw[if_neg (fun e=>hi e.symm)]⟩
theorem di {x y:Operand} {z:List Value} (cs:List Value) (hA:At n Γ a) (hg:o.guard=none) (hd:o.dst=none) (K:aI w g T z.toArray) (hz:z.length=k) (hk:cs.length=k) (hi:(P.info? T').map (·.size)=some k) (h1:cs.all (·.oneCell')=true) (ho:o.op= .store T' x y)
 (hx:∀ev,gT Γ ev→ev x= .pointer (some ⟨g,0,none⟩)∧ev y= .agg cs.toArray)
 (hk':∀w1,aI w1 g T cs.toArray→dZ g w w1→wpList P l.toArray Q rest a w1):wpList P l.toArray Q (o::rest) a w:=by
 refine jP hA hg hd (fun ev h=> ?_) (hk' (w.setRow g cs.toArray) (setRow_heap w g _ _ T _ K) dZ.setRow)
 obtain⟨hx1,hx2⟩:=hx ev h
 have hs:=run_storeVar_row (P:=P) w g T T' z.toArray cs.toArray K (by rw[hi,List.size_toArray,hk]) (by simp;omega) (by simpa using h1)
 unfold execOp
 simp only[ho]
 simp[Instr.storeAt,Instr.sureAddr,hx1,hx2,hs,Result.andThen]
theorem uu {fn:Func} {t:Nat} {arr:Array Value} (hr:fn.results=#[.cell t T']) (ht:arr.getD t undef= .pointer (some ⟨g,0,none⟩)) (K:aI w g T cs.toArray) (hu:P.underlying T'=some d) (hd:u9 d=true) (hi:(P.info? T').map (·.size)=some k) (hk:cs.length=k):(results fn arr).run P w= .ok (.agg cs.toArray) w:=by
 have h:=vk K hu hd hi hk
 simp only[Array.getD_eq_getD_getElem?] at ht
 simp[results,hr,ht,asAddr,h]
theorem lW {fn:Func} {R:Ending→World→Prop} (hA:At n Γ a) (t:Nat) (hr:fn.results=#[.cell t T']) (hl:eX Γ t=some (.pointer (some ⟨g,0,none⟩))) (K:aI w g T cs.toArray) (hu:P.underlying T'=some d) (hd:u9 d=true) (hi:(P.info? T').map (·.size)=some k) (hk:cs.length=k) (hR:R (.returned (.agg cs.toArray)) w):bodyPost P fn R .ret a w:=
 ⟨hA.defers,_,uu hr (hA.getD t hl) K hu hd hi hk,hR⟩
def uQ :Operand→Value
 | .const v=>v
 |_=>undef
def Fp :Operand→Bool
 | .const _=>true
 |_=>false
theorem jH {Γ:oR} {parts:Array (Nat×Operand)} {v:Value} (hev:gT Γ ev) (ho:o.op= .build T parts) (hc:parts.all (fun p=>Fp p.2)=true) (hr:(Instr.build T (parts.map fun p=>(p.1,uQ p.2))).run P w= .ok v w):(execOp ev o).run P w= .ok (.value v) w:=by
 have e:(parts.map fun p=>(p.1,ev p.2))=parts.map fun p=>(p.1,uQ p.2):=by
  apply Array.map_congr_left
  intro p hp
  have h1:=(Array.all_eq_true_iff_forall_mem.1 hc) p hp
  obtain⟨i,x⟩:=p
  cases x with
  |const u=>exact congrArg _ (hev.c u)
  |_=>cases h1
 unfold execOp
 simp only[ho]
 have e2:(parts.map fun(x:Nat×Operand)=>match x with|(i,p)=>(i,ev p))=parts.map fun p=>(p.1,uQ p.2):=e
 simp[e2,hr]
end
end Go.Proofs.YtclcfkaphlopeaaGreatDoor
namespace Go.Proofs.YtclcfkaphlopeaaGreatDoor
open Go.RowKit
def dD (x:Nat):Value:= .int .u32 (x:Nat)
theorem F8 {n:Nat} (h1:1≤n) (h2:n≤31):bits .and .u64 (IntKind.u64.wrap (-(n:Int))) 31=((32 - n:Nat):Int):=by
 have hb:∀m:Fin 32,1≤m.1→bits .and .u64 (IntKind.u64.wrap (-(m.1:Int))) 31=((32 - m.1:Nat):Int):=by decide+kernel
 exact hb ⟨n,by omega⟩ h1
theorem GV (x n:Nat) (h:n≤32):IntKind.u32.wrap ((x:Int)*2^n)=((x<<<n%4294967296:Nat):Int):=by
 rw[IntKind.wrap_u32',Nat.shiftLeft_eq,Int.natCast_emod,Int.natCast_mul,Int.natCast_pow];rfl
theorem kT (x n:Nat):(x:Int)/2^n=((x>>>n:Nat):Int):=by
 rw[Nat.shiftRight_eq_div_pow,Int.natCast_ediv,Int.natCast_pow];rfl
theorem oK (x n:Nat) (m:Int) (hm:m= -(n:Int)) (hx:x<4294967296) (h1:1≤n) (h2:n≤31) (w:World):
 Calls Tryz.prog 148 #[.int .u32 (x:Nat), .int .i64 m] w fun ev w'=>ev= .returned (.int .u32 (cH x n:Nat))∧w'=w:=by
 obtain⟨q,hq⟩:∃q,32 - n=q:=⟨_,rfl⟩
 have hb:=F8 h1 h2
 rw[hq,←hm] at hb
 have hw:IntKind.u64.wrap (32 - (q:Int))=(n:Int):=by rw[IntWalk.u64_in _ (by omega)];omega
 have s1:Op.shift .shl .u32 (x:Int) .u64 (q:Int)=pure (.int .u32 ((x<<<q%4294967296:Nat):Int)):=by
  rw[shift_shl_any _ _ _ _ (by omega),show min (q:Int).toNat IntKind.u32.bits=q by show min (q:Int).toNat 32=q;omega,GV _ _ (by omega)]
 have s2:Op.shift .shr .u32 (x:Int) .u64 (n:Int)=pure (.int .u32 ((x>>>n:Nat):Int)):=by
  rw[shift_shr_any _ _ _ _ (by omega),show min (n:Int).toNat IntKind.u32.bits=n by show min (n:Int).toNat 32=n;omega,kT]
 have s4:=kT x n
 obtain⟨y,hy⟩:∃y,x<<<q%4294967296=y:=⟨_,rfl⟩
 obtain⟨z,hz⟩:∃z,x>>>n=z:=⟨_,rfl⟩
 have ly:y<4294967296:=by rw[←hy];exact Nat.mod_lt _ (by decide)
 have lz:z<4294967296:=by rw[←hz,Nat.shiftRight_eq_div_pow];exact Nat.lt_of_le_of_lt (Nat.div_le_self _ _) hx
 have hr:=Et (n:=n) hx
 rw[hq,hy,hz] at hr
 rw[hy] at s1
 rw[hz] at s2 s4
 have s3:=u32_or_nat y z ly lz
 rw[hr] at s3
 clear hy hz hr hq hm
 refine aK 17 Tryz.func148 rfl rfl (Nat.le_of_ble_eq_true rfl) ?_
 intro a hA;replace hA:=hA.norm
 refine wS (wR ?_)
 revert a;refine wo rfl rfl (by decide) (fun ev e h=>by simp[go_sem,h,hb,hw,s1,s2,s3,s4]<;>rfl) ?_;intro a hA
 replace hA:=hA.keepN [0,1]
 refine wN (nT (wS (wR ?_)))
 revert a;refine wo rfl rfl (by decide) (fun ev e h=>by simp[go_sem,h,hb,hw,s1,s2,s3,s4]<;>rfl) ?_;intro a hA
 refine a7 hA rfl rfl (by decide) (fun ev h=>by simp[go_sem,h.get 6 rfl,hb,hw,s1,s2,s3,s4];try first|exact⟨rfl,rfl⟩|rfl) fun a hA=> ?_
 revert a;(iterate 2 refine wo rfl rfl (by decide) (fun ev e h=>by simp[go_sem,h,hb,hw,s1,s2,s3,s4]<;>rfl) ?_);intro a hA
 replace hA:=hA.keepN [0,5]
 refine wN (nT (wS (wR ?_)))
 revert a;(iterate 9 refine wo rfl rfl (by decide) (fun ev e h=>by simp[go_sem,h,hb,hw,s1,s2,s3,s4]<;>rfl) ?_);intro a hA
 replace hA:=hA.keepN [4]
 refine wN (nT (wp_ret ?_))
 refine ab hA 4 rfl rfl ?_
 exact⟨rfl,rfl⟩
def bR (l:List Nat):List Value:=(l++List.replicate (64 - l.length) 0).map dD
theorem gM {l:List Nat} (h:l.length≤64):(bR l).length=64:=by unfold bR;simp;omega
theorem oN {l:List Nat} (h:l.length<64) (x:Nat):(bR l).set l.length (dD x)=bR (l++[x]):=by
 unfold bR
 have e:List.replicate (64 - l.length) 0=0::List.replicate (64 - (l++[x]).length) 0:=by
  rw[List.length_append,show 64 - l.length=(64 - (l.length+[x].length))+1 by simp;omega,List.replicate_succ]
 rw[e,List.map_append,List.map_cons,List.set_append_right _ _ (by simp),List.length_map,Nat.sub_self,List.set_cons_zero,List.append_assoc,List.map_append]
 simp
theorem jK {l:List Nat} {j:Nat} (h:j<l.length):(bR l)[j]?=some (dD (l.getD j 0)):=by
 unfold bR
 rw[List.getElem?_map,List.getElem?_append_left h,List.getD_eq_getElem?_getD,List.getElem?_eq_getElem h]
 rfl
theorem uy (l:List Nat):(bR l).all (·.oneCell')=true:=by
 unfold bR
 rw[List.all_map,List.all_eq_true]
 intro x _
 rfl
theorem mY {l:List Nat} {j:Nat} (h:l.length≤j) (h2:j<64):(bR l)[j]?=some (.int .u32 0):=by
 unfold bR
 rw[List.getElem?_map,List.getElem?_append_right h,List.getElem?_replicate,if_pos (by omega)]
 rfl
def jE (a b c d:Nat):Nat:=(a+vA b+c+vB d)%4294967296
theorem sS {l:List Nat} (h:l.length=64):bR l=l.map dD:=by unfold bR;rw[h];simp
theorem vF {w:World} {B n:Nat} {A:Option Addr} {l:List UInt8} (h:aE w B 1 A n (ar l)) (hl:l.length=n) (hn:0<n):∃ad,A=some ad∧ad.block<B∧∀j,j<n→w.cell? (ad.add j)=some (.int .u8 (((l.getD j 0).toNat:Nat):Int)):=by
 obtain⟨ad,e,hb,hc⟩:=h.2 hn
 exact⟨ad,e,hb,fun j hj=>hc j _ (by rw[dp,List.getD_eq_getElem?_getD,List.getElem?_eq_getElem (by omega)];rfl)⟩
theorem G5 (a b c d:UInt8):(a.toNat*16777216|||b.toNat*65536)|||c.toNat*256|||d.toNat=dL [a,b,c,d]:=by
 have h1:a.toNat*16777216|||b.toNat*65536=a.toNat*16777216+b.toNat*65536:=by
  rw[show a.toNat*16777216=(a.toNat)*2^24 by omega,←Nat.shiftLeft_eq,←Nat.shiftLeft_add_eq_or_of_lt (by have:=b.toNat_lt;omega)]
 have h2:(a.toNat*16777216+b.toNat*65536)|||c.toNat*256=a.toNat*16777216+b.toNat*65536+c.toNat*256:=by
  rw[show a.toNat*16777216+b.toNat*65536=(a.toNat*256+b.toNat)*2^16 by omega,←Nat.shiftLeft_eq,←Nat.shiftLeft_add_eq_or_of_lt (by have:=c.toNat_lt;omega)]
 have h3:(a.toNat*16777216+b.toNat*65536+c.toNat*256)|||d.toNat=a.toNat*16777216+b.toNat*65536+c.toNat*256+d.toNat:=by
  rw[show a.toNat*16777216+b.toNat*65536+c.toNat*256=(a.toNat*65536+b.toNat*256+c.toNat)*2^8 by omega,←Nat.shiftLeft_eq,←Nat.shiftLeft_add_eq_or_of_lt (by have:=d.toNat_lt;omega)]
 rw[h1,h2,h3]
 unfold dL
 simp
 omega
theorem Ba (b:List UInt8):∀n,∀x∈bT b n,x<4294967296
 |0,x,h=>by cases h
 |n+1,x,h=>by
  unfold bT at h
  rcases List.mem_append.1 h with h|h
  ·exact Ba b n x h
  ·rw[List.mem_singleton.1 h]
   split
   ·have h1:=jc ((b.drop (4*n)).take 4)
    have h2:((b.drop (4*n)).take 4).length≤4:=by rw[List.length_take];omega
    exact Nat.lt_of_lt_of_le h1 (Nat.le_trans (Nat.pow_le_pow_right (by omega) h2) (by decide))
   ·exact Nat.mod_lt _ (by decide)
theorem cU (b:List UInt8) (n j:Nat):(bT b n).getD j 0<4294967296:=by
 rw[List.getD_eq_getElem?_getD]
 cases h:(bT b n)[j]? with
 |none=>decide
 |some x=>exact Ba b n x (List.mem_of_getElem? h)
theorem G4 {b:List UInt8} {i:Nat} (h:4*i+3<b.length):jN b i=dL [b.getD (4*i) 0,b.getD (4*i+1) 0,b.getD (4*i+2) 0,b.getD (4*i+3) 0]:=by
 unfold jN
 congr 1
 simp only[List.getD_eq_getElem?_getD]
 rw[List.getElem?_eq_getElem (show 4*i<b.length by omega),List.getElem?_eq_getElem (show 4*i+1<b.length by omega),List.getElem?_eq_getElem (show 4*i+2<b.length by omega),List.getElem?_eq_getElem h]
 rw[List.drop_eq_getElem_cons (show 4*i<b.length by omega),List.take_succ_cons,List.drop_eq_getElem_cons (show 4*i+1<b.length by omega),List.take_succ_cons,List.drop_eq_getElem_cons (show 4*i+1+1<b.length by omega),List.take_succ_cons,List.drop_eq_getElem_cons (show 4*i+1+1+1<b.length by omega),List.take_succ_cons,List.take_zero]
 rfl
theorem ux (A:Option Addr) (c:Nat) (b:List UInt8) (hl:b.length=64) (w:World) (hr:aE w w.heap.size 1 A 64 (ar b)):
 Calls Tryz.prog 146 #[.slice A 64 c] w fun ev w'=>ev= .returned (.agg ((bT b 64).map dD).toArray)∧Below w.heap.size w w':=by
 refine aK 93 Tryz.func146 rfl rfl (Nat.le_of_ble_eq_true rfl) ?_
 intro a hA;replace hA:=hA.norm
 refine wS (wR ?_)
 refine aP hA rfl rfl (by decide) (fun ev h=>by simp[go_sem];try first|exact⟨rfl,rfl⟩|rfl) fun w1 a (K2:aI _ _ _ _) hz1 hb1 hA=> ?_
 obtain⟨g2,hg2⟩:∃g,w.heap.size=g:=⟨_,rfl⟩
 rw[hg2] at K2 hA
 replace K2:aI w1 g2 214 (bR []).toArray:=K2
 have HB:Below w.heap.size w w1:=hb1
 replace hA:=hA.keepN [0,2]
 refine wN (nT (wS (wR ?_)))
 refine aP hA rfl rfl (by decide) (fun ev h=>by simp[go_sem];try first|exact⟨rfl,rfl⟩|rfl) fun w2 a (K3:aI _ _ _ _) hz2 hb2 hA=> ?_
 replace HB:=HB.trans (hb2.mono HB.size)
 replace K2:=K2.below hb2 K2.lt
 obtain⟨g3,hg3⟩:∃g,w1.heap.size=g:=⟨_,rfl⟩
 rw[hg3] at K3 hA
 replace K3:aI w2 g3 214 (bR (bT b 0)).toArray:=K3
 have h23:g2≠g3:=by omega
 have h3:w.heap.size≤g3:=by omega
 replace hA:=hA.keepN [0,2,3]
 refine wN (nT (wS (wS (wR ?_))))
 revert a;refine wo rfl rfl (by decide) (fun ev e h=>by simp[go_sem,h]<;>rfl) ?_;intro a hA
 replace hA:=hA.keepN [0,2,3,10]
 refine wN (nT (wB ?_))
 refine aQ (fun k a wx=>∃(i:Nat),i+k=16∧At 93 [(0, .slice A 64 c),(2, .pointer (some ⟨g2,0,none⟩)),(3, .pointer (some ⟨g3,0,none⟩)),(10, .int .i64 (i:Nat))] a∧aI wx g2 214 (bR []).toArray∧aI wx g3 214 (bR (bT b i)).toArray∧Below w.heap.size w wx) (16) ?_ ?_
 ·exact⟨0,by omega,hA,K2,K3,HB⟩
 clear K2 K3 HB
 rintro k a wx ⟨i,hik,hA,K2,K3,HB⟩
 refine wS (wR ?_)
 revert a;refine wo rfl rfl (by decide) (fun ev e h=>by simp[go_sem,h]<;>rfl) ?_;intro a hA
 replace hA:=hA.keepN [0,2,3,10,11]
 refine wN (nT (wS ?_))
 refine aH hA 11 _ rfl (fun hq=> ?yL) (fun hq=> ?nL)
 case yL=>
  have hi:i<16:=by simp at hq;omega
  refine wp_skip (nT (wS (wB (wS (wR ?_)))))
  revert a;(iterate 2 refine wo rfl rfl (by decide) (fun ev e h=>by simp[go_sem,h]<;>rfl) ?_);intro a hA
  replace hA:=hA.keepN [0,2,3,4,10]
  refine wN (nT ?_)
  obtain⟨ad,rfl,had,hc⟩:=vF ((hr.below HB).more HB.size) hl (by omega)
  obtain⟨j0,hj0⟩:∃j,4*i=j:=⟨_,rfl⟩
  obtain⟨j1,hj1⟩:∃j,4*i+1=j:=⟨_,rfl⟩
  obtain⟨j2,hj2⟩:∃j,4*i+2=j:=⟨_,rfl⟩
  obtain⟨j3,hj3⟩:∃j,4*i+3=j:=⟨_,rfl⟩
  have w0:IntKind.i64.wrap (4*(i:Int))=(j0:Int):=by rw[IntWalk.i64_in _ (by omega)];omega
  have w1:IntKind.i64.wrap ((j0:Int)+1)=(j1:Int):=by rw[IntWalk.i64_in _ (by omega)];omega
  have w2:IntKind.i64.wrap ((j0:Int)+2)=(j2:Int):=by rw[IntWalk.i64_in _ (by omega)];omega
  have w3:IntKind.i64.wrap ((j0:Int)+3)=(j3:Int):=by rw[IntWalk.i64_in _ (by omega)];omega
  have hwd:(b.getD j0 0).toNat*16777216|||(b.getD j1 0).toNat*65536|||(b.getD j2 0).toNat*256|||(b.getD j3 0).toNat=jN b i:=by rw[G5,G4 (by omega),hj3,hj2,hj1,hj0]
  have c0:=hc j0 (by omega)
  have c1:=hc j1 (by omega)
  have c2:=hc j2 (by omega)
  have c3:=hc j3 (by omega)
  have l0:=(b.getD j0 0).toNat_lt
  have l1:=(b.getD j1 0).toNat_lt
  have l2:=(b.getD j2 0).toNat_lt
  have l3:=(b.getD j3 0).toNat_lt
  generalize (b.getD j0 0).toNat=x0 at*
  generalize (b.getD j1 0).toNat=x1 at*
  generalize (b.getD j2 0).toNat=x2 at*
  generalize (b.getD j3 0).toNat=x3 at*
  obtain⟨V,hV⟩:∃V,jN b i=V:=⟨_,rfl⟩
  rw[hV] at hwd
  have u0:∀x:Nat,x<256→IntKind.u32.wrap (x:Int)=(x:Int):=fun x h=>IntWalk.u32_in _ (by omega)
  have s24:IntKind.u32.wrap ((x0:Int)*16777216)=((x0*16777216:Nat):Int):=by rw[IntWalk.u32_in _ (by omega)];omega
  have s16:IntKind.u32.wrap ((x1:Int)*65536)=((x1*65536:Nat):Int):=by rw[IntWalk.u32_in _ (by omega)];omega
  have s8:IntKind.u32.wrap ((x2:Int)*256)=((x2*256:Nat):Int):=by rw[IntWalk.u32_in _ (by omega)];omega
  obtain⟨y0,hy0⟩:∃y,x0*16777216=y:=⟨_,rfl⟩
  obtain⟨y1,hy1⟩:∃y,x1*65536=y:=⟨_,rfl⟩
  obtain⟨y2,hy2⟩:∃y,x2*256=y:=⟨_,rfl⟩
  rw[hy0] at s24
  rw[hy1] at s16
  rw[hy2] at s8
  have o1:=u32_or_nat y0 y1 (by omega) (by omega)
  have lo1:y0|||y1<4294967296:=Nat.or_lt_two_pow (n:=32) (by omega) (by omega)
  have o2:=u32_or_nat (y0|||y1) y2 lo1 (by omega)
  have lo2:y0|||y1|||y2<4294967296:=Nat.or_lt_two_pow (n:=32) lo1 (by omega)
  have o3:=u32_or_nat (y0|||y1|||y2) x3 lo2 (by omega)
  rw[hy0,hy1,hy2] at hwd
  rw[hwd] at o3
  have jj:∀j:Nat,(0:Int)≤(j:Int):=fun j=>by omega
  have k0:(j0:Int)<64:=by omega
  have k1:(j1:Int)<64:=by omega
  have k2:(j2:Int)<64:=by omega
  have k3:(j3:Int)<64:=by omega
  have pD:=fun(wo:World) (hC:(fun wy=>Below wx.heap.size wx wy) wo)=>have q0:=(hC.cell (p:=ad.add j0) (by rw[aD];exact had)).trans c0;have q1:=(hC.cell (p:=ad.add j1) (by rw[aD];exact had)).trans c1;have q2:=(hC.cell (p:=ad.add j2) (by rw[aD];exact had)).trans c2;have q3:=(hC.cell (p:=ad.add j3) (by rw[aD];exact had)).trans c3;And.intro (q0) (And.intro (q1) (And.intro (q2) (q3)))
  refine aj 34 ?_
  simp only[List.take_succ_cons,List.take_zero,List.drop_succ_cons,List.drop_zero]
  refine ai hA ((.det ?dD0)::(.det ?dD1)::(.det ?dD2)::(.det ?dD3)::(.det ?dD4)::(.det ?dD5)::(.det ?dD6)::(.det ?dD7)::(.det ?dD8)::(.det ?dD9)::(.det ?dD10)::(.det ?dD11)::(.det ?dD12)::(.det ?dD13)::(.det ?dD14)::(.det ?dD15)::(.det ?dD16)::(.det ?dD17)::(.det ?dD18)::(.det ?dD19)::(.det ?dD20)::(.det ?dD21)::(.det ?dD22)::(.det ?dD23)::(.det ?dD24)::(.det ?dD25)::(.det ?dD26)::(.det ?dD27)::(.det ?dD28)::(.det ?dD29)::(.det ?dD30)::(.det ?dD31)::(.det ?dD32)::(.det ?dD33)::[]) [] (fun wy=>Below wx.heap.size wx wy) (aG [] aA) (by kernel_rfl) rfl (by kernel_rfl) (by kernel_rfl) rfl (by kernel_rfl) (by kernel_rfl) (by kernel_rfl) (by kernel_rfl) ((Below.refl _ _).drew) (bF [] (true::true::true::true::true::true::true::true::true::true::true::true::true::true::true::true::true::true::true::true::true::true::true::true::true::true::true::true::true::true::true::true::true::true::[]) (true::true::true::true::true::true::true::true::true::true::true::true::true::true::true::true::true::true::true::true::true::true::true::true::true::true::true::true::true::true::true::true::true::true::[]) [] rfl rfl rfl (by kernel_rfl) ⟨trivial,trivial,trivial,trivial,trivial,trivial,trivial,trivial,trivial,trivial,trivial,trivial,trivial,trivial,trivial,trivial,trivial,trivial,trivial,trivial,trivial,trivial,trivial,trivial,trivial,trivial,trivial,trivial,trivial,trivial,trivial,trivial,trivial,trivial,trivial⟩ trivial) (fun _ h=>by cases h) (fun _ _ _ _ _ h=>by cases h) (fun _ h=>by cases h) ⟨?oD0, ?oD1, ?oD2, ?oD3, ?oD4, ?oD5, ?oD6, ?oD7, ?oD8, ?oD9, ?oD10, ?oD11, ?oD12, ?oD13, ?oD14, ?oD15, ?oD16, ?oD17, ?oD18, ?oD19, ?oD20, ?oD21, ?oD22, ?oD23, ?oD24, ?oD25, ?oD26, ?oD27, ?oD28, ?oD29, ?oD30, ?oD31, ?oD32, ?oD33,trivial⟩ (by kernel_rfl) ?fD
  case oD0=>intro ev wo hev hC hs hph;have x0:=se hA hs 4;exact od rfl rfl (by kernel_rfl) hC (aG.of rfl (aA.refl _)) (by simp[go_sem,x0,w0,w1,w2,w3,jj,k0,k1,k2,k3,u0 _ l0,u0 _ l1,u0 _ l2,u0 _ l3,s24,s16,s8,o1,o2,o3]<;>rfl)
  case oD1=>intro ev wo hev hC hs hph;have x0:=se hA hs 0;exact od rfl rfl (by kernel_rfl) hC (aG.of rfl (aA.refl _)) (by simp[go_sem,x0,w0,w1,w2,w3,jj,k0,k1,k2,k3,u0 _ l0,u0 _ l1,u0 _ l2,u0 _ l3,s24,s16,s8,o1,o2,o3]<;>rfl)
  case oD2=>intro ev wo hev hC hs hph;have x0:=se hA hs 4;exact od rfl rfl (by kernel_rfl) hC (aG.of rfl (aA.refl _)) (by simp[go_sem,x0,w0,w1,w2,w3,jj,k0,k1,k2,k3,u0 _ l0,u0 _ l1,u0 _ l2,u0 _ l3,s24,s16,s8,o1,o2,o3]<;>rfl)
  case oD3=>intro ev wo hev hC hs hph;have x0:=sd hs 15 2;exact od rfl rfl (by kernel_rfl) hC (aG.of rfl (aA.refl _)) (by simp[go_sem,x0,hev.const,w0,w1,w2,w3,jj,k0,k1,k2,k3,u0 _ l0,u0 _ l1,u0 _ l2,u0 _ l3,s24,s16,s8,o1,o2,o3]<;>rfl)
  case oD4=>intro ev wo hev hC hs hph;have x0:=sd hs 14 1;have x1:=sd hs 16 3;exact od rfl rfl (by kernel_rfl) hC (aG.of rfl (aA.refl _)) (by simp[go_sem,x0,x1,w0,w1,w2,w3,jj,k0,k1,k2,k3,u0 _ l0,u0 _ l1,u0 _ l2,u0 _ l3,s24,s16,s8,o1,o2,o3]<;>rfl)
  case oD5=>intro ev wo hev hC hs hph;have x0:=sd hs 17 4;exact od rfl rfl (by kernel_rfl) hC (aG.of rfl (aA.refl _)) (by simp[go_sem,x0,pD _ hC,w0,w1,w2,w3,jj,k0,k1,k2,k3,u0 _ l0,u0 _ l1,u0 _ l2,u0 _ l3,s24,s16,s8,o1,o2,o3]<;>rfl)
  case oD6=>intro ev wo hev hC hs hph;have x0:=sd hs 18 5;exact od rfl rfl (by kernel_rfl) hC (aG.of rfl (aA.refl _)) (by simp[go_sem,x0,w0,w1,w2,w3,jj,k0,k1,k2,k3,u0 _ l0,u0 _ l1,u0 _ l2,u0 _ l3,s24,s16,s8,o1,o2,o3]<;>rfl)
  case oD7=>intro ev wo hev hC hs hph;have x0:=sd hs 19 6;exact od rfl rfl (by kernel_rfl) hC (aG.of rfl (aA.refl _)) (by simp[go_sem,x0,hev.const,w0,w1,w2,w3,jj,k0,k1,k2,k3,u0 _ l0,u0 _ l1,u0 _ l2,u0 _ l3,s24,s16,s8,o1,o2,o3]<;>rfl)
  case oD8=>intro ev wo hev hC hs hph;have x0:=se hA hs 0;exact od rfl rfl (by kernel_rfl) hC (aG.of rfl (aA.refl _)) (by simp[go_sem,x0,w0,w1,w2,w3,jj,k0,k1,k2,k3,u0 _ l0,u0 _ l1,u0 _ l2,u0 _ l3,s24,s16,s8,o1,o2,o3]<;>rfl)
  case oD9=>intro ev wo hev hC hs hph;have x0:=se hA hs 4;exact od rfl rfl (by kernel_rfl) hC (aG.of rfl (aA.refl _)) (by simp[go_sem,x0,w0,w1,w2,w3,jj,k0,k1,k2,k3,u0 _ l0,u0 _ l1,u0 _ l2,u0 _ l3,s24,s16,s8,o1,o2,o3]<;>rfl)
  case oD10=>intro ev wo hev hC hs hph;have x0:=sd hs 22 9;exact od rfl rfl (by kernel_rfl) hC (aG.of rfl (aA.refl _)) (by simp[go_sem,x0,hev.const,w0,w1,w2,w3,jj,k0,k1,k2,k3,u0 _ l0,u0 _ l1,u0 _ l2,u0 _ l3,s24,s16,s8,o1,o2,o3]<;>rfl)
  case oD11=>intro ev wo hev hC hs hph;have x0:=sd hs 23 10;exact od rfl rfl (by kernel_rfl) hC (aG.of rfl (aA.refl _)) (by simp[go_sem,x0,hev.const,w0,w1,w2,w3,jj,k0,k1,k2,k3,u0 _ l0,u0 _ l1,u0 _ l2,u0 _ l3,s24,s16,s8,o1,o2,o3]<;>rfl)
  case oD12=>intro ev wo hev hC hs hph;have x0:=sd hs 21 8;have x1:=sd hs 24 11;exact od rfl rfl (by kernel_rfl) hC (aG.of rfl (aA.refl _)) (by simp[go_sem,x0,x1,w0,w1,w2,w3,jj,k0,k1,k2,k3,u0 _ l0,u0 _ l1,u0 _ l2,u0 _ l3,s24,s16,s8,o1,o2,o3]<;>rfl)
  case oD13=>intro ev wo hev hC hs hph;have x0:=sd hs 25 12;exact od rfl rfl (by kernel_rfl) hC (aG.of rfl (aA.refl _)) (by simp[go_sem,x0,pD _ hC,w0,w1,w2,w3,jj,k0,k1,k2,k3,u0 _ l0,u0 _ l1,u0 _ l2,u0 _ l3,s24,s16,s8,o1,o2,o3]<;>rfl)
  case oD14=>intro ev wo hev hC hs hph;have x0:=sd hs 26 13;exact od rfl rfl (by kernel_rfl) hC (aG.of rfl (aA.refl _)) (by simp[go_sem,x0,w0,w1,w2,w3,jj,k0,k1,k2,k3,u0 _ l0,u0 _ l1,u0 _ l2,u0 _ l3,s24,s16,s8,o1,o2,o3]<;>rfl)
  case oD15=>intro ev wo hev hC hs hph;have x0:=sd hs 27 14;exact od rfl rfl (by kernel_rfl) hC (aG.of rfl (aA.refl _)) (by simp[go_sem,x0,hev.const,w0,w1,w2,w3,jj,k0,k1,k2,k3,u0 _ l0,u0 _ l1,u0 _ l2,u0 _ l3,s24,s16,s8,o1,o2,o3]<;>rfl)
  case oD16=>intro ev wo hev hC hs hph;have x0:=sd hs 20 7;have x1:=sd hs 28 15;exact od rfl rfl (by kernel_rfl) hC (aG.of rfl (aA.refl _)) (by simp[go_sem,x0,x1,w0,w1,w2,w3,jj,k0,k1,k2,k3,u0 _ l0,u0 _ l1,u0 _ l2,u0 _ l3,s24,s16,s8,o1,o2,o3]<;>rfl)
  case oD17=>intro ev wo hev hC hs hph;have x0:=se hA hs 0;exact od rfl rfl (by kernel_rfl) hC (aG.of rfl (aA.refl _)) (by simp[go_sem,x0,w0,w1,w2,w3,jj,k0,k1,k2,k3,u0 _ l0,u0 _ l1,u0 _ l2,u0 _ l3,s24,s16,s8,o1,o2,o3]<;>rfl)
  case oD18=>intro ev wo hev hC hs hph;have x0:=se hA hs 4;exact od rfl rfl (by kernel_rfl) hC (aG.of rfl (aA.refl _)) (by simp[go_sem,x0,w0,w1,w2,w3,jj,k0,k1,k2,k3,u0 _ l0,u0 _ l1,u0 _ l2,u0 _ l3,s24,s16,s8,o1,o2,o3]<;>rfl)
  case oD19=>intro ev wo hev hC hs hph;have x0:=sd hs 31 18;exact od rfl rfl (by kernel_rfl) hC (aG.of rfl (aA.refl _)) (by simp[go_sem,x0,hev.const,w0,w1,w2,w3,jj,k0,k1,k2,k3,u0 _ l0,u0 _ l1,u0 _ l2,u0 _ l3,s24,s16,s8,o1,o2,o3]<;>rfl)
  case oD20=>intro ev wo hev hC hs hph;have x0:=sd hs 32 19;exact od rfl rfl (by kernel_rfl) hC (aG.of rfl (aA.refl _)) (by simp[go_sem,x0,hev.const,w0,w1,w2,w3,jj,k0,k1,k2,k3,u0 _ l0,u0 _ l1,u0 _ l2,u0 _ l3,s24,s16,s8,o1,o2,o3]<;>rfl)
  case oD21=>intro ev wo hev hC hs hph;have x0:=sd hs 30 17;have x1:=sd hs 33 20;exact od rfl rfl (by kernel_rfl) hC (aG.of rfl (aA.refl _)) (by simp[go_sem,x0,x1,w0,w1,w2,w3,jj,k0,k1,k2,k3,u0 _ l0,u0 _ l1,u0 _ l2,u0 _ l3,s24,s16,s8,o1,o2,o3]<;>rfl)
  case oD22=>intro ev wo hev hC hs hph;have x0:=sd hs 34 21;exact od rfl rfl (by kernel_rfl) hC (aG.of rfl (aA.refl _)) (by simp[go_sem,x0,pD _ hC,w0,w1,w2,w3,jj,k0,k1,k2,k3,u0 _ l0,u0 _ l1,u0 _ l2,u0 _ l3,s24,s16,s8,o1,o2,o3]<;>rfl)
  case oD23=>intro ev wo hev hC hs hph;have x0:=sd hs 35 22;exact od rfl rfl (by kernel_rfl) hC (aG.of rfl (aA.refl _)) (by simp[go_sem,x0,w0,w1,w2,w3,jj,k0,k1,k2,k3,u0 _ l0,u0 _ l1,u0 _ l2,u0 _ l3,s24,s16,s8,o1,o2,o3]<;>rfl)
  case oD24=>intro ev wo hev hC hs hph;have x0:=sd hs 36 23;exact od rfl rfl (by kernel_rfl) hC (aG.of rfl (aA.refl _)) (by simp[go_sem,x0,hev.const,w0,w1,w2,w3,jj,k0,k1,k2,k3,u0 _ l0,u0 _ l1,u0 _ l2,u0 _ l3,s24,s16,s8,o1,o2,o3]<;>rfl)
  case oD25=>intro ev wo hev hC hs hph;have x0:=sd hs 29 16;have x1:=sd hs 37 24;exact od rfl rfl (by kernel_rfl) hC (aG.of rfl (aA.refl _)) (by simp[go_sem,x0,x1,w0,w1,w2,w3,jj,k0,k1,k2,k3,u0 _ l0,u0 _ l1,u0 _ l2,u0 _ l3,s24,s16,s8,o1,o2,o3]<;>rfl)
  case oD26=>intro ev wo hev hC hs hph;have x0:=se hA hs 0;exact od rfl rfl (by kernel_rfl) hC (aG.of rfl (aA.refl _)) (by simp[go_sem,x0,w0,w1,w2,w3,jj,k0,k1,k2,k3,u0 _ l0,u0 _ l1,u0 _ l2,u0 _ l3,s24,s16,s8,o1,o2,o3]<;>rfl)
  case oD27=>intro ev wo hev hC hs hph;have x0:=se hA hs 4;exact od rfl rfl (by kernel_rfl) hC (aG.of rfl (aA.refl _)) (by simp[go_sem,x0,w0,w1,w2,w3,jj,k0,k1,k2,k3,u0 _ l0,u0 _ l1,u0 _ l2,u0 _ l3,s24,s16,s8,o1,o2,o3]<;>rfl)
  case oD28=>intro ev wo hev hC hs hph;have x0:=sd hs 40 27;exact od rfl rfl (by kernel_rfl) hC (aG.of rfl (aA.refl _)) (by simp[go_sem,x0,hev.const,w0,w1,w2,w3,jj,k0,k1,k2,k3,u0 _ l0,u0 _ l1,u0 _ l2,u0 _ l3,s24,s16,s8,o1,o2,o3]<;>rfl)
  case oD29=>intro ev wo hev hC hs hph;have x0:=sd hs 41 28;exact od rfl rfl (by kernel_rfl) hC (aG.of rfl (aA.refl _)) (by simp[go_sem,x0,hev.const,w0,w1,w2,w3,jj,k0,k1,k2,k3,u0 _ l0,u0 _ l1,u0 _ l2,u0 _ l3,s24,s16,s8,o1,o2,o3]<;>rfl)
  case oD30=>intro ev wo hev hC hs hph;have x0:=sd hs 39 26;have x1:=sd hs 42 29;exact od rfl rfl (by kernel_rfl) hC (aG.of rfl (aA.refl _)) (by simp[go_sem,x0,x1,w0,w1,w2,w3,jj,k0,k1,k2,k3,u0 _ l0,u0 _ l1,u0 _ l2,u0 _ l3,s24,s16,s8,o1,o2,o3]<;>rfl)
  case oD31=>intro ev wo hev hC hs hph;have x0:=sd hs 43 30;exact od rfl rfl (by kernel_rfl) hC (aG.of rfl (aA.refl _)) (by simp[go_sem,x0,pD _ hC,w0,w1,w2,w3,jj,k0,k1,k2,k3,u0 _ l0,u0 _ l1,u0 _ l2,u0 _ l3,s24,s16,s8,o1,o2,o3]<;>rfl)
  case oD32=>intro ev wo hev hC hs hph;have x0:=sd hs 44 31;exact od rfl rfl (by kernel_rfl) hC (aG.of rfl (aA.refl _)) (by simp[go_sem,x0,w0,w1,w2,w3,jj,k0,k1,k2,k3,u0 _ l0,u0 _ l1,u0 _ l2,u0 _ l3,s24,s16,s8,o1,o2,o3]<;>rfl)
  case oD33=>intro ev wo hev hC hs hph;have x0:=sd hs 38 25;have x1:=sd hs 45 32;exact od rfl rfl (by kernel_rfl) hC (aG.of rfl (aA.refl _)) (by simp[go_sem,x0,x1,w0,w1,w2,w3,jj,k0,k1,k2,k3,u0 _ l0,u0 _ l1,u0 _ l2,u0 _ l3,s24,s16,s8,o1,o2,o3]<;>rfl)
  intro sg wf hC hph
  intro a hA
  replace hA:=hA.keepN [0,2,3,10,13,46]
  have K2f:=K2.below hC K2.lt
  have K3f:=K3.below hC K3.lt
  have HBf:=HB.trans (hC.mono HB.size)
  have hlen:(bT b i).length=i:=dh b i
  have hci:=mY (l:=bT b i) (j:=i) (by omega) (by omega)
  have ki:(i:Int)<64:=by omega
  revert a;refine wo rfl rfl (by decide) (fun ev e h=>by simp[go_sem,h,jj,ki,aS,hci]<;>rfl) ?_;intro a hA
  refine aq ((bR (bT b i)).set i (.int .u32 (V:Nat))) _ hA rfl rfl K3f (j:=i) (by rfl) (fun ev h=>by simp[go_sem,h.get 47 rfl,h.get 46 rfl,jj,ki,aS,hci,K3f.cell,K3f.frozen];try first|exact⟨rfl,rfl⟩|rfl) fun w5 (K3f:aI _ _ _ _) hs=> ?_
  have hwi:IntKind.i64.wrap ((i:Int)+1)=((i+1:Nat):Int):=by rw[IntWalk.i64_in _ (by omega)];omega
  replace hA:=hA.keepN [0,2,3,10]
  refine wN (nB (nT (wR ?_)))
  revert a;(iterate 2 refine wo rfl rfl (by decide) (fun ev e h=>by simp[go_sem,h,hwi]<;>rfl) ?_);intro a hA
  replace hA:=hA.keepN [0,2,3,10]
  refine wN (nT ?_)
  refine⟨k - 1,by omega,i+1,by omega,hA,hs.blk K2f h23, ?_,hs.below HBf h3⟩
  have e:=oN (l:=bT b i) (by omega) V
  rw[hlen] at e
  rw[show bT b (i+1)=bT b i++[V] by rw[←hV];show bT b i++_=_;rw[if_pos hi],←e]
  exact K3f
 case nL=>
  have hi:i=16:=by simp at hq;omega
  subst hi
  clear hr hik hq
  replace hA:=hA.keepN [2,3]
  refine wp_exit (xT (xT (xB (nT (wS (wS (wR ?_)))))))
  revert a;refine wo rfl rfl (by decide) (fun ev e h=>by simp[go_sem,h]<;>rfl) ?_;intro a hA
  replace hA:=hA.keepN [2,3,5]
  refine wN (nT (wB ?_))
  refine aQ (fun k a wx=>∃(i:Nat),i+k=64∧16≤i∧At 93 [(2, .pointer (some ⟨g2,0,none⟩)),(3, .pointer (some ⟨g3,0,none⟩)),(5, .int .i64 (i:Nat))] a∧aI wx g2 214 (bR []).toArray∧aI wx g3 214 (bR (bT b i)).toArray∧Below w.heap.size w wx) (48) ?_ ?_
  ·exact⟨16,by omega,by omega,hA,K2,K3,HB⟩
  clear K2 K3 HB
  rintro k a wx ⟨i,hik,hi16,hA,K2,K3,HB⟩
  refine wS (wS (wR ?_))
  revert a;(iterate 2 refine wo rfl rfl (by decide) (fun ev e h=>by simp[go_sem,h]<;>rfl) ?_);intro a hA
  replace hA:=hA.keepN [2,3,5,50]
  refine wN (nT ?_)
  refine aH hA 50 _ rfl (fun hq=> ?yM) (fun hq=> ?nM)
  case yM=>
   have hi:i<64:=by simp at hq;omega
   refine wp_skip (nT (wS (wB (wS ?_))))
   obtain⟨j15,hj15⟩:∃j,i - 15=j:=⟨_,rfl⟩
   obtain⟨j16,hj16⟩:∃j,i - 16=j:=⟨_,rfl⟩
   obtain⟨j7,hj7⟩:∃j,i - 7=j:=⟨_,rfl⟩
   obtain⟨j2,hj2⟩:∃j,i - 2=j:=⟨_,rfl⟩
   have w15:IntKind.i64.wrap ((i:Int) - 15)=(j15:Int):=by rw[IntWalk.i64_in _ (by omega)];omega
   have w16:IntKind.i64.wrap ((i:Int) - 16)=(j16:Int):=by rw[IntWalk.i64_in _ (by omega)];omega
   have w7:IntKind.i64.wrap ((i:Int) - 7)=(j7:Int):=by rw[IntWalk.i64_in _ (by omega)];omega
   have w2:IntKind.i64.wrap ((i:Int) - 2)=(j2:Int):=by rw[IntWalk.i64_in _ (by omega)];omega
   have hlen:(bT b i).length=i:=dh b i
   have c15:=jK (l:=bT b i) (j:=j15) (by omega)
   have c16:=jK (l:=bT b i) (j:=j16) (by omega)
   have c7:=jK (l:=bT b i) (j:=j7) (by omega)
   have c2:=jK (l:=bT b i) (j:=j2) (by omega)
   have hnx:kS (bT b i) i=jE ((bT b i).getD j16 0) ((bT b i).getD j15 0) ((bT b i).getD j7 0) ((bT b i).getD j2 0):=by unfold kS jE;rw[hj15,hj16,hj7,hj2]
   have l15:=cU b i j15
   have l16:=cU b i j16
   have l7:=cU b i j7
   have l2:=cU b i j2
   obtain⟨x15,hx15⟩:∃x,(bT b i).getD j15 0=x:=⟨_,rfl⟩
   obtain⟨x16,hx16⟩:∃x,(bT b i).getD j16 0=x:=⟨_,rfl⟩
   obtain⟨x7,hx7⟩:∃x,(bT b i).getD j7 0=x:=⟨_,rfl⟩
   obtain⟨x2,hx2⟩:∃x,(bT b i).getD j2 0=x:=⟨_,rfl⟩
   rw[hx15,hx16,hx7,hx2] at hnx
   rw[hx15] at c15 l15
   rw[hx16] at c16 l16
   rw[hx7] at c7 l7
   rw[hx2] at c2 l2
   clear hx15 hx16 hx7 hx2
   unfold dD at c15 c16 c7 c2
   have jj:∀j:Nat,(0:Int)≤(j:Int):=fun j=>by omega
   have k15:(j15:Int)<64:=by omega
   have k16:(j16:Int)<64:=by omega
   have k7:(j7:Int)<64:=by omega
   have k2:(j2:Int)<64:=by omega
   have pE:=fun(wo:World) (hC:(fun wy=>Below wx.heap.size wx wy) wo)=>have Kx:=K3.below hC K3.lt;And.intro (Kx.cell) (And.intro (c15) (c2))
   refine bi hA [(.det ?dE0),(.det ?dE1),(.det ?dE2),(.det ?dE3),(.det ?dE4),(.det ?dE5),(.det ?dE6),(.det ?dE7),(.det ?dE8),(.det ?dE9)] [] (fun wy=>Below wx.heap.size wx wy) (aG [] aA) (by kernel_rfl) rfl (by kernel_rfl) (by kernel_rfl) rfl ((Below.refl _ _).drew) (bF [] [true,true,true,true,true,true,true,true,true,true] [true,true,true,true,true,true,true,true,true,true] [] rfl rfl rfl (by kernel_rfl) ⟨trivial,trivial,trivial,trivial,trivial,trivial,trivial,trivial,trivial,trivial,trivial⟩ trivial) (fun _ h=>by cases h) (fun _ _ _ _ _ h=>by cases h) (fun _ h=>by cases h) ⟨?oE0, ?oE1, ?oE2, ?oE3, ?oE4, ?oE5, ?oE6, ?oE7, ?oE8, ?oE9,trivial⟩ (by kernel_rfl) ?fE
   case oE0=>intro ev wo hev hC hs hph;have x0:=se hA hs 5;exact od rfl rfl (by kernel_rfl) hC (aG.of rfl (aA.refl _)) (by simp[go_sem,x0,w15,w2,jj,k15,k2,aS]<;>rfl)
   case oE1=>intro ev wo hev hC hs hph;have x0:=sd hs 53 0;exact od rfl rfl (by kernel_rfl) hC (aG.of rfl (aA.refl _)) (by simp[go_sem,x0,hev.const,w15,w2,jj,k15,k2,aS]<;>rfl)
   case oE2=>intro ev wo hev hC hs hph;have x0:=se hA hs 3;have x1:=sd hs 54 1;exact od rfl rfl (by kernel_rfl) hC (aG.of rfl (aA.refl _)) (by simp[go_sem,x0,x1,w15,w2,jj,k15,k2,aS]<;>rfl)
   case oE3=>intro ev wo hev hC hs hph;have x0:=sd hs 55 2;exact od rfl rfl (by kernel_rfl) hC (aG.of rfl (aA.refl _)) (by simp[go_sem,x0,pE _ hC,w15,w2,jj,k15,k2,aS]<;>rfl)
   case oE4=>intro ev wo hev hC hs hph;have x0:=se hA hs 5;exact od rfl rfl (by kernel_rfl) hC (aG.of rfl (aA.refl _)) (by simp[go_sem,x0,w15,w2,jj,k15,k2,aS]<;>rfl)
   case oE5=>intro ev wo hev hC hs hph;have x0:=sd hs 57 4;exact od rfl rfl (by kernel_rfl) hC (aG.of rfl (aA.refl _)) (by simp[go_sem,x0,hev.const,w15,w2,jj,k15,k2,aS]<;>rfl)
   case oE6=>intro ev wo hev hC hs hph;have x0:=se hA hs 3;have x1:=sd hs 58 5;exact od rfl rfl (by kernel_rfl) hC (aG.of rfl (aA.refl _)) (by simp[go_sem,x0,x1,w15,w2,jj,k15,k2,aS]<;>rfl)
   case oE7=>intro ev wo hev hC hs hph;have x0:=sd hs 59 6;exact od rfl rfl (by kernel_rfl) hC (aG.of rfl (aA.refl _)) (by simp[go_sem,x0,pE _ hC,w15,w2,jj,k15,k2,aS]<;>rfl)
   case oE8=>intro ev wo hev hC hs hph;have x0:=sd hs 56 3;exact od rfl rfl (by kernel_rfl) hC (aG.of rfl (aA.refl _)) (by simp[go_sem,x0,w15,w2,jj,k15,k2,aS]<;>rfl)
   case oE9=>intro ev wo hev hC hs hph;have x0:=sd hs 60 7;exact od rfl rfl (by kernel_rfl) hC (aG.of rfl (aA.refl _)) (by simp[go_sem,x0,w15,w2,jj,k15,k2,aS]<;>rfl)
   intro sg wf hC hph
   intro a hA
   replace hA:=hA.keepN [2,3,5,6,7]
   refine nT ?_
   have K2f:=K2.below hC K2.lt
   have K3f:=K3.below hC K3.lt
   have HBf:=HB.trans (hC.mono HB.size)
   have r7:=ca x15 7
   have r18:=ca x15 18
   have r17:=ca x2 17
   have r19:=ca x2 19
   have s3:(x15:Int)/8=((sr x15 3:Nat):Int):=kT x15 3
   have s10:(x2:Int)/1024=((sr x2 10:Nat):Int):=kT x2 10
   have e1:=rr r7 r18
   have e2:=rr (gS r7 r18) (tt (n:=3) l15)
   have e3:=rr r17 r19
   have e4:=rr (gS r17 r19) (tt (n:=10) l2)
   refine wS (wR ?_)
   revert a;refine wo rfl rfl (by decide) (fun ev e h=>by simp[go_sem,h,s3,e1,e2,s10,e3,e4]<;>rfl) ?_;intro a hA
   refine aC hA rfl rfl (by decide) (fun ev h=>aB Tryz.func148 (by kernel_rfl) rfl (h.f _) (by first|(simp only[mL,h.get 61 rfl,h.c]<;>rfl)|(simp[mL,h.get 61 rfl,h.c,s3,e1,e2,s10,e3,e4]<;>rfl))) (oK x15 7 (-7) rfl l15 (by decide) (by decide) _) ?_
   rintro e wa ⟨rfl,rfl⟩
   refine⟨_,rfl,fun a hA=> ?_⟩
   revert a;refine wo rfl rfl (by decide) (fun ev e h=>by simp[go_sem,h,s3,e1,e2,s10,e3,e4]<;>rfl) ?_;intro a hA
   refine aC hA rfl rfl (by decide) (fun ev h=>aB Tryz.func148 (by kernel_rfl) rfl (h.f _) (by first|(simp only[mL,h.get 63 rfl,h.c]<;>rfl)|(simp[mL,h.get 63 rfl,h.c,s3,e1,e2,s10,e3,e4]<;>rfl))) (oK x15 18 (-18) rfl l15 (by decide) (by decide) _) ?_
   rintro e wa ⟨rfl,rfl⟩
   refine⟨_,rfl,fun a hA=> ?_⟩
   revert a;(iterate 5 refine wo rfl rfl (by decide) (fun ev e h=>by simp[go_sem,h,s3,e1,e2,s10,e3,e4]<;>rfl) ?_);intro a hA
   replace hA:=hA.keepN [2,3,5,7,8]
   refine wN (nT (wS (wR ?_)))
   revert a;refine wo rfl rfl (by decide) (fun ev e h=>by simp[go_sem,h,s3,e1,e2,s10,e3,e4]<;>rfl) ?_;intro a hA
   refine aC hA rfl rfl (by decide) (fun ev h=>aB Tryz.func148 (by kernel_rfl) rfl (h.f _) (by first|(simp only[mL,h.get 69 rfl,h.c]<;>rfl)|(simp[mL,h.get 69 rfl,h.c,s3,e1,e2,s10,e3,e4]<;>rfl))) (oK x2 17 (-17) rfl l2 (by decide) (by decide) _) ?_
   rintro e wa ⟨rfl,rfl⟩
   refine⟨_,rfl,fun a hA=> ?_⟩
   revert a;refine wo rfl rfl (by decide) (fun ev e h=>by simp[go_sem,h,s3,e1,e2,s10,e3,e4]<;>rfl) ?_;intro a hA
   refine aC hA rfl rfl (by decide) (fun ev h=>aB Tryz.func148 (by kernel_rfl) rfl (h.f _) (by first|(simp only[mL,h.get 71 rfl,h.c]<;>rfl)|(simp[mL,h.get 71 rfl,h.c,s3,e1,e2,s10,e3,e4]<;>rfl))) (oK x2 19 (-19) rfl l2 (by decide) (by decide) _) ?_
   rintro e wa ⟨rfl,rfl⟩
   refine⟨_,rfl,fun a hA=> ?_⟩
   revert a;(iterate 5 refine wo rfl rfl (by decide) (fun ev e h=>by simp[go_sem,h,s3,e1,e2,s10,e3,e4]<;>rfl) ?_);intro a hA
   replace hA:=hA.keepN [2,3,5,8,9]
   have pF:=fun(wo:World) (hC:(fun wy=>Below wa.heap.size wa wy) wo)=>have Kx:=K3f.below hC K3f.lt;And.intro (Kx.cell) (And.intro (c16) (c7))
   refine wN (nT ?_)
   refine aj 14 ?_
   simp only[List.take_succ_cons,List.take_zero,List.drop_succ_cons,List.drop_zero]
   refine ai hA [(.det ?dF0),(.det ?dF1),(.det ?dF2),(.det ?dF3),(.det ?dF4),(.det ?dF5),(.det ?dF6),(.det ?dF7),(.det ?dF8),(.det ?dF9),(.det ?dF10),(.det ?dF11),(.det ?dF12),(.det ?dF13)] [] (fun wy=>Below wa.heap.size wa wy) (aG [] aA) (by kernel_rfl) rfl (by kernel_rfl) (by kernel_rfl) rfl (by kernel_rfl) (by kernel_rfl) (by kernel_rfl) (by kernel_rfl) ((Below.refl _ _).drew) (bF [] [true,true,true,true,true,true,true,true,true,true,true,true,true,true] [true,true,true,true,true,true,true,true,true,true,true,true,true,true] [] rfl rfl rfl (by kernel_rfl) ⟨trivial,trivial,trivial,trivial,trivial,trivial,trivial,trivial,trivial,trivial,trivial,trivial,trivial,trivial,trivial⟩ trivial) (fun _ h=>by cases h) (fun _ _ _ _ _ h=>by cases h) (fun _ h=>by cases h) ⟨?oF0, ?oF1, ?oF2, ?oF3, ?oF4, ?oF5, ?oF6, ?oF7, ?oF8, ?oF9, ?oF10, ?oF11, ?oF12, ?oF13,trivial⟩ (by kernel_rfl) ?fF
   case oF0=>intro ev wo hev hC hs hph;have x0:=se hA hs 5;exact od rfl rfl (by kernel_rfl) hC (aG.of rfl (aA.refl _)) (by simp[go_sem,x0,w16,w7,jj,k16,k7,aS,bZ]<;>rfl)
   case oF1=>intro ev wo hev hC hs hph;have x0:=se hA hs 5;exact od rfl rfl (by kernel_rfl) hC (aG.of rfl (aA.refl _)) (by simp[go_sem,x0,w16,w7,jj,k16,k7,aS,bZ]<;>rfl)
   case oF2=>intro ev wo hev hC hs hph;have x0:=sd hs 78 1;exact od rfl rfl (by kernel_rfl) hC (aG.of rfl (aA.refl _)) (by simp[go_sem,x0,hev.const,w16,w7,jj,k16,k7,aS,bZ]<;>rfl)
   case oF3=>intro ev wo hev hC hs hph;have x0:=se hA hs 3;have x1:=sd hs 79 2;exact od rfl rfl (by kernel_rfl) hC (aG.of rfl (aA.refl _)) (by simp[go_sem,x0,x1,w16,w7,jj,k16,k7,aS,bZ]<;>rfl)
   case oF4=>intro ev wo hev hC hs hph;have x0:=sd hs 80 3;exact od rfl rfl (by kernel_rfl) hC (aG.of rfl (aA.refl _)) (by simp[go_sem,x0,pF _ hC,s3,e1,e2,s10,e3,e4,w16,w7,jj,k16,k7,aS,bZ]<;>rfl)
   case oF5=>intro ev wo hev hC hs hph;have x0:=se hA hs 8;exact od rfl rfl (by kernel_rfl) hC (aG.of rfl (aA.refl _)) (by simp[go_sem,x0,w16,w7,jj,k16,k7,aS,bZ]<;>rfl)
   case oF6=>intro ev wo hev hC hs hph;have x0:=sd hs 81 4;have x1:=sd hs 82 5;exact od rfl rfl (by kernel_rfl) hC (aG.of rfl (aA.refl _)) (by simp[go_sem,x0,x1,w16,w7,jj,k16,k7,aS,bZ]<;>rfl)
   case oF7=>intro ev wo hev hC hs hph;have x0:=se hA hs 5;exact od rfl rfl (by kernel_rfl) hC (aG.of rfl (aA.refl _)) (by simp[go_sem,x0,w16,w7,jj,k16,k7,aS,bZ]<;>rfl)
   case oF8=>intro ev wo hev hC hs hph;have x0:=sd hs 84 7;exact od rfl rfl (by kernel_rfl) hC (aG.of rfl (aA.refl _)) (by simp[go_sem,x0,hev.const,w16,w7,jj,k16,k7,aS,bZ]<;>rfl)
   case oF9=>intro ev wo hev hC hs hph;have x0:=se hA hs 3;have x1:=sd hs 85 8;exact od rfl rfl (by kernel_rfl) hC (aG.of rfl (aA.refl _)) (by simp[go_sem,x0,x1,w16,w7,jj,k16,k7,aS,bZ]<;>rfl)
   case oF10=>intro ev wo hev hC hs hph;have x0:=sd hs 86 9;exact od rfl rfl (by kernel_rfl) hC (aG.of rfl (aA.refl _)) (by simp[go_sem,x0,pF _ hC,s3,e1,e2,s10,e3,e4,w16,w7,jj,k16,k7,aS,bZ]<;>rfl)
   case oF11=>intro ev wo hev hC hs hph;have x0:=sd hs 83 6;have x1:=sd hs 87 10;exact od rfl rfl (by kernel_rfl) hC (aG.of rfl (aA.refl _)) (by simp[go_sem,x0,x1,w16,w7,jj,k16,k7,aS,bZ]<;>rfl)
   case oF12=>intro ev wo hev hC hs hph;have x0:=se hA hs 9;exact od rfl rfl (by kernel_rfl) hC (aG.of rfl (aA.refl _)) (by simp[go_sem,x0,w16,w7,jj,k16,k7,aS,bZ]<;>rfl)
   case oF13=>intro ev wo hev hC hs hph;have x0:=sd hs 88 11;have x1:=sd hs 89 12;exact od rfl rfl (by kernel_rfl) hC (aG.of rfl (aA.refl _)) (by simp[go_sem,x0,x1,w16,w7,jj,k16,k7,aS,bZ]<;>rfl)
   intro sg wf hC hph
   intro a hA
   replace hA:=hA.keepN [2,3,5,77,90]
   have K2g:=K2f.below hC K2f.lt
   have K3g:=K3f.below hC K3f.lt
   have HBg:=HBf.trans (hC.mono HBf.size)
   have hci:=mY (l:=bT b i) (j:=i) (by omega) (by omega)
   have ki:(i:Int)<64:=by omega
   obtain⟨V,hV⟩:∃V,kS (bT b i) i=V:=⟨_,rfl⟩
   have hVe:ad (ad (ad x16 (xo (xo (cH x15 7) (cH x15 18)) (sr x15 3))) x7) (xo (xo (cH x2 17) (cH x2 19)) (sr x2 10))=V:=by
    rw[←hV,hnx]
    unfold jE vA vB ad xo sr
    omega
   rw[hVe] at hA
   revert a;refine wo rfl rfl (by decide) (fun ev e h=>by simp[go_sem,h,jj,ki,aS,hci]<;>rfl) ?_;intro a hA
   refine aq ((bR (bT b i)).set i (.int .u32 (V:Nat))) _ hA rfl rfl K3g (j:=i) (by rfl) (fun ev h=>by simp[go_sem,h.get 91 rfl,h.get 90 rfl,jj,ki,aS,hci,K3g.cell,K3g.frozen];try first|exact⟨rfl,rfl⟩|rfl) fun w5 (K3g:aI _ _ _ _) hs=> ?_
   have hwi:IntKind.i64.wrap ((i:Int)+1)=((i+1:Nat):Int):=by rw[IntWalk.i64_in _ (by omega)];omega
   replace hA:=hA.keepN [2,3,5]
   refine wN (nB (nT (wR ?_)))
   revert a;(iterate 3 refine wo rfl rfl (by decide) (fun ev e h=>by simp[go_sem,h,hwi]<;>rfl) ?_);intro a hA
   replace hA:=hA.keepN [2,3,5]
   refine wN (nT ?_)
   refine⟨k - 1,by omega,i+1,by omega,by omega,hA,hs.blk K2g h23, ?_,hs.below HBg h3⟩
   have e:=oN (l:=bT b i) (by omega) V
   rw[hlen] at e
   rw[show bT b (i+1)=bT b i++[V] by rw[←hV];show bT b i++_=_;rw[if_neg (by omega)],←e]
   exact K3g
  case nM=>
   have hi:i=64:=by simp at hq;omega
   subst hi
   replace hA:=hA.keepN [2,3]
   refine wp_exit (xT (xT (xB (nT (wS (wR ?_))))))
   have h64:(bR (bT b 64)).length=64:=gM (Nat.le_of_eq (dh b 64))
   refine a7 hA rfl rfl (by decide) (fun ev h=>fa K3 Tryz.underlying214 rfl (by kernel_rfl) h64 rfl (h.get 3 rfl)) fun a hA=> ?_
   refine di (bR (bT b 64)) hA rfl rfl K2 (gM (l:=[]) (by decide)) h64 (by kernel_rfl) (uy _) rfl (fun ev h=>⟨h.get 2 rfl,h.get 92 rfl⟩) fun w6 (K2:aI _ _ _ _) hs=> ?_
   replace hA:=hA.keepN [2]
   refine wN (nT (wp_ret ?_))
   refine lW hA 2 rfl rfl K2 Tryz.underlying214 rfl (by kernel_rfl) h64 ?_
   exact⟨by rw[sS (dh b 64)],hs.below HB (by omega)⟩
structure dH.Ok (s:dH):Prop where
 a:s.a<4294967296
 b:s.b<4294967296
 c:s.c<4294967296
 d:s.d<4294967296
 e:s.e<4294967296
 f:s.f<4294967296
 g:s.g<4294967296
 h:s.h<4294967296
theorem AP {s:dH} (k w:Nat) (h:s.Ok):(jL k w s).Ok:=⟨Nat.mod_lt _ (by decide),h.a,h.b,h.c,Nat.mod_lt _ (by decide),h.e,h.f,h.g⟩
theorem jM {s:dH} (w:List Nat) (h:s.Ok):∀i,(dT w s i).Ok
 |0=>h
 |i+1=>AP _ _ (jM w h i)
theorem DG (s t:dH):(pH s t).Ok:=⟨Nat.mod_lt _ (by decide),Nat.mod_lt _ (by decide),Nat.mod_lt _ (by decide),Nat.mod_lt _ (by decide),Nat.mod_lt _ (by decide),Nat.mod_lt _ (by decide),Nat.mod_lt _ (by decide),Nat.mod_lt _ (by decide)⟩
def rA (t s:dH) (i:Nat):List Nat:=(List.range 8).map fun j=>if j<i then ad (t.l.getD j 0) (s.l.getD j 0) else t.l.getD j 0
theorem EZ {t s:dH} {i:Nat} (h:i<8):((rA t s i).map dD)[i]?=some (.int .u32 ((t.l.getD i 0:Nat):Int)):=by
 unfold rA
 rw[List.getElem?_map,List.getElem?_map,List.getElem?_range h]
 simp[dD]
theorem Gb {s:dH} {i:Nat} (h:i<8):(s.l.map dD)[i]?=some (.int .u32 ((s.l.getD i 0:Nat):Int)):=by
 rw[List.getElem?_map,List.getD_eq_getElem?_getD,List.getElem?_eq_getElem (show i<s.l.length from h)]
 rfl
theorem E0 {t s:dH} {i:Nat} (h:i<8):((rA t s i).map dD).set i (.int .u32 ((ad (t.l.getD i 0) (s.l.getD i 0):Nat):Int))=(rA t s (i+1)).map dD:=by
 have hc:i=0∨i=1∨i=2∨i=3∨i=4∨i=5∨i=6∨i=7:=by omega
 rcases hc with rfl|rfl|rfl|rfl|rfl|rfl|rfl|rfl<;>rfl
theorem rC (t s:dH) (i:Nat):((rA t s i).map dD).length=8:=by unfold rA;simp
theorem l_len (s:dH):(s.l.map dD).length=8:=rfl
theorem B9 :∀x∈fq,x<4294967296:=by decide
theorem GU {i:Nat} (h:i<64):(fq.map dD)[i]?=some (.int .u32 ((fq.getD i 0:Nat):Int)):=by
 rw[List.getElem?_map,List.getD_eq_getElem?_getD,List.getElem?_eq_getElem (show i<fq.length from h)]
 rfl
theorem kL (l:List Nat):(l.map dD).all (·.oneCell')=true:=by
 rw[List.all_map,List.all_eq_true]
 intro x _
 rfl
theorem IQ {a:Nat} (ha:a<4294967296):bits .xor .u32 (if IntKind.u32.signed=true then -1 else IntKind.u32.max) (a:Int)=((ug a:Nat):Int):=by
 have e:4294967295^^^a=ug a:=by
  apply Nat.eq_of_testBit_eq
  intro i
  have h1:(4294967295:Nat).testBit i=decide (i<32):=by
   have:=Nat.testBit_two_pow_sub_one 32 i
   simpa using this
  unfold ug
  rw[Nat.testBit_xor,h1,sm ha]
  by_cases hi:i<32
  ·simp[hi]
  ·have:a.testBit i=false:=Nat.testBit_lt_two_pow (Nat.lt_of_lt_of_le (show a<2^32 from ha) (Nat.pow_le_pow_right (by omega) (by omega)))
   simp[hi,this]
 have:=u32_xor_nat 4294967295 a (by decide) ha
 rw[e] at this
 exact this
theorem sT {va vb vc vd ve vf vg vh kk ww V1 V2:Nat} (hV1:ad (ad (ad (ad vh (xo (xo (cH ve 6) (cH ve 11)) (cH ve 25))) (xo (an ve vf) (an (ug ve) vg))) kk) ww=V1) (hV2:ad (xo (xo (cH va 2) (cH va 13)) (cH va 22)) (xo (xo (an va vb) (an va vc)) (an vb vc))=V2):
 (jL kk ww ⟨va,vb,vc,vd,ve,vf,vg,vh⟩).l.map dD=[.int .u32 (ad V1 V2:Nat), .int .u32 (va:Nat), .int .u32 (vb:Nat), .int .u32 (vc:Nat), .int .u32 (ad vd V1:Nat), .int .u32 (ve:Nat), .int .u32 (vf:Nat), .int .u32 (vg:Nat)]:=by
 have ea:(vh+uO ve+ik ve vf vg+kk+ww+Dj va+zl va vb vc)%4294967296=ad V1 V2:=by
  rw[←hV1,←hV2]
  unfold uO ik Dj zl ad xo an ug
  omega
 have eb:(vd+(vh+uO ve+ik ve vf vg+kk+ww))%4294967296=ad vd V1:=by
  rw[←hV1]
  unfold uO ik ad xo an ug
  omega
 unfold jL dH.l
 simp only[List.map_cons,List.map_nil]
 rw[ea,eb]
 rfl
theorem IX (t s:dH):(rA t s 0).map dD=t.l.map dD:=rfl
theorem IY (t s:dH):(rA t s 8).map dD=(pH t s).l.map dD:=by
 congr 1
theorem ia (x n:Nat) (m:Int) (hm:m= -(n:Int)) (hx:x<4294967296) (h1:1≤n) (h2:n≤31) (w:World):
 Calls Tryz.prog 148 #[.int .u32 (x:Nat), .int .i64 m] w fun ev w'=>ev= .returned (.int .u32 (cH x n:Nat))∧Below w.heap.size w w':=
 (oK x n m hm hx h1 h2 w).mono fun _ _ h=>⟨h.1,h.2▸Below.refl _ _⟩
theorem DJ (w:World):Calls Tryz.prog 147 #[] w fun ev w'=>ev= .returned (.agg (fq.map dD).toArray)∧Below w.heap.size w w':=by
 refine aK 2 Tryz.func147 rfl rfl (Nat.le_of_ble_eq_true rfl) ?_
 intro a hA;replace hA:=hA.norm
 refine wS (wR ?_)
 refine aP hA rfl rfl (by decide) (fun ev h=>by simp[go_sem];try first|exact⟨rfl,rfl⟩|rfl) fun w1 a (K0:aI _ _ _ _) hz0 hb0 hA=> ?_
 replace K0:aI w1 w.heap.size 214 (bR []).toArray:=K0
 replace hA:=hA.keepN [0]
 refine wN (nT (wS (wR ?_)))
 refine a7 hA rfl rfl (by decide) (fun ev h=>jH (v:= .agg (fq.map dD).toArray) h rfl (by kernel_rfl) (by kernel_rfl)) fun a hA=> ?_
 refine di (fq.map dD) hA rfl rfl K0 (gM (l:=[]) (by decide)) (rfl:(fq.map dD).length=64) (by kernel_rfl) (kL _) rfl (fun ev h=>⟨h.get 0 rfl,h.get 1 rfl⟩) fun w2 (K0:aI _ _ _ _) hs=> ?_
 replace hA:=hA.keepN [0]
 refine wN (nT (wp_ret ?_))
 refine lW hA 0 rfl rfl K0 Tryz.underlying214 rfl (by kernel_rfl) (rfl:(fq.map dD).length=64) ?_
 exact⟨rfl,hs.below hb0 (Nat.le_refl _)⟩
theorem Fz (s:dH) (hs0:s.Ok) (A:Option Addr) (c:Nat) (b:List UInt8) (hl:b.length=64) (w:World) (hr:aE w w.heap.size 1 A 64 (ar b)):
 Calls Tryz.prog 121 #[.agg (s.l.map dD).toArray, .slice A 64 c] w fun ev w'=>ev= .returned (.agg ((rh s b).l.map dD).toArray)∧Below w.heap.size w w':=by
 refine aK 111 Tryz.func121 rfl rfl (Nat.le_of_ble_eq_true rfl) ?_
 intro a hA;replace hA:=hA.norm
 refine wS (wR ?_)
 refine aP hA rfl rfl (by decide) (fun ev h=>by simp[go_sem,h.get 0 rfl];try first|exact⟨rfl,rfl⟩|rfl) fun w1 a (K2:aI _ _ _ _) hz1 hb1 hA=> ?_
 obtain⟨g2,hg2⟩:∃g,w.heap.size=g:=⟨_,rfl⟩
 rw[hg2] at K2 hA
 replace K2:aI w1 g2 185 (s.l.map dD).toArray:=K2
 have HB:Below w.heap.size w w1:=hb1
 refine aP hA rfl rfl (by decide) (fun ev h=>by simp[go_sem];try first|exact⟨rfl,rfl⟩|rfl) fun w2 a (K4:aI _ _ _ _) hz2 hb2 hA=> ?_
 replace HB:=HB.trans (hb2.mono HB.size)
 replace K2:=K2.below hb2 K2.lt
 obtain⟨g4,hg4⟩:∃g,w1.heap.size=g:=⟨_,rfl⟩
 rw[hg4] at K4 hA
 have h24:g2≠g4:=by omega
 have h4:w.heap.size≤g4:=by omega
 replace hA:=hA.keepN [1,2,4]
 refine wN (nT (wS (wR ?_)))
 revert a;refine wo rfl rfl (by decide) (fun ev e h=>by simp[go_sem,h]<;>rfl) ?_;intro a hA
 refine aC hA rfl rfl (by decide) (fun ev h=>aB Tryz.func146 (by kernel_rfl) rfl (h.f _) (by first|(simp only[mL,h.get 14 rfl,h.c]<;>rfl)|(simp[mL,h.get 14 rfl,h.c]<;>rfl))) (ux A c b hl _ ((hr.below HB).more HB.size)) ?_
 rintro e w3 ⟨rfl,hb3⟩
 refine⟨_,rfl,fun a hA=> ?_⟩
 replace HB:=HB.trans (hb3.mono HB.size)
 replace K2:=K2.below hb3 K2.lt
 replace K4:=K4.below hb3 K4.lt
 refine aC hA rfl rfl (by decide) (fun ev h=>aB Tryz.func147 (by kernel_rfl) rfl (h.f _) (by first|(simp only[mL,h.c]<;>rfl)|(simp[mL,h.c]<;>rfl))) (DJ _) ?_
 rintro e w4 ⟨rfl,hb4⟩
 refine⟨_,rfl,fun a hA=> ?_⟩
 replace HB:=HB.trans (hb4.mono HB.size)
 replace K2:=K2.below hb4 K2.lt
 replace K4:=K4.below hb4 K4.lt
 have HBw:=HB
 have h3g:w.heap.size≤w4.heap.size:=HB.size
 have l2:=K2.lt
 have l4:=K4.lt
 refine aP hA rfl rfl (by decide) (fun ev h=>by simp[go_sem];try first|exact⟨rfl,rfl⟩|rfl) fun w5 a (K5:aI _ _ _ _) hz5 hb5 hA=> ?_
 replace HB:=HB.trans (hb5.mono HB.size)
 replace K2:=K2.below hb5 K2.lt
 replace K4:=K4.below hb5 K4.lt
 obtain⟨g5,hg5⟩:∃g,w4.heap.size=g:=⟨_,rfl⟩
 rw[hg5] at K5 hA
 replace K5:aI w5 g5 214 (bR []).toArray:=K5
 have h25:g2<g5:=by omega
 have h45:g4<g5:=by omega
 refine aP hA rfl rfl (by decide) (fun ev h=>by simp[go_sem];try first|exact⟨rfl,rfl⟩|rfl) fun w6 a (K6:aI _ _ _ _) hz6 hb6 hA=> ?_
 replace HB:=HB.trans (hb6.mono HB.size)
 replace K2:=K2.below hb6 K2.lt
 replace K4:=K4.below hb6 K4.lt
 replace K5:=K5.below hb6 K5.lt
 obtain⟨g6,hg6⟩:∃g,w5.heap.size=g:=⟨_,rfl⟩
 rw[hg6] at K6 hA
 replace K6:aI w6 g6 214 (bR []).toArray:=K6
 have h56:g5<g6:=by omega
 have hB5:w.heap.size≤g5:=by omega
 have hW:((bT b 64).map dD).length=64:=by rw[List.length_map,dh]
 refine di ((bT b 64).map dD) hA rfl rfl K5 (gM (l:=[]) (by decide)) hW (by kernel_rfl) (kL _) rfl (fun ev h=>⟨h.get 5 rfl,h.get 15 rfl⟩) fun w7 (K5:aI _ _ _ _) hs5=> ?_
 replace K6:=hs5.blk K6 (by omega)
 replace K2:=hs5.blk K2 (by omega)
 replace K4:=hs5.blk K4 (by omega)
 replace HB:=hs5.below HB hB5
 refine di (fq.map dD) hA rfl rfl K6 (gM (l:=[]) (by decide)) (rfl:(fq.map dD).length=64) (by kernel_rfl) (kL _) rfl (fun ev h=>⟨h.get 6 rfl,h.get 16 rfl⟩) fun w8 (K6:aI _ _ _ _) hs6=> ?_
 replace K5:=hs6.blk K5 (by omega)
 replace K2:=hs6.blk K2 (by omega)
 replace K4:=hs6.blk K4 (by omega)
 replace HB:=hs6.below HB (by omega)
 replace hA:=hA.keepN [2,4,5,6]
 refine wN (nT (wS (wR ?_)))
 refine a7 hA rfl rfl (by decide) (fun ev h=>fa K2 Tryz.underlying185 rfl (by kernel_rfl) (l_len s) rfl (h.get 2 rfl)) fun a hA=> ?_
 have l6:=K6.lt
 refine aP hA rfl rfl (by decide) (fun ev h=>by simp[go_sem];try first|exact⟨rfl,rfl⟩|rfl) fun w9 a (K7:aI _ _ _ _) hz9 hb9 hA=> ?_
 replace HB:=HB.trans (hb9.mono HB.size)
 replace K2:=K2.below hb9 K2.lt
 replace K4:=K4.below hb9 K4.lt
 replace K5:=K5.below hb9 K5.lt
 replace K6:=K6.below hb9 K6.lt
 obtain⟨g7,hg7⟩:∃g,w8.heap.size=g:=⟨_,rfl⟩
 rw[hg7] at K7 hA
 have h67:g6<g7:=by omega
 refine di (s.l.map dD) hA rfl rfl K7 (by rfl) (l_len s) (by kernel_rfl) (kL _) rfl (fun ev h=>⟨h.get 7 rfl,h.get 17 rfl⟩) fun w10 (K7:aI _ _ _ _) hs7=> ?_
 replace K5:=hs7.blk K5 (by omega)
 replace K6:=hs7.blk K6 (by omega)
 replace K2:=hs7.blk K2 (by omega)
 replace K4:=hs7.blk K4 (by omega)
 replace HB:=hs7.below HB (by omega)
 obtain⟨W,hWe⟩:∃W,bT b 64=W:=⟨_,rfl⟩
 have hlW:W.length=64:=by rw[←hWe,dh]
 have hWlt:∀j,W.getD j 0<4294967296:=fun j=>by rw[←hWe];exact cU b 64 j
 have hcW:∀j,j<64→(W.map dD)[j]?=some (.int .u32 ((W.getD j 0:Nat):Int)):=fun j hj=>by
  rw[List.getElem?_map,List.getD_eq_getElem?_getD,List.getElem?_eq_getElem (by omega)]
  rfl
 have hfin:rh s b=pH (dT W s 64) s:=by unfold rh;rw[hWe]
 rw[hWe] at K5
 clear hs5 hs6 hs7 hb9 hb6 hb5 hb1 hb2 hb3 hb4 hWe hr
 replace hA:=hA.keepN [2,4,5,6,7]
 refine wN (nT (wS (wS (wR ?_))))
 revert a;refine wo rfl rfl (by decide) (fun ev e h=>by simp[go_sem,h]<;>rfl) ?_;intro a hA
 replace hA:=hA.keepN [2,4,5,6,7,18]
 refine wN (nT (wB ?_))
 refine aQ (fun k a wx=>∃(i:Nat),i+k=64∧At 111 [(2, .pointer (some ⟨g2,0,none⟩)),(4, .pointer (some ⟨g4,0,none⟩)),(5, .pointer (some ⟨g5,0,none⟩)),(6, .pointer (some ⟨g6,0,none⟩)),(7, .pointer (some ⟨g7,0,none⟩)),(18, .int .i64 (i:Nat))] a∧aI wx g2 185 (s.l.map dD).toArray∧aI wx g4 185 #[.int .u32 0, .int .u32 0, .int .u32 0, .int .u32 0, .int .u32 0, .int .u32 0, .int .u32 0, .int .u32 0]∧aI wx g5 214 (W.map dD).toArray∧aI wx g6 214 (fq.map dD).toArray∧aI wx g7 185 ((dT W s i).l.map dD).toArray∧Below w.heap.size w wx) (64) ?_ ?_
 ·exact⟨0,by omega,hA,K2,K4,K5,K6,K7,HB⟩
 clear K2 K4 K5 K6 K7 HB
 rintro k a wx ⟨i,hik,hA,K2,K4,K5,K6,K7,HB⟩
 refine wS (wR ?_)
 revert a;refine wo rfl rfl (by decide) (fun ev e h=>by simp[go_sem,h]<;>rfl) ?_;intro a hA
 replace hA:=hA.keepN [2,4,5,6,7,18,19]
 refine wN (nT (wS ?_))
 refine aH hA 19 _ rfl (fun hq=> ?yL) (fun hq=> ?nL)
 case yL=>
  have hi:i<64:=by simp at hq;omega
  have hok:=jM W hs0 i
  have hnext:dT W s (i+1)=jL (fq.getD i 0) (W.getD i 0) (dT W s i):=rfl
  have ck:=GU hi
  have cw:=hcW i hi
  have lk:fq.getD i 0<4294967296:=by
   rw[List.getD_eq_getElem?_getD,List.getElem?_eq_getElem (show i<fq.length from hi)]
   exact B9 _ (List.getElem_mem _)
  have lw:=hWlt i
  obtain⟨kk,hkk⟩:∃x,fq.getD i 0=x:=⟨_,rfl⟩
  obtain⟨ww,hww⟩:∃x,W.getD i 0=x:=⟨_,rfl⟩
  rw[hkk] at ck lk hnext
  rw[hww] at cw lw hnext
  generalize dT W s i=st at*
  obtain⟨va,vb,vc,vd,ve,vf,vg,vh⟩:=st
  obtain⟨la,lb,lc,ld,le,lf,lg,lh⟩:=hok
  simp only at la lb lc ld le lf lg lh
  have K7c:aI wx g7 185 #[.int .u32 (va:Nat), .int .u32 (vb:Nat), .int .u32 (vc:Nat), .int .u32 (vd:Nat), .int .u32 (ve:Nat), .int .u32 (vf:Nat), .int .u32 (vg:Nat), .int .u32 (vh:Nat)]:=K7
  clear K7
  refine wp_skip (nT (wS (wB (wS (wR ?_)))))
  revert a;(iterate 2 refine wo rfl rfl (by decide) (fun ev e h=>by simp[go_sem,h]<;>rfl) ?_);intro a hA
  replace hA:=hA.keepN [2,4,5,6,7,8,18]
  have pD:=fun(wo:World) (hC:(fun wy=>Below wx.heap.size wx wy) wo)=>have Kx:=K7c.below hC K7c.lt;(Kx.cell)
  refine wN (nT (wS ?_))
  refine bi hA [(.det ?dD0),(.det ?dD1),(.det ?dD2),(.det ?dD3),(.det ?dD4),(.det ?dD5)] [] (fun wy=>Below wx.heap.size wx wy) (aG [] aA) (by kernel_rfl) rfl (by kernel_rfl) (by kernel_rfl) rfl ((Below.refl _ _).drew) (bF [] [true,true,true,true,true,true] [true,true,true,true,true,true] [] rfl rfl rfl (by kernel_rfl) ⟨trivial,trivial,trivial,trivial,trivial,trivial,trivial⟩ trivial) (fun _ h=>by cases h) (fun _ _ _ _ _ h=>by cases h) (fun _ h=>by cases h) ⟨?oD0, ?oD1, ?oD2, ?oD3, ?oD4, ?oD5,trivial⟩ (by kernel_rfl) ?fD
  case oD0=>intro ev wo hev hC hs hph;have x0:=se hA hs 7;exact od rfl rfl (by kernel_rfl) hC (aG.of rfl (aA.refl _)) (by simp[go_sem,x0,hev.const]<;>rfl)
  case oD1=>intro ev wo hev hC hs hph;have x0:=sd hs 21 0;exact od rfl rfl (by kernel_rfl) hC (aG.of rfl (aA.refl _)) (by simp[go_sem,x0,pD _ hC]<;>rfl)
  case oD2=>intro ev wo hev hC hs hph;have x0:=se hA hs 7;exact od rfl rfl (by kernel_rfl) hC (aG.of rfl (aA.refl _)) (by simp[go_sem,x0,hev.const]<;>rfl)
  case oD3=>intro ev wo hev hC hs hph;have x0:=sd hs 23 2;exact od rfl rfl (by kernel_rfl) hC (aG.of rfl (aA.refl _)) (by simp[go_sem,x0,pD _ hC]<;>rfl)
  case oD4=>intro ev wo hev hC hs hph;have x0:=sd hs 22 1;exact od rfl rfl (by kernel_rfl) hC (aG.of rfl (aA.refl _)) (by simp[go_sem,x0]<;>rfl)
  case oD5=>intro ev wo hev hC hs hph;have x0:=sd hs 24 3;exact od rfl rfl (by kernel_rfl) hC (aG.of rfl (aA.refl _)) (by simp[go_sem,x0]<;>rfl)
  intro sg wf hC hph
  intro a hA
  replace hA:=hA.keepN [2,4,5,6,7,8,9,10,18]
  refine nT ?_
  replace HB:=HB.trans (hC.mono HB.size)
  replace K2:=K2.below hC K2.lt
  replace K4:=K4.below hC K4.lt
  replace K5:=K5.below hC K5.lt
  replace K6:=K6.below hC K6.lt
  replace K7c:=K7c.below hC K7c.lt
  clear hC hph
  have r6:=ca ve 6
  have r11:=ca ve 11
  have r25:=ca ve 25
  have r2:=ca va 2
  have r13:=ca va 13
  have r22:=ca va 22
  have x1:=rr r6 r11
  have x2:=rr (gS r6 r11) r25
  have a1:=FT le lf
  have a2:=FT (BP ve) lg
  have x3:=rr (fr (b:=vf) le) (fr (b:=vg) (BP ve))
  have n1:=IQ le
  have jj:(0:Int)≤(i:Int):=by omega
  have ji:(i:Int)<64:=by omega
  have pE:=fun(wo:World) (hC:(fun wy=>Below wf.heap.size wf wy) wo)=>have Kx:=K7c.below hC K7c.lt;have Ky:=K6.below hC K6.lt;have Kz:=K5.below hC K5.lt;And.intro (Kx.cell) (And.intro (Ky.cell) (And.intro (Kz.cell) (And.intro (ck) (cw))))
  refine wS ?_
  refine bi hA ((.det ?dE0)::(.det ?dE1)::(.det ?dE2)::(.det ?dE3)::(.det ?dE4)::(.det ?dE5)::(.det ?dE6)::(.det ?dE7)::(.det ?dE8)::(.det ?dE9)::(.det ?dE10)::(.det ?dE11)::(.det ?dE12)::(.det ?dE13)::(.det ?dE14)::(.det ?dE15)::(.det ?dE16)::(.det ?dE17)::(.det ?dE18)::(.det ?dE19)::(.det ?dE20)::(.det ?dE21)::(.det ?dE22)::(.det ?dE23)::(.det ?dE24)::(.det ?dE25)::(.det ?dE26)::(.det ?dE27)::(.det ?dE28)::(.det ?dE29)::(.det ?dE30)::[]) [] (fun wy=>Below wf.heap.size wf wy) (aG [] aA) (by kernel_rfl) rfl (by kernel_rfl) (by kernel_rfl) rfl ((Below.refl _ _).drew) (bF [] (true::true::true::true::true::true::true::true::true::true::true::true::true::true::true::true::true::true::true::true::true::true::true::true::true::true::true::true::true::true::true::[]) (true::true::true::true::true::true::true::true::true::true::true::true::true::true::true::true::true::true::true::true::true::true::true::true::true::true::true::true::true::true::true::[]) [] rfl rfl rfl (by kernel_rfl) ⟨trivial,trivial,trivial,trivial,trivial,trivial,trivial,trivial,trivial,trivial,trivial,trivial,trivial,trivial,trivial,trivial,trivial,trivial,trivial,trivial,trivial,trivial,trivial,trivial,trivial,trivial,trivial,trivial,trivial,trivial,trivial,trivial⟩ trivial) (fun _ h=>by cases h) (fun _ _ _ _ _ h=>by cases h) (fun _ h=>by cases h) ⟨?oE0, ?oE1, ?oE2, ?oE3, ?oE4, ?oE5, ?oE6, ?oE7, ?oE8, ?oE9, ?oE10, ?oE11, ?oE12, ?oE13, ?oE14, ?oE15, ?oE16, ?oE17, ?oE18, ?oE19, ?oE20, ?oE21, ?oE22, ?oE23, ?oE24, ?oE25, ?oE26, ?oE27, ?oE28, ?oE29, ?oE30,trivial⟩ (by kernel_rfl) ?fE
  case oE0=>intro ev wo hev hC hs hph;have x0:=se hA hs 7;exact od rfl rfl (by kernel_rfl) hC (aG.of rfl (aA.refl _)) (by simp[go_sem,x0,hev.const,bZ,x1,x2,a1,a2,x3,n1,jj,ji,aS]<;>rfl)
  case oE1=>intro ev wo hev hC hs hph;have x0:=sd hs 25 0;exact od rfl rfl (by kernel_rfl) hC (aG.of rfl (aA.refl _)) (by simp[go_sem,x0,pE _ hC,bZ,x1,x2,a1,a2,x3,n1,jj,ji,aS]<;>rfl)
  case oE2=>intro ev wo hev hC hs hph;have x0:=se hA hs 9;exact od rfl rfl (by kernel_rfl) hC (aG.of rfl (aA.refl _)) (by simp[go_sem,x0,bZ,x1,x2,a1,a2,x3,n1,jj,ji,aS]<;>rfl)
  case oE3=>
   intro ev wo hev hC hs hph
   have e27:=sd hs 27 2
   have Kx:=K7c.below hC K7c.lt
   have Ky:=K6.below hC K6.lt
   have Kz:=K5.below hC K5.lt
   exact bm (aJ rfl) rfl (by kernel_rfl) (ia ve 6 (-6) rfl le (by decide) (by decide) wo) (aB Tryz.func148 (by kernel_rfl) rfl (hev.func _) (by first|(simp only[mL,e27,hev.const]<;>rfl)|(simp[mL,e27,hev.const]<;>rfl))) (by rfl) (fun w3 hb3=>⟨hC.trans (hb3.mono hC.size),aG.of rfl hb3⟩)
  case oE4=>intro ev wo hev hC hs hph;have x0:=se hA hs 9;exact od rfl rfl (by kernel_rfl) hC (aG.of rfl (aA.refl _)) (by simp[go_sem,x0,bZ,x1,x2,a1,a2,x3,n1,jj,ji,aS]<;>rfl)
  case oE5=>
   intro ev wo hev hC hs hph
   have e29:=sd hs 29 4
   have Kx:=K7c.below hC K7c.lt
   have Ky:=K6.below hC K6.lt
   have Kz:=K5.below hC K5.lt
   exact bm (aJ rfl) rfl (by kernel_rfl) (ia ve 11 (-11) rfl le (by decide) (by decide) wo) (aB Tryz.func148 (by kernel_rfl) rfl (hev.func _) (by first|(simp only[mL,e29,hev.const]<;>rfl)|(simp[mL,e29,hev.const]<;>rfl))) (by rfl) (fun w3 hb3=>⟨hC.trans (hb3.mono hC.size),aG.of rfl hb3⟩)
  case oE6=>intro ev wo hev hC hs hph;have x0:=sd hs 28 3;have x1:=sd hs 30 5;exact od rfl rfl (by kernel_rfl) hC (aG.of rfl (aA.refl _)) (by simp[go_sem,x0,x1,bZ,x1,x2,a1,a2,x3,n1,jj,ji,aS]<;>rfl)
  case oE7=>intro ev wo hev hC hs hph;have x0:=se hA hs 9;exact od rfl rfl (by kernel_rfl) hC (aG.of rfl (aA.refl _)) (by simp[go_sem,x0,bZ,x1,x2,a1,a2,x3,n1,jj,ji,aS]<;>rfl)
  case oE8=>
   intro ev wo hev hC hs hph
   have e32:=sd hs 32 7
   have Kx:=K7c.below hC K7c.lt
   have Ky:=K6.below hC K6.lt
   have Kz:=K5.below hC K5.lt
   exact bm (aJ rfl) rfl (by kernel_rfl) (ia ve 25 (-25) rfl le (by decide) (by decide) wo) (aB Tryz.func148 (by kernel_rfl) rfl (hev.func _) (by first|(simp only[mL,e32,hev.const]<;>rfl)|(simp[mL,e32,hev.const]<;>rfl))) (by rfl) (fun w3 hb3=>⟨hC.trans (hb3.mono hC.size),aG.of rfl hb3⟩)
  case oE9=>intro ev wo hev hC hs hph;have x0:=sd hs 31 6;have x1:=sd hs 33 8;exact od rfl rfl (by kernel_rfl) hC (aG.of rfl (aA.refl _)) (by simp[go_sem,x0,x1,bZ,x1,x2,a1,a2,x3,n1,jj,ji,aS]<;>rfl)
  case oE10=>intro ev wo hev hC hs hph;have x0:=sd hs 26 1;have x1:=sd hs 34 9;exact od rfl rfl (by kernel_rfl) hC (aG.of rfl (aA.refl _)) (by simp[go_sem,x0,x1,bZ,x1,x2,a1,a2,x3,n1,jj,ji,aS]<;>rfl)
  case oE11=>intro ev wo hev hC hs hph;have x0:=se hA hs 9;exact od rfl rfl (by kernel_rfl) hC (aG.of rfl (aA.refl _)) (by simp[go_sem,x0,bZ,x1,x2,a1,a2,x3,n1,jj,ji,aS]<;>rfl)
  case oE12=>intro ev wo hev hC hs hph;have x0:=se hA hs 7;exact od rfl rfl (by kernel_rfl) hC (aG.of rfl (aA.refl _)) (by simp[go_sem,x0,hev.const,bZ,x1,x2,a1,a2,x3,n1,jj,ji,aS]<;>rfl)
  case oE13=>intro ev wo hev hC hs hph;have x0:=sd hs 37 12;exact od rfl rfl (by kernel_rfl) hC (aG.of rfl (aA.refl _)) (by simp[go_sem,x0,pE _ hC,bZ,x1,x2,a1,a2,x3,n1,jj,ji,aS]<;>rfl)
  case oE14=>intro ev wo hev hC hs hph;have x0:=sd hs 36 11;have x1:=sd hs 38 13;exact od rfl rfl (by kernel_rfl) hC (aG.of rfl (aA.refl _)) (by simp[go_sem,x0,x1,bZ,x1,x2,a1,a2,x3,n1,jj,ji,aS]<;>rfl)
  case oE15=>intro ev wo hev hC hs hph;have x0:=se hA hs 9;exact od rfl rfl (by kernel_rfl) hC (aG.of rfl (aA.refl _)) (by simp[go_sem,x0,bZ,x1,x2,a1,a2,x3,n1,jj,ji,aS]<;>rfl)
  case oE16=>intro ev wo hev hC hs hph;have x0:=sd hs 40 15;exact od rfl rfl (by kernel_rfl) hC (aG.of rfl (aA.refl _)) (by simp[go_sem,x0,bZ,x1,x2,a1,a2,x3,n1,jj,ji,aS]<;>rfl)
  case oE17=>intro ev wo hev hC hs hph;have x0:=se hA hs 7;exact od rfl rfl (by kernel_rfl) hC (aG.of rfl (aA.refl _)) (by simp[go_sem,x0,hev.const,bZ,x1,x2,a1,a2,x3,n1,jj,ji,aS]<;>rfl)
  case oE18=>intro ev wo hev hC hs hph;have x0:=sd hs 42 17;exact od rfl rfl (by kernel_rfl) hC (aG.of rfl (aA.refl _)) (by simp[go_sem,x0,pE _ hC,bZ,x1,x2,a1,a2,x3,n1,jj,ji,aS]<;>rfl)
  case oE19=>intro ev wo hev hC hs hph;have x0:=sd hs 41 16;have x1:=sd hs 43 18;exact od rfl rfl (by kernel_rfl) hC (aG.of rfl (aA.refl _)) (by simp[go_sem,x0,x1,bZ,x1,x2,a1,a2,x3,n1,jj,ji,aS]<;>rfl)
  case oE20=>intro ev wo hev hC hs hph;have x0:=sd hs 39 14;have x1:=sd hs 44 19;exact od rfl rfl (by kernel_rfl) hC (aG.of rfl (aA.refl _)) (by simp[go_sem,x0,x1,bZ,x1,x2,a1,a2,x3,n1,jj,ji,aS]<;>rfl)
  case oE21=>intro ev wo hev hC hs hph;have x0:=sd hs 35 10;have x1:=sd hs 45 20;exact od rfl rfl (by kernel_rfl) hC (aG.of rfl (aA.refl _)) (by simp[go_sem,x0,x1,bZ,x1,x2,a1,a2,x3,n1,jj,ji,aS]<;>rfl)
  case oE22=>intro ev wo hev hC hs hph;have x0:=se hA hs 8;exact od rfl rfl (by kernel_rfl) hC (aG.of rfl (aA.refl _)) (by simp[go_sem,x0,bZ,x1,x2,a1,a2,x3,n1,jj,ji,aS]<;>rfl)
  case oE23=>intro ev wo hev hC hs hph;have x0:=se hA hs 6;have x1:=sd hs 47 22;exact od rfl rfl (by kernel_rfl) hC (aG.of rfl (aA.refl _)) (by simp[go_sem,x0,x1,bZ,x1,x2,a1,a2,x3,n1,jj,ji,aS]<;>rfl)
  case oE24=>intro ev wo hev hC hs hph;have x0:=sd hs 48 23;exact od rfl rfl (by kernel_rfl) hC (aG.of rfl (aA.refl _)) (by simp[go_sem,x0,pE _ hC,bZ,x1,x2,a1,a2,x3,n1,jj,ji,aS]<;>rfl)
  case oE25=>intro ev wo hev hC hs hph;have x0:=sd hs 46 21;have x1:=sd hs 49 24;exact od rfl rfl (by kernel_rfl) hC (aG.of rfl (aA.refl _)) (by simp[go_sem,x0,x1,bZ,x1,x2,a1,a2,x3,n1,jj,ji,aS]<;>rfl)
  case oE26=>intro ev wo hev hC hs hph;have x0:=se hA hs 8;exact od rfl rfl (by kernel_rfl) hC (aG.of rfl (aA.refl _)) (by simp[go_sem,x0,bZ,x1,x2,a1,a2,x3,n1,jj,ji,aS]<;>rfl)
  case oE27=>intro ev wo hev hC hs hph;have x0:=se hA hs 5;have x1:=sd hs 51 26;exact od rfl rfl (by kernel_rfl) hC (aG.of rfl (aA.refl _)) (by simp[go_sem,x0,x1,bZ,x1,x2,a1,a2,x3,n1,jj,ji,aS]<;>rfl)
  case oE28=>intro ev wo hev hC hs hph;have x0:=sd hs 52 27;exact od rfl rfl (by kernel_rfl) hC (aG.of rfl (aA.refl _)) (by simp[go_sem,x0,pE _ hC,bZ,x1,x2,a1,a2,x3,n1,jj,ji,aS]<;>rfl)
  case oE29=>intro ev wo hev hC hs hph;have x0:=sd hs 50 25;have x1:=sd hs 53 28;exact od rfl rfl (by kernel_rfl) hC (aG.of rfl (aA.refl _)) (by simp[go_sem,x0,x1,bZ,x1,x2,a1,a2,x3,n1,jj,ji,aS]<;>rfl)
  case oE30=>intro ev wo hev hC hs hph;have x0:=sd hs 54 29;exact od rfl rfl (by kernel_rfl) hC (aG.of rfl (aA.refl _)) (by simp[go_sem,x0,bZ,x1,x2,a1,a2,x3,n1,jj,ji,aS]<;>rfl)
  intro sg wf hC hph
  intro a hA
  replace hA:=hA.keepN [2,4,5,6,7,9,10,11,18]
  refine nT ?_
  replace HB:=HB.trans (hC.mono HB.size)
  replace K2:=K2.below hC K2.lt
  replace K4:=K4.below hC K4.lt
  replace K5:=K5.below hC K5.lt
  replace K6:=K6.below hC K6.lt
  replace K7c:=K7c.below hC K7c.lt
  clear hC hph x1 x2 a1 a2 x3 n1 ck cw
  obtain⟨V1,hV1⟩:∃x,ad (ad (ad (ad vh (xo (xo (cH ve 6) (cH ve 11)) (cH ve 25))) (xo (an ve vf) (an (ug ve) vg))) kk) ww=x:=⟨_,rfl⟩
  rw[hV1] at hA
  have y1:=rr r2 r13
  have y2:=rr (gS r2 r13) r22
  have y3:=FT la lb
  have y4:=FT la lc
  have y5:=FT lb lc
  have y6:=rr (fr (b:=vb) la) (fr (b:=vc) la)
  have y7:=rr (gS (fr (b:=vb) la) (fr (b:=vc) la)) (fr (b:=vc) lb)
  have pF:=fun(wo:World) (hC:(fun wy=>Below wf.heap.size wf wy) wo)=>have Kx:=K7c.below hC K7c.lt;(Kx.cell)
  refine wS ?_
  refine bi hA [(.det ?dF0),(.det ?dF1),(.det ?dF2),(.det ?dF3),(.det ?dF4),(.det ?dF5),(.det ?dF6),(.det ?dF7),(.det ?dF8),(.det ?dF9),(.det ?dF10),(.det ?dF11),(.det ?dF12),(.det ?dF13),(.det ?dF14),(.det ?dF15),(.det ?dF16),(.det ?dF17),(.det ?dF18),(.det ?dF19),(.det ?dF20),(.det ?dF21),(.det ?dF22),(.det ?dF23),(.det ?dF24)] [] (fun wy=>Below wf.heap.size wf wy) (aG [] aA) (by kernel_rfl) rfl (by kernel_rfl) (by kernel_rfl) rfl ((Below.refl _ _).drew) (bF [] [true,true,true,true,true,true,true,true,true,true,true,true,true,true,true,true,true,true,true,true,true,true,true,true,true] [true,true,true,true,true,true,true,true,true,true,true,true,true,true,true,true,true,true,true,true,true,true,true,true,true] [] rfl rfl rfl (by kernel_rfl) ⟨trivial,trivial,trivial,trivial,trivial,trivial,trivial,trivial,trivial,trivial,trivial,trivial,trivial,trivial,trivial,trivial,trivial,trivial,trivial,trivial,trivial,trivial,trivial,trivial,trivial,trivial⟩ trivial) (fun _ h=>by cases h) (fun _ _ _ _ _ h=>by cases h) (fun _ h=>by cases h) ⟨?oF0, ?oF1, ?oF2, ?oF3, ?oF4, ?oF5, ?oF6, ?oF7, ?oF8, ?oF9, ?oF10, ?oF11, ?oF12, ?oF13, ?oF14, ?oF15, ?oF16, ?oF17, ?oF18, ?oF19, ?oF20, ?oF21, ?oF22, ?oF23, ?oF24,trivial⟩ (by kernel_rfl) ?fF
  case oF0=>intro ev wo hev hC hs hph;have x0:=se hA hs 10;exact od rfl rfl (by kernel_rfl) hC (aG.of rfl (aA.refl _)) (by simp[go_sem,x0,bZ,y1,y2,y3,y4,y5,y6,y7]<;>rfl)
  case oF1=>
   intro ev wo hev hC hs hph
   have e55:=sd hs 55 0
   have Kx:=K7c.below hC K7c.lt
   exact bm (aJ rfl) rfl (by kernel_rfl) (ia va 2 (-2) rfl la (by decide) (by decide) wo) (aB Tryz.func148 (by kernel_rfl) rfl (hev.func _) (by first|(simp only[mL,e55,hev.const]<;>rfl)|(simp[mL,e55,hev.const]<;>rfl))) (by rfl) (fun w3 hb3=>⟨hC.trans (hb3.mono hC.size),aG.of rfl hb3⟩)
  case oF2=>intro ev wo hev hC hs hph;have x0:=se hA hs 10;exact od rfl rfl (by kernel_rfl) hC (aG.of rfl (aA.refl _)) (by simp[go_sem,x0,bZ,y1,y2,y3,y4,y5,y6,y7]<;>rfl)
  case oF3=>
   intro ev wo hev hC hs hph
   have e57:=sd hs 57 2
   have Kx:=K7c.below hC K7c.lt
   exact bm (aJ rfl) rfl (by kernel_rfl) (ia va 13 (-13) rfl la (by decide) (by decide) wo) (aB Tryz.func148 (by kernel_rfl) rfl (hev.func _) (by first|(simp only[mL,e57,hev.const]<;>rfl)|(simp[mL,e57,hev.const]<;>rfl))) (by rfl) (fun w3 hb3=>⟨hC.trans (hb3.mono hC.size),aG.of rfl hb3⟩)
  case oF4=>intro ev wo hev hC hs hph;have x0:=sd hs 56 1;have x1:=sd hs 58 3;exact od rfl rfl (by kernel_rfl) hC (aG.of rfl (aA.refl _)) (by simp[go_sem,x0,x1,bZ,y1,y2,y3,y4,y5,y6,y7]<;>rfl)
  case oF5=>intro ev wo hev hC hs hph;have x0:=se hA hs 10;exact od rfl rfl (by kernel_rfl) hC (aG.of rfl (aA.refl _)) (by simp[go_sem,x0,bZ,y1,y2,y3,y4,y5,y6,y7]<;>rfl)
  case oF6=>
   intro ev wo hev hC hs hph
   have e60:=sd hs 60 5
   have Kx:=K7c.below hC K7c.lt
   exact bm (aJ rfl) rfl (by kernel_rfl) (ia va 22 (-22) rfl la (by decide) (by decide) wo) (aB Tryz.func148 (by kernel_rfl) rfl (hev.func _) (by first|(simp only[mL,e60,hev.const]<;>rfl)|(simp[mL,e60,hev.const]<;>rfl))) (by rfl) (fun w3 hb3=>⟨hC.trans (hb3.mono hC.size),aG.of rfl hb3⟩)
  case oF7=>intro ev wo hev hC hs hph;have x0:=sd hs 59 4;have x1:=sd hs 61 6;exact od rfl rfl (by kernel_rfl) hC (aG.of rfl (aA.refl _)) (by simp[go_sem,x0,x1,bZ,y1,y2,y3,y4,y5,y6,y7]<;>rfl)
  case oF8=>intro ev wo hev hC hs hph;have x0:=se hA hs 10;exact od rfl rfl (by kernel_rfl) hC (aG.of rfl (aA.refl _)) (by simp[go_sem,x0,bZ,y1,y2,y3,y4,y5,y6,y7]<;>rfl)
  case oF9=>intro ev wo hev hC hs hph;have x0:=se hA hs 7;exact od rfl rfl (by kernel_rfl) hC (aG.of rfl (aA.refl _)) (by simp[go_sem,x0,hev.const,bZ,y1,y2,y3,y4,y5,y6,y7]<;>rfl)
  case oF10=>intro ev wo hev hC hs hph;have x0:=sd hs 64 9;exact od rfl rfl (by kernel_rfl) hC (aG.of rfl (aA.refl _)) (by simp[go_sem,x0,pF _ hC,bZ,y1,y2,y3,y4,y5,y6,y7]<;>rfl)
  case oF11=>intro ev wo hev hC hs hph;have x0:=sd hs 63 8;have x1:=sd hs 65 10;exact od rfl rfl (by kernel_rfl) hC (aG.of rfl (aA.refl _)) (by simp[go_sem,x0,x1,bZ,y1,y2,y3,y4,y5,y6,y7]<;>rfl)
  case oF12=>intro ev wo hev hC hs hph;have x0:=se hA hs 10;exact od rfl rfl (by kernel_rfl) hC (aG.of rfl (aA.refl _)) (by simp[go_sem,x0,bZ,y1,y2,y3,y4,y5,y6,y7]<;>rfl)
  case oF13=>intro ev wo hev hC hs hph;have x0:=se hA hs 7;exact od rfl rfl (by kernel_rfl) hC (aG.of rfl (aA.refl _)) (by simp[go_sem,x0,hev.const,bZ,y1,y2,y3,y4,y5,y6,y7]<;>rfl)
  case oF14=>intro ev wo hev hC hs hph;have x0:=sd hs 68 13;exact od rfl rfl (by kernel_rfl) hC (aG.of rfl (aA.refl _)) (by simp[go_sem,x0,pF _ hC,bZ,y1,y2,y3,y4,y5,y6,y7]<;>rfl)
  case oF15=>intro ev wo hev hC hs hph;have x0:=sd hs 67 12;have x1:=sd hs 69 14;exact od rfl rfl (by kernel_rfl) hC (aG.of rfl (aA.refl _)) (by simp[go_sem,x0,x1,bZ,y1,y2,y3,y4,y5,y6,y7]<;>rfl)
  case oF16=>intro ev wo hev hC hs hph;have x0:=sd hs 66 11;have x1:=sd hs 70 15;exact od rfl rfl (by kernel_rfl) hC (aG.of rfl (aA.refl _)) (by simp[go_sem,x0,x1,bZ,y1,y2,y3,y4,y5,y6,y7]<;>rfl)
  case oF17=>intro ev wo hev hC hs hph;have x0:=se hA hs 7;exact od rfl rfl (by kernel_rfl) hC (aG.of rfl (aA.refl _)) (by simp[go_sem,x0,hev.const,bZ,y1,y2,y3,y4,y5,y6,y7]<;>rfl)
  case oF18=>intro ev wo hev hC hs hph;have x0:=sd hs 72 17;exact od rfl rfl (by kernel_rfl) hC (aG.of rfl (aA.refl _)) (by simp[go_sem,x0,pF _ hC,bZ,y1,y2,y3,y4,y5,y6,y7]<;>rfl)
  case oF19=>intro ev wo hev hC hs hph;have x0:=se hA hs 7;exact od rfl rfl (by kernel_rfl) hC (aG.of rfl (aA.refl _)) (by simp[go_sem,x0,hev.const,bZ,y1,y2,y3,y4,y5,y6,y7]<;>rfl)
  case oF20=>intro ev wo hev hC hs hph;have x0:=sd hs 74 19;exact od rfl rfl (by kernel_rfl) hC (aG.of rfl (aA.refl _)) (by simp[go_sem,x0,pF _ hC,bZ,y1,y2,y3,y4,y5,y6,y7]<;>rfl)
  case oF21=>intro ev wo hev hC hs hph;have x0:=sd hs 73 18;have x1:=sd hs 75 20;exact od rfl rfl (by kernel_rfl) hC (aG.of rfl (aA.refl _)) (by simp[go_sem,x0,x1,bZ,y1,y2,y3,y4,y5,y6,y7]<;>rfl)
  case oF22=>intro ev wo hev hC hs hph;have x0:=sd hs 71 16;have x1:=sd hs 76 21;exact od rfl rfl (by kernel_rfl) hC (aG.of rfl (aA.refl _)) (by simp[go_sem,x0,x1,bZ,y1,y2,y3,y4,y5,y6,y7]<;>rfl)
  case oF23=>intro ev wo hev hC hs hph;have x0:=sd hs 62 7;have x1:=sd hs 77 22;exact od rfl rfl (by kernel_rfl) hC (aG.of rfl (aA.refl _)) (by simp[go_sem,x0,x1,bZ,y1,y2,y3,y4,y5,y6,y7]<;>rfl)
  case oF24=>intro ev wo hev hC hs hph;have x0:=sd hs 78 23;exact od rfl rfl (by kernel_rfl) hC (aG.of rfl (aA.refl _)) (by simp[go_sem,x0,bZ,y1,y2,y3,y4,y5,y6,y7]<;>rfl)
  intro sg wf hC hph
  intro a hA
  replace hA:=hA.keepN [2,4,5,6,7,9,10,11,12,18]
  refine nT ?_
  replace HB:=HB.trans (hC.mono HB.size)
  replace K2:=K2.below hC K2.lt
  replace K4:=K4.below hC K4.lt
  replace K5:=K5.below hC K5.lt
  replace K6:=K6.below hC K6.lt
  replace K7c:=K7c.below hC K7c.lt
  clear hC hph y1 y2 y3 y4 y5 y6 y7
  obtain⟨V2,hV2⟩:∃x,ad (xo (xo (cH va 2) (cH va 13)) (cH va 22)) (xo (xo (an va vb) (an va vc)) (an vb vc))=x:=⟨_,rfl⟩
  rw[hV2] at hA
  refine wR ?_
  revert a;(iterate 10 refine wo rfl rfl (by decide) (fun ev e h=>by simp[go_sem,h,K7c.cell,bZ]<;>rfl) ?_);intro a hA
  replace hA:=hA.keepN [2,4,5,6,7,9,11,18,81,82,84,86,88]
  revert a;(iterate 8 refine wo rfl rfl (by decide) (fun ev e h=>by simp[go_sem,h,K7c.cell,bZ]<;>rfl) ?_);intro a hA
  refine di ([.int .u32 (ad V1 V2:Nat), .int .u32 (va:Nat), .int .u32 (vb:Nat), .int .u32 (vc:Nat), .int .u32 (ad vd V1:Nat), .int .u32 (ve:Nat), .int .u32 (vf:Nat), .int .u32 (vg:Nat)]) hA rfl rfl K7c (by rfl) (by rfl) (by kernel_rfl) (by rfl) rfl (fun ev h=>⟨h.get 7 rfl,h.get 96 rfl⟩) fun w11 (K7c:aI _ _ _ _) hs=> ?_
  have hwi:IntKind.i64.wrap ((i:Int)+1)=((i+1:Nat):Int):=by rw[IntWalk.i64_in _ (by omega)];omega
  replace hA:=hA.keepN [2,4,5,6,7,18]
  refine wN (nB (nT (wR ?_)))
  revert a;(iterate 2 refine wo rfl rfl (by decide) (fun ev e h=>by simp[go_sem,h,hwi]<;>rfl) ?_);intro a hA
  replace hA:=hA.keepN [2,4,5,6,7,18]
  refine wN (nT ?_)
  refine⟨k - 1,by omega,i+1,by omega,hA,hs.blk K2 (by omega),hs.blk K4 (by omega),hs.blk K5 (by omega),hs.blk K6 (by omega), ?_,hs.below HB (by omega)⟩
  have e:=sT (vd:=vd) hV1 hV2
  rw[←hnext] at e
  rw[e]
  exact K7c
 case nL=>
  have hi:i=64:=by simp at hq;omega
  subst hi
  clear hik hq
  generalize dT W s 64=t at*
  replace hA:=hA.keepN [2,4,7]
  refine wp_exit (xT (xT (xB (nT (wS (wS (wR ?_)))))))
  revert a;refine wo rfl rfl (by decide) (fun ev e h=>by simp[go_sem,h]<;>rfl) ?_;intro a hA
  replace hA:=hA.keepN [2,4,7,98]
  refine wN (nT (wB ?_))
  refine aQ (fun k a wx=>∃(i:Nat),i+k=8∧At 111 [(2, .pointer (some ⟨g2,0,none⟩)),(4, .pointer (some ⟨g4,0,none⟩)),(7, .pointer (some ⟨g7,0,none⟩)),(98, .int .i64 (i:Nat))] a∧aI wx g2 185 (s.l.map dD).toArray∧aI wx g4 185 #[.int .u32 0, .int .u32 0, .int .u32 0, .int .u32 0, .int .u32 0, .int .u32 0, .int .u32 0, .int .u32 0]∧aI wx g7 185 ((rA t s i).map dD).toArray∧Below w.heap.size w wx) (8) ?_ ?_
  ·exact⟨0,by omega,hA,K2,K4,by rw[IX];exact K7,HB⟩
  clear K2 K4 K5 K6 K7 HB
  rintro k a wx ⟨i,hik,hA,K2,K4,K7,HB⟩
  refine wS (wR ?_)
  revert a;refine wo rfl rfl (by decide) (fun ev e h=>by simp[go_sem,h]<;>rfl) ?_;intro a hA
  replace hA:=hA.keepN [2,4,7,98,99]
  refine wN (nT (wS ?_))
  refine aH hA 99 _ rfl (fun hq=> ?yM) (fun hq=> ?nM)
  case yM=>
   have hi:i<8:=by simp at hq;omega
   have c1:=EZ (t:=t) (s:=s) hi
   have c2:=Gb (s:=s) hi
   have jj:(0:Int)≤(i:Int):=by omega
   have ji:(i:Int)<8:=by omega
   refine wp_skip (nT (wS (wB (wS (wR ?_)))))
   revert a;(iterate 2 refine wo rfl rfl (by decide) (fun ev e h=>by simp[go_sem,h]<;>rfl) ?_);intro a hA
   replace hA:=hA.keepN [2,4,7,13,98]
   have pG:=fun(wo:World) (hC:(fun wy=>Below wx.heap.size wx wy) wo)=>have Kx:=K7.below hC K7.lt;have Ky:=K2.below hC K2.lt;And.intro (Kx.cell) (And.intro (Ky.cell) (And.intro (c1) (c2)))
   refine wN (nT ?_)
   refine aj 7 ?_
   simp only[List.take_succ_cons,List.take_zero,List.drop_succ_cons,List.drop_zero]
   refine ai hA [(.det ?dG0),(.det ?dG1),(.det ?dG2),(.det ?dG3),(.det ?dG4),(.det ?dG5),(.det ?dG6)] [] (fun wy=>Below wx.heap.size wx wy) (aG [] aA) (by kernel_rfl) rfl (by kernel_rfl) (by kernel_rfl) rfl (by kernel_rfl) (by kernel_rfl) (by kernel_rfl) (by kernel_rfl) ((Below.refl _ _).drew) (bF [] [true,true,true,true,true,true,true] [true,true,true,true,true,true,true] [] rfl rfl rfl (by kernel_rfl) ⟨trivial,trivial,trivial,trivial,trivial,trivial,trivial,trivial⟩ trivial) (fun _ h=>by cases h) (fun _ _ _ _ _ h=>by cases h) (fun _ h=>by cases h) ⟨?oG0, ?oG1, ?oG2, ?oG3, ?oG4, ?oG5, ?oG6,trivial⟩ (by kernel_rfl) ?fG
   case oG0=>intro ev wo hev hC hs hph;have x0:=se hA hs 13;exact od rfl rfl (by kernel_rfl) hC (aG.of rfl (aA.refl _)) (by simp[go_sem,x0,bZ,jj,ji,aS]<;>rfl)
   case oG1=>intro ev wo hev hC hs hph;have x0:=se hA hs 7;have x1:=sd hs 101 0;exact od rfl rfl (by kernel_rfl) hC (aG.of rfl (aA.refl _)) (by simp[go_sem,x0,x1,bZ,jj,ji,aS]<;>rfl)
   case oG2=>intro ev wo hev hC hs hph;have x0:=sd hs 102 1;exact od rfl rfl (by kernel_rfl) hC (aG.of rfl (aA.refl _)) (by simp[go_sem,x0,pG _ hC,bZ,jj,ji,aS]<;>rfl)
   case oG3=>intro ev wo hev hC hs hph;have x0:=se hA hs 13;exact od rfl rfl (by kernel_rfl) hC (aG.of rfl (aA.refl _)) (by simp[go_sem,x0,bZ,jj,ji,aS]<;>rfl)
   case oG4=>intro ev wo hev hC hs hph;have x0:=se hA hs 2;have x1:=sd hs 104 3;exact od rfl rfl (by kernel_rfl) hC (aG.of rfl (aA.refl _)) (by simp[go_sem,x0,x1,bZ,jj,ji,aS]<;>rfl)
   case oG5=>intro ev wo hev hC hs hph;have x0:=sd hs 105 4;exact od rfl rfl (by kernel_rfl) hC (aG.of rfl (aA.refl _)) (by simp[go_sem,x0,pG _ hC,bZ,jj,ji,aS]<;>rfl)
   case oG6=>intro ev wo hev hC hs hph;have x0:=sd hs 103 2;have x1:=sd hs 106 5;exact od rfl rfl (by kernel_rfl) hC (aG.of rfl (aA.refl _)) (by simp[go_sem,x0,x1,bZ,jj,ji,aS]<;>rfl)
   intro sg wf hC hph
   intro a hA
   replace hA:=hA.keepN [2,4,7,98,101,107]
   replace HB:=HB.trans (hC.mono HB.size)
   replace K2:=K2.below hC K2.lt
   replace K4:=K4.below hC K4.lt
   replace K7:=K7.below hC K7.lt
   revert a;refine wo rfl rfl (by decide) (fun ev e h=>by simp[go_sem,h,jj,ji,aS,c1]<;>rfl) ?_;intro a hA
   refine aq (((rA t s i).map dD).set i (.int .u32 ((ad (t.l.getD i 0) (s.l.getD i 0):Nat):Int))) _ hA rfl rfl K7 (j:=i) (by rfl) (fun ev h=>by simp[go_sem,h.get 108 rfl,h.get 107 rfl,jj,ji,aS,c1,K7.cell,K7.frozen];try first|exact⟨rfl,rfl⟩|rfl) fun w12 (K7:aI _ _ _ _) hs=> ?_
   have hwi:IntKind.i64.wrap ((i:Int)+1)=((i+1:Nat):Int):=by rw[IntWalk.i64_in _ (by omega)];omega
   replace hA:=hA.keepN [2,4,7,98]
   refine wN (nB (nT (wR ?_)))
   revert a;(iterate 2 refine wo rfl rfl (by decide) (fun ev e h=>by simp[go_sem,h,hwi]<;>rfl) ?_);intro a hA
   replace hA:=hA.keepN [2,4,7,98]
   refine wN (nT ?_)
   rw[E0 hi] at K7
   exact⟨k - 1,by omega,i+1,by omega,hA,hs.blk K2 (by omega),hs.blk K4 (by omega),K7,hs.below HB (by omega)⟩
  case nM=>
   have hi:i=8:=by simp at hq;omega
   subst hi
   replace hA:=hA.keepN [4,7]
   refine wp_exit (xT (xT (xB (nT (wS (wR ?_))))))
   refine a7 hA rfl rfl (by decide) (fun ev h=>fa K7 Tryz.underlying185 rfl (by kernel_rfl) (rC t s 8) rfl (h.get 7 rfl)) fun a hA=> ?_
   refine di ((rA t s 8).map dD) hA rfl rfl K4 (by rfl) (rC t s 8) (by kernel_rfl) (kL _) rfl (fun ev h=>⟨h.get 4 rfl,h.get 110 rfl⟩) fun w13 (K4:aI _ _ _ _) hs=> ?_
   replace hA:=hA.keepN [4]
   refine wN (nT (wp_ret ?_))
   refine lW hA 4 rfl rfl K4 Tryz.underlying185 rfl (by kernel_rfl) (rC t s 8) ?_
   refine⟨?_,hs.below HB h4⟩
   rw[hfin,IY]
theorem sA {n j:Nat} (h:j≤bn n):(n+1+j)%64=56↔j=bn n:=by
 unfold bn at*
 omega
theorem td (b:List UInt8) (j:Nat):b++[128]++List.replicate (j+1) 0=b++[128]++List.replicate j 0++[0]:=by
 rw[List.replicate_succ',List.append_assoc,List.append_assoc,List.append_assoc]
theorem Az (v:Nat):∀(n i:Nat),i<n→(be n v).take (i+1)=(be n v).take i++[UInt8.ofNat (v/256^(n - 1 - i))]
 |0,i,h=>by omega
 |n+1,0,_=>by simp[be]
 |n+1,i+1,h=>by
  have ih:=Az v n i (by omega)
  have e:n+1 - 1 - (i+1)=n - 1 - i:=by omega
  rw[e]
  simp only[be,List.take_succ_cons,List.cons_append]
  rw[ih]
theorem uz (v m:Nat):(v:Int)/2^(8*m)=((v/256^m:Nat):Int):=by
 have e:(256:Nat)^m=2^(8*m):=by rw[Nat.pow_mul]
 rw[e,Int.natCast_ediv,Int.natCast_pow];rfl
theorem DH (N i:Nat) (h:i<8):Op.shift .shr .u64 (N:Int) .i64 (56 - 8*(i:Int))=pure (.int .u64 ((N/256^(7 - i):Nat):Int)):=by
 rw[shift_shr_any _ _ _ _ (by omega),show min (56 - 8*(i:Int)).toNat IntKind.u64.bits=8*(7 - i) by show min (56 - 8*(i:Int)).toNat 64=_;omega,uz]
theorem IL (c:Nat) (hc:c≤1000000000) (w:World):∃x:Obj,(Instr.makeSlice 22 (.int .i64 0) (.int .i64 (c:Nat))).run Tryz.prog w= .ok (.slice (some ⟨w.heap.size,0,none⟩) 0 c) (w.alloc x)∧ce w.heap.size (w.alloc x) (.slice (some ⟨w.heap.size,0,none⟩) 0 c) []:=by
 obtain⟨i0,hi0,hz0,hz1,hz2⟩:=eK mG
 have hmk:=mX (P:=Tryz.prog) 22 5 i0 (.int .u8 0) Tryz.underlying22 hi0 hz0 .i64 .i64 0 c (Nat.zero_le _) (by rw[hz2];omega) (by omega) w
 rw[hz1,Nat.mul_one,Gc] at hmk
 exact⟨_,hmk,World.ownsRow_made (base:=w.heap.size) (e:=5) (size:=1) w (ar (List.replicate c 0)).toArray c (Nat.le_refl _) (by unfold maxLen;omega) (by simp[ar])⟩
theorem zv (A:Option Addr) (n c:Nat) (b:List UInt8) (hl:b.length=n) (hn:n≤1000000) (w:World) (hr:aE w w.heap.size 1 A n (ar b)):
 Calls Tryz.prog 120 #[.slice A n c] w fun ev w'=>∃r,ev= .returned r∧ce w.heap.size w' r (j6 b)∧Below w.heap.size w w':=by
 have hadd:IntKind.i64.wrap ((n:Int)+128)=(n:Int)+128:=IntWalk.i64_in _ (by omega)
 subst hl
 refine aK 37 Tryz.func120 rfl rfl (Nat.le_of_ble_eq_true rfl) ?_
 intro a hA;replace hA:=hA.norm
 refine wS (wR ?_)
 revert a;refine wo rfl rfl (by decide) (fun ev e h=>by simp[go_sem,h,hadd]<;>rfl) ?_;intro a hA
 replace hA:=hA.keepN [0]
 refine wN (nT (wS (wR ?_)))
 revert a;(iterate 3 refine wo rfl rfl (by decide) (fun ev e h=>by simp[go_sem,h,hadd]<;>rfl) ?_);intro a hA
 obtain⟨x,hmk,ho⟩:=IL (b.length+128) (by omega) w
 rw[show((b.length+128:Nat):Int)=(b.length:Int)+128 by omega] at hmk
 have hb0:=(Below.refl w.heap.size w).alloc (Nat.le_refl _) x
 refine a7 hA rfl rfl (by decide) (fun ev h=>by simp[go_sem,h.c,h.get 8 rfl,hadd,hmk];try first|exact⟨rfl,rfl⟩|rfl) fun a hA=> ?_
 revert a;refine wo rfl rfl (by decide) (fun ev e h=>by simp[go_sem,h,hadd]<;>rfl) ?_;intro a hA
 obtain⟨r1,w1,hr1,ho1,hg1⟩:=ez ho (u:= .slice A b.length c) ⟨A,c,rfl,(hr.below hb0).more hb0.size⟩ (by simp;omega) hb0.size
 have hb1:=dM hb0 ho hg1 (Nat.le_refl _) hb0.size
 refine a7 hA rfl rfl (by decide) (fun ev h=>ao rfl (h.get 9 rfl) (h.get 10 rfl) hr1) fun a hA=> ?_
 refine aP hA rfl rfl (by decide) (fun ev h=>by simp[go_sem,h.c,hadd];try first|exact⟨rfl,rfl⟩|rfl) fun w2 a (K:aI _ _ _ _) hz hb hA=> ?_
 replace hb1:=hb1.trans (hb.mono hb1.size)
 replace ho1:=ho1.below hb
 obtain⟨r3,w3,hr3,ho3,hg3⟩:=ez ho1 (lY (c:=128) K) (by simp;omega) hb1.size
 have hb3:=dM hb1 ho1 hg3 (Nat.le_refl _) hb1.size
 refine a7 hA rfl rfl (by decide) (fun ev h=>ao rfl (h.get 11 rfl) (h.get 12 rfl) hr3) fun a hA=> ?_
 revert a;refine wo rfl rfl (by decide) (fun ev e h=>by simp[go_sem,h,hadd]<;>rfl) ?_;intro a hA
 replace hA:=hA.keepN [0,3]
 refine wN (nT (wS (wB ?_)))
 refine aQ (fun k a wx=>∃(j:Nat) (v:Value),j+k=bn b.length∧At 37 [(0, .slice A b.length c),(3,v)] a∧ce w.heap.size wx v (b++[128]++List.replicate j 0)∧Below w.heap.size w wx) (bn b.length) ?_ ?_
 ·exact⟨0,_,by omega,hA,by simpa using ho3,hb3⟩
 clear ho3 hb3
 rintro k a wx ⟨j,v,hjk,hA,ho,HB⟩
 have hz64:bn b.length<64:=Nat.mod_lt _ (by omega)
 obtain⟨Av,cv,rfl,hrv⟩:=ho.took
 obtain⟨L,hL⟩:∃L,(b++[128]++List.replicate j 0).length=L:=⟨_,rfl⟩
 have hL2:L=b.length+1+j:=by rw[←hL];simp;omega
 rw[hL] at hA
 refine wS (wS (wR ?_))
 revert a;(iterate 4 refine wo rfl rfl (by decide) (fun ev e h=>by simp[go_sem,h]<;>rfl) ?_);intro a hA
 replace hA:=hA.keepN [0,3,17]
 refine wN (nT ?_)
 refine aH hA 17 _ rfl (fun hq=> ?yP) (fun hq=> ?nP)
 case yP=>
  have hne:j≠bn b.length:=fun e=>by
   have:=(sA (n:=b.length) (j:=j) (by omega)).2 e
   simp[Int.tmod_eq_emod_of_nonneg] at hq
   omega
  refine wp_skip (nT (wB (wR ?_)))
  revert a;refine wo rfl rfl (by decide) (fun ev e h=>by simp[go_sem,h]<;>rfl) ?_;intro a hA
  refine aP hA rfl rfl (by decide) (fun ev h=>by simp[go_sem,h.c];try first|exact⟨rfl,rfl⟩|rfl) fun w4 a (K4:aI _ _ _ _) hz4 hb4 hA=> ?_
  replace HB:=HB.trans (hb4.mono HB.size)
  replace ho:=ho.below hb4
  obtain⟨r5,w5,hr5,ho5,hg5⟩:=ez ho (lY (c:=0) K4) (by simp;omega) HB.size
  rw[←hL] at hA
  refine a7 hA rfl rfl (by decide) (fun ev h=>ao rfl (h.get 18 rfl) (h.get 19 rfl) hr5) fun a hA=> ?_
  revert a;refine wo rfl rfl (by decide) (fun ev e h=>by simp[go_sem,h]<;>rfl) ?_;intro a hA
  replace hA:=hA.keepN [0,3]
  refine wN (nB (nT ?_))
  exact⟨k - 1,by omega,j+1,_,by omega,hA,by rw[td];exact ho5,dM HB ho hg5 (Nat.le_refl _) HB.size⟩
 case nP=>
  have hje:j=bn b.length:=by
   refine(sA (n:=b.length) (j:=j) (by omega)).1 ?_
   simp[Int.tmod_eq_emod_of_nonneg] at hq
   omega
  have hw8:IntKind.u64.wrap (b.length:Int)=(b.length:Int):=IntWalk.u64_in _ (by omega)
  have hw9:IntKind.u64.wrap ((b.length:Int)*8)=(b.length:Int)*8:=IntWalk.u64_in _ (by omega)
  rw[hL] at ho
  replace hA:=hA.keepN [0,3]
  refine wp_exit (xT (xT (xB (nT (wS (wR ?_))))))
  revert a;(iterate 2 refine wo rfl rfl (by decide) (fun ev e h=>by simp[go_sem,h,hw8,hw9]<;>rfl) ?_);intro a hA
  refine a7 hA rfl rfl (by decide) (fun ev h=>by simp[go_sem,h.get 22 rfl,hw8,hw9];try first|exact⟨rfl,rfl⟩|rfl) fun a hA=> ?_
  revert a;(iterate 2 refine wo rfl rfl (by decide) (fun ev e h=>by simp[go_sem,h,hw8,hw9]<;>rfl) ?_);intro a hA
  replace hA:=hA.keepN [3,4]
  refine wN (nT (wS (wS (wR ?_))))
  revert a;refine wo rfl rfl (by decide) (fun ev e h=>by simp[go_sem,h,hw8,hw9]<;>rfl) ?_;intro a hA
  replace hA:=hA.keepN [3,4,5]
  refine wN (nT (wB ?_))
  refine aQ (fun k a wx=>∃(i:Nat) (v:Value),i+k=8∧At 37 [(3,v),(4, .int .u64 ((b.length:Int)*8)),(5, .int .i64 (56 - 8*(i:Int)))] a∧ce w.heap.size wx v (b++[128]++List.replicate (bn b.length) 0++(be 8 (b.length*8)).take i)∧Below w.heap.size w wx) (8) ?_ ?_
  ·exact⟨0,_,by omega,hA,by rw[←hje];simpa using ho,HB⟩
  clear ho HB hrv
  rintro k a wx ⟨i,v,hik,hA,ho,HB⟩
  refine wS (wS (wR ?_))
  revert a;(iterate 2 refine wo rfl rfl (by decide) (fun ev e h=>by simp[go_sem,h]<;>rfl) ?_);intro a hA
  replace hA:=hA.keepN [3,4,5,26]
  refine wN (nT ?_)
  refine aH hA 26 _ rfl (fun hq2=> ?yR) (fun hq2=> ?nR)
  case yR=>
   have hi8:i<8:=by simp at hq2;omega
   have hsh:=DH (b.length*8) i hi8
   rw[show((b.length*8:Nat):Int)=(b.length:Int)*8 by omega] at hsh
   have hwb:∀q:Nat,IntKind.u8.wrap (q:Int)=(((UInt8.ofNat q).toNat:Nat):Int):=fun q=>by rw[IntKind.wrap_u8'];simp
   have hw5:IntKind.i64.wrap (56 - 8*(i:Int) - 8)=56 - 8*((i+1:Nat):Int):=by rw[IntWalk.i64_in _ (by omega)];omega
   refine wp_skip (nT (wS (wB (wR ?_))))
   revert a;(iterate 4 refine wo rfl rfl (by decide) (fun ev e h=>by simp[go_sem,h]<;>rfl) ?_);intro a hA
   refine a7 hA rfl rfl (by decide) (fun ev h=>by simp[go_sem,h.get 32 rfl];try first|exact⟨rfl,rfl⟩|rfl) fun a hA=> ?_
   refine aP hA rfl rfl (by decide) (fun ev h=>by simp[go_sem,h.get 33 rfl];try first|exact⟨rfl,rfl⟩|rfl) fun w6 a (K6:aI _ _ _ _) hz6 hb6 hA=> ?_
   replace HB:=HB.trans (hb6.mono HB.size)
   replace ho:=ho.below hb6
   have hby:IntKind.u8.wrap ((b.length:Int)*8/2^(56 - 8*(i:Int)).toNat)=(((UInt8.ofNat (b.length*8/256^(7 - i))).toNat:Nat):Int):=by
    rw[show(56 - 8*(i:Int)).toNat=8*(7 - i) by omega,show(b.length:Int)*8=((b.length*8:Nat):Int) by omega,uz,hwb]
   rw[hby] at K6
   obtain⟨r7,w7,hr7,ho7,hg7⟩:=ez ho (lY K6) (by simp[aO];omega) HB.size
   refine a7 hA rfl rfl (by decide) (fun ev h=>ao rfl (h.get 29 rfl) (h.get 34 rfl) hr7) fun a hA=> ?_
   revert a;refine wo rfl rfl (by decide) (fun ev e h=>by simp[go_sem,h,hw5]<;>rfl) ?_;intro a hA
   replace hA:=hA.keepN [3,4,5]
   refine wN (nB (nT (wR ?_)))
   revert a;(iterate 3 refine wo rfl rfl (by decide) (fun ev e h=>by simp[go_sem,h,hw5]<;>rfl) ?_);intro a hA
   replace hA:=hA.keepN [3,4,5]
   refine wN (nT ?_)
   exact⟨k - 1,by omega,i+1,_,by omega,hA,by rw[Az _ 8 i hi8,←List.append_assoc];exact ho7,dM HB ho hg7 (Nat.le_refl _) HB.size⟩
  case nR=>
   replace hA:=hA.keepN [3]
   refine wp_exit (xT (xT (xB (nT (wS (wR ?_))))))
   revert a;(iterate 2 refine wo rfl rfl (by decide) (fun ev e h=>by simp[go_sem,h]<;>rfl) ?_);intro a hA
   replace hA:=hA.keepN [2]
   refine wN (nT (wp_ret ?_))
   refine ab hA 2 rfl rfl ?_
   have hi:i=8:=by simp at hq2;omega
   subst hi
   exact⟨_,rfl,by unfold j6;rw[List.take_of_length_le (by rw[aO];omega)] at ho;exact ho,HB⟩
theorem GT :AN.Ok:=⟨by decide,by decide,by decide,by decide,by decide,by decide,by decide,by decide⟩
theorem oO (l:List UInt8):∀i,(iF l i).Ok
 |0=>GT
 |i+1=>DG _ _
def IZ (x:UInt8):Value:= .int .u8 ((x.toNat:Nat):Int)
theorem kV (l:List UInt8):ar l=l.map IZ:=rfl
def aw (l:List UInt8):List Value:=(l++List.replicate (32 - l.length) 0).map IZ
theorem iV {l:List UInt8} (h:l.length≤32):(aw l).length=32:=by unfold aw;simp;omega
theorem nh {l:List UInt8} (h:l.length<32) (x:UInt8):(aw l).set l.length (IZ x)=aw (l++[x]):=by
 unfold aw
 have e:List.replicate (32 - l.length) (0:UInt8)=0::List.replicate (32 - (l++[x]).length) 0:=by
  rw[List.length_append,show 32 - l.length=(32 - (l.length+[x].length))+1 by simp;omega,List.replicate_succ]
 rw[e,List.map_append,List.map_cons,List.set_append_right _ _ (by simp),List.length_map,Nat.sub_self,List.set_cons_zero,List.append_assoc,List.map_append]
 simp
theorem mR {l:List UInt8} {j:Nat} (h:l.length≤j) (h2:j<32):(aw l)[j]?=some (.int .u8 0):=by
 unfold aw
 rw[List.getElem?_map,List.getElem?_append_right h,List.getElem?_replicate,if_pos (by omega)]
 rfl
theorem mQ {l:List UInt8} (h:l.length=32):aw l=ar l:=by unfold aw;rw[h];simp;rfl
theorem nd (l:List UInt8):(aw l).all (·.oneCell')=true:=by
 unfold aw
 rw[List.all_map,List.all_eq_true]
 intro x _
 rfl
theorem tC (s:dH) {i:Nat} (h:i<32):(s.l.flatMap (be 4)).take (i+1)=(s.l.flatMap (be 4)).take i++[UInt8.ofNat (s.l.getD (i/4) 0/256^(3 - i%4))]:=by
 have hl:(s.l.flatMap (be 4)).length=32:=dH.l_len s
 rw[List.take_add_one,List.getElem?_eq_getElem (by omega)]
 congr 1
 have hc:∀k:Fin 32,(s.l.flatMap (be 4))[k.1]?=some (UInt8.ofNat (s.l.getD (k.1/4) 0/256^(3 - k.1%4))):=by
  intro k
  obtain⟨k,hk⟩:=k
  have hcs:k=0∨k=1∨k=2∨k=3∨k=4∨k=5∨k=6∨k=7∨k=8∨k=9∨k=10∨k=11∨k=12∨k=13∨k=14∨k=15∨k=16∨k=17∨k=18∨k=19∨k=20∨k=21∨k=22∨k=23∨k=24∨k=25∨k=26∨k=27∨k=28∨k=29∨k=30∨k=31:=by omega
  rcases hcs with rfl|rfl|rfl|rfl|rfl|rfl|rfl|rfl|rfl|rfl|rfl|rfl|rfl|rfl|rfl|rfl|rfl|rfl|rfl|rfl|rfl|rfl|rfl|rfl|rfl|rfl|rfl|rfl|rfl|rfl|rfl|rfl<;>simp[dH.l,be]
 have:=hc ⟨i,h⟩
 rw[List.getElem?_eq_getElem (by omega)] at this
 simpa using this
theorem tP {s:dH} (h:s.Ok) (j:Nat):s.l.getD j 0<4294967296:=by
 have hc:∀x∈s.l,x<4294967296:=by
  intro x hx
  unfold dH.l at hx
  simp only[List.mem_cons,List.not_mem_nil,or_false] at hx
  obtain⟨ha,hb,hc,hd,he,hf,hg,hh⟩:=h
  rcases hx with rfl|rfl|rfl|rfl|rfl|rfl|rfl|rfl<;>assumption
 rw[List.getD_eq_getElem?_getD]
 cases hj:s.l[j]? with
 |none=>decide
 |some x=>exact hc x (List.mem_of_getElem? hj)
theorem Fw (l:List Nat):(l.map dD).toArray.toList.all px=true:=by
 rw[List.all_map,List.all_eq_true]
 intro x _
 rfl
theorem rR {w:World} {B n k cap:Nat} {A:Option Addr} {l:List UInt8} (h:aE w B 1 A n (ar l)) (hk:k≤n) (hc:n≤cap) (h0:0<k):aE w B 1 (if cap=k then A else Option.map (fun x=>(⟨x.block,x.off+k,none⟩:Addr)) A) (n - k) (ar (l.drop k)):=by
 have:=h.cut hk hc
 rw[Nat.mul_one] at this
 have e:(fun x:Addr=>(⟨x.block,x.off+k,none⟩:Addr))=fun x=>x.add k:=by
  funext x
  unfold Addr.add
  rw[if_neg (by omega)]
 rw[e,show ar (l.drop k)=(ar l).drop k by rw[kV,kV,List.map_drop]]
 exact this
theorem qX (A:Option Addr) (n c:Nat) (b:List UInt8) (hl:b.length=n) (hn:n≤1000000) (w:World) (hr:aE w w.heap.size 1 A n (ar b)):
 Calls Tryz.prog 100 #[.slice A n c] w fun ev w'=>ev= .returned (.agg (ar (cP b)).toArray)∧Below w.heap.size w w':=by
 refine aK 36 Tryz.func100 rfl rfl (Nat.le_of_ble_eq_true rfl) ?_
 intro a hA;replace hA:=hA.norm
 refine wS (wR ?_)
 refine aP hA rfl rfl (by decide) (fun ev h=>by simp[go_sem];try first|exact⟨rfl,rfl⟩|rfl) fun w1 a (K2:aI _ _ _ _) hz1 hb1 hA=> ?_
 obtain⟨g2,hg2⟩:∃g,w.heap.size=g:=⟨_,rfl⟩
 rw[hg2] at K2 hA
 replace K2:aI w1 g2 112 (aw []).toArray:=K2
 have HB:Below w.heap.size w w1:=hb1
 replace hA:=hA.keepN [0,2]
 refine wN (nT (wS (wR ?_)))
 refine a7 hA rfl rfl (by decide) (fun ev h=>jH (v:= .agg (AN.l.map dD).toArray) h rfl (by kernel_rfl) (by kernel_rfl)) fun a hA=> ?_
 refine aP hA rfl rfl (by decide) (fun ev h=>by simp[go_sem];try first|exact⟨rfl,rfl⟩|rfl) fun w2 a (K3:aI _ _ _ _) hz2 hb2 hA=> ?_
 replace HB:=HB.trans (hb2.mono HB.size)
 replace K2:=K2.below hb2 K2.lt
 obtain⟨g3,hg3⟩:∃g,w1.heap.size=g:=⟨_,rfl⟩
 rw[hg3] at K3 hA
 have h23:g2<g3:=by omega
 have hB2:w.heap.size≤g2:=by omega
 refine di (AN.l.map dD) hA rfl rfl K3 (by rfl) (l_len AN) (by kernel_rfl) (kL _) rfl (fun ev h=>⟨h.get 3 rfl,h.get 7 rfl⟩) fun w3 (K3:aI _ _ _ _) hs3=> ?_
 replace K2:=hs3.blk K2 (by omega)
 replace HB:=hs3.below HB (by omega)
 replace hA:=hA.keepN [0,2,3]
 refine wN (nT (wS (wS (wR ?_))))
 revert a;refine wo rfl rfl (by decide) (fun ev e h=>by simp[go_sem,h]<;>rfl) ?_;intro a hA
 refine aC hA rfl rfl (by decide) (fun ev h=>aB Tryz.func120 (by kernel_rfl) rfl (h.f _) (by first|(simp only[mL,h.get 8 rfl,h.c]<;>rfl)|(simp[mL,h.get 8 rfl,h.c]<;>rfl))) (zv A n c b hl hn _ ((hr.below HB).more HB.size)) ?_
 rintro e w4 ⟨r,rfl,ho,hb4⟩
 refine⟨_,rfl,fun a hA=> ?_⟩
 replace HB:=HB.trans (hb4.mono HB.size)
 replace K2:=K2.below hb4 K2.lt
 replace K3:=K3.below hb4 K3.lt
 obtain⟨L,hL⟩:∃L,j6 b=L:=⟨_,rfl⟩
 have hL64:=mZ b
 have hLen:L.length≤2000000:=by rw[←hL];unfold j6;simp[aO,bn];omega
 rw[hL] at ho hL64
 obtain⟨M,hM⟩:∃M,L.length=64*M:=⟨L.length/64,by omega⟩
 have hfin:cP b=(iF L M).l.flatMap (be 4):=by unfold cP;rw[hL,hM,Nat.mul_div_cancel_left _ (by decide)]
 obtain⟨Ar,cr,e0,hrr,hcr⟩:=cQ ho
 subst e0
 revert a;refine wo rfl rfl (by decide) (fun ev e h=>by simp[go_sem,h]<;>rfl) ?_;intro a hA
 replace hA:=hA.keepN [2,3,4]
 refine wN (nT (wB ?_))
 refine aQ (fun k a wx=>∃(i:Nat) (A1:Option Addr) (n1 c1:Nat),i+k=M∧n1=64*k∧n1≤c1∧At 36 [(2, .pointer (some ⟨g2,0,none⟩)),(3, .pointer (some ⟨g3,0,none⟩)),(4, .slice A1 n1 c1)] a∧aE wx wx.heap.size 1 A1 n1 (ar (L.drop (64*i)))∧aI wx g2 112 (aw []).toArray∧aI wx g3 185 ((iF L i).l.map dD).toArray∧Below w.heap.size w wx) (M) ?_ ?_
 ·exact⟨0,Ar,L.length,cr,by omega,hM,hcr,hA,hrr,K2,K3,HB⟩
 clear K2 K3 HB hrr ho hr
 rintro k a wx ⟨i,A1,n1,c1,hik,hn1,hc1,hA,hR,K2,K3,HB⟩
 refine wS (wS (wR ?_))
 revert a;(iterate 3 refine wo rfl rfl (by decide) (fun ev e h=>by simp[go_sem,h]<;>rfl) ?_);intro a hA
 replace hA:=hA.keepN [2,3,4,12]
 refine wN (nT ?_)
 refine aH hA 12 _ rfl (fun hq=> ?yP) (fun hq=> ?nP)
 case yP=>
  have hk:0<k:=by simp at hq;omega
  refine wp_skip (nT (wS (wB ?_)))
  have z1:(64:Int)≤(c1:Int):=by omega
  have z2:(64:Int)≤(n1:Int):=by omega
  refine aj 3 ?_
  simp only[List.take_succ_cons,List.take_zero,List.drop_succ_cons,List.drop_zero]
  refine ai hA [(.det (.agg ((iF L i).l.map dD).toArray)),(.det ?dD1),(.det ?dD2)] [] (fun wy=>Below wx.heap.size wx wy) (aG [] aA) (by kernel_rfl) rfl (by kernel_rfl) (by kernel_rfl) rfl (by kernel_rfl) (by kernel_rfl) (by kernel_rfl) (by kernel_rfl) ((Below.refl _ _).drew) (bF [] [true,true,true] [true,true,true] [] rfl rfl rfl (by kernel_rfl) ⟨trivial,trivial,trivial,trivial⟩ trivial) (fun _ h=>by cases h) (fun _ _ _ _ _ h=>by cases h) (fun _ h=>by cases h) ⟨?oD0, ?oD1, ?oD2,trivial⟩ (by kernel_rfl) ?fD
  case oD0=>
   intro ev wo hev hC hs hph
   have e3:=se hA hs 3
   have Kx:=K3.below hC K3.lt
   exact rL (aJ rfl) rfl (by kernel_rfl) hC (aG.of rfl (aA.refl _)) (fa Kx Tryz.underlying185 rfl (by kernel_rfl) (l_len _) rfl e3)
  case oD1=>intro ev wo hev hC hs hph;have x0:=se hA hs 4;exact od rfl rfl (by kernel_rfl) hC (aG.of rfl (aA.refl _)) (by simp[go_sem,x0,z1,z2]<;>rfl)
  case oD2=>intro ev wo hev hC hs hph;have x0:=sd hs 16 1;exact od rfl rfl (by kernel_rfl) hC (aG.of rfl (aA.refl _)) (by simp[go_sem,x0,hev.const,z1,z2]<;>rfl)
  intro sg wf hC hph
  intro a hA
  replace hA:=hA.keepN [2,3,4,15,17]
  replace HB:=HB.trans (hC.mono HB.size)
  replace K2:=K2.below hC K2.lt
  replace K3:=K3.below hC K3.lt
  replace hR:=(hR.below hC).more hC.size
  refine aC hA rfl rfl (by decide) (fun ev h=>aB Tryz.func121 (by kernel_rfl) rfl (h.f _) (by first|(simp only[mL,h.get 15 rfl,h.get 17 rfl,h.c]<;>rfl)|(simp[mL,h.get 15 rfl,h.get 17 rfl,h.c]<;>rfl))) (Fz (iF L i) (oO L i) A1 c1 ((L.drop (64*i)).take 64) (by rw[List.length_take,List.length_drop];omega) _ (hR.take8 (by omega))) ?_
  rintro e w5 ⟨rfl,hb5⟩
  refine⟨_,rfl,fun a hA=> ?_⟩
  replace HB:=HB.trans (hb5.mono HB.size)
  replace K2:=K2.below hb5 K2.lt
  replace K3:=K3.below hb5 K3.lt
  replace hR:=(hR.below hb5).more hb5.size
  have K3b:=K3
  refine di ((rh (iF L i) ((L.drop (64*i)).take 64)).l.map dD) hA rfl rfl K3 (l_len _) (l_len _) (by kernel_rfl) (kL _) rfl (fun ev h=>⟨h.get 3 rfl,h.get 18 rfl⟩) fun w6 (K3:aI _ _ _ _) hs=> ?_
  replace hA:=hA.keepN [2,3,4]
  refine wN (nB (nT (wR ?_)))
  revert a;(iterate 3 refine wo rfl rfl (by decide) (fun ev e h=>by simp[go_sem,h,z1,z2]<;>rfl) ?_);intro a hA
  replace hA:=hA.keepN [2,3,4]
  refine wN (nT ?_)
  refine⟨k - 1,by omega,i+1,_,n1 - 64,c1 - 64,by omega,by omega,by omega,hA, ?_,hs.blk K2 (by omega),K3,hs.below HB (by omega)⟩
  have hR2:=rR hR (k:=64) (by omega) hc1 (by omega)
  rw[List.drop_drop,show 64*i+64=64*(i+1) by omega] at hR2
  exact cG hR2 hs K3b (Fw _)
 case nP=>
  have hk:k=0:=by simp at hq;omega
  have hi:i=M:=by omega
  subst hi
  have hok:=oO L i
  generalize iF L i=s at*
  clear hR
  replace hA:=hA.keepN [2,3]
  refine wp_exit (xT (xT (xB (nT (wS (wR ?_))))))
  have l2:=K2.lt
  have l3:=K3.lt
  refine aP hA rfl rfl (by decide) (fun ev h=>by simp[go_sem];try first|exact⟨rfl,rfl⟩|rfl) fun w7 a (K5:aI _ _ _ _) hz5 hb5 hA=> ?_
  replace HB:=HB.trans (hb5.mono HB.size)
  replace K2:=K2.below hb5 K2.lt
  replace K3:=K3.below hb5 K3.lt
  obtain⟨g5,hg5⟩:∃g,wx.heap.size=g:=⟨_,rfl⟩
  rw[hg5] at K5 hA l2 l3
  have hB5:w.heap.size≤g5:=by omega
  obtain⟨D,hD⟩:∃D,s.l.flatMap (be 4)=D:=⟨_,rfl⟩
  have hDl:D.length=32:=by rw[←hD];exact dH.l_len s
  replace K5:aI w7 g5 112 (aw (D.take 0)).toArray:=K5
  replace hA:=hA.keepN [2,3,5]
  refine wN (nT (wS (wS (wR ?_))))
  revert a;refine wo rfl rfl (by decide) (fun ev e h=>by simp[go_sem,h]<;>rfl) ?_;intro a hA
  replace hA:=hA.keepN [2,3,5,19]
  refine wN (nT (wB ?_))
  refine aQ (fun k a wy=>∃(i:Nat),i+k=32∧At 36 [(2, .pointer (some ⟨g2,0,none⟩)),(3, .pointer (some ⟨g3,0,none⟩)),(5, .pointer (some ⟨g5,0,none⟩)),(19, .int .i64 (i:Nat))] a∧aI wy g2 112 (aw []).toArray∧aI wy g3 185 (s.l.map dD).toArray∧aI wy g5 112 (aw (D.take i)).toArray∧Below w.heap.size w wy) (32) ?_ ?_
  ·exact⟨0,by omega,hA,K2,K3,K5,HB⟩
  clear K2 K3 K5 HB
  rintro k a wy ⟨i,hik2,hA,K2,K3,K5,HB⟩
  refine wS (wR ?_)
  revert a;refine wo rfl rfl (by decide) (fun ev e h=>by simp[go_sem,h]<;>rfl) ?_;intro a hA
  replace hA:=hA.keepN [2,3,5,19,20]
  refine wN (nT (wS ?_))
  refine aH hA 20 _ rfl (fun hq2=> ?yR) (fun hq2=> ?nR)
  case yR=>
   have hi:i<32:=by simp at hq2;omega
   have jj:(0:Int)≤(i:Int):=by omega
   have ji:(i:Int)<32:=by omega
   obtain⟨q,hqe⟩:∃q,i/4=q:=⟨_,rfl⟩
   obtain⟨m,hme⟩:∃m,i%4=m:=⟨_,rfl⟩
   have d1:IntKind.i64.wrap (q:Int)=(q:Int):=IntWalk.i64_in _ (by omega)
   have d1':(i:Int).tdiv 4=(q:Int):=by rw[←hqe];exact(Int.ofNat_tdiv i 4).symm
   have hm4:m<4:=by omega
   have d2:(i:Int).tmod 4=(m:Int):=by rw[←hme];exact(Int.ofNat_tmod i 4).symm
   have d3:IntKind.i64.wrap (8*(m:Int))=8*(m:Int):=IntWalk.i64_in _ (by omega)
   have d4:IntKind.i64.wrap (24 - 8*(m:Int))=24 - 8*(m:Int):=IntWalk.i64_in _ (by omega)
   have cq:=Gb (s:=s) (i:=q) (by omega)
   have jq:(0:Int)≤(q:Int):=by omega
   have jq8:(q:Int)<8:=by omega
   have lv:=tP hok q
   obtain⟨v,hv⟩:∃v,s.l.getD q 0=v:=⟨_,rfl⟩
   rw[hv] at cq lv
   obtain⟨x,hx⟩:∃x:UInt8,UInt8.ofNat (v/256^(3 - m))=x:=⟨_,rfl⟩
   have hby:IntKind.u8.wrap ((v:Int)/2^(24 - 8*(m:Int)).toNat)=((x.toNat:Nat):Int):=by
    rw[show(24 - 8*(m:Int)).toNat=8*(3 - m) by omega,uz,←hx,IntKind.wrap_u8'];simp
   have hci:=mR (l:=D.take i) (j:=i) (by rw[List.length_take];omega) hi
   refine wp_skip (nT (wS (wB (wS (wR ?_)))))
   revert a;(iterate 2 refine wo rfl rfl (by decide) (fun ev e h=>by simp[go_sem,h,d1,d1',d2,d3,d4,jq,jq8,K3.cell,cq,hby,jj,ji,aS,hci]<;>rfl) ?_);intro a hA
   replace hA:=hA.keepN [2,3,5,6,19]
   refine wN (nT (wR ?_))
   revert a;(iterate 10 refine wo rfl rfl (by decide) (fun ev e h=>by simp[go_sem,h,d1,d1',d2,d3,d4,jq,jq8,K3.cell,cq,hby,jj,ji,aS,hci]<;>rfl) ?_);intro a hA
   replace hA:=hA.keepN [2,3,5,19,22,31]
   refine a7 hA rfl rfl (by decide) (fun ev h=>by simp[go_sem,h.get 31 rfl,d1,d1',d2,d3,d4,jq,jq8,K3.cell,cq,hby,jj,ji,aS,hci];try first|exact⟨rfl,rfl⟩|rfl) fun a hA=> ?_
   revert a;refine wo rfl rfl (by decide) (fun ev e h=>by simp[go_sem,h,d1,d1',d2,d3,d4,jq,jq8,K3.cell,cq,hby,jj,ji,aS,hci]<;>rfl) ?_;intro a hA
   refine aq ((aw (D.take i)).set i (.int .u8 ((x.toNat:Nat):Int))) _ hA rfl rfl K5 (j:=i) (by rfl) (fun ev h=>by simp[go_sem,h.get 33 rfl,h.get 32 rfl,d1,d1',d2,d3,d4,jq,jq8,K3.cell,cq,hby,jj,ji,aS,hci,K5.cell,K5.frozen];try first|exact⟨rfl,rfl⟩|rfl) fun w8 (K5:aI _ _ _ _) hs=> ?_
   have hwi:IntKind.i64.wrap ((i:Int)+1)=((i+1:Nat):Int):=by rw[IntWalk.i64_in _ (by omega)];omega
   replace hA:=hA.keepN [2,3,5,19]
   refine wN (nB (nT (wR ?_)))
   revert a;(iterate 2 refine wo rfl rfl (by decide) (fun ev e h=>by simp[go_sem,h,hwi]<;>rfl) ?_);intro a hA
   replace hA:=hA.keepN [2,3,5,19]
   refine wN (nT ?_)
   refine⟨k - 1,by omega,i+1,by omega,hA,hs.blk K2 (by omega),hs.blk K3 (by omega), ?_,hs.below HB hB5⟩
   have e:=nh (l:=D.take i) (by rw[List.length_take];omega) x
   rw[show(D.take i).length=i by rw[List.length_take];omega] at e
   have e2:=tC s hi
   rw[hD,hqe,hme,hv,hx] at e2
   rw[e2,←e]
   exact K5
  case nR=>
   have hi:i=32:=by simp at hq2;omega
   subst hi
   rw[List.take_of_length_le (by omega)] at K5
   have h32:(aw D).length=32:=iV (by omega)
   replace hA:=hA.keepN [2,5]
   refine wp_exit (xT (xT (xB (nT (wS (wR ?_))))))
   refine a7 hA rfl rfl (by decide) (fun ev h=>fa K5 Tryz.underlying112 rfl (by kernel_rfl) h32 rfl (h.get 5 rfl)) fun a hA=> ?_
   refine di (aw D) hA rfl rfl K2 (iV (l:=[]) (by decide)) h32 (by kernel_rfl) (nd _) rfl (fun ev h=>⟨h.get 2 rfl,h.get 35 rfl⟩) fun w9 (K2:aI _ _ _ _) hs=> ?_
   replace hA:=hA.keepN [2]
   refine wN (nT (wp_ret ?_))
   refine lW hA 2 rfl rfl K2 Tryz.underlying112 rfl (by kernel_rfl) h32 ?_
   exact⟨by rw[hfin,hD,mQ hDl],hs.below HB hB2⟩
theorem vY {l:List UInt8} {j:Nat} (h:j<l.length):dL (l.take (j+1))=dL (l.take j)*256+(l.getD j 0).toNat:=by
 rw[List.take_add_one,List.getElem?_eq_getElem h,List.getD_eq_getElem?_getD,List.getElem?_eq_getElem h]
 exact kD _ _
theorem j5 (A:Option Addr) (n c:Nat) (l:List UInt8) (hl:l.length=n) (hn:n≤4) (w:World) (hr:aE w w.heap.size 1 A n (ar l)):
 Calls Tryz.prog 88 #[.slice A n c] w fun ev w'=>ev= .returned (.int .u64 (dL l:Nat))∧w'=w:=by
 refine aK 20 Tryz.func88 rfl rfl (Nat.le_of_ble_eq_true rfl) ?_
 intro a hA;replace hA:=hA.norm
 refine wS (wR ?_)
 revert a;refine wo rfl rfl (by decide) (fun ev e h=>by simp[go_sem,h]<;>rfl) ?_;intro a hA
 replace hA:=hA.keepN [0]
 refine wN (nT (wS (wR ?_)))
 revert a;refine wo rfl rfl (by decide) (fun ev e h=>by simp[go_sem,h]<;>rfl) ?_;intro a hA
 replace hA:=hA.keepN [0,3]
 refine wN (nT (wS (wS (wR ?_))))
 revert a;(iterate 3 refine wo rfl rfl (by decide) (fun ev e h=>by simp[go_sem,h]<;>rfl) ?_);intro a hA
 replace hA:=hA.keepN [0,3,6,7]
 refine wN (nT (wB ?_))
 refine aQ (fun k a wx=>∃(j v:Nat),j+k=n∧v=dL (l.take j)∧At 20 [(0, .slice A n c),(3, .int .u64 (v:Nat)),(6, .int .i64 (n:Nat)),(7, .int .i64 (j:Nat))] a∧wx=w) (n) ?_ ?_
 ·exact⟨0,0,by omega,rfl,hA,rfl⟩
 rintro k a wx ⟨j,v,hjk,hv,hA,rfl⟩
 refine wS (wR ?_)
 revert a;refine wo rfl rfl (by decide) (fun ev e h=>by simp[go_sem,h]<;>rfl) ?_;intro a hA
 replace hA:=hA.keepN [0,3,6,7,8]
 refine wN (nT (wS ?_))
 refine aH hA 8 _ rfl (fun hq=> ?yL) (fun hq=> ?nL)
 case yL=>
  have hj:j<n:=by simp at hq;omega
  obtain⟨ad,rfl,had,hc⟩:=vF hr hl (by omega)
  have hcj:=hc j hj
  have hst:=vY (l:=l) (j:=j) (by omega)
  rw[←hv] at hst
  have hlt:=jc (l.take j)
  rw[←hv,List.length_take] at hlt
  have hlt2:v<256^3:=Nat.lt_of_lt_of_le hlt (Nat.pow_le_pow_right (by decide) (by omega))
  have lx:=(l.getD j 0).toNat_lt
  obtain⟨x,hx⟩:∃x,(l.getD j 0).toNat=x:=⟨_,rfl⟩
  rw[hx] at hcj hst lx
  have w1:IntKind.u64.wrap ((v:Int)*256)=(v:Int)*256:=IntWalk.u64_in _ (by omega)
  have w2:IntKind.u64.wrap (x:Int)=(x:Int):=IntWalk.u64_in _ (by omega)
  have w3:IntKind.u64.wrap ((v:Int)*256+(x:Int))=((v*256+x:Nat):Int):=by rw[IntWalk.u64_in _ (by omega)];omega
  have w4:IntKind.i64.wrap ((j:Int)+1)=((j+1:Nat):Int):=by rw[IntWalk.i64_in _ (by omega)];omega
  have jj:(0:Int)≤(j:Int):=by omega
  have ji:(j:Int)<(n:Int):=by omega
  obtain⟨v2,hv2⟩:∃v2,v*256+x=v2:=⟨_,rfl⟩
  rw[hv2] at w3 hst
  refine wp_skip (nT (wS (wB (wS (wR ?_)))))
  revert a;(iterate 2 refine wo rfl rfl (by decide) (fun ev e h=>by simp[go_sem,h,jj,ji,hcj,w1,w2,w3,w4]<;>rfl) ?_);intro a hA
  replace hA:=hA.keepN [0,3,4,6,7]
  refine wN (nT (wR ?_))
  revert a;(iterate 6 refine wo rfl rfl (by decide) (fun ev e h=>by simp[go_sem,h,jj,ji,hcj,w1,w2,w3,w4]<;>rfl) ?_);intro a hA
  refine a7 hA rfl rfl (by decide) (fun ev h=>by simp[go_sem,h.get 15 rfl,jj,ji,hcj,w1,w2,w3,w4];try first|exact⟨rfl,rfl⟩|rfl) fun a hA=> ?_
  revert a;(iterate 2 refine wo rfl rfl (by decide) (fun ev e h=>by simp[go_sem,h,jj,ji,hcj,w1,w2,w3,w4]<;>rfl) ?_);intro a hA
  replace hA:=hA.keepN [0,3,6,7]
  refine wN (nB (nT (wR ?_)))
  revert a;(iterate 2 refine wo rfl rfl (by decide) (fun ev e h=>by simp[go_sem,h,jj,ji,hcj,w1,w2,w3,w4]<;>rfl) ?_);intro a hA
  replace hA:=hA.keepN [0,3,6,7]
  refine wN (nT ?_)
  exact⟨k - 1,by omega,j+1,v2,by omega,hst.symm,hA,rfl⟩
 case nL=>
  have hj:j=n:=by simp at hq;omega
  subst hj
  replace hA:=hA.keepN [3]
  refine wp_exit (xT (xT (xB (nT (wS (wR ?_))))))
  revert a;(iterate 2 refine wo rfl rfl (by decide) (fun ev e h=>by simp[go_sem,h]<;>rfl) ?_);intro a hA
  replace hA:=hA.keepN [2]
  refine wN (nT (wp_ret ?_))
  refine ab hA 2 rfl rfl ?_
  exact⟨by rw[hv,List.take_of_length_le (by omega)],rfl⟩
theorem dl (x n:Nat) (m:Int) (hm:m=(n:Int)) (hx:x<4294967296) (h1:1≤n) (h2:n≤31) (w:World):
 Calls Tryz.prog 91 #[.int .u64 (x:Nat), .int .u64 m] w fun ev w'=>ev= .returned (.int .u64 (cH x n:Nat))∧Below w.heap.size w w':=by
 subst hm
 obtain⟨q,hq⟩:∃q,32 - n=q:=⟨_,rfl⟩
 have hw:IntKind.u64.wrap (32 - (n:Int))=(q:Int):=by rw[IntWalk.u64_in _ (by omega)];omega
 have s4:=kT x n
 have ly:x<<<q<18446744073709551616:=by
  rw[Nat.shiftLeft_eq]
  exact Nat.lt_of_lt_of_le (Nat.mul_lt_mul_of_lt_of_le hx (Nat.pow_le_pow_right (by decide) (show q≤31 by omega)) (by decide)) (by decide)
 have sy:(x:Int)*2^q=((x<<<q:Nat):Int):=by rw[Nat.shiftLeft_eq,Int.natCast_mul,Int.natCast_pow];rfl
 obtain⟨y,hy⟩:∃y,x<<<q=y:=⟨_,rfl⟩
 rw[hy] at ly sy
 have s1:IntKind.u64.wrap ((x:Int)*2^q)=(y:Int):=by
  rw[sy]
  exact IntWalk.u64_in _ (by omega)
 have s2:Op.shift .shl .u64 (x:Int) .u64 (q:Int)=pure (.int .u64 (y:Int)):=by
  rw[shift_shl_any _ _ _ _ (by omega),show min (q:Int).toNat IntKind.u64.bits=q by show min (q:Int).toNat 64=q;omega,s1]
 obtain⟨z,hz⟩:∃z,x>>>n=z:=⟨_,rfl⟩
 have lz:z<4294967296:=by rw[←hz,Nat.shiftRight_eq_div_pow];exact Nat.lt_of_le_of_lt (Nat.div_le_self _ _) hx
 rw[hz] at s4
 have s5:=u64_or_nat z y (by omega) ly
 obtain⟨o,ho⟩:∃o,z|||y=o:=⟨_,rfl⟩
 have lo:o<18446744073709551616:=by rw[←ho];exact Nat.or_lt_two_pow (n:=64) (by omega) ly
 rw[ho] at s5
 have s6:=u64_and_nat o 4294967295 lo (by decide)
 have e:o&&&4294967295=cH x n:=by
  rw[show(4294967295:Nat)=2^32 - 1 by decide,Nat.and_two_pow_sub_one_eq_mod,←ho,←hz,←hy,←hq]
  rfl
 rw[e] at s6
 have s6':bits .and .u64 (o:Int) 4294967295=((cH x n:Nat):Int):=s6
 clear ho hy hz e hq s6
 refine aK 14 Tryz.func91 rfl rfl (Nat.le_of_ble_eq_true rfl) ?_
 intro a hA;replace hA:=hA.norm
 refine wS (wR ?_)
 revert a;refine wo rfl rfl (by decide) (fun ev e h=>by simp[go_sem,h,hw,s1,s2,s4,s5,s6']<;>rfl) ?_;intro a hA
 replace hA:=hA.keepN [0,1]
 refine wN (nT (wS (wR ?_)))
 revert a;(iterate 10 refine wo rfl rfl (by decide) (fun ev e h=>by simp[go_sem,h,hw,s1,s2,s4,s5,s6']<;>rfl) ?_);intro a hA
 replace hA:=hA.keepN [4]
 refine wN (nT (wp_ret ?_))
 refine ab hA 4 rfl rfl ?_
 exact⟨rfl,Below.refl _ _⟩
def dY (x:Nat):Value:= .int .u64 (x:Nat)
def ee (l:List Nat):List Value:=(l++List.replicate (64 - l.length) 0).map dY
theorem AO {l:List Nat} (h:l.length≤64):(ee l).length=64:=by unfold ee;simp;omega
theorem rf {l:List Nat} (h:l.length<64) (x:Nat):(ee l).set l.length (dY x)=ee (l++[x]):=by
 unfold ee
 have e:List.replicate (64 - l.length) 0=0::List.replicate (64 - (l++[x]).length) 0:=by
  rw[List.length_append,show 64 - l.length=(64 - (l.length+[x].length))+1 by simp;omega,List.replicate_succ]
 rw[e,List.map_append,List.map_cons,List.set_append_right _ _ (by simp),List.length_map,Nat.sub_self,List.set_cons_zero,List.append_assoc,List.map_append]
 simp
theorem mF {l:List Nat} {j:Nat} (h:j<l.length):(ee l)[j]?=some (.int .u64 ((l.getD j 0:Nat):Int)):=by
 unfold ee
 rw[List.getElem?_map,List.getElem?_append_left h,List.getD_eq_getElem?_getD,List.getElem?_eq_getElem h]
 rfl
theorem xx {l:List Nat} {j:Nat} (h:l.length≤j) (h2:j<64):(ee l)[j]?=some (.int .u64 0):=by
 unfold ee
 rw[List.getElem?_map,List.getElem?_append_right h,List.getElem?_replicate,if_pos (by omega)]
 rfl
theorem xw {l:List Nat} (h:l.length=64):ee l=l.map dY:=by unfold ee;rw[h];simp
theorem og (l:List Nat):(l.map dY).all (·.oneCell')=true:=by
 rw[List.all_map,List.all_eq_true]
 intro x _
 rfl
theorem wi (l:List Nat):(ee l).toArray.toList.all px=true:=by
 unfold ee
 rw[List.all_map,List.all_eq_true]
 intro x _
 rfl
theorem tU (l:List Nat):(l.map dY).toArray.toList.all px=true:=by
 rw[List.all_map,List.all_eq_true]
 intro x _
 rfl
theorem nw {l:List Nat} {i:Nat} (h:i<l.length):(l.map dY)[i]?=some (.int .u64 ((l.getD i 0:Nat):Int)):=by
 rw[List.getElem?_map,List.getD_eq_getElem?_getD,List.getElem?_eq_getElem h]
 rfl
def iN (a:Nat):Nat:=a%4294967296
theorem vH {a:Nat} (h:a<18446744073709551616):bits .and .u64 (a:Int) 4294967295=((iN a:Nat):Int):=by
 have:=u64_and_nat a 4294967295 h (by decide)
 rw[show(4294967295:Nat)=2^32 - 1 by decide,Nat.and_two_pow_sub_one_eq_mod] at this
 exact this
theorem Hn {a:Nat} (h:a<4294967296):bits .xor .u64 4294967295 (a:Int)=((xo 4294967295 a:Nat):Int):=vI (a:=4294967295) (by decide) h
def mw (s:dH) (j:Nat):List Nat:=(List.range 8).map fun p=>if j<p then s.l.getD (p - 1) 0 else s.l.getD p 0
theorem AQ {s:dH} {j:Nat} (h:j<7):((mw s (j+1)).map dY)[j]?=some (.int .u64 ((s.l.getD j 0:Nat):Int))∧((mw s (j+1)).map dY)[j+1]?=some (.int .u64 ((s.l.getD (j+1) 0:Nat):Int)):=by
 have hc:j=0∨j=1∨j=2∨j=3∨j=4∨j=5∨j=6:=by omega
 rcases hc with rfl|rfl|rfl|rfl|rfl|rfl|rfl<;>exact⟨rfl,rfl⟩
theorem AR {s:dH} {j:Nat} (h:j<7):((mw s (j+1)).map dY).set (j+1) (.int .u64 ((s.l.getD j 0:Nat):Int))=(mw s j).map dY:=by
 have hc:j=0∨j=1∨j=2∨j=3∨j=4∨j=5∨j=6:=by omega
 rcases hc with rfl|rfl|rfl|rfl|rfl|rfl|rfl<;>rfl
def uG (s t:dH) (i:Nat):List Nat:=(List.range 8).map fun j=>if j<i then iN (cO (s.l.getD j 0) (t.l.getD j 0)) else s.l.getD j 0
theorem Da {s t:dH} {i:Nat} (h:i<8):((uG s t i).map dY)[i]?=some (.int .u64 ((s.l.getD i 0:Nat):Int)):=by
 unfold uG
 rw[List.getElem?_map,List.getElem?_map,List.getElem?_range h]
 simp[dY]
theorem Db {s t:dH} {i:Nat} (h:i<8):((uG s t i).map dY).set i (.int .u64 ((iN (cO (s.l.getD i 0) (t.l.getD i 0)):Nat):Int))=(uG s t (i+1)).map dY:=by
 have hc:i=0∨i=1∨i=2∨i=3∨i=4∨i=5∨i=6∨i=7:=by omega
 rcases hc with rfl|rfl|rfl|rfl|rfl|rfl|rfl|rfl<;>rfl
theorem Gk (s t:dH):(uG s t 0).map dY=s.l.map dY:=rfl
theorem Gl {s t:dH} (hs:s.Ok) (ht:t.Ok):(uG s t 8).map dY=(pH t s).l.map dY:=by
 have e:∀a b:Nat,a<4294967296→b<4294967296→iN (cO a b)=(b+a)%4294967296:=fun a b ha hb=>by unfold iN cO;omega
 have h8:uG s t 8=[iN (cO s.a t.a),iN (cO s.b t.b),iN (cO s.c t.c),iN (cO s.d t.d),iN (cO s.e t.e),iN (cO s.f t.f),iN (cO s.g t.g),iN (cO s.h t.h)]:=rfl
 rw[h8,e _ _ hs.a ht.a,e _ _ hs.b ht.b,e _ _ hs.c ht.c,e _ _ hs.d ht.d,e _ _ hs.e ht.e,e _ _ hs.f ht.f,e _ _ hs.g ht.g,e _ _ hs.h ht.h]
 rfl
theorem AC {x16 x15 x7 x2:Nat} (l16:x16<4294967296) (l7:x7<4294967296) (lp:xo (xo (cH x15 7) (cH x15 18)) (sr x15 3)<4294967296) (lq:xo (xo (cH x2 17) (cH x2 19)) (sr x2 10)<4294967296):
 iN (cO (cO (cO x16 (xo (xo (cH x15 7) (cH x15 18)) (sr x15 3))) x7) (xo (xo (cH x2 17) (cH x2 19)) (sr x2 10)))=jE x16 x15 x7 x2:=by
 unfold jE vA vB iN cO
 unfold xo sr at*
 omega
theorem sR {va vb vc vd ve vf vg vh kk ww P C Q M:Nat} (he:ve<4294967296) (hg:vg<4294967296) (hd:vd<4294967296) (hh:vh<4294967296) (hk:kk<4294967296) (hw:ww<4294967296) (lP:P<4294967296) (lC:C<4294967296) (lQ:Q<4294967296) (lM:M<4294967296)
 (hP:xo (xo (cH ve 6) (cH ve 11)) (cH ve 25)=P) (hC:Gd (an ve vf) (an (xo 4294967295 ve) vg)=C) (hQ:xo (xo (cH va 2) (cH va 13)) (cH va 22)=Q) (hM:Gd (Gd (an va vb) (an va vc)) (an vb vc)=M):
 (jL kk ww ⟨va,vb,vc,vd,ve,vf,vg,vh⟩).l=[iN (cO (cO (cO (cO (cO (cO vh P) C) kk) ww) Q) M),va,vb,vc,iN (cO vd (cO (cO (cO (cO vh P) C) kk) ww)),ve,vf,vg]:=by
 have e1:uO ve=P:=hP
 have e2:Dj va=Q:=hQ
 have e3:ik ve vf vg=C:=by rw[←hC];exact(zC he hg).symm
 have e4:zl va vb vc=M:=by rw[←hM];exact(GB va vb vc).symm
 have ea:(vh+uO ve+ik ve vf vg+kk+ww+Dj va+zl va vb vc)%4294967296=iN (cO (cO (cO (cO (cO (cO vh P) C) kk) ww) Q) M):=by
  rw[e1,e2,e3,e4]
  unfold iN cO
  omega
 have eb:(vd+(vh+uO ve+ik ve vf vg+kk+ww))%4294967296=iN (cO vd (cO (cO (cO (cO vh P) C) kk) ww)):=by
  rw[e1,e3]
  unfold iN cO
  omega
 unfold jL dH.l
 simp only
 rw[ea,eb]
theorem FX {L:List UInt8} {a j:Nat} (h:j<16):jN ((L.drop a).take 64) j=dL ((L.drop (a+4*j)).take 4):=by
 unfold jN
 rw[List.drop_take,List.take_take,List.drop_drop,Nat.min_eq_left (by omega)]
theorem ew {w:World} {B n lo hi cap:Nat} {A:Option Addr} {l:List UInt8} (h:aE w B 1 A n (ar l)) (h1:lo≤hi) (h2:hi≤n) (hc:n≤cap):aE w B 1 (if cap=lo then A else Option.map (fun x=>x.add lo) A) (hi - lo) (ar ((l.drop lo).take (hi - lo))):=by
 have:=h.cut (k:=lo) (by omega) hc
 rw[Nat.mul_one,show(ar l).drop lo=ar (l.drop lo) by rw[kV,kV,List.map_drop]] at this
 exact aE.take8 this (by omega)
theorem Gs {v j:Nat} (h:j<4):UInt8.ofNat (v/256^(3 - j))=(be 4 v).getD j 0:=by
 have hc:j=0∨j=1∨j=2∨j=3:=by omega
 rcases hc with rfl|rfl|rfl|rfl<;>rfl
theorem xX {w w':World} {gr n g:Nat} {l:List UInt8} (h:aE w w.heap.size 1 (some ⟨gr,0,none⟩) n (ar l)) (hs:dZ g w w') (hne:gr≠g):aE w' w'.heap.size 1 (some ⟨gr,0,none⟩) n (ar l):=by
 have hl:l.length=n:=by have:=h.1;rw[bg] at this;omega
 subst hl
 exact cT (p:=(some ⟨gr,0,none⟩,l)) h (fun _ ad ha=>by injection ha with ha;subst ha;exact hne) (fun j _ hj=>hs.block j hj) (by rw[hs.size];exact Nat.le_refl _)
theorem DU {n j:Nat} (h:j≤bn n):(n+1+j+8)%64=0↔j=bn n:=by
 unfold bn at*
 omega
theorem sP (A:Option Addr) (n c:Nat) (b:List UInt8) (hl:b.length=n) (hn:n≤1000000) (w:World) (hr:aE w w.heap.size 1 A n (ar b)):
 Calls Tryz.prog 50 #[.slice A n c] w fun ev w'=>ev= .returned (.agg (ar (cP b)).toArray)∧Below w.heap.size w w':=by
 refine aK 251 Tryz.func50 rfl rfl (Nat.le_of_ble_eq_true rfl) ?_
 intro a hA;replace hA:=hA.norm
 refine wS (wR ?_)
 refine aP hA rfl rfl (by decide) (fun ev h=>by simp[go_sem];try first|exact⟨rfl,rfl⟩|rfl) fun w1 a (K2:aI _ _ _ _) hz1 hb1 hA=> ?_
 obtain⟨g2,hg2⟩:∃g,w.heap.size=g:=⟨_,rfl⟩
 rw[hg2] at K2 hA
 replace K2:aI w1 g2 112 (aw []).toArray:=K2
 have HB:Below w.heap.size w w1:=hb1
 replace hA:=hA.keepN [0,2]
 refine wN (nT (wS (wR ?_)))
 refine a7 hA rfl rfl (by decide) (fun ev h=>jH (v:= .agg (fq.map dY).toArray) h rfl (by kernel_rfl) (by kernel_rfl)) fun a hA=> ?_
 refine aP hA rfl rfl (by decide) (fun ev h=>by simp[go_sem];try first|exact⟨rfl,rfl⟩|rfl) fun w2 a (K3:aI _ _ _ _) hz2 hb2 hA=> ?_
 replace HB:=HB.trans (hb2.mono HB.size)
 replace K2:=K2.below hb2 K2.lt
 obtain⟨g3,hg3⟩:∃g,w1.heap.size=g:=⟨_,rfl⟩
 rw[hg3] at K3 hA
 replace K3:aI w2 g3 160 (ee []).toArray:=K3
 have h23:g2<g3:=by omega
 have hB2:w.heap.size≤g2:=by omega
 refine di (fq.map dY) hA rfl rfl K3 (AO (l:=[]) (by decide)) (rfl:(fq.map dY).length=64) (by kernel_rfl) (og _) rfl (fun ev h=>⟨h.get 3 rfl,h.get 24 rfl⟩) fun w3 (K3:aI _ _ _ _) hs3=> ?_
 replace K2:=hs3.blk K2 (by omega)
 replace HB:=hs3.below HB (by omega)
 replace hA:=hA.keepN [0,2,3]
 refine wN (nT (wS (wR ?_)))
 refine a7 hA rfl rfl (by decide) (fun ev h=>jH (v:= .agg (AN.l.map dY).toArray) h rfl (by kernel_rfl) (by kernel_rfl)) fun a hA=> ?_
 have l3:=K3.lt
 refine aP hA rfl rfl (by decide) (fun ev h=>by simp[go_sem];try first|exact⟨rfl,rfl⟩|rfl) fun w4 a (K4:aI _ _ _ _) hz4 hb4 hA=> ?_
 replace HB:=HB.trans (hb4.mono HB.size)
 replace K2:=K2.below hb4 K2.lt
 replace K3:=K3.below hb4 K3.lt
 obtain⟨g4,hg4⟩:∃g,w3.heap.size=g:=⟨_,rfl⟩
 rw[hg4] at K4 hA l3
 have h34:g3<g4:=by omega
 refine di (AN.l.map dY) hA rfl rfl K4 (by rfl) (by rfl) (by kernel_rfl) (og _) rfl (fun ev h=>⟨h.get 4 rfl,h.get 25 rfl⟩) fun w5 (K4:aI _ _ _ _) hs4=> ?_
 replace K2:=hs4.blk K2 (by omega)
 replace K3:=hs4.blk K3 (by omega)
 replace HB:=hs4.below HB (by omega)
 replace hA:=hA.keepN [0,2,3,4]
 refine wN (nT (wS (wR ?_)))
 have l4:=K4.lt
 have hQw:w.heap.size≤w5.heap.size:=HB.size
 refine aP hA rfl rfl (by decide) (fun ev h=>by simp[go_sem];try first|exact⟨rfl,rfl⟩|rfl) fun w6 a (K6:aI _ _ _ _) hz6 hb6 hA=> ?_
 have ho6:ce w5.heap.size w6 (.slice (some ⟨w5.heap.size,0,none⟩) 0 0) []:=gy K6 (Nat.le_refl _)
 revert a;refine wo rfl rfl (by decide) (fun ev e h=>by simp[go_sem,h]<;>rfl) ?_;intro a hA
 have hr6:=(hr.below (HB.trans (hb6.mono hQw))).more (HB.trans (hb6.mono hQw)).size
 obtain⟨r7,w7,hr7,ho7,hg7⟩:=ez ho6 (u:= .slice A n c) ⟨A,c,by rw[hl],by rw[hl];exact hr6⟩ (by simp;omega) hb6.size
 have hb7:=dM hb6 ho6 hg7 (Nat.le_refl _) hb6.size
 rw[List.nil_append] at ho7
 refine a7 hA rfl rfl (by decide) (fun ev h=>ao rfl (h.get 26 rfl) (h.get 27 rfl) hr7) fun a hA=> ?_
 clear K6 hb6 ho6 hr6
 refine aP hA rfl rfl (by decide) (fun ev h=>by simp[go_sem,h.c];try first|exact⟨rfl,rfl⟩|rfl) fun w8 a (K8:aI _ _ _ _) hz8 hb8 hA=> ?_
 replace hb7:=hb7.trans (hb8.mono hb7.size)
 replace ho7:=ho7.below hb8
 obtain⟨r9,w9,hr9,ho9,hg9⟩:=ez ho7 (lY (c:=128) K8) (by simp;omega) hb7.size
 have hb9:=dM hb7 ho7 hg9 (Nat.le_refl _) hb7.size
 refine a7 hA rfl rfl (by decide) (fun ev h=>ao rfl (h.get 28 rfl) (h.get 29 rfl) hr9) fun a hA=> ?_
 clear K8 ho7 hb7
 revert a;refine wo rfl rfl (by decide) (fun ev e h=>by simp[go_sem,h]<;>rfl) ?_;intro a hA
 replace hA:=hA.keepN [0,2,3,4,5]
 refine wN (nT (wS (wB ?_)))
 have hz64:bn n<64:=Nat.mod_lt _ (by decide)
 refine aQ (fun k a wx=>∃(j:Nat) (v:Value),j+k=bn n∧At 251 [(0, .slice A n c),(2, .pointer (some ⟨g2,0,none⟩)),(3, .pointer (some ⟨g3,0,none⟩)),(4, .pointer (some ⟨g4,0,none⟩)),(5,v)] a∧ce w5.heap.size wx v (b++[128]++List.replicate j 0)∧Below w5.heap.size w5 wx) (bn n) ?_ ?_
 ·exact⟨0,_,by omega,hA,by simpa using ho9,hb9⟩
 clear ho9 hb9
 rintro k a wx ⟨j,v,hjk,hA,ho,HX⟩
 obtain⟨Av,cv,rfl,hrv⟩:=ho.took
 obtain⟨L,hL⟩:∃L,(b++[128]++List.replicate j 0).length=L:=⟨_,rfl⟩
 have hL2:L=n+1+j:=by rw[←hL];simp;omega
 rw[hL] at hA
 have z1:IntKind.i64.wrap ((L:Int)+8)=((L+8:Nat):Int):=by rw[IntWalk.i64_in _ (by omega)];omega
 obtain⟨L8,hL8⟩:∃L8,L+8=L8:=⟨_,rfl⟩
 obtain⟨m8,hm8⟩:∃m8,L8%64=m8:=⟨_,rfl⟩
 rw[hL8] at z1
 have z2:(L8:Int).tmod 64=(m8:Int):=by rw[←hm8];exact(Int.ofNat_tmod L8 64).symm
 have hz:=DU (n:=n) (j:=j) (by omega)
 rw[show n+1+j+8=L8 by omega,hm8] at hz
 refine wS (wS (wR ?_))
 revert a;(iterate 5 refine wo rfl rfl (by decide) (fun ev e h=>by simp[go_sem,h,z1,z2]<;>rfl) ?_);intro a hA
 replace hA:=hA.keepN [0,2,3,4,5,35]
 refine wN (nT ?_)
 refine aH hA 35 _ rfl (fun hq=> ?yP) (fun hq=> ?nP)
 case yP=>
  have hne:j≠bn n:=fun e=>by
   have:=hz.2 e
   simp at hq
   omega
  refine wp_skip (nT (wB (wR ?_)))
  revert a;refine wo rfl rfl (by decide) (fun ev e h=>by simp[go_sem,h,z1,z2]<;>rfl) ?_;intro a hA
  refine aP hA rfl rfl (by decide) (fun ev h=>by simp[go_sem,h.c,z1,z2];try first|exact⟨rfl,rfl⟩|rfl) fun w10 a (K10:aI _ _ _ _) hz10 hb10 hA=> ?_
  replace HX:=HX.trans (hb10.mono HX.size)
  replace ho:=ho.below hb10
  obtain⟨r11,w11,hr11,ho11,hg11⟩:=ez ho (lY (c:=0) K10) (by simp;omega) HX.size
  rw[←hL] at hA
  refine a7 hA rfl rfl (by decide) (fun ev h=>ao rfl (h.get 36 rfl) (h.get 37 rfl) hr11) fun a hA=> ?_
  revert a;refine wo rfl rfl (by decide) (fun ev e h=>by simp[go_sem,h,z1,z2]<;>rfl) ?_;intro a hA
  replace hA:=hA.keepN [0,2,3,4,5]
  refine wN (nB (nT ?_))
  exact⟨k - 1,by omega,j+1,_,by omega,hA,by rw[td];exact ho11,dM HX ho hg11 (Nat.le_refl _) HX.size⟩
 case nP=>
  have hje:j=bn n:=by
   refine hz.1 ?_
   simp at hq
   omega
  have hw8:IntKind.u64.wrap (n:Int)=(n:Int):=IntWalk.u64_in _ (by omega)
  have hw9:IntKind.u64.wrap ((n:Int)*8)=((n*8:Nat):Int):=by rw[IntWalk.u64_in _ (by omega)];omega
  replace hA:=hA.keepN [0,2,3,4,5]
  refine wp_exit (xT (xT (xB (nT (wS (wR ?_))))))
  revert a;(iterate 3 refine wo rfl rfl (by decide) (fun ev e h=>by simp[go_sem,h,hw8,hw9]<;>rfl) ?_);intro a hA
  refine a7 hA rfl rfl (by decide) (fun ev h=>by simp[go_sem,h.get 41 rfl,hw8,hw9];try first|exact⟨rfl,rfl⟩|rfl) fun a hA=> ?_
  revert a;refine wo rfl rfl (by decide) (fun ev e h=>by simp[go_sem,h,hw8,hw9]<;>rfl) ?_;intro a hA
  refine aC hA rfl rfl (by decide) (fun ev h=>aB Tryz.func90 (by kernel_rfl) rfl (h.f _) (by first|(simp only[mL,h.get 43 rfl,h.c]<;>rfl)|(simp[mL,h.get 43 rfl,h.c,hw8,hw9]<;>rfl))) (oJ (n*8) 8 (by omega) (by decide) _) ?_
  rintro e w12 ⟨r12,rfl,ho12,hb12⟩
  refine⟨_,rfl,fun a hA=> ?_⟩
  replace HX:=HX.trans (hb12.mono HX.size)
  replace ho:=ho.below hb12
  obtain⟨r13,w13,hr13,ho13,hg13⟩:=ez ho (ce.of ho12).took (by simp[aO];omega) HX.size
  have hb13:=dM HX ho hg13 (Nat.le_refl _) HX.size
  rw[←hL] at hA
  refine a7 hA rfl rfl (by decide) (fun ev h=>ao rfl (h.get 39 rfl) (h.get 44 rfl) hr13) fun a hA=> ?_
  obtain⟨T,hT⟩:∃T,j6 b=T:=⟨_,rfl⟩
  have hT64:=mZ b
  have hTe:b++[128]++List.replicate j 0++be 8 (n*8)=T:=by rw[←hT,hje,←hl];rfl
  rw[hTe] at ho13
  rw[hT] at hT64
  have hTlen:T.length≤2000000:=by rw[←hT];unfold j6;simp[aO,bn];omega
  obtain⟨M,hM⟩:∃M,T.length=64*M:=⟨T.length/64,by omega⟩
  have hfin:cP b=(iF T M).l.flatMap (be 4):=by unfold cP;rw[hT,hM,Nat.mul_div_cancel_left _ (by decide)]
  clear hTe hrv ho ho12 hb12 HX
  obtain⟨Ar,cr,e0,hR,hcr⟩:=cQ ho13
  subst e0
  clear ho13
  replace K2:=K2.below hb13 K2.lt
  replace K3:=K3.below hb13 K3.lt
  replace K4:=K4.below hb13 K4.lt
  replace HB:=HB.trans (hb13.mono hQw)
  have hN:T.length<9223372036854775808:=by omega
  revert a;refine wo rfl rfl (by decide) (fun ev e h=>by simp[go_sem,h]<;>rfl) ?_;intro a hA
  replace hA:=hA.keepN [2,3,4,5]
  refine wN (nT (wS (wS (wR ?_))))
  revert a;refine wo rfl rfl (by decide) (fun ev e h=>by simp[go_sem,h]<;>rfl) ?_;intro a hA
  replace hA:=hA.keepN [2,3,4,5,6]
  refine wN (nT (wB ?_))
  refine aQ (fun k a wx=>∃(i:Nat),i+k=M∧At 251 [(2, .pointer (some ⟨g2,0,none⟩)),(3, .pointer (some ⟨g3,0,none⟩)),(4, .pointer (some ⟨g4,0,none⟩)),(5, .slice Ar T.length cr),(6, .int .i64 ((64*i:Nat):Int))] a∧aE wx wx.heap.size 1 Ar T.length (ar T)∧aI wx g2 112 (aw []).toArray∧aI wx g3 160 (fq.map dY).toArray∧aI wx g4 161 ((iF T i).l.map dY).toArray∧Below w.heap.size w wx) (M) ?_ ?_
  ·exact⟨0,by omega,hA,hR,K2,K3,K4,HB⟩
  rw[←hT] at hcr
  rw[hT] at hcr
  clear hR K2 K3 K4 HB hb13 hr
  rintro k a wx ⟨i,hik,hA,hR,K2,K3,K4,HB⟩
  obtain⟨N,hN2⟩:∃N,T.length=N:=⟨_,rfl⟩
  obtain⟨p,hp⟩:∃p,64*i=p:=⟨_,rfl⟩
  rw[hN2,hp] at hA
  rw[hN2] at hM hR
  refine wS (wS (wR ?_))
  revert a;(iterate 4 refine wo rfl rfl (by decide) (fun ev e h=>by simp[go_sem,h]<;>rfl) ?_);intro a hA
  replace hA:=hA.keepN [2,3,4,5,6,49]
  refine wN (nT ?_)
  refine aH hA 49 _ rfl (fun hq=> ?yQ) (fun hq=> ?nQ)
  case yQ=>
   have hpn:p+64≤N:=by simp at hq;omega
   refine wp_skip (nT (wS (wB (wS (wR ?_)))))
   have l4:=K4.lt
   have hwl:=HB.size
   refine aP hA rfl rfl (by decide) (fun ev h=>by simp[go_sem];try first|exact⟨rfl,rfl⟩|rfl) fun w14 a (K7:aI _ _ _ _) hz14 hb14 hA=> ?_
   replace HB:=HB.trans (hb14.mono HB.size)
   replace K2:=K2.below hb14 K2.lt
   replace K3:=K3.below hb14 K3.lt
   replace K4:=K4.below hb14 K4.lt
   replace hR:=(hR.below hb14).more hb14.size
   obtain⟨g7,hg7⟩:∃g,wx.heap.size=g:=⟨_,rfl⟩
   rw[hg7] at K7 hA l4
   have h7w:w.heap.size≤g7:=by rw[←hg7];exact hwl
   obtain⟨k1,hk1⟩:∃k1,(T.drop p).take 64=k1:=⟨_,rfl⟩
   have hT4:T.length=N:=hN2
   replace K7:aI w14 g7 160 (ee (bT k1 0)).toArray:=K7
   replace hA:=hA.keepN [2,3,4,5,6,7]
   refine wN (nT (wS (wS (wR ?_))))
   revert a;refine wo rfl rfl (by decide) (fun ev e h=>by simp[go_sem,h]<;>rfl) ?_;intro a hA
   replace hA:=hA.keepN [2,3,4,5,6,7,52]
   refine wN (nT (wB ?_))
   refine aQ (fun k a wx=>∃(j:Nat),j+k=64∧At 251 [(2, .pointer (some ⟨g2,0,none⟩)),(3, .pointer (some ⟨g3,0,none⟩)),(4, .pointer (some ⟨g4,0,none⟩)),(5, .slice Ar N cr),(6, .int .i64 (p:Nat)),(7, .pointer (some ⟨g7,0,none⟩)),(52, .int .i64 (j:Nat))] a∧aE wx wx.heap.size 1 Ar N (ar T)∧aI wx g2 112 (aw []).toArray∧aI wx g3 160 (fq.map dY).toArray∧aI wx g4 161 ((iF T i).l.map dY).toArray∧aI wx g7 160 (ee (bT k1 j)).toArray∧Below w.heap.size w wx) (64) ?_ ?_
   ·exact⟨0,by omega,hA,hR,K2,K3,K4,K7,HB⟩
   clear hR K2 K3 K4 K7 HB
   rintro k' a wx ⟨j,hjk2,hA,hR,K2,K3,K4,K7,HB⟩
   refine wS (wR ?_)
   revert a;refine wo rfl rfl (by decide) (fun ev e h=>by simp[go_sem,h]<;>rfl) ?_;intro a hA
   replace hA:=hA.keepN [2,3,4,5,6,7,52,53]
   refine wN (nT (wS ?_))
   refine aH hA 53 _ rfl (fun hq2=> ?yU) (fun hq2=> ?nU)
   case yU=>
    have hj:j<64:=by simp at hq2;omega
    have jj:∀j:Nat,(0:Int)≤(j:Int):=fun j=>by omega
    have hlen:(bT k1 j).length=j:=dh k1 j
    have hwi:IntKind.i64.wrap ((j:Int)+1)=((j+1:Nat):Int):=by rw[IntWalk.i64_in _ (by omega)];omega
    have hci:=xx (l:=bT k1 j) (j:=j) (by omega) (by omega)
    have ki:(j:Int)<64:=by omega
    refine wp_skip (nT (wS (wB (wS (wR ?_)))))
    revert a;(iterate 2 refine wo rfl rfl (by decide) (fun ev e h=>by simp[go_sem,h]<;>rfl) ?_);intro a hA
    replace hA:=hA.keepN [2,3,4,5,6,7,8,52]
    refine wN (nT (wS (wS (wR ?_))))
    revert a;(iterate 2 refine wo rfl rfl (by decide) (fun ev e h=>by simp[go_sem,h]<;>rfl) ?_);intro a hA
    replace hA:=hA.keepN [2,3,4,5,6,7,8,52,56]
    refine wN (nT ?_)
    refine aH hA 56 _ rfl (fun hq3=> ?yV) (fun hq3=> ?nV)
    case yV=>
     have hj16:j<16:=by simp at hq3;omega
     obtain⟨a1,ha1⟩:∃a1,p+4*j=a1:=⟨_,rfl⟩
     obtain⟨a2,ha2⟩:∃a2,p+4*j+4=a2:=⟨_,rfl⟩
     have q1:IntKind.i64.wrap (4*(j:Int))=4*(j:Int):=IntWalk.i64_in _ (by omega)
     have q2:IntKind.i64.wrap ((p:Int)+4*(j:Int))=(a1:Int):=by rw[IntWalk.i64_in _ (by omega)];omega
     have q3:IntKind.i64.wrap ((a1:Int)+4)=(a2:Int):=by rw[IntWalk.i64_in _ (by omega)];omega
     have q4:(a1:Int)≤(a2:Int):=by omega
     have q5:(a2:Int)≤(cr:Int):=by omega
     have q9:a2 - a1=4:=by omega
     have q6:(a2:Int)≤(N:Int):=by omega
     have q7:=jj a1
     have q8:=jj a2
     refine wS (wR ?_)
     revert a;(iterate 10 refine wo rfl rfl (by decide) (fun ev e h=>by simp[go_sem,h,q1,q2,q3,q4,q5,q6,q7,q8,q9]<;>rfl) ?_);intro a hA
     replace hA:=hA.keepN [2,3,4,5,6,7,52,57,58,62,66]
     revert a;(iterate 2 refine wo rfl rfl (by decide) (fun ev e h=>by simp[go_sem,h,q1,q2,q3,q4,q5,q6,q7,q8,q9]<;>rfl) ?_);intro a hA
     obtain⟨V,hV⟩:∃V,jN k1 j=V:=⟨_,rfl⟩
     have hVe:dL ((T.drop a1).take 4)=V:=by rw[←hV,←hk1,FX hj16,ha1]
     have hR4:=ew hR (lo:=a1) (hi:=a2) (cap:=cr) (by omega) (by omega) (by omega)
     rw[q9] at hR4
     refine aC hA rfl rfl (by decide) (fun ev h=>aB Tryz.func88 (by kernel_rfl) rfl (h.f _) (by first|(simp only[mL,h.get 68 rfl,h.c]<;>rfl)|(simp[mL,h.get 68 rfl,h.c,q1,q2,q3,q4,q5,q6,q7,q8,q9]<;>rfl))) (j5 _ 4 _ ((T.drop a1).take 4) (by rw[List.length_take,List.length_drop];omega) (by decide) _ hR4) ?_
     rintro e w15 ⟨rfl,rfl⟩
     refine⟨_,rfl,fun a hA=> ?_⟩
     rw[hVe] at hA
     revert a;refine wo rfl rfl (by decide) (fun ev e h=>by simp[go_sem,h,jj,ki,aS,hci]<;>rfl) ?_;intro a hA
     have K7b:=K7
     refine aq ((ee (bT k1 j)).set j (.int .u64 (V:Nat))) _ hA rfl rfl K7 (j:=j) (by rfl) (fun ev h=>by simp[go_sem,h.get 70 rfl,h.get 69 rfl,jj,ki,aS,hci,K7.cell,K7.frozen];try first|exact⟨rfl,rfl⟩|rfl) fun w16 (K7:aI _ _ _ _) hs=> ?_
     replace hA:=hA.keepN [2,3,4,5,6,7,52]
     replace hA:=hA.keepN [2,3,4,5,6,7,52]
     refine wN (nT (wp_exit (xT (xB (nT (wR ?_))))))
     revert a;(iterate 2 refine wo rfl rfl (by decide) (fun ev e h=>by simp[go_sem,h,hwi]<;>rfl) ?_);intro a hA
     replace hA:=hA.keepN [2,3,4,5,6,7,52]
     refine wN (nT ?_)
     refine⟨k' - 1,by omega,j+1,by omega,hA,cG hR hs K7b (wi _),hs.blk K2 (by omega),hs.blk K3 (by omega),hs.blk K4 (by omega), ?_,hs.below HB h7w⟩
     have e:=rf (l:=bT k1 j) (by omega) V
     rw[hlen] at e
     rw[show bT k1 (j+1)=bT k1 j++[V] by rw[←hV];show bT k1 j++_=_;rw[if_pos hj16],←e]
     exact K7
    case nV=>
     have hj16:16≤j:=by simp at hq3;omega
     obtain⟨j15,hj15⟩:∃q,j - 15=q:=⟨_,rfl⟩
     obtain⟨j16,hj16e⟩:∃q,j - 16=q:=⟨_,rfl⟩
     obtain⟨j7,hj7⟩:∃q,j - 7=q:=⟨_,rfl⟩
     obtain⟨j2,hj2⟩:∃q,j - 2=q:=⟨_,rfl⟩
     have w15:IntKind.i64.wrap ((j:Int) - 15)=(j15:Int):=by rw[IntWalk.i64_in _ (by omega)];omega
     have w16:IntKind.i64.wrap ((j:Int) - 16)=(j16:Int):=by rw[IntWalk.i64_in _ (by omega)];omega
     have w7:IntKind.i64.wrap ((j:Int) - 7)=(j7:Int):=by rw[IntWalk.i64_in _ (by omega)];omega
     have w2:IntKind.i64.wrap ((j:Int) - 2)=(j2:Int):=by rw[IntWalk.i64_in _ (by omega)];omega
     have c15:=mF (l:=bT k1 j) (j:=j15) (by omega)
     have c16:=mF (l:=bT k1 j) (j:=j16) (by omega)
     have c7:=mF (l:=bT k1 j) (j:=j7) (by omega)
     have c2:=mF (l:=bT k1 j) (j:=j2) (by omega)
     have hnx:kS (bT k1 j) j=jE ((bT k1 j).getD j16 0) ((bT k1 j).getD j15 0) ((bT k1 j).getD j7 0) ((bT k1 j).getD j2 0):=by unfold kS jE;rw[hj15,hj16e,hj7,hj2]
     have l15:=cU k1 j j15
     have l16:=cU k1 j j16
     have l7:=cU k1 j j7
     have l2:=cU k1 j j2
     obtain⟨x15,hx15⟩:∃x,(bT k1 j).getD j15 0=x:=⟨_,rfl⟩
     obtain⟨x16,hx16⟩:∃x,(bT k1 j).getD j16 0=x:=⟨_,rfl⟩
     obtain⟨x7,hx7⟩:∃x,(bT k1 j).getD j7 0=x:=⟨_,rfl⟩
     obtain⟨x2,hx2⟩:∃x,(bT k1 j).getD j2 0=x:=⟨_,rfl⟩
     rw[hx15,hx16,hx7,hx2] at hnx
     rw[hx15] at c15 l15
     rw[hx16] at c16 l16
     rw[hx7] at c7 l7
     rw[hx2] at c2 l2
     clear hx15 hx16 hx7 hx2
     have k15:(j15:Int)<64:=by omega
     have k16:(j16:Int)<64:=by omega
     have k7:(j7:Int)<64:=by omega
     have k2:(j2:Int)<64:=by omega
     have r7:=ca x15 7
     have r18:=ca x15 18
     have r17:=ca x2 17
     have r19:=ca x2 19
     have s3:(x15:Int)/8=((sr x15 3:Nat):Int):=kT x15 3
     have s10:(x2:Int)/1024=((sr x2 10:Nat):Int):=kT x2 10
     have e1:=vI r7 r18
     have e2:=vI (gS r7 r18) (tt (n:=3) l15)
     have e3:=vI r17 r19
     have e4:=vI (gS r17 r19) (tt (n:=10) l2)
     have pA1:=fun(wo:World) (hC:(fun wy=>Below wx.heap.size wx wy) wo)=>have Kx:=K7.below hC K7.lt;And.intro (Kx.cell) (c15)
     refine wp_skip (nT (wS ?_))
     refine bi hA [(.det ?dA10),(.det ?dA11),(.det ?dA12),(.det ?dA13),(.det ?dA14),(.det ?dA15),(.det ?dA16),(.det ?dA17),(.det ?dA18),(.det ?dA19),(.det ?dA110),(.det ?dA111),(.det ?dA112),(.det ?dA113),(.det ?dA114),(.det ?dA115),(.det ?dA116),(.det ?dA117)] [] (fun wy=>Below wx.heap.size wx wy) (aG [] aA) (by kernel_rfl) rfl (by kernel_rfl) (by kernel_rfl) rfl ((Below.refl _ _).drew) (bF [] [true,true,true,true,true,true,true,true,true,true,true,true,true,true,true,true,true,true] [true,true,true,true,true,true,true,true,true,true,true,true,true,true,true,true,true,true] [] rfl rfl rfl (by kernel_rfl) ⟨trivial,trivial,trivial,trivial,trivial,trivial,trivial,trivial,trivial,trivial,trivial,trivial,trivial,trivial,trivial,trivial,trivial,trivial,trivial⟩ trivial) (fun _ h=>by cases h) (fun _ _ _ _ _ h=>by cases h) (fun _ h=>by cases h) ⟨?oA10, ?oA11, ?oA12, ?oA13, ?oA14, ?oA15, ?oA16, ?oA17, ?oA18, ?oA19, ?oA110, ?oA111, ?oA112, ?oA113, ?oA114, ?oA115, ?oA116, ?oA117,trivial⟩ (by kernel_rfl) ?fA1
     case oA10=>intro ev wo hev hC hs hph;have x0:=se hA hs 8;exact od rfl rfl (by kernel_rfl) hC (aG.of rfl (aA.refl _)) (by simp[go_sem,x0,w15,jj,k15,aS,s3,e1,e2]<;>rfl)
     case oA11=>intro ev wo hev hC hs hph;have x0:=sd hs 71 0;exact od rfl rfl (by kernel_rfl) hC (aG.of rfl (aA.refl _)) (by simp[go_sem,x0,hev.const,w15,jj,k15,aS,s3,e1,e2]<;>rfl)
     case oA12=>intro ev wo hev hC hs hph;have x0:=se hA hs 7;have x1:=sd hs 72 1;exact od rfl rfl (by kernel_rfl) hC (aG.of rfl (aA.refl _)) (by simp[go_sem,x0,x1,w15,jj,k15,aS,s3,e1,e2]<;>rfl)
     case oA13=>intro ev wo hev hC hs hph;have x0:=sd hs 73 2;exact od rfl rfl (by kernel_rfl) hC (aG.of rfl (aA.refl _)) (by simp[go_sem,x0,pA1 _ hC,w15,jj,k15,aS,s3,e1,e2]<;>rfl)
     case oA14=>
      intro ev wo hev hC hs hph
      have e74:=sd hs 74 3
      have Kx:=K7.below hC K7.lt
      exact bm (aJ rfl) rfl (by kernel_rfl) (dl x15 7 7 rfl l15 (by decide) (by decide) wo) (aB Tryz.func91 (by kernel_rfl) rfl (hev.func _) (by first|(simp only[mL,e74,hev.const]<;>rfl)|(simp[mL,e74,hev.const]<;>rfl))) (by rfl) (fun w3 hb3=>⟨hC.trans (hb3.mono hC.size),aG.of rfl hb3⟩)
     case oA15=>intro ev wo hev hC hs hph;have x0:=se hA hs 8;exact od rfl rfl (by kernel_rfl) hC (aG.of rfl (aA.refl _)) (by simp[go_sem,x0,w15,jj,k15,aS,s3,e1,e2]<;>rfl)
     case oA16=>intro ev wo hev hC hs hph;have x0:=sd hs 76 5;exact od rfl rfl (by kernel_rfl) hC (aG.of rfl (aA.refl _)) (by simp[go_sem,x0,hev.const,w15,jj,k15,aS,s3,e1,e2]<;>rfl)
     case oA17=>intro ev wo hev hC hs hph;have x0:=se hA hs 7;have x1:=sd hs 77 6;exact od rfl rfl (by kernel_rfl) hC (aG.of rfl (aA.refl _)) (by simp[go_sem,x0,x1,w15,jj,k15,aS,s3,e1,e2]<;>rfl)
     case oA18=>intro ev wo hev hC hs hph;have x0:=sd hs 78 7;exact od rfl rfl (by kernel_rfl) hC (aG.of rfl (aA.refl _)) (by simp[go_sem,x0,pA1 _ hC,w15,jj,k15,aS,s3,e1,e2]<;>rfl)
     case oA19=>
      intro ev wo hev hC hs hph
      have e79:=sd hs 79 8
      have Kx:=K7.below hC K7.lt
      exact bm (aJ rfl) rfl (by kernel_rfl) (dl x15 18 18 rfl l15 (by decide) (by decide) wo) (aB Tryz.func91 (by kernel_rfl) rfl (hev.func _) (by first|(simp only[mL,e79,hev.const]<;>rfl)|(simp[mL,e79,hev.const]<;>rfl))) (by rfl) (fun w3 hb3=>⟨hC.trans (hb3.mono hC.size),aG.of rfl hb3⟩)
     case oA110=>intro ev wo hev hC hs hph;have x0:=sd hs 75 4;have x1:=sd hs 80 9;exact od rfl rfl (by kernel_rfl) hC (aG.of rfl (aA.refl _)) (by simp[go_sem,x0,x1,w15,jj,k15,aS,s3,e1,e2]<;>rfl)
     case oA111=>intro ev wo hev hC hs hph;have x0:=se hA hs 8;exact od rfl rfl (by kernel_rfl) hC (aG.of rfl (aA.refl _)) (by simp[go_sem,x0,w15,jj,k15,aS,s3,e1,e2]<;>rfl)
     case oA112=>intro ev wo hev hC hs hph;have x0:=sd hs 82 11;exact od rfl rfl (by kernel_rfl) hC (aG.of rfl (aA.refl _)) (by simp[go_sem,x0,hev.const,w15,jj,k15,aS,s3,e1,e2]<;>rfl)
     case oA113=>intro ev wo hev hC hs hph;have x0:=se hA hs 7;have x1:=sd hs 83 12;exact od rfl rfl (by kernel_rfl) hC (aG.of rfl (aA.refl _)) (by simp[go_sem,x0,x1,w15,jj,k15,aS,s3,e1,e2]<;>rfl)
     case oA114=>intro ev wo hev hC hs hph;have x0:=sd hs 84 13;exact od rfl rfl (by kernel_rfl) hC (aG.of rfl (aA.refl _)) (by simp[go_sem,x0,pA1 _ hC,w15,jj,k15,aS,s3,e1,e2]<;>rfl)
     case oA115=>intro ev wo hev hC hs hph;have x0:=sd hs 85 14;exact od rfl rfl (by kernel_rfl) hC (aG.of rfl (aA.refl _)) (by simp[go_sem,x0,hev.const,w15,jj,k15,aS,s3,e1,e2]<;>rfl)
     case oA116=>intro ev wo hev hC hs hph;have x0:=sd hs 81 10;have x1:=sd hs 86 15;exact od rfl rfl (by kernel_rfl) hC (aG.of rfl (aA.refl _)) (by simp[go_sem,x0,x1,w15,jj,k15,aS,s3,e1,e2]<;>rfl)
     case oA117=>intro ev wo hev hC hs hph;have x0:=sd hs 87 16;exact od rfl rfl (by kernel_rfl) hC (aG.of rfl (aA.refl _)) (by simp[go_sem,x0,w15,jj,k15,aS,s3,e1,e2]<;>rfl)
     intro sg wf hC hph
     intro a hA
     replace hA:=hA.keepN [2,3,4,5,6,7,8,9,52]
     refine nT ?_
     replace HB:=HB.trans (hC.mono HB.size)
     replace hR:=(hR.below hC).more hC.size
     replace K2:=K2.below hC K2.lt
     replace K3:=K3.below hC K3.lt
     replace K4:=K4.below hC K4.lt
     replace K7:=K7.below hC K7.lt
     clear hC hph
     have pA2:=fun(wo:World) (hC:(fun wy=>Below wf.heap.size wf wy) wo)=>have Kx:=K7.below hC K7.lt;And.intro (Kx.cell) (c2)
     refine wS ?_
     refine bi hA [(.det ?dA20),(.det ?dA21),(.det ?dA22),(.det ?dA23),(.det ?dA24),(.det ?dA25),(.det ?dA26),(.det ?dA27),(.det ?dA28),(.det ?dA29),(.det ?dA210),(.det ?dA211),(.det ?dA212),(.det ?dA213),(.det ?dA214),(.det ?dA215),(.det ?dA216),(.det ?dA217)] [] (fun wy=>Below wf.heap.size wf wy) (aG [] aA) (by kernel_rfl) rfl (by kernel_rfl) (by kernel_rfl) rfl ((Below.refl _ _).drew) (bF [] [true,true,true,true,true,true,true,true,true,true,true,true,true,true,true,true,true,true] [true,true,true,true,true,true,true,true,true,true,true,true,true,true,true,true,true,true] [] rfl rfl rfl (by kernel_rfl) ⟨trivial,trivial,trivial,trivial,trivial,trivial,trivial,trivial,trivial,trivial,trivial,trivial,trivial,trivial,trivial,trivial,trivial,trivial,trivial⟩ trivial) (fun _ h=>by cases h) (fun _ _ _ _ _ h=>by cases h) (fun _ h=>by cases h) ⟨?oA20, ?oA21, ?oA22, ?oA23, ?oA24, ?oA25, ?oA26, ?oA27, ?oA28, ?oA29, ?oA210, ?oA211, ?oA212, ?oA213, ?oA214, ?oA215, ?oA216, ?oA217,trivial⟩ (by kernel_rfl) ?fA2
     case oA20=>intro ev wo hev hC hs hph;have x0:=se hA hs 8;exact od rfl rfl (by kernel_rfl) hC (aG.of rfl (aA.refl _)) (by simp[go_sem,x0,w2,jj,k2,aS,s10,e3,e4]<;>rfl)
     case oA21=>intro ev wo hev hC hs hph;have x0:=sd hs 88 0;exact od rfl rfl (by kernel_rfl) hC (aG.of rfl (aA.refl _)) (by simp[go_sem,x0,hev.const,w2,jj,k2,aS,s10,e3,e4]<;>rfl)
     case oA22=>intro ev wo hev hC hs hph;have x0:=se hA hs 7;have x1:=sd hs 89 1;exact od rfl rfl (by kernel_rfl) hC (aG.of rfl (aA.refl _)) (by simp[go_sem,x0,x1,w2,jj,k2,aS,s10,e3,e4]<;>rfl)
     case oA23=>intro ev wo hev hC hs hph;have x0:=sd hs 90 2;exact od rfl rfl (by kernel_rfl) hC (aG.of rfl (aA.refl _)) (by simp[go_sem,x0,pA2 _ hC,w2,jj,k2,aS,s10,e3,e4]<;>rfl)
     case oA24=>
      intro ev wo hev hC hs hph
      have e91:=sd hs 91 3
      have Kx:=K7.below hC K7.lt
      exact bm (aJ rfl) rfl (by kernel_rfl) (dl x2 17 17 rfl l2 (by decide) (by decide) wo) (aB Tryz.func91 (by kernel_rfl) rfl (hev.func _) (by first|(simp only[mL,e91,hev.const]<;>rfl)|(simp[mL,e91,hev.const]<;>rfl))) (by rfl) (fun w3 hb3=>⟨hC.trans (hb3.mono hC.size),aG.of rfl hb3⟩)
     case oA25=>intro ev wo hev hC hs hph;have x0:=se hA hs 8;exact od rfl rfl (by kernel_rfl) hC (aG.of rfl (aA.refl _)) (by simp[go_sem,x0,w2,jj,k2,aS,s10,e3,e4]<;>rfl)
     case oA26=>intro ev wo hev hC hs hph;have x0:=sd hs 93 5;exact od rfl rfl (by kernel_rfl) hC (aG.of rfl (aA.refl _)) (by simp[go_sem,x0,hev.const,w2,jj,k2,aS,s10,e3,e4]<;>rfl)
     case oA27=>intro ev wo hev hC hs hph;have x0:=se hA hs 7;have x1:=sd hs 94 6;exact od rfl rfl (by kernel_rfl) hC (aG.of rfl (aA.refl _)) (by simp[go_sem,x0,x1,w2,jj,k2,aS,s10,e3,e4]<;>rfl)
     case oA28=>intro ev wo hev hC hs hph;have x0:=sd hs 95 7;exact od rfl rfl (by kernel_rfl) hC (aG.of rfl (aA.refl _)) (by simp[go_sem,x0,pA2 _ hC,w2,jj,k2,aS,s10,e3,e4]<;>rfl)
     case oA29=>
      intro ev wo hev hC hs hph
      have e96:=sd hs 96 8
      have Kx:=K7.below hC K7.lt
      exact bm (aJ rfl) rfl (by kernel_rfl) (dl x2 19 19 rfl l2 (by decide) (by decide) wo) (aB Tryz.func91 (by kernel_rfl) rfl (hev.func _) (by first|(simp only[mL,e96,hev.const]<;>rfl)|(simp[mL,e96,hev.const]<;>rfl))) (by rfl) (fun w3 hb3=>⟨hC.trans (hb3.mono hC.size),aG.of rfl hb3⟩)
     case oA210=>intro ev wo hev hC hs hph;have x0:=sd hs 92 4;have x1:=sd hs 97 9;exact od rfl rfl (by kernel_rfl) hC (aG.of rfl (aA.refl _)) (by simp[go_sem,x0,x1,w2,jj,k2,aS,s10,e3,e4]<;>rfl)
     case oA211=>intro ev wo hev hC hs hph;have x0:=se hA hs 8;exact od rfl rfl (by kernel_rfl) hC (aG.of rfl (aA.refl _)) (by simp[go_sem,x0,w2,jj,k2,aS,s10,e3,e4]<;>rfl)
     case oA212=>intro ev wo hev hC hs hph;have x0:=sd hs 99 11;exact od rfl rfl (by kernel_rfl) hC (aG.of rfl (aA.refl _)) (by simp[go_sem,x0,hev.const,w2,jj,k2,aS,s10,e3,e4]<;>rfl)
     case oA213=>intro ev wo hev hC hs hph;have x0:=se hA hs 7;have x1:=sd hs 100 12;exact od rfl rfl (by kernel_rfl) hC (aG.of rfl (aA.refl _)) (by simp[go_sem,x0,x1,w2,jj,k2,aS,s10,e3,e4]<;>rfl)
     case oA214=>intro ev wo hev hC hs hph;have x0:=sd hs 101 13;exact od rfl rfl (by kernel_rfl) hC (aG.of rfl (aA.refl _)) (by simp[go_sem,x0,pA2 _ hC,w2,jj,k2,aS,s10,e3,e4]<;>rfl)
     case oA215=>intro ev wo hev hC hs hph;have x0:=sd hs 102 14;exact od rfl rfl (by kernel_rfl) hC (aG.of rfl (aA.refl _)) (by simp[go_sem,x0,hev.const,w2,jj,k2,aS,s10,e3,e4]<;>rfl)
     case oA216=>intro ev wo hev hC hs hph;have x0:=sd hs 98 10;have x1:=sd hs 103 15;exact od rfl rfl (by kernel_rfl) hC (aG.of rfl (aA.refl _)) (by simp[go_sem,x0,x1,w2,jj,k2,aS,s10,e3,e4]<;>rfl)
     case oA217=>intro ev wo hev hC hs hph;have x0:=sd hs 104 16;exact od rfl rfl (by kernel_rfl) hC (aG.of rfl (aA.refl _)) (by simp[go_sem,x0,w2,jj,k2,aS,s10,e3,e4]<;>rfl)
     intro sg wf hC hph
     intro a hA
     replace hA:=hA.keepN [2,3,4,5,6,7,8,9,10,52]
     refine nT ?_
     replace HB:=HB.trans (hC.mono HB.size)
     replace hR:=(hR.below hC).more hC.size
     replace K2:=K2.below hC K2.lt
     replace K3:=K3.below hC K3.lt
     replace K4:=K4.below hC K4.lt
     replace K7:=K7.below hC K7.lt
     clear hC hph
     have lp:=gS (gS r7 r18) (tt (n:=3) l15)
     have lq:=gS (gS r17 r19) (tt (n:=10) l2)
     have hVe:=AC (x15:=x15) (x2:=x2) l16 l7 lp lq
     have hm:=vH (qA (cO (cO x16 (xo (xo (cH x15 7) (cH x15 18)) (sr x15 3))) x7) (xo (xo (cH x2 17) (cH x2 19)) (sr x2 10)))
     rw[hVe,←hnx] at hm
     obtain⟨V,hV⟩:∃V,kS (bT k1 j) j=V:=⟨_,rfl⟩
     rw[hV] at hm
     have pA3:=fun(wo:World) (hC:(fun wy=>Below wf.heap.size wf wy) wo)=>have Kx:=K7.below hC K7.lt;And.intro (Kx.cell) (And.intro (c16) (c7))
     refine aj 15 ?_
     simp only[List.take_succ_cons,List.take_zero,List.drop_succ_cons,List.drop_zero]
     refine ai hA [(.det ?dA30),(.det ?dA31),(.det ?dA32),(.det ?dA33),(.det ?dA34),(.det ?dA35),(.det ?dA36),(.det ?dA37),(.det ?dA38),(.det ?dA39),(.det ?dA310),(.det ?dA311),(.det ?dA312),(.det ?dA313),(.det ?dA314)] [] (fun wy=>Below wf.heap.size wf wy) (aG [] aA) (by kernel_rfl) rfl (by kernel_rfl) (by kernel_rfl) rfl (by kernel_rfl) (by kernel_rfl) (by kernel_rfl) (by kernel_rfl) ((Below.refl _ _).drew) (bF [] [true,true,true,true,true,true,true,true,true,true,true,true,true,true,true] [true,true,true,true,true,true,true,true,true,true,true,true,true,true,true] [] rfl rfl rfl (by kernel_rfl) ⟨trivial,trivial,trivial,trivial,trivial,trivial,trivial,trivial,trivial,trivial,trivial,trivial,trivial,trivial,trivial,trivial⟩ trivial) (fun _ h=>by cases h) (fun _ _ _ _ _ h=>by cases h) (fun _ h=>by cases h) ⟨?oA30, ?oA31, ?oA32, ?oA33, ?oA34, ?oA35, ?oA36, ?oA37, ?oA38, ?oA39, ?oA310, ?oA311, ?oA312, ?oA313, ?oA314,trivial⟩ (by kernel_rfl) ?fA3
     case oA30=>intro ev wo hev hC hs hph;have x0:=se hA hs 8;exact od rfl rfl (by kernel_rfl) hC (aG.of rfl (aA.refl _)) (by simp[go_sem,x0,w16,w7,jj,k16,k7,aS,dm,hm]<;>rfl)
     case oA31=>intro ev wo hev hC hs hph;have x0:=se hA hs 8;exact od rfl rfl (by kernel_rfl) hC (aG.of rfl (aA.refl _)) (by simp[go_sem,x0,w16,w7,jj,k16,k7,aS,dm,hm]<;>rfl)
     case oA32=>intro ev wo hev hC hs hph;have x0:=sd hs 106 1;exact od rfl rfl (by kernel_rfl) hC (aG.of rfl (aA.refl _)) (by simp[go_sem,x0,hev.const,w16,w7,jj,k16,k7,aS,dm,hm]<;>rfl)
     case oA33=>intro ev wo hev hC hs hph;have x0:=se hA hs 7;have x1:=sd hs 107 2;exact od rfl rfl (by kernel_rfl) hC (aG.of rfl (aA.refl _)) (by simp[go_sem,x0,x1,w16,w7,jj,k16,k7,aS,dm,hm]<;>rfl)
     case oA34=>intro ev wo hev hC hs hph;have x0:=sd hs 108 3;exact od rfl rfl (by kernel_rfl) hC (aG.of rfl (aA.refl _)) (by simp[go_sem,x0,pA3 _ hC,w16,w7,jj,k16,k7,aS,dm,hm]<;>rfl)
     case oA35=>intro ev wo hev hC hs hph;have x0:=se hA hs 9;exact od rfl rfl (by kernel_rfl) hC (aG.of rfl (aA.refl _)) (by simp[go_sem,x0,w16,w7,jj,k16,k7,aS,dm,hm]<;>rfl)
     case oA36=>intro ev wo hev hC hs hph;have x0:=sd hs 109 4;have x1:=sd hs 110 5;exact od rfl rfl (by kernel_rfl) hC (aG.of rfl (aA.refl _)) (by simp[go_sem,x0,x1,w16,w7,jj,k16,k7,aS,dm,hm]<;>rfl)
     case oA37=>intro ev wo hev hC hs hph;have x0:=se hA hs 8;exact od rfl rfl (by kernel_rfl) hC (aG.of rfl (aA.refl _)) (by simp[go_sem,x0,w16,w7,jj,k16,k7,aS,dm,hm]<;>rfl)
     case oA38=>intro ev wo hev hC hs hph;have x0:=sd hs 112 7;exact od rfl rfl (by kernel_rfl) hC (aG.of rfl (aA.refl _)) (by simp[go_sem,x0,hev.const,w16,w7,jj,k16,k7,aS,dm,hm]<;>rfl)
     case oA39=>intro ev wo hev hC hs hph;have x0:=se hA hs 7;have x1:=sd hs 113 8;exact od rfl rfl (by kernel_rfl) hC (aG.of rfl (aA.refl _)) (by simp[go_sem,x0,x1,w16,w7,jj,k16,k7,aS,dm,hm]<;>rfl)
     case oA310=>intro ev wo hev hC hs hph;have x0:=sd hs 114 9;exact od rfl rfl (by kernel_rfl) hC (aG.of rfl (aA.refl _)) (by simp[go_sem,x0,pA3 _ hC,w16,w7,jj,k16,k7,aS,dm,hm]<;>rfl)
     case oA311=>intro ev wo hev hC hs hph;have x0:=sd hs 111 6;have x1:=sd hs 115 10;exact od rfl rfl (by kernel_rfl) hC (aG.of rfl (aA.refl _)) (by simp[go_sem,x0,x1,w16,w7,jj,k16,k7,aS,dm,hm]<;>rfl)
     case oA312=>intro ev wo hev hC hs hph;have x0:=se hA hs 10;exact od rfl rfl (by kernel_rfl) hC (aG.of rfl (aA.refl _)) (by simp[go_sem,x0,w16,w7,jj,k16,k7,aS,dm,hm]<;>rfl)
     case oA313=>intro ev wo hev hC hs hph;have x0:=sd hs 116 11;have x1:=sd hs 117 12;exact od rfl rfl (by kernel_rfl) hC (aG.of rfl (aA.refl _)) (by simp[go_sem,x0,x1,w16,w7,jj,k16,k7,aS,dm,hm]<;>rfl)
     case oA314=>intro ev wo hev hC hs hph;have x0:=sd hs 118 13;exact od rfl rfl (by kernel_rfl) hC (aG.of rfl (aA.refl _)) (by simp[go_sem,x0,hev.const,w16,w7,jj,k16,k7,aS,dm,hm]<;>rfl)
     intro sg wf hC hph
     intro a hA
     replace hA:=hA.keepN [2,3,4,5,6,7,52,105,119]
     replace HB:=HB.trans (hC.mono HB.size)
     replace hR:=(hR.below hC).more hC.size
     replace K2:=K2.below hC K2.lt
     replace K3:=K3.below hC K3.lt
     replace K4:=K4.below hC K4.lt
     replace K7:=K7.below hC K7.lt
     revert a;refine wo rfl rfl (by decide) (fun ev e h=>by simp[go_sem,h,jj,ki,aS,hci]<;>rfl) ?_;intro a hA
     have K7b:=K7
     refine aq ((ee (bT k1 j)).set j (.int .u64 (V:Nat))) _ hA rfl rfl K7 (j:=j) (by rfl) (fun ev h=>by simp[go_sem,h.get 120 rfl,h.get 119 rfl,jj,ki,aS,hci,K7.cell,K7.frozen];try first|exact⟨rfl,rfl⟩|rfl) fun w16 (K7:aI _ _ _ _) hs=> ?_
     replace hA:=hA.keepN [2,3,4,5,6,7,52]
     refine wN (nB (nT (wR ?_)))
     revert a;(iterate 2 refine wo rfl rfl (by decide) (fun ev e h=>by simp[go_sem,h,hwi]<;>rfl) ?_);intro a hA
     replace hA:=hA.keepN [2,3,4,5,6,7,52]
     refine wN (nT ?_)
     refine⟨k' - 1,by omega,j+1,by omega,hA,cG hR hs K7b (wi _),hs.blk K2 (by omega),hs.blk K3 (by omega),hs.blk K4 (by omega), ?_,hs.below HB h7w⟩
     have e:=rf (l:=bT k1 j) (by omega) V
     rw[hlen] at e
     rw[show bT k1 (j+1)=bT k1 j++[V] by rw[←hV];show bT k1 j++_=_;rw[if_neg (by omega)],←e]
     exact K7
   case nU=>
    have hj:j=64:=by simp at hq2;omega
    subst hj
    have hk64:(bT k1 64).length=64:=dh k1 64
    have hWlt:∀q,(bT k1 64).getD q 0<4294967296:=fun q=>cU k1 64 q
    have hmix:iF T (i+1)=pH (dT (bT k1 64) (iF T i) 64) (iF T i):=by
     rw[←hk1,←hp]
     rfl
    have hok:=oO T i
    rw[xw hk64] at K7
    generalize bT k1 64=W at*
    generalize hSi:iF T i=S at*
    replace hA:=hA.keepN [2,3,4,5,6,7]
    refine wp_exit (xT (xT (xB (nT (wS (wR ?_))))))
    refine a7 hA rfl rfl (by decide) (fun ev h=>fa K4 Tryz.underlying161 rfl (by kernel_rfl) (rfl:(S.l.map dY).length=8) rfl (h.get 4 rfl)) fun a hA=> ?_
    have l4:=K4.lt
    have l7:=K7.lt
    have hwl2:=HB.size
    refine aP hA rfl rfl (by decide) (fun ev h=>by simp[go_sem];try first|exact⟨rfl,rfl⟩|rfl) fun w17 a (K11:aI _ _ _ _) hz17 hb17 hA=> ?_
    replace HB:=HB.trans (hb17.mono HB.size)
    replace K2:=K2.below hb17 K2.lt
    replace K3:=K3.below hb17 K3.lt
    replace K4:=K4.below hb17 K4.lt
    replace K7:=K7.below hb17 K7.lt
    replace hR:=(hR.below hb17).more hb17.size
    obtain⟨g11,hg11⟩:∃g,wx.heap.size=g:=⟨_,rfl⟩
    rw[hg11] at K11 hA l7 l4 hwl2
    have K11b:=K11
    refine di (S.l.map dY) hA rfl rfl K11 (by rfl) (by rfl) (by kernel_rfl) (og _) rfl (fun ev h=>⟨h.get 11 rfl,h.get 122 rfl⟩) fun w18 (K11:aI _ _ _ _) hs11=> ?_
    replace hR:=cG hR hs11 K11b (by rfl)
    replace K2:=hs11.blk K2 (by omega)
    replace K3:=hs11.blk K3 (by omega)
    replace K4:=hs11.blk K4 (by omega)
    replace K7:=hs11.blk K7 (by omega)
    replace HB:=hs11.below HB hwl2
    replace hA:=hA.keepN [2,3,4,5,6,7,11]
    refine wN (nT (wS (wS (wR ?_))))
    revert a;refine wo rfl rfl (by decide) (fun ev e h=>by simp[go_sem,h]<;>rfl) ?_;intro a hA
    replace hA:=hA.keepN [2,3,4,5,6,7,11,123]
    refine wN (nT (wB ?_))
    refine aQ (fun k a wx=>∃(q:Nat),q+k=64∧At 251 [(2, .pointer (some ⟨g2,0,none⟩)),(3, .pointer (some ⟨g3,0,none⟩)),(4, .pointer (some ⟨g4,0,none⟩)),(5, .slice Ar N cr),(6, .int .i64 (p:Nat)),(7, .pointer (some ⟨g7,0,none⟩)),(11, .pointer (some ⟨g11,0,none⟩)),(123, .int .i64 (q:Nat))] a∧aE wx wx.heap.size 1 Ar N (ar T)∧aI wx g2 112 (aw []).toArray∧aI wx g3 160 (fq.map dY).toArray∧aI wx g4 161 (S.l.map dY).toArray∧aI wx g7 160 (W.map dY).toArray∧aI wx g11 161 ((dT W S q).l.map dY).toArray∧Below w.heap.size w wx) (64) ?_ ?_
    ·exact⟨0,by omega,hA,hR,K2,K3,K4,K7,K11,HB⟩
    clear hR K2 K3 K4 K7 K11 HB
    rintro k' a wx ⟨q,hqk,hA,hR,K2,K3,K4,K7,K11,HB⟩
    refine wS (wR ?_)
    revert a;refine wo rfl rfl (by decide) (fun ev e h=>by simp[go_sem,h]<;>rfl) ?_;intro a hA
    replace hA:=hA.keepN [2,3,4,5,6,7,11,123,124]
    refine wN (nT (wS ?_))
    refine aH hA 124 _ rfl (fun hq2=> ?yY) (fun hq2=> ?nY)
    case yY=>
     have hj:q<64:=by simp at hq2;omega
     have hst:=jM W hok q
     have hnext:dT W S (q+1)=jL (fq.getD q 0) (W.getD q 0) (dT W S q):=rfl
     have ck:=nw (l:=fq) (i:=q) hj
     have cw:=nw (l:=W) (i:=q) (by omega)
     have lk:fq.getD q 0<4294967296:=by
      rw[List.getD_eq_getElem?_getD,List.getElem?_eq_getElem (show q<fq.length from hj)]
      exact B9 _ (List.getElem_mem _)
     have lw:=hWlt q
     obtain⟨kk,hkk⟩:∃x,fq.getD q 0=x:=⟨_,rfl⟩
     obtain⟨ww,hww⟩:∃x,W.getD q 0=x:=⟨_,rfl⟩
     rw[hkk] at ck lk hnext
     rw[hww] at cw lw hnext
     generalize dT W S q=st at*
     obtain⟨va,vb,vc,vd,ve,vf,vg,vh⟩:=st
     have la:va<4294967296:=hst.a
     have lb:vb<4294967296:=hst.b
     have lc:vc<4294967296:=hst.c
     have ld:vd<4294967296:=hst.d
     have le:ve<4294967296:=hst.e
     have lf:vf<4294967296:=hst.f
     have lg:vg<4294967296:=hst.g
     have lh:vh<4294967296:=hst.h
     clear hst
     replace K11:aI wx g11 161 #[.int .u64 (va:Nat), .int .u64 (vb:Nat), .int .u64 (vc:Nat), .int .u64 (vd:Nat), .int .u64 (ve:Nat), .int .u64 (vf:Nat), .int .u64 (vg:Nat), .int .u64 (vh:Nat)]:=K11
     have r6:=ca ve 6
     have r11:=ca ve 11
     have r25:=ca ve 25
     have r2:=ca va 2
     have r13:=ca va 13
     have r22:=ca va 22
     have x1:=vI r6 r11
     have x2:=vI (gS r6 r11) r25
     refine wp_skip (nT (wS (wB (wS (wR ?_)))))
     revert a;(iterate 2 refine wo rfl rfl (by decide) (fun ev e h=>by simp[go_sem,h]<;>rfl) ?_);intro a hA
     replace hA:=hA.keepN [2,3,4,5,6,7,11,12,123]
     have pB1:=fun(wo:World) (hC:(fun wy=>Below wx.heap.size wx wy) wo)=>have Kx:=K11.below hC K11.lt;(Kx.cell)
     refine wN (nT (wS ?_))
     refine bi hA [(.det ?dB10),(.det ?dB11),(.det ?dB12),(.det ?dB13),(.det ?dB14),(.det ?dB15),(.det ?dB16),(.det ?dB17),(.det ?dB18),(.det ?dB19),(.det ?dB110),(.det ?dB111)] [] (fun wy=>Below wx.heap.size wx wy) (aG [] aA) (by kernel_rfl) rfl (by kernel_rfl) (by kernel_rfl) rfl ((Below.refl _ _).drew) (bF [] [true,true,true,true,true,true,true,true,true,true,true,true] [true,true,true,true,true,true,true,true,true,true,true,true] [] rfl rfl rfl (by kernel_rfl) ⟨trivial,trivial,trivial,trivial,trivial,trivial,trivial,trivial,trivial,trivial,trivial,trivial,trivial⟩ trivial) (fun _ h=>by cases h) (fun _ _ _ _ _ h=>by cases h) (fun _ h=>by cases h) ⟨?oB10, ?oB11, ?oB12, ?oB13, ?oB14, ?oB15, ?oB16, ?oB17, ?oB18, ?oB19, ?oB110, ?oB111,trivial⟩ (by kernel_rfl) ?fB1
     case oB10=>intro ev wo hev hC hs hph;have x0:=se hA hs 11;exact od rfl rfl (by kernel_rfl) hC (aG.of rfl (aA.refl _)) (by simp[go_sem,x0,hev.const,x1,x2]<;>rfl)
     case oB11=>intro ev wo hev hC hs hph;have x0:=sd hs 126 0;exact od rfl rfl (by kernel_rfl) hC (aG.of rfl (aA.refl _)) (by simp[go_sem,x0,pB1 _ hC,x1,x2]<;>rfl)
     case oB12=>
      intro ev wo hev hC hs hph
      have e127:=sd hs 127 1
      have Kx:=K11.below hC K11.lt
      exact bm (aJ rfl) rfl (by kernel_rfl) (dl ve 6 6 rfl le (by decide) (by decide) wo) (aB Tryz.func91 (by kernel_rfl) rfl (hev.func _) (by first|(simp only[mL,e127,hev.const]<;>rfl)|(simp[mL,e127,hev.const]<;>rfl))) (by rfl) (fun w3 hb3=>⟨hC.trans (hb3.mono hC.size),aG.of rfl hb3⟩)
     case oB13=>intro ev wo hev hC hs hph;have x0:=se hA hs 11;exact od rfl rfl (by kernel_rfl) hC (aG.of rfl (aA.refl _)) (by simp[go_sem,x0,hev.const,x1,x2]<;>rfl)
     case oB14=>intro ev wo hev hC hs hph;have x0:=sd hs 129 3;exact od rfl rfl (by kernel_rfl) hC (aG.of rfl (aA.refl _)) (by simp[go_sem,x0,pB1 _ hC,x1,x2]<;>rfl)
     case oB15=>
      intro ev wo hev hC hs hph
      have e130:=sd hs 130 4
      have Kx:=K11.below hC K11.lt
      exact bm (aJ rfl) rfl (by kernel_rfl) (dl ve 11 11 rfl le (by decide) (by decide) wo) (aB Tryz.func91 (by kernel_rfl) rfl (hev.func _) (by first|(simp only[mL,e130,hev.const]<;>rfl)|(simp[mL,e130,hev.const]<;>rfl))) (by rfl) (fun w3 hb3=>⟨hC.trans (hb3.mono hC.size),aG.of rfl hb3⟩)
     case oB16=>intro ev wo hev hC hs hph;have x0:=sd hs 128 2;have x1:=sd hs 131 5;exact od rfl rfl (by kernel_rfl) hC (aG.of rfl (aA.refl _)) (by simp[go_sem,x0,x1,x1,x2]<;>rfl)
     case oB17=>intro ev wo hev hC hs hph;have x0:=se hA hs 11;exact od rfl rfl (by kernel_rfl) hC (aG.of rfl (aA.refl _)) (by simp[go_sem,x0,hev.const,x1,x2]<;>rfl)
     case oB18=>intro ev wo hev hC hs hph;have x0:=sd hs 133 7;exact od rfl rfl (by kernel_rfl) hC (aG.of rfl (aA.refl _)) (by simp[go_sem,x0,pB1 _ hC,x1,x2]<;>rfl)
     case oB19=>
      intro ev wo hev hC hs hph
      have e134:=sd hs 134 8
      have Kx:=K11.below hC K11.lt
      exact bm (aJ rfl) rfl (by kernel_rfl) (dl ve 25 25 rfl le (by decide) (by decide) wo) (aB Tryz.func91 (by kernel_rfl) rfl (hev.func _) (by first|(simp only[mL,e134,hev.const]<;>rfl)|(simp[mL,e134,hev.const]<;>rfl))) (by rfl) (fun w3 hb3=>⟨hC.trans (hb3.mono hC.size),aG.of rfl hb3⟩)
     case oB110=>intro ev wo hev hC hs hph;have x0:=sd hs 132 6;have x1:=sd hs 135 9;exact od rfl rfl (by kernel_rfl) hC (aG.of rfl (aA.refl _)) (by simp[go_sem,x0,x1,x1,x2]<;>rfl)
     case oB111=>intro ev wo hev hC hs hph;have x0:=sd hs 136 10;exact od rfl rfl (by kernel_rfl) hC (aG.of rfl (aA.refl _)) (by simp[go_sem,x0,x1,x2]<;>rfl)
     intro sg wf hC hph
     intro a hA
     replace hA:=hA.keepN [2,3,4,5,6,7,11,12,13,123]
     refine nT ?_
     replace HB:=HB.trans (hC.mono HB.size)
     replace hR:=(hR.below hC).more hC.size
     replace K2:=K2.below hC K2.lt
     replace K3:=K3.below hC K3.lt
     replace K4:=K4.below hC K4.lt
     replace K7:=K7.below hC K7.lt
     replace K11:=K11.below hC K11.lt
     clear hC hph x1 x2
     have lP:=gS (gS r6 r11) r25
     obtain⟨P,hP⟩:∃P,xo (xo (cH ve 6) (cH ve 11)) (cH ve 25)=P:=⟨_,rfl⟩
     rw[hP] at hA lP
     have a1:=FS (F5 le) lf
     have n1:=Hn le
     have ln:xo 4294967295 ve<4294967296:=gS (by decide) le
     have a2:=FS (F5 ln) lg
     have o1:=Ho (fr (b:=vf) le) (fr (b:=vg) ln)
     refine wS (wR ?_)
     revert a;(iterate 10 refine wo rfl rfl (by decide) (fun ev e h=>by simp[go_sem,h,K11.cell,a1,n1,a2,o1]<;>rfl) ?_);intro a hA
     replace hA:=hA.keepN [2,3,4,5,6,7,11,12,13,123,141,144,146]
     revert a;(iterate 3 refine wo rfl rfl (by decide) (fun ev e h=>by simp[go_sem,h,K11.cell,a1,n1,a2,o1]<;>rfl) ?_);intro a hA
     replace hA:=hA.keepN [2,3,4,5,6,7,11,12,13,14,123]
     refine wN (nT (wS ?_))
     have lC:=ui (fr (b:=vf) le) (fr (b:=vg) ln)
     obtain⟨C,hC0⟩:∃C,Gd (an ve vf) (an (xo 4294967295 ve) vg)=C:=⟨_,rfl⟩
     rw[hC0] at hA lC
     have jj:(0:Int)≤(q:Int):=by omega
     have ji:(q:Int)<64:=by omega
     have pB2:=fun(wo:World) (hC:(fun wy=>Below wf.heap.size wf wy) wo)=>have Kx:=K11.below hC K11.lt;have Ky:=K3.below hC K3.lt;have Kz:=K7.below hC K7.lt;And.intro (Kx.cell) (And.intro (Ky.cell) (And.intro (Kz.cell) (And.intro (ck) (cw))))
     refine bi hA [(.det ?dB20),(.det ?dB21),(.det ?dB22),(.det ?dB23),(.det ?dB24),(.det ?dB25),(.det ?dB26),(.det ?dB27),(.det ?dB28),(.det ?dB29),(.det ?dB210),(.det ?dB211),(.det ?dB212),(.det ?dB213),(.det ?dB214)] [] (fun wy=>Below wf.heap.size wf wy) (aG [] aA) (by kernel_rfl) rfl (by kernel_rfl) (by kernel_rfl) rfl ((Below.refl _ _).drew) (bF [] [true,true,true,true,true,true,true,true,true,true,true,true,true,true,true] [true,true,true,true,true,true,true,true,true,true,true,true,true,true,true] [] rfl rfl rfl (by kernel_rfl) ⟨trivial,trivial,trivial,trivial,trivial,trivial,trivial,trivial,trivial,trivial,trivial,trivial,trivial,trivial,trivial,trivial⟩ trivial) (fun _ h=>by cases h) (fun _ _ _ _ _ h=>by cases h) (fun _ h=>by cases h) ⟨?oB20, ?oB21, ?oB22, ?oB23, ?oB24, ?oB25, ?oB26, ?oB27, ?oB28, ?oB29, ?oB210, ?oB211, ?oB212, ?oB213, ?oB214,trivial⟩ (by kernel_rfl) ?fB2
     case oB20=>intro ev wo hev hC hs hph;have x0:=se hA hs 11;exact od rfl rfl (by kernel_rfl) hC (aG.of rfl (aA.refl _)) (by simp[go_sem,x0,hev.const,dm,jj,ji,aS]<;>rfl)
     case oB21=>intro ev wo hev hC hs hph;have x0:=sd hs 149 0;exact od rfl rfl (by kernel_rfl) hC (aG.of rfl (aA.refl _)) (by simp[go_sem,x0,pB2 _ hC,dm,jj,ji,aS]<;>rfl)
     case oB22=>intro ev wo hev hC hs hph;have x0:=se hA hs 13;exact od rfl rfl (by kernel_rfl) hC (aG.of rfl (aA.refl _)) (by simp[go_sem,x0,dm,jj,ji,aS]<;>rfl)
     case oB23=>intro ev wo hev hC hs hph;have x0:=sd hs 150 1;have x1:=sd hs 151 2;exact od rfl rfl (by kernel_rfl) hC (aG.of rfl (aA.refl _)) (by simp[go_sem,x0,x1,dm,jj,ji,aS]<;>rfl)
     case oB24=>intro ev wo hev hC hs hph;have x0:=se hA hs 14;exact od rfl rfl (by kernel_rfl) hC (aG.of rfl (aA.refl _)) (by simp[go_sem,x0,dm,jj,ji,aS]<;>rfl)
     case oB25=>intro ev wo hev hC hs hph;have x0:=sd hs 152 3;have x1:=sd hs 153 4;exact od rfl rfl (by kernel_rfl) hC (aG.of rfl (aA.refl _)) (by simp[go_sem,x0,x1,dm,jj,ji,aS]<;>rfl)
     case oB26=>intro ev wo hev hC hs hph;have x0:=se hA hs 12;exact od rfl rfl (by kernel_rfl) hC (aG.of rfl (aA.refl _)) (by simp[go_sem,x0,dm,jj,ji,aS]<;>rfl)
     case oB27=>intro ev wo hev hC hs hph;have x0:=se hA hs 3;have x1:=sd hs 155 6;exact od rfl rfl (by kernel_rfl) hC (aG.of rfl (aA.refl _)) (by simp[go_sem,x0,x1,dm,jj,ji,aS]<;>rfl)
     case oB28=>intro ev wo hev hC hs hph;have x0:=sd hs 156 7;exact od rfl rfl (by kernel_rfl) hC (aG.of rfl (aA.refl _)) (by simp[go_sem,x0,pB2 _ hC,dm,jj,ji,aS]<;>rfl)
     case oB29=>intro ev wo hev hC hs hph;have x0:=sd hs 154 5;have x1:=sd hs 157 8;exact od rfl rfl (by kernel_rfl) hC (aG.of rfl (aA.refl _)) (by simp[go_sem,x0,x1,dm,jj,ji,aS]<;>rfl)
     case oB210=>intro ev wo hev hC hs hph;have x0:=se hA hs 12;exact od rfl rfl (by kernel_rfl) hC (aG.of rfl (aA.refl _)) (by simp[go_sem,x0,dm,jj,ji,aS]<;>rfl)
     case oB211=>intro ev wo hev hC hs hph;have x0:=se hA hs 7;have x1:=sd hs 159 10;exact od rfl rfl (by kernel_rfl) hC (aG.of rfl (aA.refl _)) (by simp[go_sem,x0,x1,dm,jj,ji,aS]<;>rfl)
     case oB212=>intro ev wo hev hC hs hph;have x0:=sd hs 160 11;exact od rfl rfl (by kernel_rfl) hC (aG.of rfl (aA.refl _)) (by simp[go_sem,x0,pB2 _ hC,dm,jj,ji,aS]<;>rfl)
     case oB213=>intro ev wo hev hC hs hph;have x0:=sd hs 158 9;have x1:=sd hs 161 12;exact od rfl rfl (by kernel_rfl) hC (aG.of rfl (aA.refl _)) (by simp[go_sem,x0,x1,dm,jj,ji,aS]<;>rfl)
     case oB214=>intro ev wo hev hC hs hph;have x0:=sd hs 162 13;exact od rfl rfl (by kernel_rfl) hC (aG.of rfl (aA.refl _)) (by simp[go_sem,x0,dm,jj,ji,aS]<;>rfl)
     intro sg wf hC hph
     intro a hA
     replace hA:=hA.keepN [2,3,4,5,6,7,11,15,123]
     refine nT ?_
     replace HB:=HB.trans (hC.mono HB.size)
     replace hR:=(hR.below hC).more hC.size
     replace K2:=K2.below hC K2.lt
     replace K3:=K3.below hC K3.lt
     replace K4:=K4.below hC K4.lt
     replace K7:=K7.below hC K7.lt
     replace K11:=K11.below hC K11.lt
     clear hC hph a1 n1 a2 o1
     obtain⟨V1,hV1⟩:∃V1,cO (cO (cO (cO vh P) C) kk) ww=V1:=⟨_,rfl⟩
     rw[hV1] at hA
     have y1:=vI r2 r13
     have y2:=vI (gS r2 r13) r22
     have pB3:=fun(wo:World) (hC:(fun wy=>Below wf.heap.size wf wy) wo)=>have Kx:=K11.below hC K11.lt;(Kx.cell)
     refine wS ?_
     refine bi hA [(.det ?dB30),(.det ?dB31),(.det ?dB32),(.det ?dB33),(.det ?dB34),(.det ?dB35),(.det ?dB36),(.det ?dB37),(.det ?dB38),(.det ?dB39),(.det ?dB310),(.det ?dB311)] [] (fun wy=>Below wf.heap.size wf wy) (aG [] aA) (by kernel_rfl) rfl (by kernel_rfl) (by kernel_rfl) rfl ((Below.refl _ _).drew) (bF [] [true,true,true,true,true,true,true,true,true,true,true,true] [true,true,true,true,true,true,true,true,true,true,true,true] [] rfl rfl rfl (by kernel_rfl) ⟨trivial,trivial,trivial,trivial,trivial,trivial,trivial,trivial,trivial,trivial,trivial,trivial,trivial⟩ trivial) (fun _ h=>by cases h) (fun _ _ _ _ _ h=>by cases h) (fun _ h=>by cases h) ⟨?oB30, ?oB31, ?oB32, ?oB33, ?oB34, ?oB35, ?oB36, ?oB37, ?oB38, ?oB39, ?oB310, ?oB311,trivial⟩ (by kernel_rfl) ?fB3
     case oB30=>intro ev wo hev hC hs hph;have x0:=se hA hs 11;exact od rfl rfl (by kernel_rfl) hC (aG.of rfl (aA.refl _)) (by simp[go_sem,x0,hev.const,y1,y2]<;>rfl)
     case oB31=>intro ev wo hev hC hs hph;have x0:=sd hs 163 0;exact od rfl rfl (by kernel_rfl) hC (aG.of rfl (aA.refl _)) (by simp[go_sem,x0,pB3 _ hC,y1,y2]<;>rfl)
     case oB32=>
      intro ev wo hev hC hs hph
      have e164:=sd hs 164 1
      have Kx:=K11.below hC K11.lt
      exact bm (aJ rfl) rfl (by kernel_rfl) (dl va 2 2 rfl la (by decide) (by decide) wo) (aB Tryz.func91 (by kernel_rfl) rfl (hev.func _) (by first|(simp only[mL,e164,hev.const]<;>rfl)|(simp[mL,e164,hev.const]<;>rfl))) (by rfl) (fun w3 hb3=>⟨hC.trans (hb3.mono hC.size),aG.of rfl hb3⟩)
     case oB33=>intro ev wo hev hC hs hph;have x0:=se hA hs 11;exact od rfl rfl (by kernel_rfl) hC (aG.of rfl (aA.refl _)) (by simp[go_sem,x0,hev.const,y1,y2]<;>rfl)
     case oB34=>intro ev wo hev hC hs hph;have x0:=sd hs 166 3;exact od rfl rfl (by kernel_rfl) hC (aG.of rfl (aA.refl _)) (by simp[go_sem,x0,pB3 _ hC,y1,y2]<;>rfl)
     case oB35=>
      intro ev wo hev hC hs hph
      have e167:=sd hs 167 4
      have Kx:=K11.below hC K11.lt
      exact bm (aJ rfl) rfl (by kernel_rfl) (dl va 13 13 rfl la (by decide) (by decide) wo) (aB Tryz.func91 (by kernel_rfl) rfl (hev.func _) (by first|(simp only[mL,e167,hev.const]<;>rfl)|(simp[mL,e167,hev.const]<;>rfl))) (by rfl) (fun w3 hb3=>⟨hC.trans (hb3.mono hC.size),aG.of rfl hb3⟩)
     case oB36=>intro ev wo hev hC hs hph;have x0:=sd hs 165 2;have x1:=sd hs 168 5;exact od rfl rfl (by kernel_rfl) hC (aG.of rfl (aA.refl _)) (by simp[go_sem,x0,x1,y1,y2]<;>rfl)
     case oB37=>intro ev wo hev hC hs hph;have x0:=se hA hs 11;exact od rfl rfl (by kernel_rfl) hC (aG.of rfl (aA.refl _)) (by simp[go_sem,x0,hev.const,y1,y2]<;>rfl)
     case oB38=>intro ev wo hev hC hs hph;have x0:=sd hs 170 7;exact od rfl rfl (by kernel_rfl) hC (aG.of rfl (aA.refl _)) (by simp[go_sem,x0,pB3 _ hC,y1,y2]<;>rfl)
     case oB39=>
      intro ev wo hev hC hs hph
      have e171:=sd hs 171 8
      have Kx:=K11.below hC K11.lt
      exact bm (aJ rfl) rfl (by kernel_rfl) (dl va 22 22 rfl la (by decide) (by decide) wo) (aB Tryz.func91 (by kernel_rfl) rfl (hev.func _) (by first|(simp only[mL,e171,hev.const]<;>rfl)|(simp[mL,e171,hev.const]<;>rfl))) (by rfl) (fun w3 hb3=>⟨hC.trans (hb3.mono hC.size),aG.of rfl hb3⟩)
     case oB310=>intro ev wo hev hC hs hph;have x0:=sd hs 169 6;have x1:=sd hs 172 9;exact od rfl rfl (by kernel_rfl) hC (aG.of rfl (aA.refl _)) (by simp[go_sem,x0,x1,y1,y2]<;>rfl)
     case oB311=>intro ev wo hev hC hs hph;have x0:=sd hs 173 10;exact od rfl rfl (by kernel_rfl) hC (aG.of rfl (aA.refl _)) (by simp[go_sem,x0,y1,y2]<;>rfl)
     intro sg wf hC hph
     intro a hA
     replace hA:=hA.keepN [2,3,4,5,6,7,11,15,16,123]
     refine nT ?_
     replace HB:=HB.trans (hC.mono HB.size)
     replace hR:=(hR.below hC).more hC.size
     replace K2:=K2.below hC K2.lt
     replace K3:=K3.below hC K3.lt
     replace K4:=K4.below hC K4.lt
     replace K7:=K7.below hC K7.lt
     replace K11:=K11.below hC K11.lt
     clear hC hph y1 y2
     have lQ:=gS (gS r2 r13) r22
     obtain⟨Q,hQ⟩:∃Q,xo (xo (cH va 2) (cH va 13)) (cH va 22)=Q:=⟨_,rfl⟩
     rw[hQ] at hA lQ
     have m1:=FS (F5 la) lb
     have m2:=FS (F5 la) lc
     have m3:=FS (F5 lb) lc
     have m4:=Ho (fr (b:=vb) la) (fr (b:=vc) la)
     have m5:=Ho (ui (fr (b:=vb) la) (fr (b:=vc) la)) (fr (b:=vc) lb)
     refine wS (wR ?_)
     revert a;(iterate 10 refine wo rfl rfl (by decide) (fun ev e h=>by simp[go_sem,h,K11.cell,m1,m2,m3,m4,m5]<;>rfl) ?_);intro a hA
     replace hA:=hA.keepN [2,3,4,5,6,7,11,15,16,123,178,183]
     revert a;(iterate 8 refine wo rfl rfl (by decide) (fun ev e h=>by simp[go_sem,h,K11.cell,m1,m2,m3,m4,m5]<;>rfl) ?_);intro a hA
     replace hA:=hA.keepN [2,3,4,5,6,7,11,15,16,17,123]
     refine wN (nT (wS (wS (wR ?_))))
     revert a;refine wo rfl rfl (by decide) (fun ev e h=>by simp[go_sem,h,K11.cell,m1,m2,m3,m4,m5]<;>rfl) ?_;intro a hA
     replace hA:=hA.keepN [2,3,4,5,6,7,11,15,16,17,18,123]
     refine wN (nT (wB ?_))
     have lM:=ui (ui (fr (b:=vb) la) (fr (b:=vc) la)) (fr (b:=vc) lb)
     obtain⟨M1,hM1⟩:∃M1,Gd (Gd (an va vb) (an va vc)) (an vb vc)=M1:=⟨_,rfl⟩
     rw[hM1] at hA lM
     clear m1 m2 m3 m4 m5
     replace K11:aI wf g11 161 ((mw ⟨va,vb,vc,vd,ve,vf,vg,vh⟩ 7).map dY).toArray:=K11
     refine aQ (fun k a wx=>∃(e:Nat),e=k∧e≤7∧At 251 [(2, .pointer (some ⟨g2,0,none⟩)),(3, .pointer (some ⟨g3,0,none⟩)),(4, .pointer (some ⟨g4,0,none⟩)),(5, .slice Ar N cr),(6, .int .i64 (p:Nat)),(7, .pointer (some ⟨g7,0,none⟩)),(11, .pointer (some ⟨g11,0,none⟩)),(15, .int .u64 (V1:Nat)),(16, .int .u64 (Q:Nat)),(17, .int .u64 (M1:Nat)),(18, .int .i64 (e:Nat)),(123, .int .i64 (q:Nat))] a∧aE wx wx.heap.size 1 Ar N (ar T)∧aI wx g2 112 (aw []).toArray∧aI wx g3 160 (fq.map dY).toArray∧aI wx g4 161 (S.l.map dY).toArray∧aI wx g7 160 (W.map dY).toArray∧aI wx g11 161 ((mw ⟨va,vb,vc,vd,ve,vf,vg,vh⟩ e).map dY).toArray∧Below w.heap.size w wx) (7) ?_ ?_
     ·exact⟨7,rfl,by omega,hA,hR,K2,K3,K4,K7,K11,HB⟩
     clear hR K2 K3 K4 K7 K11 HB
     rintro k'' a wx ⟨e,rfl,he7,hA,hR,K2,K3,K4,K7,K11,HB⟩
     refine wS (wS (wR ?_))
     revert a;(iterate 2 refine wo rfl rfl (by decide) (fun ev e h=>by simp[go_sem,h]<;>rfl) ?_);intro a hA
     replace hA:=hA.keepN [2,3,4,5,6,7,11,15,16,17,18,123,192]
     refine wN (nT ?_)
     refine aH hA 192 _ rfl (fun hq3=> ?yZ) (fun hq3=> ?nZ)
     case yZ=>
      obtain⟨e,rfl⟩:∃e',e=e'+1:=⟨e - 1,by simp at hq3;omega⟩
      obtain⟨f,hf⟩:∃f,e+1=f:=⟨_,rfl⟩
      obtain⟨cg1,cg2⟩:=AQ (s:=⟨va,vb,vc,vd,ve,vf,vg,vh⟩) (j:=e) (by omega)
      have hset:=AR (s:=⟨va,vb,vc,vd,ve,vf,vg,vh⟩) (j:=e) (by omega)
      rw[hf] at cg1 cg2 hset K11 hA
      have i0:(0:Int)≤(e:Int):=by omega
      have i1:(0:Int)≤(f:Int):=by omega
      have i2:(e:Int)<8:=by omega
      have i3:(f:Int)<8:=by omega
      have i4:IntKind.i64.wrap ((f:Int) - 1)=(e:Int):=by rw[IntWalk.i64_in _ (by omega)];omega
      refine wp_skip (nT (wS (wB (wR ?_))))
      revert a;(iterate 6 refine wo rfl rfl (by decide) (fun ev e h=>by simp[go_sem,h,i0,i1,i2,i3,i4,K11.cell,cg1,cg2,aS]<;>rfl) ?_);intro a hA
      have K11b:=K11
      refine aq (((mw ⟨va,vb,vc,vd,ve,vf,vg,vh⟩ f).map dY).set f (.int .u64 ((dH.l ⟨va,vb,vc,vd,ve,vf,vg,vh⟩).getD e 0:Nat))) _ hA rfl rfl K11 (j:=f) (by rfl) (fun ev h=>by simp[go_sem,h.get 200 rfl,h.get 199 rfl,i0,i1,i2,i3,i4,K11.cell,cg1,cg2,aS,K11.cell,K11.frozen];try first|exact⟨rfl,rfl⟩|rfl) fun w20 (K11:aI _ _ _ _) hs=> ?_
      replace hA:=hA.keepN [2,3,4,5,6,7,11,15,16,17,18,123]
      refine wN (nB (nT (wR ?_)))
      revert a;(iterate 3 refine wo rfl rfl (by decide) (fun ev e h=>by simp[go_sem,h,i0,i1,i2,i3,i4,K11.cell,cg1,cg2,aS]<;>rfl) ?_);intro a hA
      replace hA:=hA.keepN [2,3,4,5,6,7,11,15,16,17,18,123]
      refine wN (nT ?_)
      rw[hset] at K11
      exact⟨e,by omega,e,rfl,by omega,hA,cG hR hs K11b (tU _),hs.blk K2 (by omega),hs.blk K3 (by omega),hs.blk K4 (by omega),hs.blk K7 (by omega),K11,hs.below HB hwl2⟩
     case nZ=>
      have he:e=0:=by simp at hq3;omega
      subst he
      replace K11:aI wx g11 161 #[.int .u64 (va:Nat), .int .u64 (va:Nat), .int .u64 (vb:Nat), .int .u64 (vc:Nat), .int .u64 (vd:Nat), .int .u64 (ve:Nat), .int .u64 (vf:Nat), .int .u64 (vg:Nat)]:=K11
      have hcell:=sR (vd:=vd) (vh:=vh) (kk:=kk) (ww:=ww) le lg ld lh lk lw lP lC lQ lM hP hC0 hQ hM1
      rw[←hnext,hV1] at hcell
      have e1:=vH (qA vd V1)
      have e2:=vH (qA (cO V1 Q) M1)
      replace hA:=hA.keepN [2,3,4,5,6,7,11,15,16,17,123]
      refine wp_exit (xT (xT (xB (nT (wS (wR ?_))))))
      revert a;(iterate 6 refine wo rfl rfl (by decide) (fun ev e h=>by simp[go_sem,h,K11.cell,dm,e1,e2]<;>rfl) ?_);intro a hA
      have K11b:=K11
      refine aq ([.int .u64 (va:Nat), .int .u64 (va:Nat), .int .u64 (vb:Nat), .int .u64 (vc:Nat), .int .u64 (iN (cO vd V1):Nat), .int .u64 (ve:Nat), .int .u64 (vf:Nat), .int .u64 (vg:Nat)]) _ hA rfl rfl K11 (j:=4) (by rfl) (fun ev h=>by simp[go_sem,h.get 206 rfl,h.get 205 rfl,K11.cell,dm,e1,e2,K11.cell,K11.frozen];try first|exact⟨rfl,rfl⟩|rfl) fun w21 (K11:aI _ _ _ _) hs=> ?_
      replace hR:=cG hR hs K11b (by rfl)
      replace K2:=hs.blk K2 (by omega)
      replace K3:=hs.blk K3 (by omega)
      replace K4:=hs.blk K4 (by omega)
      replace K7:=hs.blk K7 (by omega)
      replace HB:=hs.below HB hwl2
      clear hs K11b
      replace hA:=hA.keepN [2,3,4,5,6,7,11,15,16,17,123]
      refine wN (nT (wR ?_))
      revert a;(iterate 7 refine wo rfl rfl (by decide) (fun ev e h=>by simp[go_sem,h,K11.cell,dm,e1,e2]<;>rfl) ?_);intro a hA
      have K11b:=K11
      refine aq ([.int .u64 (iN (cO (cO V1 Q) M1):Nat), .int .u64 (va:Nat), .int .u64 (vb:Nat), .int .u64 (vc:Nat), .int .u64 (iN (cO vd V1):Nat), .int .u64 (ve:Nat), .int .u64 (vf:Nat), .int .u64 (vg:Nat)]) _ hA rfl rfl K11 (j:=0) (by rfl) (fun ev h=>by simp[go_sem,h.get 213 rfl,h.get 212 rfl,K11.cell,dm,e1,e2,K11.cell,K11.frozen];try first|exact⟨rfl,rfl⟩|rfl) fun w22 (K11:aI _ _ _ _) hs=> ?_
      have hwi:IntKind.i64.wrap ((q:Int)+1)=((q+1:Nat):Int):=by rw[IntWalk.i64_in _ (by omega)];omega
      replace hA:=hA.keepN [2,3,4,5,6,7,11,123]
      refine wN (nB (nT (wR ?_)))
      revert a;(iterate 2 refine wo rfl rfl (by decide) (fun ev e h=>by simp[go_sem,h,hwi]<;>rfl) ?_);intro a hA
      replace hA:=hA.keepN [2,3,4,5,6,7,11,123]
      refine wN (nT ?_)
      refine⟨k' - 1,by omega,q+1,by omega,hA,cG hR hs K11b (by rfl),hs.blk K2 (by omega),hs.blk K3 (by omega),hs.blk K4 (by omega),hs.blk K7 (by omega), ?_,hs.below HB hwl2⟩
      rw[hcell]
      exact K11
    case nY=>
     have hq64:q=64:=by simp at hq2;omega
     subst hq64
     have hst:=jM W hok 64
     generalize dT W S 64=t at*
     replace hA:=hA.keepN [2,3,4,5,6,11]
     refine wp_exit (xT (xT (xB (nT (wS (wR ?_))))))
     revert a;refine wo rfl rfl (by decide) (fun ev e h=>by simp[go_sem,h]<;>rfl) ?_;intro a hA
     replace hA:=hA.keepN [2,3,4,5,6,11,215]
     refine wN (nT (wB ?_))
     refine aQ (fun k a wx=>∃(q:Nat),q+k=8∧At 251 [(2, .pointer (some ⟨g2,0,none⟩)),(3, .pointer (some ⟨g3,0,none⟩)),(4, .pointer (some ⟨g4,0,none⟩)),(5, .slice Ar N cr),(6, .int .i64 (p:Nat)),(11, .pointer (some ⟨g11,0,none⟩)),(215, .int .i64 (q:Nat))] a∧aE wx wx.heap.size 1 Ar N (ar T)∧aI wx g2 112 (aw []).toArray∧aI wx g3 160 (fq.map dY).toArray∧aI wx g4 161 ((uG S t q).map dY).toArray∧aI wx g11 161 (t.l.map dY).toArray∧Below w.heap.size w wx) (8) ?_ ?_
     ·exact⟨0,by omega,hA,hR,K2,K3,by rw[Gk];exact K4,K11,HB⟩
     clear hR K2 K3 K4 K7 K11 HB
     rintro k' a wx ⟨q,hqk,hA,hR,K2,K3,K4,K11,HB⟩
     refine wS (wR ?_)
     revert a;refine wo rfl rfl (by decide) (fun ev e h=>by simp[go_sem,h]<;>rfl) ?_;intro a hA
     replace hA:=hA.keepN [2,3,4,5,6,11,215,216]
     refine wN (nT (wS ?_))
     refine aH hA 216 _ rfl (fun hq3=> ?yX) (fun hq3=> ?nX)
     case yX=>
      have hq8:q<8:=by simp at hq3;omega
      have c1:=Da (s:=S) (t:=t) hq8
      have c2:=nw (l:=t.l) (i:=q) hq8
      have jj:(0:Int)≤(q:Int):=by omega
      have ji:(q:Int)<8:=by omega
      have hset:=Db (s:=S) (t:=t) hq8
      obtain⟨y1,hy1⟩:∃y,S.l.getD q 0=y:=⟨_,rfl⟩
      obtain⟨y2,hy2⟩:∃y,t.l.getD q 0=y:=⟨_,rfl⟩
      rw[hy1] at c1 hset
      rw[hy2] at c2 hset
      have hm:=vH (qA y1 y2)
      refine wp_skip (nT (wS (wB (wS (wR ?_)))))
      revert a;(iterate 2 refine wo rfl rfl (by decide) (fun ev e h=>by simp[go_sem,h]<;>rfl) ?_);intro a hA
      replace hA:=hA.keepN [2,3,4,5,6,11,19,215]
      have pG1:=fun(wo:World) (hC:(fun wy=>Below wx.heap.size wx wy) wo)=>have Kx:=K4.below hC K4.lt;have Ky:=K11.below hC K11.lt;And.intro (Kx.cell) (And.intro (Ky.cell) (And.intro (c1) (c2)))
      refine wN (nT ?_)
      refine aj 9 ?_
      simp only[List.take_succ_cons,List.take_zero,List.drop_succ_cons,List.drop_zero]
      refine ai hA [(.det ?dG10),(.det ?dG11),(.det ?dG12),(.det ?dG13),(.det ?dG14),(.det ?dG15),(.det ?dG16),(.det ?dG17),(.det ?dG18)] [] (fun wy=>Below wx.heap.size wx wy) (aG [] aA) (by kernel_rfl) rfl (by kernel_rfl) (by kernel_rfl) rfl (by kernel_rfl) (by kernel_rfl) (by kernel_rfl) (by kernel_rfl) ((Below.refl _ _).drew) (bF [] [true,true,true,true,true,true,true,true,true] [true,true,true,true,true,true,true,true,true] [] rfl rfl rfl (by kernel_rfl) ⟨trivial,trivial,trivial,trivial,trivial,trivial,trivial,trivial,trivial,trivial⟩ trivial) (fun _ h=>by cases h) (fun _ _ _ _ _ h=>by cases h) (fun _ h=>by cases h) ⟨?oG10, ?oG11, ?oG12, ?oG13, ?oG14, ?oG15, ?oG16, ?oG17, ?oG18,trivial⟩ (by kernel_rfl) ?fG1
      case oG10=>intro ev wo hev hC hs hph;have x0:=se hA hs 19;exact od rfl rfl (by kernel_rfl) hC (aG.of rfl (aA.refl _)) (by simp[go_sem,x0,dm,hm,jj,ji,aS]<;>rfl)
      case oG11=>intro ev wo hev hC hs hph;have x0:=se hA hs 19;exact od rfl rfl (by kernel_rfl) hC (aG.of rfl (aA.refl _)) (by simp[go_sem,x0,dm,hm,jj,ji,aS]<;>rfl)
      case oG12=>intro ev wo hev hC hs hph;have x0:=se hA hs 4;have x1:=sd hs 219 1;exact od rfl rfl (by kernel_rfl) hC (aG.of rfl (aA.refl _)) (by simp[go_sem,x0,x1,dm,hm,jj,ji,aS]<;>rfl)
      case oG13=>intro ev wo hev hC hs hph;have x0:=sd hs 220 2;exact od rfl rfl (by kernel_rfl) hC (aG.of rfl (aA.refl _)) (by simp[go_sem,x0,pG1 _ hC,dm,hm,jj,ji,aS]<;>rfl)
      case oG14=>intro ev wo hev hC hs hph;have x0:=se hA hs 19;exact od rfl rfl (by kernel_rfl) hC (aG.of rfl (aA.refl _)) (by simp[go_sem,x0,dm,hm,jj,ji,aS]<;>rfl)
      case oG15=>intro ev wo hev hC hs hph;have x0:=se hA hs 11;have x1:=sd hs 222 4;exact od rfl rfl (by kernel_rfl) hC (aG.of rfl (aA.refl _)) (by simp[go_sem,x0,x1,dm,hm,jj,ji,aS]<;>rfl)
      case oG16=>intro ev wo hev hC hs hph;have x0:=sd hs 223 5;exact od rfl rfl (by kernel_rfl) hC (aG.of rfl (aA.refl _)) (by simp[go_sem,x0,pG1 _ hC,dm,hm,jj,ji,aS]<;>rfl)
      case oG17=>intro ev wo hev hC hs hph;have x0:=sd hs 221 3;have x1:=sd hs 224 6;exact od rfl rfl (by kernel_rfl) hC (aG.of rfl (aA.refl _)) (by simp[go_sem,x0,x1,dm,hm,jj,ji,aS]<;>rfl)
      case oG18=>intro ev wo hev hC hs hph;have x0:=sd hs 225 7;exact od rfl rfl (by kernel_rfl) hC (aG.of rfl (aA.refl _)) (by simp[go_sem,x0,hev.const,dm,hm,jj,ji,aS]<;>rfl)
      intro sg wf hC hph
      intro a hA
      replace hA:=hA.keepN [2,3,4,5,6,11,215,218,226]
      replace HB:=HB.trans (hC.mono HB.size)
      replace hR:=(hR.below hC).more hC.size
      replace K2:=K2.below hC K2.lt
      replace K3:=K3.below hC K3.lt
      replace K4:=K4.below hC K4.lt
      replace K11:=K11.below hC K11.lt
      revert a;refine wo rfl rfl (by decide) (fun ev e h=>by simp[go_sem,h,jj,ji,aS,c1]<;>rfl) ?_;intro a hA
      have K4b:=K4
      refine aq (((uG S t q).map dY).set q (.int .u64 ((iN (cO y1 y2):Nat):Int))) _ hA rfl rfl K4 (j:=q) (by rfl) (fun ev h=>by simp[go_sem,h.get 227 rfl,h.get 226 rfl,jj,ji,aS,c1,K4.cell,K4.frozen];try first|exact⟨rfl,rfl⟩|rfl) fun w23 (K4:aI _ _ _ _) hs=> ?_
      have hwi:IntKind.i64.wrap ((q:Int)+1)=((q+1:Nat):Int):=by rw[IntWalk.i64_in _ (by omega)];omega
      replace hA:=hA.keepN [2,3,4,5,6,11,215]
      refine wN (nB (nT (wR ?_)))
      revert a;(iterate 2 refine wo rfl rfl (by decide) (fun ev e h=>by simp[go_sem,h,hwi]<;>rfl) ?_);intro a hA
      replace hA:=hA.keepN [2,3,4,5,6,11,215]
      refine wN (nT ?_)
      rw[hset] at K4
      exact⟨k' - 1,by omega,q+1,by omega,hA,cG hR hs K4b (tU _),hs.blk K2 (by omega),hs.blk K3 (by omega),K4,hs.blk K11 (by omega),hs.below HB (by omega)⟩
     case nX=>
      have hq8:q=8:=by simp at hq3;omega
      subst hq8
      rw[Gl hok hst,←hmix] at K4
      have hwi:IntKind.i64.wrap ((p:Int)+64)=((64*(i+1):Nat):Int):=by rw[IntWalk.i64_in _ (by omega)];omega
      replace hA:=hA.keepN [2,3,4,5,6]
      refine wp_exit (xT (xT (xB (nB (nT (wR ?_))))))
      revert a;(iterate 3 refine wo rfl rfl (by decide) (fun ev e h=>by simp[go_sem,h,hwi]<;>rfl) ?_);intro a hA
      replace hA:=hA.keepN [2,3,4,5,6]
      refine wN (nT ?_)
      exact⟨k - 1,by omega,i+1,by omega,by rw[hN2];exact hA,by rw[hN2];exact hR,K2,K3,K4,HB⟩
  case nQ=>
   have hiM:i=M:=by simp at hq;omega
   subst hiM
   generalize hSi:iF T i=S at*
   obtain⟨D,hD⟩:∃D,S.l.flatMap (be 4)=D:=⟨_,rfl⟩
   have hDl:D.length=32:=by rw[←hD];exact dH.l_len S
   have hok:=hSi▸oO T i
   have l2:=K2.lt
   have l4:=K4.lt
   have hwl:=HB.size
   clear hR
   replace hA:=hA.keepN [2,4]
   refine wp_exit (xT (xT (xB (nT (wS (wR ?_))))))
   refine aP hA rfl rfl (by decide) (fun ev h=>by simp[go_sem];try first|exact⟨rfl,rfl⟩|rfl) fun w24 a (K20:aI _ _ _ _) hz24 hb24 hA=> ?_
   replace HB:=HB.trans (hb24.mono HB.size)
   replace K2:=K2.below hb24 K2.lt
   replace K4:=K4.below hb24 K4.lt
   obtain⟨g20,hg20⟩:∃g,wx.heap.size=g:=⟨_,rfl⟩
   rw[hg20] at K20 hA l2 l4 hwl
   replace K20:aI w24 g20 112 (aw (D.take 0)).toArray:=K20
   replace hA:=hA.keepN [2,4,20]
   refine wN (nT (wS (wS (wR ?_))))
   revert a;refine wo rfl rfl (by decide) (fun ev e h=>by simp[go_sem,h]<;>rfl) ?_;intro a hA
   replace hA:=hA.keepN [2,4,20,229]
   refine wN (nT (wB ?_))
   refine aQ (fun k a wy=>∃(q:Nat),q+k=8∧At 251 [(2, .pointer (some ⟨g2,0,none⟩)),(4, .pointer (some ⟨g4,0,none⟩)),(20, .pointer (some ⟨g20,0,none⟩)),(229, .int .i64 (q:Nat))] a∧aI wy g2 112 (aw []).toArray∧aI wy g4 161 (S.l.map dY).toArray∧aI wy g20 112 (aw (D.take (4*q))).toArray∧Below w.heap.size w wy) (8) ?_ ?_
   ·exact⟨0,by omega,hA,K2,K4,K20,HB⟩
   clear K2 K3 K4 K20 HB
   rintro k' a wy ⟨q,hqk,hA,K2,K4,K20,HB⟩
   refine wS (wR ?_)
   revert a;refine wo rfl rfl (by decide) (fun ev e h=>by simp[go_sem,h]<;>rfl) ?_;intro a hA
   replace hA:=hA.keepN [2,4,20,229,230]
   refine wN (nT (wS ?_))
   refine aH hA 230 _ rfl (fun hq2=> ?yR) (fun hq2=> ?nR)
   case yR=>
    have hq8:q<8:=by simp at hq2;omega
    have c1:=nw (l:=S.l) (i:=q) hq8
    have lv:=tP hok q
    obtain⟨v,hv⟩:∃v,S.l.getD q 0=v:=⟨_,rfl⟩
    rw[hv] at c1 lv
    have jj:(0:Int)≤(q:Int):=by omega
    have ji:(q:Int)<8:=by omega
    refine wp_skip (nT (wS (wB (wS (wR ?_)))))
    revert a;(iterate 2 refine wo rfl rfl (by decide) (fun ev e h=>by simp[go_sem,h,K4.cell,c1,jj,ji,aS]<;>rfl) ?_);intro a hA
    replace hA:=hA.keepN [2,4,20,21,229]
    refine wN (nT (wS (wR ?_)))
    revert a;(iterate 3 refine wo rfl rfl (by decide) (fun ev e h=>by simp[go_sem,h,K4.cell,c1,jj,ji,aS]<;>rfl) ?_);intro a hA
    have hl20:=K20.lt
    refine aC hA rfl rfl (by decide) (fun ev h=>aB Tryz.func90 (by kernel_rfl) rfl (h.f _) (by first|(simp only[mL,h.get 234 rfl,h.c]<;>rfl)|(simp[mL,h.get 234 rfl,h.c,K4.cell,c1,jj,ji,aS]<;>rfl))) (oJ v 4 (by omega) (by decide) _) ?_
    rintro e w25 ⟨r,rfl,ho,hb25⟩
    refine⟨_,rfl,fun a hA=> ?_⟩
    replace HB:=HB.trans (hb25.mono HB.size)
    replace K2:=K2.below hb25 K2.lt
    replace K4:=K4.below hb25 K4.lt
    replace K20:=K20.below hb25 K20.lt
    obtain⟨gr,cr2,e0,hgr,_⟩:=World.ownsRow.form ho (by decide)
    subst e0
    have hR2:=aE.of_own ho
    have h20r:g20<gr:=Nat.lt_of_lt_of_le hl20 hgr
    clear ho hgr
    revert a;refine wo rfl rfl (by decide) (fun ev e h=>by simp[go_sem,h]<;>rfl) ?_;intro a hA
    replace hA:=hA.keepN [2,4,20,21,22,229]
    refine wN (nT (wS (wR ?_)))
    revert a;refine wo rfl rfl (by decide) (fun ev e h=>by simp[go_sem,h]<;>rfl) ?_;intro a hA
    replace hA:=hA.keepN [2,4,20,21,22,229,236]
    refine wN (nT (wB ?_))
    refine aQ (fun k a wz=>∃(j:Nat),j+k=4∧At 251 [(2, .pointer (some ⟨g2,0,none⟩)),(4, .pointer (some ⟨g4,0,none⟩)),(20, .pointer (some ⟨g20,0,none⟩)),(21, .int .i64 (q:Nat)),(22, .slice (some ⟨gr,0,none⟩) 4 cr2),(229, .int .i64 (q:Nat)),(236, .int .i64 (j:Nat))] a∧aE wz wz.heap.size 1 (some ⟨gr,0,none⟩) 4 (ar (be 4 v))∧aI wz g2 112 (aw []).toArray∧aI wz g4 161 (S.l.map dY).toArray∧aI wz g20 112 (aw (D.take (4*q+j))).toArray∧Below w.heap.size w wz) (4) ?_ ?_
    ·exact⟨0,by omega,hA,hR2,K2,K4,K20,HB⟩
    clear hR2 K2 K4 K20 HB
    rintro k'' a wz ⟨j,hjk,hA,hR2,K2,K4,K20,HB⟩
    refine wS (wR ?_)
    revert a;refine wo rfl rfl (by decide) (fun ev e h=>by simp[go_sem,h]<;>rfl) ?_;intro a hA
    replace hA:=hA.keepN [2,4,20,21,22,229,236,237]
    refine wN (nT (wS ?_))
    refine aH hA 237 _ rfl (fun hq3=> ?yS) (fun hq3=> ?nS)
    case yS=>
     have hj4:j<4:=by simp at hq3;omega
     obtain⟨ad,ea,_,hc⟩:=vF hR2 (aO _ _) (by decide)
     injection ea with ea
     subst ea
     have cj:=hc j hj4
     obtain⟨i,hi⟩:∃i,4*q+j=i:=⟨_,rfl⟩
     have i32:i<32:=by omega
     obtain⟨x,hx⟩:∃x,(be 4 v).getD j 0=x:=⟨_,rfl⟩
     rw[hx,aS] at cj
     have e2:=tC S i32
     rw[hD,show i/4=q by omega,show i%4=j by omega,hv,Gs hj4,hx] at e2
     have e:=nh (l:=D.take i) (by rw[List.length_take];omega) x
     rw[show(D.take i).length=i by rw[List.length_take];omega] at e
     have hci:=mR (l:=D.take i) (j:=i) (by rw[List.length_take];omega) i32
     rw[hi] at K20
     have q1:IntKind.i64.wrap (4*(q:Int))=4*(q:Int):=IntWalk.i64_in _ (by omega)
     have q2:IntKind.i64.wrap (4*(q:Int)+(j:Int))=(i:Int):=by rw[IntWalk.i64_in _ (by omega)];omega
     have q3:(0:Int)≤(j:Int):=by omega
     have q4:(j:Int)<4:=by omega
     have q5:(0:Int)≤(i:Int):=by omega
     have q6:(i:Int)<32:=by omega
     refine wp_skip (nT (wS (wB (wS (wR ?_)))))
     revert a;(iterate 2 refine wo rfl rfl (by decide) (fun ev e h=>by simp[go_sem,h,q1,q2,q3,q4,q5,q6,cj,aS,hci]<;>rfl) ?_);intro a hA
     replace hA:=hA.keepN [2,4,20,21,22,23,229,236]
     refine wN (nT (wR ?_))
     revert a;(iterate 9 refine wo rfl rfl (by decide) (fun ev e h=>by simp[go_sem,h,q1,q2,q3,q4,q5,q6,cj,aS,hci]<;>rfl) ?_);intro a hA
     refine aq ((aw (D.take i)).set i (.int .u8 ((x.toNat:Nat):Int))) _ hA rfl rfl K20 (j:=i) (by rfl) (fun ev h=>by simp[go_sem,h.get 247 rfl,h.get 246 rfl,q1,q2,q3,q4,q5,q6,cj,aS,hci,K20.cell,K20.frozen];try first|exact⟨rfl,rfl⟩|rfl) fun w27 (K20:aI _ _ _ _) hs=> ?_
     have hwi:IntKind.i64.wrap ((j:Int)+1)=((j+1:Nat):Int):=by rw[IntWalk.i64_in _ (by omega)];omega
     replace hA:=hA.keepN [2,4,20,21,22,229,236]
     refine wN (nB (nT (wR ?_)))
     revert a;(iterate 2 refine wo rfl rfl (by decide) (fun ev e h=>by simp[go_sem,h,hwi]<;>rfl) ?_);intro a hA
     replace hA:=hA.keepN [2,4,20,21,22,229,236]
     refine wN (nT ?_)
     refine⟨k'' - 1,by omega,j+1,by omega,hA,xX hR2 hs (by omega),hs.blk K2 (by omega),hs.blk K4 (by omega), ?_,hs.below HB hwl⟩
     rw[show 4*q+(j+1)=i+1 by omega,e2,←e]
     exact K20
    case nS=>
     have hj4:j=4:=by simp at hq3;omega
     subst hj4
     have hwi:IntKind.i64.wrap ((q:Int)+1)=((q+1:Nat):Int):=by rw[IntWalk.i64_in _ (by omega)];omega
     replace hA:=hA.keepN [2,4,20,229]
     refine wp_exit (xT (xT (xB (nB (nT (wR ?_))))))
     revert a;(iterate 2 refine wo rfl rfl (by decide) (fun ev e h=>by simp[go_sem,h,hwi]<;>rfl) ?_);intro a hA
     replace hA:=hA.keepN [2,4,20,229]
     refine wN (nT ?_)
     exact⟨k' - 1,by omega,q+1,by omega,hA,K2,K4,K20,HB⟩
   case nR=>
    have hq8:q=8:=by simp at hq2;omega
    subst hq8
    rw[List.take_of_length_le (by omega)] at K20
    have h32:(aw D).length=32:=iV (by omega)
    replace hA:=hA.keepN [2,20]
    refine wp_exit (xT (xT (xB (nT (wS (wR ?_))))))
    refine a7 hA rfl rfl (by decide) (fun ev h=>fa K20 Tryz.underlying112 rfl (by kernel_rfl) h32 rfl (h.get 20 rfl)) fun a hA=> ?_
    refine di (aw D) hA rfl rfl K2 (iV (l:=[]) (by decide)) h32 (by kernel_rfl) (nd _) rfl (fun ev h=>⟨h.get 2 rfl,h.get 250 rfl⟩) fun w26 (K2:aI _ _ _ _) hs=> ?_
    replace hA:=hA.keepN [2]
    refine wN (nT (wp_ret ?_))
    refine lW hA 2 rfl rfl K2 Tryz.underlying112 rfl (by kernel_rfl) h32 ?_
    exact⟨by rw[hfin,hD,mQ hDl],hs.below HB hB2⟩
theorem qT {l:List UInt8} {j:Nat} {x:UInt8} (c:Nat) (hx:l[j]?=some x):nb c (l.take (j+1))=iU (nb c (l.take j)) x:=by
 rw[List.take_add_one,hx,←zG];rfl
theorem uI (c:Nat):c&&&1=c%2:=by rw[Nat.and_one_is_mod]
theorem rS (x:Nat) {c:Nat} (h:c<2^32):∀k,gI x k c<2^32
 |0=>h
 |k+1=>by
  have ih:=rS x h k
  show jZ _ _<_
  unfold jZ
  have:gI x k c/2<2^32:=by omega
  split
  ·exact Nat.xor_lt_two_pow this (by decide)
  ·exact this
theorem uR (A:Option Addr) (n c:Nat) (l:List UInt8) (w:World) (hn:l.length=n) (hn2:n≤1000000000000) (hr:aE w w.heap.size 1 A n (ar l)):
 Calls Tryz.prog 118 #[.slice A n c] w fun e w'=>e= .returned (.int .u32 (sG l:Nat))∧w'=w:=by
 have HR:=Lib.hid hr
 clear hr
 go_enter Tryz.func118,Tryz.ntmps118
 go_wp2
 go_loopw [3,9] (fun v i wr=>∃(j cc:Nat),i= .int .i64 j∧j≤n∧v= .int .u32 cc∧Hid (cc=nb 4294967295 (l.take j))∧wr=w) (fun _ i _=>n - (intOf i).toNat)
 case atStart=>exact⟨0,4294967295,rfl,by omega,rfl,rfl,rfl⟩
 case round=>
  obtain⟨j,cc,rfl,hj,rfl,hcc,rfl⟩:=hrel
  have hl:cc<4294967296:=by rw[hcc.out];exact kw _ (by decide)
  by_cases hlt:j<n
  ·obtain⟨x,hx⟩:∃x,l[j]?=some x:=⟨_,List.getElem?_eq_getElem (by omega)⟩
   obtain⟨ad,rfl,_,hc⟩:=HR.out.2 (by omega)
   have hcx:=hc j (.int .u8 (x.toNat:Int)) (by rw[dp,hx];rfl)
   have hst:=qT 4294967295 hx
   rw[←hcc.out] at hst
   have HST:=Lib.hid hst
   obtain⟨xn,hxn⟩:∃xn,x.toNat=xn:=⟨_,rfl⟩
   have hx8:xn<256:=by rw[←hxn];exact x.toNat_lt
   obtain⟨c1,hc1⟩:∃c1,cc^^^xn=c1:=⟨_,rfl⟩
   have hl1:c1<4294967296:=by rw[←hc1];exact Nat.xor_lt_two_pow (n:=32) hl (by omega)
   have hb1:bits .xor .u32 (cc:Int) ((xn:Int)%4294967296)=(c1:Int):=by
    rw[show(xn:Int)%4294967296=(xn:Int) by omega,u32_xor_nat _ _ hl (by omega),hc1]
   have hb2:bits .xor .u32 (cc:Int) (xn:Int)=(c1:Int):=by rw[u32_xor_nat _ _ hl (by omega),hc1]
   have HC1:Hid (iU cc x=fW 8 c1):=by unfold iU;rw[hxn,hc1];exact rfl
   rw[hxn] at hcx
   clear hst hx hc hc1 hxn
   go_wp2
   go_loopw [3,17] (fun v i wr2=>∃(k cn:Nat),i= .int .i64 k∧k≤8∧v= .int .u32 cn∧Hid (cn=fW k c1)∧wr2=wr) (fun _ i _=>8 - (intOf i).toNat)
   case atStart=>exact⟨0,c1,rfl,by omega,rfl,rfl,rfl⟩
   case round=>
    obtain⟨k,cn,rfl,hk,rfl,hcn,rfl⟩:=hrel
    have hln:cn<4294967296:=by rw[hcn.out];exact ma _ hl1
    by_cases hk8:k<8
    ·have hst:fW (k+1) c1=fZ cn:=by rw[kF,hcn.out]
     have ha:bits .and .u32 (cn:Int) 1=((cn%2:Nat):Int):=by
      have:=u32_and_nat cn 1 hln (by decide)
      rw[uI] at this
      exact this
     have HS2:=Lib.hid hst
     clear hst
     by_cases hb:cn%2=1
     ·have hv:fZ cn=(cn/2)^^^3988292384:=by unfold fZ;rw[if_pos hb]
      rw[hb] at ha
      have hx2:bits .xor .u32 ((cn:Int)/2) 3988292384=(((cn/2)^^^3988292384:Nat):Int):=by
       have:=u32_xor_nat (cn/2) 3988292384 (by omega) (by decide)
       rw[←this];rfl
      have HV:=Lib.hid hv
      clear hv hb
      go_wp2
      go_roundw
      case rel=>exact⟨k+1,_,by go_num,by omega,rfl,by rw[HS2.out,HV.out];exact rfl,by first|rfl|trivial⟩
      case measure=>simp[intOf];omega
     ·have hv:fZ cn=cn/2:=by unfold fZ;rw[if_neg hb]
      have hb0:cn%2=0:=by omega
      rw[hb0] at ha
      have HV:=Lib.hid hv
      clear hv hb hb0
      go_wp2
      go_roundw
      case rel=>exact⟨k+1,cn/2,by go_num,by omega,by rw[Int.natCast_ediv];rfl,by rw[HS2.out,HV.out];exact rfl,by first|rfl|trivial⟩
      case measure=>simp[intOf];omega
    ·obtain rfl:k=8:=by omega
     go_wp2
     go_roundw
     case rel=>exact⟨j+1,cn,by go_num,by omega,rfl,by rw[HST.out,HC1.out];exact hcn,by first|rfl|trivial⟩
     case measure=>simp[intOf];omega
  ·obtain rfl:j=n:=by omega
   have hx2:bits .xor .u32 (cc:Int) 4294967295=((cc^^^4294967295:Nat):Int):=by
    have:=u32_xor_nat cc 4294967295 hl (by decide)
    rw[←this];rfl
   go_wp2
   go_ret
   refine⟨?_,rfl⟩
   unfold sG
   rw[hcc.out,List.take_of_length_le (by omega)]
   rfl
theorem AB (A:Option Addr) (n c:Nat) (l:List UInt8) (w:World) (hn:l.length=n) (hn2:n≤1000000000000) (hr:aE w w.heap.size 1 A n (ar l)):
 Calls Tryz.prog 89 #[.slice A n c] w fun e w'=>e= .returned (.int .u32 (sG l:Nat))∧w'=w:=by
 have HR:=Lib.hid hr
 clear hr
 go_enter Tryz.func89,Tryz.ntmps89
 go_wp2
 go_loopw [3,9] (fun v i wr=>∃(j cc:Nat),i= .int .i64 j∧j≤n∧v= .int .u64 cc∧Hid (cc=nb 4294967295 (l.take j))∧wr=w) (fun _ i _=>n - (intOf i).toNat)
 case atStart=>exact⟨0,4294967295,rfl,by omega,rfl,rfl,rfl⟩
 case round=>
  obtain⟨j,cc,rfl,hj,rfl,hcc,rfl⟩:=hrel
  have hl:cc<4294967296:=by rw[hcc.out];exact kw _ (by decide)
  by_cases hlt:j<n
  ·obtain⟨x,hx⟩:∃x,l[j]?=some x:=⟨_,List.getElem?_eq_getElem (by omega)⟩
   obtain⟨ad,rfl,_,hc⟩:=HR.out.2 (by omega)
   have hcx:=hc j (.int .u8 (x.toNat:Int)) (by rw[dp,hx];rfl)
   have hst:=qT 4294967295 hx
   rw[←hcc.out] at hst
   have HST:=Lib.hid hst
   obtain⟨xn,hxn⟩:∃xn,x.toNat=xn:=⟨_,rfl⟩
   have hx8:xn<256:=by rw[←hxn];exact x.toNat_lt
   have HC1:Hid (gI xn 8 cc=iU cc x):=by rw[←hxn];exact Bm cc x
   rw[hxn] at hcx
   have jj0:(0:Int)≤(j:Int):=by omega
   have jj1:(j:Int)<(n:Int):=by omega
   clear hst hx hc hxn
   go_wp2
   go_loopw [3,12] (fun v i wr2=>∃(k cn:Nat),i= .int .i64 k∧k≤8∧v= .int .u64 cn∧Hid (cn=gI xn k cc)∧wr2=wr) (fun _ i _=>8 - (intOf i).toNat)
   case atStart=>exact⟨0,cc,rfl,by omega,rfl,rfl,rfl⟩
   case round=>
    obtain⟨k,cn,rfl,hk,rfl,hcn,rfl⟩:=hrel
    have hln:cn<4294967296:=by rw[hcn.out];exact rS xn hl k
    by_cases hk8:k<8
    ·have hst:gI xn (k+1) cc=jZ cn (xn/2^k%2):=by rw[hcn.out];rfl
     have HS2:=Lib.hid hst
     clear hst
     obtain⟨qn,hqn⟩:∃qn,xn/2^k=qn:=⟨_,rfl⟩
     have hq8:qn<256:=by rw[←hqn];exact Nat.lt_of_le_of_lt (Nat.div_le_self _ _) hx8
     have hq:(xn:Int)/2^k=(qn:Int):=by rw[←hqn,Int.natCast_ediv,Int.natCast_pow];rfl
     obtain⟨b,hbq⟩:∃b,qn%2=b:=⟨_,rfl⟩
     obtain⟨m,hm⟩:∃m,cn%2=m:=⟨_,rfl⟩
     have ha8:bits .and .u8 (qn:Int) 1=(b:Int):=by
      have:=u8_and_nat qn 1 hq8 (by decide)
      rw[uI,hbq] at this
      exact this
     have ha:bits .and .u64 (cn:Int) 1=(m:Int):=by
      have:=u64_and_nat cn 1 (by omega) (by decide)
      rw[uI,hm] at this
      exact this
     have hb2:b<2:=by omega
     have hm2:m<2:=by omega
     have hdv:(cn:Int).tdiv 2=((cn/2:Nat):Int):=rfl
     rw[hqn,hbq] at HS2
     have HM:=Lib.hid hm
     obtain⟨t,ht⟩:∃t,m^^^b=t:=⟨_,rfl⟩
     have hxx:bits .xor .u64 (m:Int) (b:Int)=(t:Int):=by rw[u64_xor_nat _ _ (by omega) (by omega),ht]
     have ht2:t<2:=by rw[←ht];exact Nat.xor_lt_two_pow (n:=1) hm2 hb2
     have HT:Hid (m^^^b=t):=ht
     clear ht hm hbq hqn
     by_cases hb:t=1
     ·subst hb
      have hv:jZ cn b=(cn/2)^^^3988292384:=by unfold jZ;rw[HM.out,HT.out,if_pos rfl]
      have hx2:bits .xor .u64 ((cn:Int)/2) 3988292384=(((cn/2)^^^3988292384:Nat):Int):=by
       have:=u64_xor_nat (cn/2) 3988292384 (by omega) (by decide)
       rw[←this];rfl
      have HV:=Lib.hid hv
      clear hv
      go_wp2
      go_roundw
      case rel=>exact⟨k+1,_,by go_num,by omega,rfl,by rw[HS2.out,HV.out];exact rfl,by first|rfl|trivial⟩
      case measure=>simp[intOf];omega
     ·have hv:jZ cn b=cn/2:=by unfold jZ;rw[HM.out,HT.out,if_neg hb]
      obtain rfl:t=0:=by omega
      have HV:=Lib.hid hv
      clear hv hb
      go_wp2
      go_roundw
      case rel=>exact⟨k+1,cn/2,by go_num,by omega,rfl,by rw[HS2.out,HV.out];exact rfl,by first|rfl|trivial⟩
      case measure=>simp[intOf];omega
    ·obtain rfl:k=8:=by omega
     go_wp2
     go_roundw
     case rel=>exact⟨j+1,cn,by go_num,by omega,rfl,by rw[HST.out,←HC1.out];exact hcn,by first|rfl|trivial⟩
     case measure=>simp[intOf];omega
  ·obtain rfl:j=n:=by omega
   have hx2:bits .xor .u64 (cc:Int) 4294967295=((cc^^^4294967295:Nat):Int):=by
    have:=u64_xor_nat cc 4294967295 (by omega) (by decide)
    rw[←this];rfl
   have hx3:cc^^^4294967295<4294967296:=Nat.xor_lt_two_pow (n:=32) hl (by decide)
   obtain⟨r,hr⟩:∃r,cc^^^4294967295=r:=⟨_,rfl⟩
   rw[hr] at hx2 hx3
   have hx4:(r:Int)%4294967296=(r:Int):=by omega
   have HRR:Hid (sG l=r):=by
    unfold sG
    rw[←hr,hcc.out,List.take_of_length_le (by omega)]
    exact rfl
   clear hr
   go_wp2
   go_ret
   refine⟨?_,rfl⟩
   rw[HRR.out]
   rfl
theorem ii {w:World} {g:Nat} {T:TypeId} {p:Nat×Nat} {l:List UInt8} (h:w.heap[g]?=some (.cells (ar l).toArray T p)):aE w w.heap.size 1 (some ⟨g,0,none⟩) l.length (ar l):=by
 refine⟨by rw[bg,Nat.mul_one],fun _=>⟨_,rfl,(Array.getElem?_eq_some_iff.1 h).1,fun j u hu=> ?_⟩⟩
 have ha:(⟨g,0,none⟩:Addr).add j=⟨g,j,none⟩:=by unfold Addr.add;split<;>simp_all
 rw[ha,cell_of_row w g j _ _ p h]
 simpa using hu
theorem rp (l:List UInt8):(ar l).all (·.oneCell')=true:=by
 rw[kV,List.all_map,List.all_eq_true]
 intro x _
 rfl
theorem pJ {l:List UInt8} (h:l.length=32):(ar l).length=32:=by rw[bg,h]
theorem CK (k:Nat) (hk1:1≤k) (hk3:k≤3) (A:Option Addr) (n c:Nat) (p:List UInt8) (hl:p.length=n) (hn:n≤30000) (w:World) (hr:aE w w.heap.size 1 A n (ar p)):
 Calls Tryz.prog 103 #[.int .i64 (k:Nat), .slice A n c] w fun ev w'=>∃v,ev= .returned (.tuple #[v, .int .i64 0])∧ce w.heap.size w' v (dr k p)∧Below w.heap.size w w':=by
 have f1:decide ((k:Int)<1)=false:=by simp;omega
 have f2:decide ((3:Int)<(k:Int))=false:=by simp;omega
 have f3:decide ((30000:Int)<(n:Int))=false:=by simp;omega
 refine aK 46 Tryz.func103 rfl rfl (Nat.le_of_ble_eq_true rfl) ?_
 intro a hA;replace hA:=hA.norm
 refine wS (wR ?_)
 revert a;(iterate 2 refine wo rfl rfl (by decide) (fun ev e h=>by simp[go_sem,h,f1,f2,f3]<;>rfl) ?_);intro a hA
 replace hA:=hA.keepN [0,1]
 refine wN (nT (wS (wB (wS (wR ?_)))))
 revert a;(iterate 3 refine wo rfl rfl (by decide) (fun ev e h=>by simp[go_sem,h,f1,f2,f3]<;>rfl) ?_);(iterate 2 refine wg _ rfl rfl rfl rfl (by decide) (fun hq ev e h=>by simp[go_sem,h,↓aL (aF hq),f1,f2,f3]<;>rfl) ?_);refine kj rfl rfl (by decide) rfl rfl rfl ?_;refine wo rfl rfl (by decide) (fun ev e h=>by simp[go_sem,h,f1,f2,f3]<;>rfl) ?_;intro a hA
 replace hA:=hA.keepN [0,1,10]
 refine wN (nT ?_)
 refine aH hA 10 _ rfl (fun hq=> ?yA) (fun hq=> ?nA)
 case yA=>cases hq
 case nA=>
  refine wS (wR ?_)
  revert a;(iterate 4 refine wo rfl rfl (by decide) (fun ev e h=>by simp[go_sem,h,f3]<;>rfl) ?_);intro a hA
  replace hA:=hA.keepN [0,1,17]
  refine wN (nT ?_)
  refine aH hA 17 _ rfl (fun hq2=> ?yB) (fun hq2=> ?nB)
  case yB=>cases hq2
  case nB=>
   refine wp_skip (nB (nT (wS (wR ?_))))
   refine aP hA rfl rfl (by decide) (fun ev h=>by simp[go_sem,f3];try first|exact⟨rfl,rfl⟩|rfl) fun w1 a (Ko:aI _ _ _ _) hz1 hb1 hA=> ?_
   obtain⟨o,ho⟩:∃o,w.heap.size=o:=⟨_,rfl⟩
   have hO:cf w1 w.heap.size o [] false (.slice none 0 0):=⟨by omega,by rw[←ho];exact Ko,World.ownsRow_nil _ _ _ _⟩
   rw[ho] at hA
   have hoB:w.heap.size≤o:=by omega
   clear Ko
   replace hA:=hA.keepN [0,1,6]
   refine wN (nT (wS (wR ?_)))
   have hcv:(convert 22 22 (.slice (some ⟨w1.heap.size,0,none⟩) 3 3)).run Tryz.prog (w1.alloc (.cells #[.int .u8 99, .int .u8 117, .int .u8 98] 5))= .ok (.slice (some ⟨w1.heap.size,0,none⟩) 3 3) (w1.alloc (.cells #[.int .u8 99, .int .u8 117, .int .u8 98] 5 (3,4))):=Lib.run_convert_bytes_const (P:=Tryz.prog) w1 22 5 #[.int .u8 99, .int .u8 117, .int .u8 98] 3 3 Tryz.underlying22 Tryz.underlying5
   refine a7 hA rfl rfl (by decide) (fun ev h=>by simp[go_sem,h.c,f3,Nat.zero_add];try first|exact⟨rfl,rfl⟩|rfl) fun a hA=> ?_
   refine a7 hA rfl rfl (by decide) (fun ev h=>by simp[go_sem,h.get 21 rfl,hcv];try first|exact⟨rfl,rfl⟩|rfl) fun a hA=> ?_
   have hb2:Below w1.heap.size w1 (w1.alloc (.cells #[.int .u8 99, .int .u8 117, .int .u8 98] 5 (3,4))):=(Below.refl _ _).alloc (Nat.le_refl _) _
   have hR2:aE (w1.alloc (.cells #[.int .u8 99, .int .u8 117, .int .u8 98] 5 (3,4))) (w1.alloc (.cells #[.int .u8 99, .int .u8 117, .int .u8 98] 5 (3,4))).heap.size 1 (some ⟨w1.heap.size,0,none⟩) 3 (ar [99,117,98]):=ii (l:=[99,117,98]) (heap_alloc_new w1 _)
   generalize w1.alloc (.cells #[.int .u8 99, .int .u8 117, .int .u8 98] 5 (3,4))=w2 at*
   obtain⟨L0,hL0⟩:∃L0,w1.heap.size=L0:=⟨_,rfl⟩
   have HB:=hb1.trans (hb2.mono hb1.size)
   refine aC hA rfl rfl (by decide) (fun ev h=>aB Tryz.func96 (by kernel_rfl) rfl (h.f _) (by first|(simp only[mL,h.get 6 rfl,h.get 22 rfl,h.c]<;>rfl)|(simp[mL,h.get 6 rfl,h.get 22 rfl,h.c,hcv]<;>rfl))) (kO (hO.below hb2) HB.size (by simp) _ 3 3 [99,117,98] rfl (by decide) hR2) ?_
   rintro e w3 ⟨rfl,⟨v3,hO⟩,hob⟩
   refine⟨_,rfl,fun a hA=> ?_⟩
   replace HB:=HB.trans (hob.toBelow HB.size (Nat.le_refl _) hoB)
   clear hR2 hb2 hcv
   replace hA:=hA.keepN [0,1,6]
   refine wN (nT (wS (wR ?_)))
   revert a;refine wo rfl rfl (by decide) (fun ev e h=>by simp[go_sem,h]<;>rfl) ?_;intro a hA
   refine aC hA rfl rfl (by decide) (fun ev h=>aB Tryz.func72 (by kernel_rfl) rfl (h.f _) (by first|(simp only[mL,h.get 6 rfl,h.get 24 rfl,h.c]<;>rfl)|(simp[mL,h.get 6 rfl,h.get 24 rfl,h.c]<;>rfl))) (gH hO HB.size (by simp) k 1 (by omega) (show k<256^1 by omega)) ?_
   rintro e w4 ⟨rfl,⟨v4,hO⟩,hob⟩
   refine⟨_,rfl,fun a hA=> ?_⟩
   replace HB:=HB.trans (hob.toBelow HB.size (Nat.le_refl _) hoB)
   replace hA:=hA.keepN [1,6]
   refine wN (nT (wS (wR ?_)))
   revert a;(iterate 2 refine wo rfl rfl (by decide) (fun ev e h=>by simp[go_sem,h]<;>rfl) ?_);intro a hA
   refine aC hA rfl rfl (by decide) (fun ev h=>aB Tryz.func72 (by kernel_rfl) rfl (h.f _) (by first|(simp only[mL,h.get 6 rfl,h.get 27 rfl,h.c]<;>rfl)|(simp[mL,h.get 6 rfl,h.get 27 rfl,h.c]<;>rfl))) (gH hO HB.size (by simp[aO]) n 4 (by omega) (show n<256^4 by omega)) ?_
   rintro e w5 ⟨rfl,⟨v5,hO⟩,hob⟩
   refine⟨_,rfl,fun a hA=> ?_⟩
   replace HB:=HB.trans (hob.toBelow HB.size (Nat.le_refl _) hoB)
   have eh:[]++[99,117,98]++be 1 k++be 4 n=ef k p:=by unfold ef;rw[hl];simp[be]
   rw[eh] at hO
   have hdl:=im k p
   replace hA:=hA.keepN [1,6]
   refine wN (nT (wS (wR ?_)))
   refine aC hA rfl rfl (by decide) (fun ev h=>aB Tryz.func97 (by kernel_rfl) rfl (h.f _) (by first|(simp only[mL,h.get 6 rfl,h.c]<;>rfl)|(simp[mL,h.get 6 rfl,h.c]<;>rfl))) (lu hO (by omega)) ?_
   rintro e w6 ⟨r6,rfl,ho6,hb6⟩
   refine⟨_,rfl,fun a hA=> ?_⟩
   replace HB:=HB.trans (hb6.mono HB.size)
   replace hO:=hO.below hb6
   obtain⟨A6,c6,e6,hR6,_⟩:=cQ ho6
   subst e6
   revert a;(iterate 5 refine wo rfl rfl (by decide) (fun ev e h=>by simp[go_sem,h]<;>rfl) ?_);intro a hA
   replace hA:=hA.keepN [1,6,7]
   refine wN (nT (wS (wR ?_)))
   revert a;refine wo rfl rfl (by decide) (fun ev e h=>by simp[go_sem,h]<;>rfl) ?_;intro a hA
   refine aC hA rfl rfl (by decide) (fun ev h=>aB Tryz.func118 (by kernel_rfl) rfl (h.f _) (by first|(simp only[mL,h.get 33 rfl,h.c]<;>rfl)|(simp[mL,h.get 33 rfl,h.c]<;>rfl))) (uR A6 _ c6 (ef k p) _ rfl (by omega) hR6) ?_
   rintro e w7 ⟨rfl,rfl⟩
   refine⟨_,rfl,fun a hA=> ?_⟩
   have hcl:=oX (ef k p)
   obtain⟨cr,hcr⟩:∃cr,sG (ef k p)=cr:=⟨_,rfl⟩
   rw[hcr] at hA hcl
   have hwc:IntKind.i64.wrap (cr:Int)=(cr:Int):=IntWalk.i64_in _ (by omega)
   refine a7 hA rfl rfl (by decide) (fun ev h=>by simp[go_sem,h.get 34 rfl,hwc];try first|exact⟨rfl,rfl⟩|rfl) fun a hA=> ?_
   refine aC hA rfl rfl (by decide) (fun ev h=>aB Tryz.func72 (by kernel_rfl) rfl (h.f _) (by first|(simp only[mL,h.get 6 rfl,h.get 35 rfl,h.c]<;>rfl)|(simp[mL,h.get 6 rfl,h.get 35 rfl,h.c,hwc]<;>rfl))) (gH hO HB.size (by omega) cr 4 (by omega) (show cr<256^4 by omega)) ?_
   rintro e w8 ⟨rfl,⟨v8,hO⟩,hob⟩
   refine⟨_,rfl,fun a hA=> ?_⟩
   replace HB:=HB.trans (hob.toBelow HB.size (Nat.le_refl _) hoB)
   clear hR6 ho6
   replace hA:=hA.keepN [1,6]
   refine wN (nT (wS (wR ?_)))
   revert a;refine wo rfl rfl (by decide) (fun ev e h=>by simp[go_sem,h]<;>rfl) ?_;intro a hA
   refine aC hA rfl rfl (by decide) (fun ev h=>aB Tryz.func100 (by kernel_rfl) rfl (h.f _) (by first|(simp only[mL,h.get 37 rfl,h.c]<;>rfl)|(simp[mL,h.get 37 rfl,h.c]<;>rfl))) (qX A n c p hl (by omega) _ ((hr.below HB).more HB.size)) ?_
   rintro e w9 ⟨rfl,hb9⟩
   refine⟨_,rfl,fun a hA=> ?_⟩
   replace HB:=HB.trans (hb9.mono HB.size)
   replace hO:=hO.below hb9
   refine aP hA rfl rfl (by decide) (fun ev h=>by simp[go_sem];try first|exact⟨rfl,rfl⟩|rfl) fun w10 a (K9:aI _ _ _ _) hz10 hb10 hA=> ?_
   have hd32:=pJ (bK p)
   refine di (ar (cP p)) hA rfl rfl K9 (by rfl) hd32 (by kernel_rfl) (rp _) rfl (fun ev h=>⟨h.get 9 rfl,h.get 38 rfl⟩) fun w11 (K9:aI _ _ _ _) hs=> ?_
   have hb11:=hs.below hb10 (Nat.le_refl _)
   replace HB:=HB.trans (hb11.mono HB.size)
   replace hO:=hO.below hb11
   have hR9:=ii (l:=cP p) K9
   rw[bK] at hR9
   clear hb10 hb11 hs hb9
   replace hA:=hA.keepN [1,6,9]
   refine wN (nT (wS (wR ?_)))
   revert a;refine wo rfl rfl (by decide) (fun ev e h=>by simp[go_sem,h]<;>rfl) ?_;intro a hA
   refine aC hA rfl rfl (by decide) (fun ev h=>aB Tryz.func96 (by kernel_rfl) rfl (h.f _) (by first|(simp only[mL,h.get 6 rfl,h.get 39 rfl,h.c]<;>rfl)|(simp[mL,h.get 6 rfl,h.get 39 rfl,h.c]<;>rfl))) (kO hO HB.size (by simp[aO];omega) _ 32 _ (cP p) (bK p) (by decide) hR9) ?_
   rintro e w12 ⟨rfl,⟨v12,hO⟩,hob⟩
   refine⟨_,rfl,fun a hA=> ?_⟩
   replace HB:=HB.trans (hob.toBelow HB.size (Nat.le_refl _) hoB)
   have hdg:=bK p
   replace hA:=hA.keepN [1,6]
   refine wN (nT (wS (wR ?_)))
   revert a;refine wo rfl rfl (by decide) (fun ev e h=>by simp[go_sem,h]<;>rfl) ?_;intro a hA
   refine aC hA rfl rfl (by decide) (fun ev h=>aB Tryz.func96 (by kernel_rfl) rfl (h.f _) (by first|(simp only[mL,h.get 6 rfl,h.get 41 rfl,h.c]<;>rfl)|(simp[mL,h.get 6 rfl,h.get 41 rfl,h.c]<;>rfl))) (kO hO HB.size (by simp[aO];omega) A n c p hl (by omega) ((hr.below HB).more HB.size)) ?_
   rintro e w13 ⟨rfl,⟨v13,hO⟩,hob⟩
   refine⟨_,rfl,fun a hA=> ?_⟩
   replace HB:=HB.trans (hob.toBelow HB.size (Nat.le_refl _) hoB)
   have hfe:ef k p++be 4 cr++cP p++p=dr k p:=by rw[←hcr];rfl
   rw[hfe] at hO
   have hfl:=gx k p
   replace hA:=hA.keepN [6]
   refine wN (nT (wS (wR ?_)))
   refine aC hA rfl rfl (by decide) (fun ev h=>aB Tryz.func97 (by kernel_rfl) rfl (h.f _) (by first|(simp only[mL,h.get 6 rfl,h.c]<;>rfl)|(simp[mL,h.get 6 rfl,h.c]<;>rfl))) (lu hO (by omega)) ?_
   rintro e w14 ⟨r14,rfl,ho14,hb14⟩
   refine⟨_,rfl,fun a hA=> ?_⟩
   revert a;(iterate 4 refine wo rfl rfl (by decide) (fun ev e h=>by simp[go_sem,h]<;>rfl) ?_);intro a hA
   replace hA:=hA.keepN [4,5]
   refine wN (nT (wp_ret ?_))
   refine gJ hA 4 5 rfl rfl rfl ?_
   exact⟨_,rfl,eo (ce.of ho14) HB.size,HB.trans (hb14.mono HB.size)⟩
theorem qp {l:List UInt8} (n:Nat) (h:n≤l.length):eW ⟨l,false⟩ n=(dL (l.take n),⟨l.drop n,false⟩):=by
 unfold eW cK
 simp only
 rw[if_neg (by simp),if_neg (by omega)]
 simp
theorem Bk (x:UInt8):dL [x]=x.toNat:=by unfold dL;simp
theorem EJ {b:List UInt8} (h:44≤b.length):eW ⟨(b.take 44).drop 3,false⟩ 1=(cE b,⟨(b.take 44).drop 4,false⟩)∧eW ⟨(b.take 44).drop 4,false⟩ 4=(cD b,⟨(b.take 44).drop 8,false⟩)∧(eW ⟨(b.take 44).drop 8,false⟩ 4).1=jg b:=by
 have hl:(b.take 44).length=44:=by rw[List.length_take];omega
 refine⟨?_, ?_, ?_⟩
 ·rw[qp 1 (by rw[List.length_drop];omega),List.drop_drop]
  congr 1
  rw[List.drop_eq_getElem_cons (by omega),List.take_succ_cons,List.take_zero,Bk]
  unfold cE
  rw[List.getElem_take,List.getD_eq_getElem?_getD,List.getElem?_eq_getElem (by omega)]
  rfl
 ·rw[qp 4 (by rw[List.length_drop];omega),List.drop_drop]
  congr 1
  unfold cD
  rw[List.drop_take,List.take_take]
  rfl
 ·rw[qp 4 (by rw[List.length_drop];omega)]
  show dL _=_
  unfold jg
  rw[List.drop_take,List.take_take]
  rfl
theorem gd :(⟨#[99,117,98]⟩:ByteArray).toList=[99,117,98]:=by rw[ByteArray.toList_eq]
theorem zS (A:Option Addr) (n c:Nat) (hn:n<44) (w:World):Calls Tryz.prog 98 #[.slice A n c] w fun ev w'=>ev= .returned (.tuple #[.int .i64 0, .int .i64 0, .bool false])∧w'=w:=by
 have h1:decide ((n:Int)<44)=true:=by simp;omega
 refine aK 47 Tryz.func98 rfl rfl (Nat.le_of_ble_eq_true rfl) ?_
 intro a hA;replace hA:=hA.norm
 refine wS (wR ?_)
 refine a7 hA rfl rfl (by decide) (fun ev h=>by simp[go_sem,h.c,h1];try first|exact⟨rfl,rfl⟩|rfl) fun a hA=> ?_
 refine a7 hA rfl rfl (by decide) (fun ev h=>by simp[go_sem,h.c,h1];try first|exact⟨rfl,rfl⟩|rfl) fun a hA=> ?_
 refine a7 hA rfl rfl (by decide) (fun ev h=>by simp[go_sem,h.c,h1];try first|exact⟨rfl,rfl⟩|rfl) fun a hA=> ?_
 replace hA:=hA.keepN [0]
 refine wN (nT (wS (wS (wR ?_))))
 refine a7 hA rfl rfl (by decide) (fun ev h=>by simp[go_sem,h.get 0 rfl,h1];try first|exact⟨rfl,rfl⟩|rfl) fun a hA=> ?_
 refine a7 hA rfl rfl (by decide) (fun ev h=>by simp[go_sem,h.get 9 rfl,h1];try first|exact⟨rfl,rfl⟩|rfl) fun a hA=> ?_
 refine a7 hA rfl rfl (by decide) (fun ev h=>by simp[go_sem,h.c,h.get 10 rfl,h1];try first|exact⟨rfl,rfl⟩|rfl) fun a hA=> ?_
 refine a7 hA rfl rfl (by decide) (fun ev h=>by simp[go_sem,h.get 11 rfl,h1];try first|exact⟨rfl,rfl⟩|rfl) fun a hA=> ?_
 refine az _ (v:=undef) hA rfl rfl rfl rfl (by decide) (fun hq ev h=>by first|(cases hq;done)|(cases hr;done)) fun a hA=> ?_
 refine az _ (v:=undef) hA rfl rfl rfl rfl (by decide) (fun hq ev h=>by first|(cases hq;done)|(cases hr;done)) fun a hA=> ?_
 refine az _ (v:=undef) hA rfl rfl rfl rfl (by decide) (fun hq ev h=>by first|(cases hq;done)|(cases hr;done)) fun a hA=> ?_
 refine az _ (v:=undef) hA rfl rfl rfl rfl (by decide) (fun hq ev h=>by first|(cases hq;done)|(cases hr;done)) fun a hA=> ?_
 revert a;(first|refine kj rfl rfl (by decide) rfl rfl rfl ?_|refine wo rfl rfl (by decide) (fun ev e h=>by simp[go_sem,h,lF,iq,h1]<;>rfl) ?_);intro a hA
 replace hA:=hA.keepN [0,17]
 refine wN (nT ?_)
 refine aH hA 17 _ rfl (fun hq=> ?yA) (fun hq=> ?nA)
 case nA=>cases hq
 case yA=>
  refine wS (wR ?_)
  revert a;(iterate 3 refine wo rfl rfl (by decide) (fun ev e h=>by simp[go_sem,h,h1]<;>rfl) ?_);intro a hA
  replace hA:=hA.keepN [2,3,4]
  refine wN (nT (wp_ret (rT ?_)))
  refine mW hA 2 3 4 rfl rfl rfl rfl ?_
  exact⟨rfl,rfl⟩
theorem CS (A:Option Addr) (n c:Nat) (b:List UInt8) (hl:b.length=n) (hc:n≤c) (h44:44≤n) (hn:n≤16000000) (w:World) (hr:aE w w.heap.size 1 A n (ar b)):
 Calls Tryz.prog 98 #[.slice A n c] w fun ev w'=>∃(k m:Int),ev= .returned (.tuple #[.int .i64 k, .int .i64 m, .bool (ah b)])∧(ah b=true→k=(cE b:Nat)∧m=(cD b:Nat))∧Below w.heap.size w w':=by
 have h1:decide ((n:Int)<44)=false:=by simp;omega
 have hr3:=hr.take8 (k:=3) (by omega)
 have v3:=aY (c:=c) (by rw[List.length_take];omega) hr3
 obtain⟨S,hS⟩:∃S:ByteArray,(⟨(b.take 3).toArray⟩:ByteArray)=S:=⟨_,rfl⟩
 have hSm:(S.toList==[99,117,98])=(b.take 3==[99,117,98]):=by rw[←hS,ByteArray.toList_eq]
 rw[hS] at v3
 have z1:(3:Int)≤(c:Int):=by omega
 have z2:(44:Int)≤(c:Int):=by omega
 refine aK 47 Tryz.func98 rfl rfl (Nat.le_of_ble_eq_true rfl) ?_
 intro a hA;replace hA:=hA.norm
 refine wS (wR ?_)
 revert a;(iterate 3 refine wo rfl rfl (by decide) (fun ev e h=>by simp[go_sem,h,h1,v3,z1,z2,gd,hSm]<;>rfl) ?_);intro a hA
 replace hA:=hA.keepN [0]
 refine wN (nT (wS (wS (wR ?_))))
 revert a;(iterate 4 refine wo rfl rfl (by decide) (fun ev e h=>by simp[go_sem,h,h1,v3,z1,z2,gd,hSm]<;>rfl) ?_);(iterate 2 refine wg _ rfl rfl rfl rfl (by decide) (fun hq ev e h=>by simp[go_sem,h,↓aL (aF hq),h1,v3,z1,z2,gd,hSm]<;>rfl) ?_);intro a hA
 refine az _ hA rfl rfl rfl rfl (by decide) (fun hq ev h=>by simp[go_sem,((h.get 14 rfl).trans (aL (aF hq))),h1,v3,z1,z2,gd,hSm];try first|exact⟨rfl,rfl⟩|rfl) fun a hA=> ?_
 revert a;refine wg _ rfl rfl rfl rfl (by decide) (fun hq ev e h=>by simp[go_sem,h,↓aL (aF hq),h1,v3,z1,z2,gd,hSm]<;>rfl) ?_;(first|refine kj rfl rfl (by decide) rfl rfl rfl ?_|refine wo rfl rfl (by decide) (fun ev e h=>by simp[go_sem,h,lF,iq,h1,v3,z1,z2,gd,hSm]<;>rfl) ?_);intro a hA
 replace hA:=hA.keepN [0,17]
 refine wN (nT ?_)
 refine aH hA 17 _ rfl (fun hq=> ?yA) (fun hq=> ?nA)
 case yA=>
  have hno:ah b=false:=by
   have:(b.take 3==[99,117,98])=false:=by simpa using hq
   unfold ah
   rw[this]
   simp
  refine wS (wR ?_)
  revert a;(iterate 3 refine wo rfl rfl (by decide) (fun ev e h=>by simp[go_sem,h,h1,v3,z1,z2,gd,hSm]<;>rfl) ?_);intro a hA
  replace hA:=hA.keepN [2,3,4]
  refine wN (nT (wp_ret (rT ?_)))
  refine mW hA 2 3 4 rfl rfl rfl rfl ?_
  exact⟨0,0,by rw[hno],fun h=>(by rw[hno] at h;cases h),Below.refl _ _⟩
 case nA=>
  have hmg:(b.take 3==[99,117,98])=true:=by simpa using hq
  refine wp_skip (nT (wS (wR ?_)))
  revert a;(iterate 2 refine wo rfl rfl (by decide) (fun ev e h=>by simp[go_sem,h,z1,z2]<;>rfl) ?_);intro a hA
  have hr41:=(rR hr (k:=3) (by omega) hc (by decide)).take8 (k:=41) (by omega)
  have e41:((b.drop 3).take 41)=(b.take 44).drop 3:=by rw[List.drop_take]
  have hl41:((b.drop 3).take 41).length=41:=by rw[List.length_take,List.length_drop];omega
  obtain⟨p1,p2,p3⟩:=EJ (b:=b) (by omega)
  rw[←e41] at p1
  have hl4:∀q,((b.take 44).drop q).length≤1000000:=fun q=>by rw[List.length_drop,List.length_take];omega
  refine aC hA rfl rfl (by decide) (fun ev h=>aB Tryz.func51 (by kernel_rfl) rfl (h.f _) (by first|(simp only[mL,h.get 19 rfl,h.c]<;>rfl)|(simp[mL,h.get 19 rfl,h.c,z1,z2]<;>rfl))) (zV _ 41 _ ((b.drop 3).take 41) hl41 (by decide) _ hr41) ?_
  rintro e w1 ⟨i,v1,rfl,hI,hi,hb1⟩
  refine⟨_,rfl,fun a hA=> ?_⟩
  have HB:=hb1
  revert a;refine wo rfl rfl (by decide) (fun ev e h=>by simp[go_sem,h]<;>rfl) ?_;intro a hA
  replace hA:=hA.keepN [0,5]
  refine wN (nT (wS (wR ?_)))
  revert a;refine wo rfl rfl (by decide) (fun ev e h=>by simp[go_sem,h]<;>rfl) ?_;intro a hA
  refine aC hA rfl rfl (by decide) (fun ev h=>aB Tryz.func52 (by kernel_rfl) rfl (h.f _) (by first|(simp only[mL,h.get 21 rfl,h.c]<;>rfl)|(simp[mL,h.get 21 rfl,h.c]<;>rfl))) (qq hI (by show((b.drop 3).take 41).length≤_;omega) 1 (by omega)) ?_
  rintro e w2 ⟨rfl,⟨v2,hI⟩,hib⟩
  refine⟨_,rfl,fun a hA=> ?_⟩
  rw[p1] at hI hA
  replace HB:=HB.trans (hib.toBelow HB.size hi)
  revert a;refine wo rfl rfl (by decide) (fun ev e h=>by simp[go_sem,h]<;>rfl) ?_;intro a hA
  refine aC hA rfl rfl (by decide) (fun ev h=>aB Tryz.func52 (by kernel_rfl) rfl (h.f _) (by first|(simp only[mL,h.get 23 rfl,h.c]<;>rfl)|(simp[mL,h.get 23 rfl,h.c]<;>rfl))) (qq hI (by exact hl4 _) 4 (by omega)) ?_
  rintro e w3 ⟨rfl,⟨v3',hI⟩,hib⟩
  refine⟨_,rfl,fun a hA=> ?_⟩
  rw[p2] at hI hA
  replace HB:=HB.trans (hib.toBelow HB.size hi)
  revert a;(iterate 2 refine wo rfl rfl (by decide) (fun ev e h=>by simp[go_sem,h]<;>rfl) ?_);intro a hA
  replace hA:=hA.keepN [0,5,6,7]
  refine wN (nT (wS (wR ?_)))
  revert a;refine wo rfl rfl (by decide) (fun ev e h=>by simp[go_sem,h]<;>rfl) ?_;intro a hA
  refine aC hA rfl rfl (by decide) (fun ev h=>aB Tryz.func52 (by kernel_rfl) rfl (h.f _) (by first|(simp only[mL,h.get 25 rfl,h.c]<;>rfl)|(simp[mL,h.get 25 rfl,h.c]<;>rfl))) (qq hI (by exact hl4 _) 4 (by omega)) ?_
  rintro e w4 ⟨rfl,⟨v4,hI⟩,hib⟩
  refine⟨_,rfl,fun a hA=> ?_⟩
  rw[p3] at hA
  replace HB:=HB.trans (hib.toBelow HB.size hi)
  have hcl:jg b<4294967296:=by
   have h1:=jc ((b.drop 8).take 4)
   have h2:((b.drop 8).take 4).length≤4:=by rw[List.length_take];omega
   exact Nat.lt_of_lt_of_le h1 (Nat.le_trans (Nat.pow_le_pow_right (by omega) h2) (by decide))
  have hwc:IntKind.u32.wrap ((jg b:Nat):Int)=((jg b:Nat):Int):=IntWalk.u32_in _ (by omega)
  have z3:(8:Int)≤(c:Int):=by omega
  have hr8:=((hr.below HB).more HB.size).take8 (k:=8) (by omega)
  refine a7 hA rfl rfl (by decide) (fun ev h=>by simp[go_sem,h.get 26 rfl,hwc,z3];try first|exact⟨rfl,rfl⟩|rfl) fun a hA=> ?_
  revert a;refine wo rfl rfl (by decide) (fun ev e h=>by simp[go_sem,h,hwc,z3]<;>rfl) ?_;intro a hA
  replace hA:=hA.keepN [0,6,7,8]
  refine wN (nT (wS (wR ?_)))
  revert a;(iterate 5 refine wo rfl rfl (by decide) (fun ev e h=>by simp[go_sem,h,hwc,z3]<;>rfl) ?_);(iterate 2 refine wg _ rfl rfl rfl rfl (by decide) (fun hq ev e h=>by simp[go_sem,h,↓aL (aF hq),hwc,z3]<;>rfl) ?_);(first|refine j9 rfl rfl (by decide) rfl rfl rfl ?_|refine wo rfl rfl (by decide) (fun ev e h=>by simp[go_sem,h,lF,iq,hwc,z3]<;>rfl) ?_);refine wo rfl rfl (by decide) (fun ev e h=>by simp[go_sem,h,hwc,z3]<;>rfl) ?_;refine wg _ rfl rfl rfl rfl (by decide) (fun hq ev e h=>by simp[go_sem,h,↓aL (aF hq),hwc,z3]<;>rfl) ?_;intro a hA
  replace hA:=hA.keepN [0,8,28,29,36,37]
  revert a;refine wg _ rfl rfl rfl rfl (by decide) (fun hq ev e h=>by simp[go_sem,h,↓aL (aF hq),hwc,z3]<;>rfl) ?_;(first|refine j9 rfl rfl (by decide) rfl rfl rfl ?_|refine wo rfl rfl (by decide) (fun ev e h=>by simp[go_sem,h,lF,iq,hwc,z3]<;>rfl) ?_);refine wo rfl rfl (by decide) (fun ev e h=>by simp[go_sem,h,hwc,z3]<;>rfl) ?_;(iterate 3 refine wg _ rfl rfl rfl rfl (by decide) (fun hq ev e h=>by simp[go_sem,h,↓aL (aF hq),hwc,z3]<;>rfl) ?_);intro a hA
  refine dK _ hA rfl rfl rfl rfl (by decide) (fun hq ev h=>aB Tryz.func118 (by kernel_rfl) rfl (h.f _) (by first|(simp only[mL,((h.get 43 rfl).trans (aL (aF hq))),h.c]<;>rfl)|(simp[mL,((h.get 43 rfl).trans (aL (aF hq))),h.c,hwc,z3]<;>rfl))) (fun hq=>(uR A 8 c (b.take 8) _ (by rw[List.length_take];omega) (by decide) hr8).mono fun e w' h=>⟨h.1,h.2▸Below.refl _ _⟩) fun a w5 hb5 hA=> ?_
  revert a;refine wg _ rfl rfl rfl rfl (by decide) (fun hq ev e h=>by simp[go_sem,h,↓aL (aF hq),hwc,z3]<;>rfl) ?_;(first|refine j9 rfl rfl (by decide) rfl rfl rfl ?_|refine wo rfl rfl (by decide) (fun ev e h=>by simp[go_sem,h,lF,iq,hwc,z3]<;>rfl) ?_);(iterate 2 refine wo rfl rfl (by decide) (fun ev e h=>by simp[go_sem,h,hwc,z3]<;>rfl) ?_);intro a hA
  replace hA:=hA.keepN [2,3,46]
  revert a;refine wo rfl rfl (by decide) (fun ev e h=>by simp[go_sem,h,hwc,z3]<;>rfl) ?_;intro a hA
  replace hA:=hA.keepN [2,3,4]
  refine wN (nT (wp_ret ?_))
  refine mW hA 2 3 4 rfl rfl rfl rfl ?_
  have hok:ah b=(decide ((1:Int)≤((cE b:Nat):Int))&&decide (((cE b:Nat):Int)≤3)&&decide (((cD b:Nat):Int)≤30000)&&(((jg b:Nat):Int)==((sG (b.take 8):Nat):Int))):=by
   unfold ah
   rw[hmg,show decide (44≤b.length)=true by simp;omega]
   have e1:decide ((1:Int)≤((cE b:Nat):Int))=decide (1≤cE b):=by rw[Bool.eq_iff_iff];simp;omega
   have e2:decide (((cE b:Nat):Int)≤3)=decide (cE b≤3):=by rw[Bool.eq_iff_iff];simp;omega
   have e3:decide (((cD b:Nat):Int)≤30000)=decide (cD b≤30000):=by rw[Bool.eq_iff_iff];simp;omega
   have e4:(((jg b:Nat):Int)==((sG (b.take 8):Nat):Int))=(jg b==sG (b.take 8)):=by rw[Bool.eq_iff_iff];simp;omega
   rw[e1,e2,e3,e4]
   simp
  rw[hok]
  exact⟨_,_,rfl,fun _=>⟨rfl,rfl⟩,HB.trans (hb5.mono HB.size)⟩
theorem wT (A:Option Addr) (n c:Nat) (b:List UInt8) (hl:b.length=n) (hc:n≤c) (hn:n≤16000000) (w:World) (hr:aE w w.heap.size 1 A n (ar b)):
 Calls Tryz.prog 98 #[.slice A n c] w fun ev w'=>∃(k m:Int),ev= .returned (.tuple #[.int .i64 k, .int .i64 m, .bool (ah b)])∧(ah b=true→k=(cE b:Nat)∧m=(cD b:Nat))∧Below w.heap.size w w':=by
 rcases Nat.lt_or_ge n 44 with h|h
 ·refine(zS A n c h w).mono fun ev w' ⟨h1,h2⟩=> ?_
  have hno:=kJ (b:=b) (by omega)
  exact⟨0,0,by rw[h1,hno],fun h=>(by rw[hno] at h;cases h),h2▸Below.refl _ _⟩
 ·exact CS A n c b hl hc h hn w hr
end Go.Proofs.YtclcfkaphlopeaaGreatDoor
