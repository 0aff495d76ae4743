/-
  name.plain, name.Norm, walked.
-/
import Derived.Test.YtclcfkaphlopeaaGreatDoorRepa
import Derived.Lib.AppendIntMem
import Derived.BigRegion
import Derived.Deep.RegionLaw
import Derived.Lib.ConvBytes
import Derived.Lib.AppendStr
import Derived.Laws.BitsAllLaws
set_option linter.unusedSimpArgs false
set_option linter.unusedVariables false
set_option maxRecDepth 100000
set_option maxHeartbeats 16000000
namespace Go.Proofs.YtclcfkaphlopeaaGreatDoor
open Go.RowKit
def ol (c:Int):Bool:=decide (97≤c∧c≤122∨65≤c∧c≤90∨48≤c∧c≤57∨c=46∨c=95∨c=45)
theorem tf (c:Int) (h0:0≤c) (h1:c≤255) (w:World):
 Calls Tryz.prog 111 #[.int .u8 c] w fun e w'=>e= .returned (.bool (ol c))∧w=w':=by
 go_enter Tryz.func111,Tryz.ntmps111
 go_wp2
 all_goals go_ret
 all_goals exact⟨bH (by unfold ol;rw[Bool.eq_iff_iff];simp<;>omega),rfl⟩
def jY (c:UInt8):Bool:=ol (c.toNat:Int)
def iY (p:List UInt8):Bool:= !(p==[])&&p.all jY
def kM (l:List UInt8):Bool:=(eP 47 l).all iY
def mo (p:ByteArray):Bool:=iY p.data.toList
def xz :ByteArray:=⟨#[47]⟩
def u7 :ByteArray:=⟨#[73,78,66,79,88]⟩
def eG (s:ByteArray):ByteArray×Bool:=
 if 60<s.size then(⟨#[]⟩,false) else if kM s.data.toList then(if(Lib.toUpperA s.data.toList==[73,78,66,79,88])=true then(u7,true) else(s,true)) else(⟨#[]⟩,false)
theorem xP (s:ByteArray):(fN 47 s).all mo=kM s.data.toList:=by
 unfold kM;rw[←vD,List.all_map];rfl
theorem tZ (s q:ByteArray) (hs:s.size≤60) (k:Nat) (h:(fN 47 s)[k]?=some q) (hq:mo q=false):eG s=(⟨#[]⟩,false):=by
 have hm:q∈fN 47 s:=List.mem_of_getElem? h
 have:kM s.data.toList=false:=by
  rw[←xP,List.all_eq_false];exact⟨q,hm,by simp[hq]⟩
 unfold eG
 rw[if_neg (by omega),this];rfl
theorem zm (s:ByteArray) (hs:s.size≤60) (h:kM s.data.toList=true):eG s=(if(Lib.toUpperA s.data.toList==[73,78,66,79,88])=true then(u7,true) else(s,true)):=by
 unfold eG
 rw[if_neg (by omega),if_pos h]
theorem zt (q:ByteArray) (j:Nat) (h:j<q.size) (hp:ol (q[j].toNat:Int)=false):mo q=false:=by
 unfold mo iY
 have:q.data.toList.all jY=false:=by
  rw[List.all_eq_false]
  exact⟨q[j],by rw[show q[j]=q.data.toList[j]'(by simpa using h) from rfl];exact List.getElem_mem _,by unfold jY;simp[hp]⟩
 rw[this];simp
theorem Ct (c:UInt8) (h:jY c=true):c.toNat<128:=by
 unfold jY ol at h;simp at h;omega
theorem uf (l:List UInt8) (h:kM l=true):∀(j:Nat) (b:UInt8),l[j]?=some b→b.toNat<128:=by
 intro j b hb
 rcases mj 47 b l (List.mem_of_getElem? hb) with rfl|⟨p,hp,hbp⟩
 ·decide
 ·have h1:=List.all_eq_true.1 h p hp
  unfold iY at h1
  simp only[Bool.and_eq_true] at h1
  exact Ct b (List.all_eq_true.1 h1.2 b hbp)
theorem Eb (s:ByteArray) (m:Int) (w:World) (hs:s.size≤60) (hm:w.cell? ⟨0,0,none⟩=some (.int .i64 m)):
 Calls Tryz.prog 80 #[.string s] w fun e w'=>e= .returned (.tuple #[.string (eG s).1, .bool (eG s).2])∧Below w.heap.size w w':=by
 have hcl:=Lib.countB_le xz (by decide) s.size s (Nat.le_refl _)
 go_enter Tryz.func80,Tryz.ntmps80
 go_wp2_with fail
 refine(Tryz.strings_Split s xz m w (by omega) hm (by decide)).mono ?_
 rintro e w1 ⟨rfl,hw1⟩
 have hb1:Below w.heap.size w w1:=by rw[hw1];exact(Below.refl _ _).alloc (Nat.le_refl _) _
 have hk1:Hid (aI w1 w.heap.size 9 ((fN 47 s).map Value.string).toArray):=by rw[hw1];exact aI.new _ _ _
 clear hw1 hm
 have hpl:(fN 47 s).length=Lib.countB s xz+1:=rk 47 s
 have Hpl:=Lib.hid hpl;clear hpl
 go_wp2_with fail
 generalize hn:Lib.countB s xz=n at*
 clear hn
 go_loop [13] (fun i=>∃k:Nat,i= .int .i64 k∧k≤n+1∧Hid (((fN 47 s).take k).all mo=true)) (fun i=>n+1 - (intOf i).toNat)
 case atStart=>exact⟨0,rfl,by omega,rfl⟩
 case round=>
  obtain⟨k,rfl,hk,hall⟩:=hrel
  by_cases hlt:k<n+1
  ·obtain⟨q,hq⟩:∃q,(fN 47 s)[k]?=some q:=⟨(fN 47 s)[k]'(by rw[Hpl.out];exact hlt),List.getElem?_eq_getElem (by rw[Hpl.out];exact hlt)⟩
   have hc:=hk1.out.cell k
   rw[show(((fN 47 s).map Value.string).toArray)[k]?=some (.string q) from by simp[hq]] at hc
   have Hq:=Lib.hid hq;clear hq
   have hqs:q.size≤60:=by have:=vE 47 s q (List.mem_of_getElem? Hq.out);omega
   rcases Bool.eq_false_or_eq_true q.toList.isEmpty with he|he
   ·have hv:=tZ s q hs k Hq.out (by unfold mo iY;rw[←ByteArray.toList_eq];simp[List.isEmpty_iff.1 he])
    have Hv:=Lib.hid hv;clear hv
    go_wp2
    go_ret2
    exact⟨by rw[Hv.out];rfl,hb1⟩
   ·go_wp2
    go_loop [21] (fun i=>∃j:Nat,i= .int .i64 j∧j≤q.size∧Hid ((q.data.toList.take j).all jY=true)) (fun i=>q.size - (intOf i).toNat)
    case atStart=>exact⟨0,rfl,by omega,rfl⟩
    case round=>
     obtain⟨j,rfl,hj,hpl⟩:=hrel
     by_cases hjl:j<q.size
     ·rcases Bool.eq_false_or_eq_true (ol (q[j].toNat:Int)) with hp|hp
      ·go_wp2_with (go_at_call 111;refine(tf _ (by omega) (by have:=q[j].toNat_lt;omega) _).mono ?_;rintro e w' ⟨rfl,rfl⟩;rw[hp])
       go_round
       case rel=>
        refine⟨j+1,by go_num,by omega, ?_⟩
        have h1:=hpl.out
        show(q.data.toList.take (j+1)).all jY=true
        rw[tw q j hjl];simp only[List.all_append,h1,Bool.true_and,List.all_cons,List.all_nil,Bool.and_true];exact hp
       case measure=>simp[intOf]<;>omega
      ·have hv:=tZ s q hs k Hq.out (zt q j hjl hp)
       have Hv:=Lib.hid hv;clear hv
       go_wp2_with (go_at_call 111;refine(tf _ (by omega) (by have:=q[j].toNat_lt;omega) _).mono ?_;rintro e w' ⟨rfl,rfl⟩;rw[hp])
       go_ret2
       exact⟨by rw[Hv.out];rfl,hb1⟩
     ·obtain rfl:j=q.size:=by omega
      go_wp2
      go_round
      case rel=>
       refine⟨k+1,by go_num,by omega,uH _ _ _ _ Hq.out hall.out ?_⟩
       have h1:=hpl.out
       rw[ya q _ rfl] at h1
       unfold mo iY
       rw[h1,←ByteArray.toList_eq]
       cases hq:q.toList with
       |nil=>rw[hq] at he;cases he
       |cons a b=>rfl
      case measure=>simp[intOf]<;>omega
  ·have hall':kM s.data.toList=true:=by
    have:=hall.out
    rw[List.take_of_length_le (by rw[Hpl.out];omega),xP] at this
    exact this
   have hasc:=uf _ hall'
   have hv:=zm s hs hall'
   have Hv:=Lib.hid hv;clear hv hall'
   have Ha:=Lib.hid hasc;clear hasc
   rcases Bool.eq_false_or_eq_true (Lib.toUpperA s.data.toList==[73,78,66,79,88]) with he|he
   ·have Hw:Hid (eG s=(u7,true)):=by rw[Hv.out,if_pos he];rfl
    clear Hv
    go_wp2_with fail
    refine(Tryz.strings_ToUpper_ascii s w1 (by omega) Ha.out).mono ?_
    rintro e w2 ⟨rfl,hb2⟩
    go_wp2
    go_ret2
    exact⟨by rw[Hw.out];rfl,hb1.trans (hb2.mono hb1.size)⟩
   ·have Hw:Hid (eG s=(s,true)):=by rw[Hv.out,if_neg (by rw[he];decide)];rfl
    clear Hv
    go_wp2_with fail
    refine(Tryz.strings_ToUpper_ascii s w1 (by omega) Ha.out).mono ?_
    rintro e w2 ⟨rfl,hb2⟩
    go_wp2
    go_ret2
    exact⟨by rw[Hw.out];rfl,hb1.trans (hb2.mono hb1.size)⟩
theorem Ce (s:ByteArray) (w:World) (hs:60<s.size) (hl:s.size≤9223372036854775807):
 Calls Tryz.prog 80 #[.string s] w fun e w'=>e= .returned (.tuple #[.string (eG s).1, .bool (eG s).2])∧Below w.heap.size w w':=by
 have Hv:Hid (eG s=(⟨#[]⟩,false)):=by show eG s=_;unfold eG;rw[if_pos hs]
 go_enter Tryz.func80,Tryz.ntmps80
 go_wp2
 go_ret2
 exact⟨by rw[Hv.out];rfl,Below.refl _ _⟩
theorem rF (s:ByteArray) (m:Int) (w:World) (hl:s.size≤9223372036854775807) (hm:w.cell? ⟨0,0,none⟩=some (.int .i64 m)):
 Calls Tryz.prog 80 #[.string s] w fun e w'=>e= .returned (.tuple #[.string (eG s).1, .bool (eG s).2])∧Below w.heap.size w w':=by
 by_cases hs:s.size≤60
 ·exact Eb s m w hs hm
 ·exact Ce s w (by omega) hl
def Hl (c:Int):Int:=if 65≤c∧c≤90 then c+32 else c
def fJ (c:UInt8):Int:=Hl (c.toNat:Int)
def yu (a b:List UInt8):Bool:=a.map fJ==b.map fJ
def el :Bool→List UInt8→Bool
 |st,[]=> !st
 |st,c::l=>if c=47 then !st&&el true l else jY c&&el false l
def xa (s:ByteArray):ByteArray×Bool:=
 if el true s.data.toList&&decide (s.size≤60) then(if yu s.data.toList [105,110,98,111,120]=true then(u7,true) else(s,true)) else(⟨#[]⟩,false)
theorem rd (st:Bool) (c:UInt8) (l:List UInt8) (h:c=47):el st (c::l)=(!st&&el true l):=by rw[el,if_pos h]
theorem rc (st:Bool) (c:UInt8) (l:List UInt8) (h:c≠47):el st (c::l)=(jY c&&el false l):=by rw[el,if_neg h]
end Go.Proofs.YtclcfkaphlopeaaGreatDoor
namespace Go.Proofs.YtclcfkaphlopeaaGreatDoor
theorem B7 :∀l:List UInt8,el true l=kM l∧el false l=(match eP 47 l with|[]=>true|p::ps=>p.all jY&&ps.all iY)
 |[]=>by constructor<;>rfl
 |c::l=>by
  obtain⟨ih1,ih2⟩:=B7 l
  unfold kM at ih1 ⊢
  by_cases h:c=47
  ·subst h
   rw[rd _ _ _ rfl,rd _ _ _ rfl]
   have e:eP 47 (47::l)=[]::eP 47 l:=by rw[eP];simp
   rw[e]
   exact⟨rfl,by simp[ih1]⟩
  ·rw[rc _ _ _ h,rc _ _ _ h,ih2]
   have e:eP 47 (c::l)=(match eP 47 l with|[]=>[[c]]|p::ps=>(c::p)::ps):=by rw[eP,if_neg h];try (cases eP 47 l<;>rfl)
   rw[e]
   cases eP 47 l with
   |nil=>simp[iY]
   |cons p ps=>simp[iY,Bool.and_assoc]
theorem Dn (P:UInt8→Bool) (h:(List.range 256).all (fun n=>P (UInt8.ofNat n))=true) (c:UInt8):P c=true:=by
 have:=List.all_eq_true.1 h c.toNat (by simp;exact c.toNat_lt)
 simpa using this
theorem iH (c:UInt8):(((Lib.upperB c==73)==(fJ c==105))&&((Lib.upperB c==78)==(fJ c==110))&&((Lib.upperB c==66)==(fJ c==98))&&((Lib.upperB c==79)==(fJ c==111))&&((Lib.upperB c==88)==(fJ c==120)))=true:=
 Dn (fun c=>((Lib.upperB c==73)==(fJ c==105))&&((Lib.upperB c==78)==(fJ c==110))&&((Lib.upperB c==66)==(fJ c==98))&&((Lib.upperB c==79)==(fJ c==111))&&((Lib.upperB c==88)==(fJ c==120))) (by decide+kernel) c
theorem zW (l:List UInt8):(Lib.toUpperA l==[73,78,66,79,88])=yu l [105,110,98,111,120]:=by
 unfold Lib.toUpperA yu
 match l with
 |[]=>rfl
 |[a]=>simp
 |[a,b]=>simp
 |[a,b,c]=>simp
 |[a,b,c,d]=>simp
 |a::b::c::d::e::f::l=>simp
 |[a,b,c,d,e]=>
  have ha:=iH a
  have hb:=iH b
  have hc:=iH c
  have hd:=iH d
  have he:=iH e
  simp only[Bool.and_eq_true,beq_iff_eq] at ha hb hc hd he
  have k1:fJ 105=105:=by decide
  have k2:fJ 110=110:=by decide
  have k3:fJ 98=98:=by decide
  have k4:fJ 111=111:=by decide
  have k5:fJ 120=120:=by decide
  simp only[List.map_cons,List.map_nil,k1,k2,k3,k4,k5,List.cons_beq_cons]
  rw[ha.1.1.1.1,hb.1.1.1.2,hc.1.1.2,hd.1.2,he.2]
  rfl
theorem IB (s:ByteArray):eG s=xa s:=by
 unfold eG xa
 rw[(B7 _).1,zW]
 by_cases h:60<s.size
 ·rw[if_pos h,show decide (s.size≤60)=false from by simp;omega];simp
 ·rw[if_neg h,show decide (s.size≤60)=true from by simp;omega];simp
theorem zn (s:ByteArray):(eG s).1.size≤60:=by
 unfold eG
 split
 ·decide
 ·split
  ·split
   ·decide
   ·simp;omega
  ·decide
end Go.Proofs.YtclcfkaphlopeaaGreatDoor
namespace Go.Proofs.YtclcfkaphlopeaaGreatDoor
open Go.RowKit
def ba (s:ByteArray):Bool:=(eG s).2&&((eG s).1.toList==s.toList)
theorem fk {s:ByteArray} (h:ba s=true):s.size≤60:=by
 unfold ba at h
 simp only[Bool.and_eq_true,beq_iff_eq] at h
 have h2:=h.2
 rw[ByteArray.toList_eq,ByteArray.toList_eq] at h2
 have h3:=zn s
 have:(eG s).1.size=s.size:=by
  have:=congrArg List.length h2
  simpa using this
 omega
def cX (w:World):Prop:=∃m,w.cell? ⟨0,0,none⟩=some (.int .i64 m)
theorem cX.below {w w':World} {B:Nat} (h:cX w) (hg:0<B) (hb:Below B w w'):cX w':=by
 obtain⟨m,hm⟩:=h
 exact⟨m,(hb.cell hg).trans hm⟩
structure aU where
 uid:Nat
 date:Int
 flags:Int
 a:Option Addr
 c:Nat
 b:List UInt8
def C9 (m:aU):List Value:=[.int .u32 (m.uid:Nat), .int .i64 m.date, .int .i64 m.flags, .slice m.a m.b.length m.c]
theorem ws (m:aU):(C9 m).length=4:=rfl
structure yr (w:World) (A:Option Addr) (n:Nat) (l:List aU):Prop where
 len:l.length=n
 row:aE w w.heap.size 4 A n (l.flatMap C9)
 octs:∀m∈l,aE w w.heap.size 1 m.a m.b.length (ar m.b)
 uids:∀m∈l,m.uid<4294967296
 caps:∀m∈l,m.b.length≤m.c∧m.c≤9223372036854775807
theorem yr.below {w w':World} {A:Option Addr} {n:Nat} {l:List aU} (h:yr w A n l) (hb:Below w.heap.size w w'):yr w' A n l:=
 ⟨h.len,(h.row.below hb).more hb.size,fun m hm=>((h.octs m hm).below hb).more hb.size,h.uids,h.caps⟩
theorem yr.at_ {w:World} {A:Option Addr} {n i:Nat} {l:List aU} {m:aU} (h:yr w A n l) (hm:l[i]?=some m):∃ad,A=some ad∧(ad.add (i*4)).block<w.heap.size∧
 w.cell? (ad.add (i*4))=some (.int .u32 (m.uid:Nat))∧w.cell? ⟨(ad.add (i*4)).block,(ad.add (i*4)).off+1,none⟩=some (.int .i64 m.date)∧w.cell? ⟨(ad.add (i*4)).block,(ad.add (i*4)).off+2,none⟩=some (.int .i64 m.flags)∧w.cell? ⟨(ad.add (i*4)).block,(ad.add (i*4)).off+3,none⟩=some (.slice m.a m.b.length m.c):=by
 have hlt:=(List.getElem?_eq_some_iff.1 hm).1
 have:=h.len
 obtain⟨ad,e,hb,h0,hj⟩:=oL ws h.row (by omega) hm
 exact⟨ad,e,by rw[aD];exact hb,h0 _ rfl,hj 1 _ (by omega) rfl,hj 2 _ (by omega) rfl,hj 3 _ (by omega) rfl⟩
def mI (nm:ByteArray) (e nx:Nat) (A:Option Addr) (n c:Nat):Array Value:=#[.string nm, .int .u32 (e:Nat), .int .u32 (nx:Nat), .slice A n c]
end Go.Proofs.YtclcfkaphlopeaaGreatDoor
namespace Go.Proofs.YtclcfkaphlopeaaGreatDoor
def cS (y:Nat):Nat:=365*y+y/4 - y/100
def cF (o:Nat):Nat:=o - o/1460+o/36524 - o/146096
theorem BC (a b:Nat) (h:a≤b) (hb:b≤146095):cF a≤cF b:=by
 unfold cF
 have e1:a/146096=0:=Nat.div_eq_of_lt (by omega)
 have e2:b/146096=0:=Nat.div_eq_of_lt (by omega)
 have h2:a/36524≤b/36524:=Nat.div_le_div_right h
 have h3:a - a/1460≤b - b/1460:=by omega
 omega
theorem Do :((List.range 400).all fun y=>cF (cS y)/365==y&&cF (cS (y+1) - 1)/365==y&&decide (cS y<cS (y+1)))=true:=by decide+kernel
theorem BD (o:Nat):∀n,o<cS n→∃y,y<n∧cS y≤o∧o<cS (y+1)
 |0,h=>by simp[cS] at h
 |n+1,h=>by
  by_cases hn:o<cS n
  ·obtain⟨y,h1,h2,h3⟩:=BD o n hn
   exact⟨y,by omega,h2,h3⟩
  ·exact⟨n,by omega,by omega,h⟩
theorem Fc (a:Nat):cS a≤cS (a+1):=by unfold cS;omega
theorem Fb (a b:Nat) (h:a≤b):cS a≤cS b:=by
 obtain⟨k,rfl⟩:∃k,b=a+k:=⟨b - a,by omega⟩
 clear h
 induction k with
 |zero=>exact Nat.le_refl _
 |succ k ih=>exact Nat.le_trans ih (Fc _)
theorem Hs (o y:Nat) (hy:y<400) (h1:cS y≤o) (h2:o<cS (y+1)):cF o/365=y:=by
 have ht:=List.all_eq_true.1 Do y (by simpa using hy)
 simp only[Bool.and_eq_true,beq_iff_eq,decide_eq_true_eq] at ht
 have hm:cS (y+1)≤cS 400:=Fb _ _ (by omega)
 have h400:cS 400=146096:=by decide
 have a1:=BC (cS y) o h1 (by omega)
 have a2:=BC o (cS (y+1) - 1) (by omega) (by omega)
 omega
theorem F1 (o:Nat) (h:o<146097):cF o/365≤399∧cS (cF o/365)≤o∧(o<cS (cF o/365+1)∨(cF o/365=399∧o=146096)):=by
 by_cases h1:o=146096
 ·subst h1;decide
 ·have h400:cS 400=146096:=by decide
  obtain⟨y,hy,a1,a2⟩:=BD o 400 (by omega)
  rw[Hs o y hy a1 a2]
  exact⟨by omega,a1, .inl a2⟩
def tQ (y:Int):Bool:=(y%4==0)&&((y%100 !=0)||(y%400==0))
def Du (y m:Int):Int:=if m=2 then(if tQ y then 29 else 28) else if m=4∨m=6∨m=9∨m=11 then 30 else 31
theorem zb :((List.range 400).all fun y=>decide (cS (y+1)≤cS y+365)||tQ ((y:Int)+1))=true:=by decide+kernel
theorem E2 :((List.range 366).all fun d=>decide ((5*d+2)/153≤11)&&decide ((153*((5*d+2)/153)+2)/5≤d)&&
 decide (d+1 - (153*((5*d+2)/153)+2)/5≤(if(5*d+2)/153=11 then 29 else if(5*d+2)/153=1∨(5*d+2)/153=3∨(5*d+2)/153=6∨(5*d+2)/153=8 then 30 else 31))&&
 decide ((5*d+2)/153=11→d+1 - (153*((5*d+2)/153)+2)/5=29→d=365))=true:=by decide+kernel
def AU (y m d:Int):Int:=
 let y':=if m≤2 then y - 1 else y
 let m':=if m≤2 then m+12 else m
 365*y'+y'/4 - y'/100+y'/400+(153*(m' - 3)+2)/5+d - 1 - 719468
def G7 (y m d:Int):Prop:=1≤m∧m≤12∧1≤d∧d≤Du y m
theorem CB (e q:Int) (h0:0≤q) (h1:q≤399):365*(q+e*400)+(q+e*400)/4 - (q+e*400)/100+(q+e*400)/400=146097*e+(365*q+q/4 - q/100):=by omega
def sE (n:Int):Int:=(n+719468)/146097
def DV (n:Int):Int:=n+719468 - sE n*146097
def sF (n:Int):Int:=(DV n - DV n/1460+DV n/36524 - DV n/146096)/365
def uP (n:Int):Int:=DV n - (365*sF n+sF n/4 - sF n/100)
def Bo (n:Int):Int:=(5*uP n+2)/153
def mK (n:Int):Int:=if Bo n<10 then sF n+sE n*400 else sF n+sE n*400+1
def oV (n:Int):Int:=if Bo n<10 then Bo n+3 else Bo n - 9
def pw (n:Int):Int:=uP n - (153*Bo n+2)/5+1
theorem Fa (n:Int):∃o:Nat,DV n=o∧o<146097:=by
 refine⟨(DV n).toNat, ?_, ?_⟩<;>unfold DV sE<;>omega
theorem Dp (n:Int) (o:Nat) (ho:DV n=o) (h:o<146097):sF n=((cF o/365:Nat):Int):=by
 unfold sF cF
 rw[ho]
 have h1:o/1460≤o:=Nat.div_le_self _ _
 have h2:o/146096≤o - o/1460+o/36524:=by omega
 omega
theorem qU (n:Int):∃y d:Nat,sF n=y∧uP n=d∧y≤399∧d≤365∧(d=365→tQ ((y:Int)+1)=true)∧DV n=(cS y:Int)+d:=by
 obtain⟨o,ho,hlt⟩:=Fa n
 have hy:=Dp n o ho hlt
 obtain⟨h1,h2,h3⟩:=F1 o hlt
 generalize cF o/365=y at*
 have hd:uP n=((o - cS y:Nat):Int):=by
  unfold uP
  rw[ho,hy]
  unfold cS at h2 ⊢
  omega
 refine⟨y,o - cS y,hy,hd,h1, ?_, ?_,by rw[ho];omega⟩
 ·rcases h3 with h3|⟨rfl,rfl⟩
  ·unfold cS at*;omega
  ·decide
 ·intro h365
  rcases h3 with h3|⟨rfl,rfl⟩
  ·have ht:=List.all_eq_true.1 zb y (by simp;omega)
   rw[Bool.or_eq_true,decide_eq_true_eq] at ht
   rcases ht with ht|ht
   ·omega
   ·exact ht
  ·decide
theorem BB (n:Int):0≤uP n∧uP n≤365:=by
 obtain⟨y,d,_,hd,_,h,_⟩:=qU n
 omega
theorem Gt (n:Int):0≤Bo n∧Bo n≤11:=by
 have:=BB n
 unfold Bo;omega
theorem ER (y e:Int):tQ (y+e*400)=tQ y:=by
 unfold tQ
 have h1:(y+e*400)%4=y%4:=by omega
 have h2:(y+e*400)%100=y%100:=by omega
 have h3:(y+e*400)%400=y%400:=by omega
 rw[h1,h2,h3]
theorem Br (n:Int):G7 (mK n) (oV n) (pw n):=by
 obtain⟨y,d,hy,hd,hy1,hd1,hl,_⟩:=qU n
 have ht:=List.all_eq_true.1 E2 d (by simp;omega)
 simp only[Bool.and_eq_true,decide_eq_true_eq] at ht
 obtain⟨⟨⟨t1,t2⟩,t3⟩,t4⟩:=ht
 have hm:Bo n=(((5*d+2)/153:Nat):Int):=by unfold Bo;rw[hd];omega
 have hD:pw n=((d+1 - (153*((5*d+2)/153)+2)/5:Nat):Int):=by unfold pw;rw[hd,hm];omega
 have hle:=ER ((y:Int)+1) (sE n)
 generalize (5*d+2)/153=m at*
 generalize hq:d+1 - (153*m+2)/5=q at*
 unfold G7 mK oV
 rw[hm,hD,hy]
 have hq1:1≤q:=by omega
 unfold Du
 by_cases c1:(m:Int)<10
 ·rw[if_pos c1,if_pos c1,if_neg (by omega)]
  refine⟨by omega,by omega,by omega, ?_⟩
  rw[if_neg (by omega)] at t3
  split at t3<;>split<;>omega
 ·rw[if_neg c1,if_neg c1]
  refine⟨by omega,by omega,by omega, ?_⟩
  by_cases c2:m=11
  ·subst c2
   rw[if_pos rfl] at t3
   rw[if_pos (by omega)]
   by_cases c3:q=29
   ·have:=hl (t4 rfl c3)
    rw[show(y:Int)+sE n*400+1=(y:Int)+1+sE n*400 from by omega,hle,this]
    simp;omega
   ·split<;>omega
  ·rw[if_neg c2] at t3
   rw[if_neg (by omega)]
   split at t3<;>split<;>omega
theorem DI (n:Int):AU (mK n) (oV n) (pw n)=n:=by
 obtain⟨y,d,hy,hd,hy1,hd1,_,ho⟩:=qU n
 have hb:=Gt n
 have he:=CB (sE n) (y:Int) (by omega) (by omega)
 have hS:(cS y:Int)=365*(y:Int)+(y:Int)/4 - (y:Int)/100:=by unfold cS;omega
 unfold DV at ho
 unfold AU mK oV pw
 rw[hd,hy]
 generalize Bo n=m at*
 generalize sE n=e at*
 by_cases c1:m<10
 ·simp only[c1,if_true]
  rw[if_neg (by omega),if_neg (by omega),show m+3 - 3=m from by omega]
  omega
 ·simp only[c1,if_false]
  rw[if_pos (by omega),if_pos (by omega),show m - 9+12 - 3=m from by omega,show(y:Int)+e*400+1 - 1=(y:Int)+e*400 from by omega]
  omega
end Go.Proofs.YtclcfkaphlopeaaGreatDoor
namespace Go.Proofs.YtclcfkaphlopeaaGreatDoor
open Go.RowKit
theorem xm {y y' m m' d d':Int} (h1:y=y') (h2:m=m') (h3:d=d'):Ending.returned (.tuple #[.int .i64 y, .int .i64 m, .int .i64 d])= .returned (.tuple #[.int .i64 y', .int .i64 m', .int .i64 d']):=by rw[h1,h2,h3]
theorem Bs (n:Int) (h0: -719468≤n) (h1:n≤4000000) (w:World):
 Calls Tryz.prog 131 #[.int .i64 n] w fun e w'=>e= .returned (.tuple #[.int .i64 (mK n), .int .i64 (oV n), .int .i64 (pw n)])∧w'=w:=by
 go_enter Tryz.func131,Tryz.ntmps131
 go_upto_region 3 with(fail)
 have bE:0≤(n+719468)/146097∧(n+719468)/146097≤40:=by omega
 have bO:0≤n+719468 - (n+719468)/146097*146097∧n+719468 - (n+719468)/146097*146097<146097:=by omega
 have eE:Hid (sE n=(n+719468)/146097):=rfl
 have eO:Hid (DV n=n+719468 - (n+719468)/146097*146097):=rfl
 generalize (n+719468)/146097=E at*
 go_upto_region 4 with(fail)
 generalize n+719468 - E*146097=O at*
 have bY:0≤(O - O/1460+O/36524 - O/146096)/365∧(O - O/1460+O/36524 - O/146096)/365≤400:=by omega
 have eY:Hid (sF n=(O - O/1460+O/36524 - O/146096)/365):=by show _=_;unfold sF;rw[eO.out]
 go_upto_region 5 with(fail)
 generalize (O - O/1460+O/36524 - O/146096)/365=Y at*
 have eD:Hid (uP n=O - (365*Y+Y/4 - Y/100)):=by show _=_;unfold uP;rw[eO.out,eY.out]
 have bD:0≤O - (365*Y+Y/4 - Y/100)∧O - (365*Y+Y/4 - Y/100)≤365:=by have:=BB n;rw[eD.out] at this;exact this
 go_upto_region 6 with(fail)
 generalize O - (365*Y+Y/4 - Y/100)=D at*
 have bM:0≤(5*D+2)/153∧(5*D+2)/153≤11:=by omega
 have eM:Hid (Bo n=(5*D+2)/153):=by show _=_;unfold Bo;rw[eD.out]
 go_upto_region 7 with(fail)
 generalize (5*D+2)/153=M at*
 have hY:Hid (mK n=if M<10 then Y+E*400 else Y+E*400+1):=by show _=_;unfold mK;rw[eM.out,eY.out,eE.out]
 have hM:Hid (oV n=if M<10 then M+3 else M - 9):=by show _=_;unfold oV;rw[eM.out]
 have hD:Hid (pw n=D - (153*M+2)/5+1):=by show _=_;unfold pw;rw[eM.out,eD.out]
 by_cases hlt:M<10
 ·go_wp2
  go_ret3
  exact⟨xm (by rw[hY.out,if_pos hlt]) (by rw[hM.out,if_pos hlt]) (by rw[hD.out]),rfl⟩
 ·go_wp2
  go_ret3
  exact⟨xm (by rw[hY.out,if_neg (by omega)]) (by rw[hM.out,if_neg (by omega)]) (by rw[hD.out]),rfl⟩
def oZ (v:Nat):Nat→List UInt8
 |0=>[]
 |n+1=>UInt8.ofNat (48+v/10^n%10)::oZ v n
theorem bz (v:Nat):∀n,(oZ v n).length=n
 |0=>rfl
 |n+1=>by simp[oZ,bz v n]
theorem By (v:Nat) (h:v≤99):Lib.itoa ((100:Int)+v)=49::oZ v 2:=by
 have e:((100:Int)+v)=((100+v:Nat):Int):=by omega
 rw[e]
 unfold Lib.itoa
 rw[if_neg (by omega),Int.toNat_natCast]
 unfold Lib.decDigits
 rw[dif_neg (by omega)]
 unfold Lib.decDigits
 rw[dif_neg (by omega)]
 unfold Lib.decDigits
 rw[dif_pos (by omega),show(100+v)/10/10=1 from by omega,show(100+v)/10%10=v/10%10 from by omega,show(100+v)%10=v%10 from by omega]
 simp[oZ]
theorem Dt (v:Nat) (h:v≤9999):Lib.itoa ((10000:Int)+v)=49::oZ v 4:=by
 have e:((10000:Int)+v)=((10000+v:Nat):Int):=by omega
 rw[e]
 unfold Lib.itoa
 rw[if_neg (by omega),Int.toNat_natCast]
 unfold Lib.decDigits
 rw[dif_neg (by omega)]
 unfold Lib.decDigits
 rw[dif_neg (by omega)]
 unfold Lib.decDigits
 rw[dif_neg (by omega)]
 unfold Lib.decDigits
 rw[dif_neg (by omega)]
 unfold Lib.decDigits
 rw[dif_pos (by omega),show(10000+v)/10/10/10/10=1 from by omega,show(10000+v)/10/10/10%10=v/1000%10 from by omega,show(10000+v)/10/10%10=v/100%10 from by omega,show(10000+v)/10%10=v/10%10 from by omega,show(10000+v)%10=v%10 from by omega]
 simp[oZ]
theorem below_grow (w:World) (k:Nat) (os:Array Obj):Below w.heap.size w (Sort.grow (w.drewN k) os):=
 ⟨rfl,rfl,rfl,by simp[Sort.grow],fun i hi=>by simp[Sort.grow,Array.getElem?_append,hi]⟩
theorem CJ (v:Nat) (hv:v≤99) (w:World) (htab:Lib.TabIs Tryz.prog w "internal/strconv.uint64pow10" .u64 Lib.pow10Tab):
 Calls Tryz.prog 134 #[.int .i64 (100+(v:Int)), .int .i64 10] w fun e w'=>e= .returned (.string ⟨(49::oZ v 2).toArray⟩)∧Below w.heap.size w w':=by
 have hc:=Tryz.strconv_FormatInt_10 (100+(v:Int)) (by omega) (by omega) w htab
 rw[By v hv] at hc
 exact hc.mono fun e w' ⟨he,k,os,hw⟩=>⟨he,by rw[hw];exact below_grow w k os⟩
theorem EC (v:Nat) (hv:v≤9999) (w:World) (htab:Lib.TabIs Tryz.prog w "internal/strconv.uint64pow10" .u64 Lib.pow10Tab):
 Calls Tryz.prog 134 #[.int .i64 (10000+(v:Int)), .int .i64 10] w fun e w'=>e= .returned (.string ⟨(49::oZ v 4).toArray⟩)∧Below w.heap.size w w':=by
 have hc:=Tryz.strconv_FormatInt_10 (10000+(v:Int)) (by omega) (by omega) w htab
 rw[Dt v hv] at hc
 exact hc.mono fun e w' ⟨he,k,os,hw⟩=>⟨he,by rw[hw];exact below_grow w k os⟩
theorem Fe (y m:Int):28≤Du y m∧Du y m≤31:=by
 unfold Du
 split
 ·split<;>omega
 ·split<;>omega
theorem Gu (n:Int) (h0:0≤n) (h1:n≤2932896):1970≤mK n∧mK n≤9999∧1≤oV n∧oV n≤12∧1≤pw n∧pw n≤31:=by
 have hs:=DI n
 have hv:=Br n
 obtain⟨v1,v2,v3,v4⟩:=hv
 have hd:=(Fe (mK n) (oV n)).2
 generalize mK n=y at*
 generalize oV n=m at*
 generalize pw n=d at*
 unfold AU at hs
 dsimp only at hs
 have a0:1969≤y:=by split at hs<;>omega
 have a1:1970≤y:=by
  by_cases e:y=1969
  ·subst e;split at hs<;>omega
  ·omega
 have a2:y≤10000:=by split at hs<;>omega
 have a3:y≤9999:=by
  by_cases e:y=10000
  ·subst e;split at hs<;>omega
  ·omega
 omega
theorem vV (s:ByteArray) (l:List UInt8):(s++⟨l.toArray⟩).size=s.size+l.length:=by
 rw[ByteArray.size_append]
 show s.size+l.toArray.size=_
 rw[List.size_toArray]
theorem Gr (s:ByteArray) (c:UInt8) (l:List UInt8):(s++⟨(c::l).toArray⟩).toList.isEmpty=false:=by
 rw[ByteArray.toList_eq,ByteArray.data_append]
 simp
theorem EA (y:Int) (h0:0≤y) (h1:y≤9999) (w:World) (htab:Lib.TabIs Tryz.prog w "internal/strconv.uint64pow10" .u64 Lib.pow10Tab):
 Calls Tryz.prog 134 #[.int .i64 (10000+y), .int .i64 10] w fun e w'=>e= .returned (.string ⟨(49::oZ y.toNat 4).toArray⟩)∧Below w.heap.size w w':=by
 obtain⟨n,rfl⟩:∃n:Nat,y=n:=⟨y.toNat,by omega⟩
 exact EC n (by omega) w htab
theorem zj (m:Int) (h1:1≤m) (h2:m≤12) (w:World):
 Calls Tryz.prog 133 #[.int .i64 m] w fun e w'=>∃s:ByteArray,e= .returned (.string s)∧s.size≤36∧Below w.heap.size w w':=by
 have q1:IntKind.i64.wrap (m - 1)=m - 1:=IntWalk.i64_in _ (by omega)
 have q2:IntKind.i64.wrap (3*(m - 1))=3*(m - 1):=IntWalk.i64_in _ (by omega)
 have q3:IntKind.i64.wrap (3*m)=3*m:=IntWalk.i64_in _ (by omega)
 refine aK 9 Tryz.func133 rfl rfl (Nat.le_of_ble_eq_true rfl) ?_
 intro a hA;replace hA:=hA.norm
 refine wS (wR ?_)
 revert a;refine wo rfl rfl (by decide) (fun ev e h=>by simp[go_sem,h,q1,q2,q3]<;>rfl) ?_;intro a hA
 replace hA:=hA.keepN [0]
 refine wN (nT (wS (wR ?_)))
 revert a;(iterate 5 refine wo rfl rfl (by decide) (fun ev e h=>by simp[go_sem,h,q1,q2,q3]<;>rfl) ?_);intro a hA
 refine a7 hA rfl rfl (by decide) (fun ev h=>by simp[go_sem,h.c,h.get 5 rfl,h.get 7 rfl,q1,q2,q3];(rw[if_pos (by omega),if_pos (by omega)];try first|exact⟨rfl,rfl⟩|rfl)) fun a hA=> ?_
 revert a;refine wo rfl rfl (by decide) (fun ev e h=>by simp[go_sem,h,q1,q2,q3]<;>rfl) ?_;intro a hA
 replace hA:=hA.keepN [2]
 refine wN (nT (wp_ret ?_))
 refine ab hA 2 rfl rfl ?_
 refine⟨_,rfl, ?_,Below.refl _ _⟩
 rw[ByteArray.size_extract]
 exact Nat.le_trans (Nat.sub_le _ _) (Nat.min_le_right _ _)
theorem oP (v:Int) (h0:0≤v) (h1:v≤99) (w:World) (htab:Lib.TabIs Tryz.prog w "internal/strconv.uint64pow10" .u64 Lib.pow10Tab):
 Calls Tryz.prog 132 #[.int .i64 v] w fun e w'=>∃s:ByteArray,e= .returned (.string s)∧1≤s.size∧s.size≤10∧Below w.heap.size w w':=by
 obtain⟨n,rfl⟩:∃n:Nat,v=n:=⟨v.toNat,by omega⟩
 have q1:IntKind.i64.wrap (100+(n:Int))=100+(n:Int):=IntWalk.i64_in _ (by omega)
 refine aK 7 Tryz.func132 rfl rfl (Nat.le_of_ble_eq_true rfl) ?_
 intro a hA;replace hA:=hA.norm
 refine wS (wR ?_)
 revert a;refine wo rfl rfl (by decide) (fun ev e h=>by simp[go_sem,h,q1]<;>rfl) ?_;intro a hA
 replace hA:=hA.keepN [0]
 refine wN (nT (wS (wR ?_)))
 revert a;(iterate 2 refine wo rfl rfl (by decide) (fun ev e h=>by simp[go_sem,h,q1]<;>rfl) ?_);intro a hA
 refine aC hA rfl rfl (by decide) (fun ev h=>aB Tryz.func134 (by kernel_rfl) rfl (h.f _) (by first|(simp only[mL,h.get 4 rfl,h.c]<;>rfl)|(simp[mL,h.get 4 rfl,h.c,q1]<;>rfl))) (CJ n (by omega) w htab) ?_
 rintro e w1 ⟨rfl,hb⟩
 refine⟨_,rfl,fun a hA=> ?_⟩
 revert a;(iterate 2 refine wo rfl rfl (by decide) (fun ev e h=>by simp[go_sem,h,q1]<;>rfl) ?_);intro a hA
 replace hA:=hA.keepN [2]
 refine wN (nT (wp_ret ?_))
 refine ab hA 2 rfl rfl ?_
 have h3:(⟨(49::oZ n 2).toArray⟩:ByteArray).size=3:=by show(49::oZ n 2).toArray.size=3;simp[bz]
 exact⟨_,rfl,by simp[bz,h3],by simp[bz,h3],hb⟩
def oY (t:Int):Bool:=decide (0≤t)&&decide (t≤253402300799)
theorem rP (t:Int) (w:World) (htab:Lib.TabIs Tryz.prog w "internal/strconv.uint64pow10" .u64 Lib.pow10Tab):
 Calls Tryz.prog 113 #[.int .i64 t] w fun e w'=>∃s:ByteArray,e= .returned (.string s)∧s.toList.isEmpty= !oY t∧Below w.heap.size w w':=by
 have Ht:=Lib.tabBelow_of_tabIs htab
 refine aK 58 Tryz.func113 rfl rfl (Nat.le_of_ble_eq_true rfl) ?_
 intro a hA;replace hA:=hA.norm
 refine wS (wR ?_)
 revert a;refine wo rfl rfl (by decide) (fun ev e h=>by simp[go_sem,h]<;>rfl) ?_;intro a hA
 replace hA:=hA.keepN [0]
 refine wN (nT (wS (wS (wR ?_))))
 revert a;(iterate 3 refine wo rfl rfl (by decide) (fun ev e h=>by simp[go_sem,h]<;>rfl) ?_);(iterate 2 refine wg _ rfl rfl rfl rfl (by decide) (fun hq ev e h=>by simp[go_sem,h,↓aL (aF hq)]<;>rfl) ?_);refine kj rfl rfl (by decide) rfl rfl rfl ?_;intro a hA
 replace hA:=hA.keepN [0,13]
 refine wN (nT ?_)
 refine aH hA 13 _ rfl (fun hq=> ?yA) (fun hq=> ?nA)
 case yA=>
  refine wS (wR ?_)
  revert a;refine wo rfl rfl (by decide) (fun ev e h=>by simp[go_sem,h]<;>rfl) ?_;intro a hA
  replace hA:=hA.keepN [2]
  refine wN (nT (wp_ret (rT ?_)))
  refine ab hA 2 rfl rfl ?_
  refine⟨_,rfl, ?_,Below.refl _ _⟩
  unfold oY
  simp at hq
  rw[Bool.eq_iff_iff]
  simp
  omega
 case nA=>
  obtain⟨h0,h1⟩:0≤t∧t≤253402300799:=by simp at hq;omega
  have q1:IntKind.i64.wrap (t.tdiv 86400)=t/86400:=IntWalk.i64_quo _ _ (by omega)
  have q2:t.tmod 86400=t%86400:=Int.tmod_eq_emod_of_nonneg h0
  obtain⟨y0,y1,m0,m1,d0,d1⟩:=Gu (t/86400) (by omega) (by omega)
  refine wp_skip (nT (wS (wR ?_)))
  revert a;(iterate 2 refine wo rfl rfl (by decide) (fun ev e h=>by simp[go_sem,h,q1,q2]<;>rfl) ?_);intro a hA
  refine aC hA rfl rfl (by decide) (fun ev h=>aB Tryz.func131 (by kernel_rfl) rfl (h.f _) (by first|(simp only[mL,h.get 16 rfl,h.c]<;>rfl)|(simp[mL,h.get 16 rfl,h.c,q1,q2]<;>rfl))) (Bs (t/86400) (by omega) (by omega) w) ?_
  rintro e w1 ⟨rfl,hw⟩
  refine⟨_,rfl,fun a hA=> ?_⟩
  obtain rfl:w=w1:=hw.symm
  revert a;(iterate 7 refine wo rfl rfl (by decide) (fun ev e h=>by simp[go_sem,h,q1,q2]<;>rfl) ?_);intro a hA
  replace hA:=hA.keepN [0,3,4,5]
  refine wN (nT (wS (wR ?_)))
  revert a;(iterate 3 refine wo rfl rfl (by decide) (fun ev e h=>by simp[go_sem,h,q1,q2]<;>rfl) ?_);intro a hA
  replace hA:=hA.keepN [3,4,5,6]
  refine wN (nT (wS (wR ?_)))
  revert a;refine wo rfl rfl (by decide) (fun ev e h=>by simp[go_sem,h,q1,q2]<;>rfl) ?_;intro a hA
  refine aC hA rfl rfl (by decide) (fun ev h=>aB Tryz.func132 (by kernel_rfl) rfl (h.f _) (by first|(simp only[mL,h.get 23 rfl,h.c]<;>rfl)|(simp[mL,h.get 23 rfl,h.c,q1,q2]<;>rfl))) (oP (pw (t/86400)) (by omega) (by omega) w htab) ?_
  rintro e w2 ⟨s,rfl,hs,hs2,hb⟩
  refine⟨_,rfl,fun a hA=> ?_⟩
  have hs3:(1:Int)≤(s.size:Int):=by omega
  have hs4:¬(9223372036854775807<1+(s.size - 1)):=by omega
  revert a;refine wo rfl rfl (by decide) (fun ev e h=>by simp[go_sem,h,q1,q2]<;>rfl) ?_;intro a hA
  replace hA:=hA.keepN [3,4,5,6,7]
  refine wN (nT (wS (wS (wR ?_))))
  revert a;(iterate 2 refine wo rfl rfl (by decide) (fun ev e h=>by simp[go_sem,h,q1,q2]<;>rfl) ?_);intro a hA
  replace hA:=hA.keepN [3,4,6,7,26]
  refine wN (nT ?_)
  refine cd (fun a wx=>∃s7:ByteArray,At 58 [(3, .int .i64 (mK (t/86400))),(4, .int .i64 (oV (t/86400))),(6, .int .i64 (t%86400)),(7, .string s7)] a∧s7.size≤20∧Below w.heap.size w wx) ?jfJ ?jrJ
  case jfJ=>
   refine aH hA 26 _ rfl (fun hd=> ?yD) (fun hd=> ?nD)
   case yD=>
    refine wR ?_
    revert a;(iterate 4 refine wo rfl rfl (by decide) (fun ev e h=>by simp[go_sem,h,hs3,hs4]<;>rfl) ?_);intro a hA
    replace hA:=hA.keepN [3,4,6,7]
    refine wN (nT ?_)
    exact⟨_,hA,by rw[ByteArray.size_append,ByteArray.size_extract];show(1:Nat)+_≤20;omega,hb⟩
   case nD=>
    replace hA:=hA.keepN [3,4,6,7]
    refine wp_skip (nT ?_)
    exact⟨_,hA,by omega,hb⟩
  rintro a wx ⟨s7,hA,hs7,hb⟩
  have q3:IntKind.i64.wrap (10000+mK (t/86400))=10000+mK (t/86400):=IntWalk.i64_in _ (by omega)
  have q4:IntKind.i64.wrap ((t%86400).tdiv 3600)=t%86400/3600:=IntWalk.i64_quo _ _ (by omega)
  have q5:(t%86400).tmod 3600=t%86400%3600:=Int.tmod_eq_emod_of_nonneg (by omega)
  have q6:IntKind.i64.wrap ((t%3600).tdiv 60)=t%3600/60:=IntWalk.i64_quo _ _ (by omega)
  have q7:(t%86400).tmod 60=t%86400%60:=Int.tmod_eq_emod_of_nonneg (by omega)
  refine wS ?_
  refine bi hA [(.det ?dA0),(.det (.string (s7++⟨#[45]⟩))),(.det ?dA2),(.used (fun v _=>∃s:ByteArray,v= .string s∧s.size≤36)),(.used (fun v _=>∃s:ByteArray,v= .string s∧s.size≤60)),(.used (fun v _=>∃s:ByteArray,v= .string s∧s.size≤61)),(.det ?dA6),(.det ?dA7),(.det (.string ⟨(49::oZ (mK (t/86400)).toNat 4).toArray⟩)),(.det ?dA9),(.used (fun v _=>∃s:ByteArray,v= .string s∧s.size≤70)),(.used (fun v _=>∃s:ByteArray,v= .string s∧s.size≤71)),(.det ?dA12),(.det ?dA13),(.used (fun v _=>∃s:ByteArray,v= .string s∧s.size≤10)),(.used (fun v _=>∃s:ByteArray,v= .string s∧s.size≤90)),(.used (fun v _=>∃s:ByteArray,v= .string s∧s.size≤91)),(.det ?dA17),(.det ?dA18),(.det ?dA19),(.used (fun v _=>∃s:ByteArray,v= .string s∧s.size≤10)),(.used (fun v _=>∃s:ByteArray,v= .string s∧s.size≤110)),(.used (fun v _=>∃s:ByteArray,v= .string s∧s.size≤111)),(.det ?dA23),(.det ?dA24),(.used (fun v _=>∃s:ByteArray,v= .string s∧s.size≤10)),(.used (fun v _=>∃s:ByteArray,v= .string s∧s.size≤130)),(.held (fun v _=>∃s:ByteArray,v= .string s∧s.toList.isEmpty=false)),(.held (fun v _=>∃s:ByteArray,v= .string s∧s.toList.isEmpty=false))] [] (fun wy=>Below w.heap.size w wy) (aG [] aA) (by kernel_rfl) rfl (by kernel_rfl) (by kernel_rfl) rfl (hb.drew) (bF [] [true,true,true,false,false,false,true,true,true,true,false,false,true,true,false,false,false,true,true,true,false,false,false,true,true,false,false,false,false] [true,true,true,false,false,false,true,true,true,true,false,false,true,true,false,false,false,true,true,true,false,false,false,true,true,false,false,true,true] [] rfl rfl rfl (by kernel_rfl) ⟨trivial,trivial,trivial,(fun _ _ _ _ hp _=>hp),(fun _ _ _ _ hp _=>hp),(fun _ _ _ _ hp _=>hp),trivial,trivial,trivial,trivial,(fun _ _ _ _ hp _=>hp),(fun _ _ _ _ hp _=>hp),trivial,trivial,(fun _ _ _ _ hp _=>hp),(fun _ _ _ _ hp _=>hp),(fun _ _ _ _ hp _=>hp),trivial,trivial,trivial,(fun _ _ _ _ hp _=>hp),(fun _ _ _ _ hp _=>hp),(fun _ _ _ _ hp _=>hp),trivial,trivial,(fun _ _ _ _ hp _=>hp),(fun _ _ _ _ hp _=>hp),(fun _ _ _ _ hp _=>hp),(fun _ _ _ _ hp _=>hp),trivial⟩ trivial) (fun _ h=>by cases h) (fun _ _ _ _ _ h=>by cases h) (fun _ h=>by cases h) ⟨?oA0, ?oA1, ?oA2, ?oA3, ?oA4, ?oA5, ?oA6, ?oA7, ?oA8, ?oA9, ?oA10, ?oA11, ?oA12, ?oA13, ?oA14, ?oA15, ?oA16, ?oA17, ?oA18, ?oA19, ?oA20, ?oA21, ?oA22, ?oA23, ?oA24, ?oA25, ?oA26, ?oA27, ?oA28,trivial⟩ (by kernel_rfl) ?fA
  case oA0=>intro ev wo hev hC hs hph;have x0:=se hA hs 7;exact od rfl rfl (by kernel_rfl) hC (aG.of rfl (aA.refl _)) (by simp[go_sem,x0]<;>rfl)
  case oA1=>
   intro ev wo hev hC hs hph
   have e30:=sd hs 30 0
   exact bf (aJ rfl) (bI (by simp[go_sem,e30,hev.const];omega) ⟨hC,aG.of rfl (aA.refl _),rfl,av (by kernel_rfl)⟩)
  case oA2=>intro ev wo hev hC hs hph;have x0:=se hA hs 4;exact od rfl rfl (by kernel_rfl) hC (aG.of rfl (aA.refl _)) (by simp[go_sem,x0]<;>rfl)
  case oA3=>
   intro ev wo hev hC hs hph
   have e32:=sd hs 32 2
   exact bf (aJ rfl) (dP (by simp[go_sem,e32,hev.func,hev.const];try first|exact⟨rfl,rfl⟩|rfl) (Calls.mono (zj (oV (t/86400)) m0 m1 wo) (by
    rintro ev2 w3 ⟨s,rfl,hz,hb3⟩
    exact⟨_,rfl,hC.trans (hb3.mono hC.size),aG.of rfl hb3,⟨s,rfl,hz⟩,av (by kernel_rfl)⟩)))
  case oA4=>
   intro ev wo hev hC hs hph
   have e31:=sd hs 31 1
   have u33:=su hs 33 3
   obtain⟨s33,f33,z33⟩:=u33
   exact bf (aJ rfl) (bI (by simp[go_sem,e31,f33,hev.const,bz];rw[if_neg (by omega)];try first|exact⟨rfl,rfl⟩|rfl) ⟨hC,aG.of rfl (aA.refl _),⟨_,rfl,by rw[ByteArray.size_append];rw[vV];simp;omega⟩,av (by kernel_rfl)⟩)
  case oA5=>
   intro ev wo hev hC hs hph
   have u34:=su hs 34 4
   obtain⟨s34,f34,z34⟩:=u34
   exact bf (aJ rfl) (bI (by simp[go_sem,f34,hev.const,bz];rw[if_neg (by omega)];try first|exact⟨rfl,rfl⟩|rfl) ⟨hC,aG.of rfl (aA.refl _),⟨_,rfl,by rw[vV];simp;omega⟩,av (by kernel_rfl)⟩)
  case oA6=>intro ev wo hev hC hs hph;have x0:=se hA hs 3;exact od rfl rfl (by kernel_rfl) hC (aG.of rfl (aA.refl _)) (by simp[go_sem,x0]<;>rfl)
  case oA7=>intro ev wo hev hC hs hph;have x0:=sd hs 36 6;exact od rfl rfl (by kernel_rfl) hC (aG.of rfl (aA.refl _)) (by simp[go_sem,x0,hev.const,q3]<;>rfl)
  case oA8=>
   intro ev wo hev hC hs hph
   have e37:=sd hs 37 7
   exact bf (aJ rfl) (dP (by simp[go_sem,e37,hev.func,hev.const];try first|exact⟨rfl,rfl⟩|rfl) (Calls.mono (EA (mK (t/86400)) (by omega) y1 wo (Ht wo hC)) (by
    rintro ev2 w3 ⟨rfl,hb3⟩
    exact⟨_,rfl,hC.trans (hb3.mono hC.size),aG.of rfl hb3,rfl,av (by kernel_rfl)⟩)))
  case oA9=>intro ev wo hev hC hs hph;have x0:=sd hs 38 8;exact od rfl rfl (by kernel_rfl) hC (aG.of rfl (aA.refl _)) (by simp[go_sem,x0,hev.const]<;>rfl)
  case oA10=>
   intro ev wo hev hC hs hph
   have u35:=su hs 35 5
   have e39:=sd hs 39 9
   obtain⟨s35,f35,z35⟩:=u35
   exact bf (aJ rfl) (bI (by simp[go_sem,f35,e39,hev.const,bz];rw[if_neg (by omega)];try first|exact⟨rfl,rfl⟩|rfl) ⟨hC,aG.of rfl (aA.refl _),⟨_,rfl,by rw[ByteArray.size_append,ByteArray.size_extract];omega⟩,av (by kernel_rfl)⟩)
  case oA11=>
   intro ev wo hev hC hs hph
   have u40:=su hs 40 10
   obtain⟨s40,f40,z40⟩:=u40
   exact bf (aJ rfl) (bI (by simp[go_sem,f40,hev.const,bz];rw[if_neg (by omega)];try first|exact⟨rfl,rfl⟩|rfl) ⟨hC,aG.of rfl (aA.refl _),⟨_,rfl,by rw[vV];simp;omega⟩,av (by kernel_rfl)⟩)
  case oA12=>intro ev wo hev hC hs hph;have x0:=se hA hs 6;exact od rfl rfl (by kernel_rfl) hC (aG.of rfl (aA.refl _)) (by simp[go_sem,x0]<;>rfl)
  case oA13=>intro ev wo hev hC hs hph;have x0:=sd hs 42 12;exact od rfl rfl (by kernel_rfl) hC (aG.of rfl (aA.refl _)) (by simp[go_sem,x0,hev.const,q4]<;>rfl)
  case oA14=>
   intro ev wo hev hC hs hph
   have e43:=sd hs 43 13
   exact bf (aJ rfl) (dP (by simp[go_sem,e43,hev.func,hev.const];try first|exact⟨rfl,rfl⟩|rfl) (Calls.mono (oP (t%86400/3600) (by omega) (by omega) wo (Ht wo hC)) (by
    rintro ev2 w3 ⟨s,rfl,_,hz,hb3⟩
    exact⟨_,rfl,hC.trans (hb3.mono hC.size),aG.of rfl hb3,⟨s,rfl,hz⟩,av (by kernel_rfl)⟩)))
  case oA15=>
   intro ev wo hev hC hs hph
   have u41:=su hs 41 11
   have u44:=su hs 44 14
   obtain⟨s41,f41,z41⟩:=u41
   obtain⟨s44,f44,z44⟩:=u44
   exact bf (aJ rfl) (bI (by simp[go_sem,f41,f44,hev.const,bz];rw[if_neg (by omega)];try first|exact⟨rfl,rfl⟩|rfl) ⟨hC,aG.of rfl (aA.refl _),⟨_,rfl,by rw[ByteArray.size_append];omega⟩,av (by kernel_rfl)⟩)
  case oA16=>
   intro ev wo hev hC hs hph
   have u45:=su hs 45 15
   obtain⟨s45,f45,z45⟩:=u45
   exact bf (aJ rfl) (bI (by simp[go_sem,f45,hev.const,bz];rw[if_neg (by omega)];try first|exact⟨rfl,rfl⟩|rfl) ⟨hC,aG.of rfl (aA.refl _),⟨_,rfl,by rw[vV];simp;omega⟩,av (by kernel_rfl)⟩)
  case oA17=>intro ev wo hev hC hs hph;have x0:=se hA hs 6;exact od rfl rfl (by kernel_rfl) hC (aG.of rfl (aA.refl _)) (by simp[go_sem,x0]<;>rfl)
  case oA18=>intro ev wo hev hC hs hph;have x0:=sd hs 47 17;exact od rfl rfl (by kernel_rfl) hC (aG.of rfl (aA.refl _)) (by simp[go_sem,x0,hev.const,q5]<;>rfl)
  case oA19=>intro ev wo hev hC hs hph;have x0:=sd hs 48 18;exact od rfl rfl (by kernel_rfl) hC (aG.of rfl (aA.refl _)) (by simp[go_sem,x0,hev.const,q6]<;>rfl)
  case oA20=>
   intro ev wo hev hC hs hph
   have e49:=sd hs 49 19
   exact bf (aJ rfl) (dP (by simp[go_sem,e49,hev.func,hev.const];try first|exact⟨rfl,rfl⟩|rfl) (Calls.mono (oP (t%3600/60) (by omega) (by omega) wo (Ht wo hC)) (by
    rintro ev2 w3 ⟨s,rfl,_,hz,hb3⟩
    exact⟨_,rfl,hC.trans (hb3.mono hC.size),aG.of rfl hb3,⟨s,rfl,hz⟩,av (by kernel_rfl)⟩)))
  case oA21=>
   intro ev wo hev hC hs hph
   have u46:=su hs 46 16
   have u50:=su hs 50 20
   obtain⟨s46,f46,z46⟩:=u46
   obtain⟨s50,f50,z50⟩:=u50
   exact bf (aJ rfl) (bI (by simp[go_sem,f46,f50,hev.const,bz];rw[if_neg (by omega)];try first|exact⟨rfl,rfl⟩|rfl) ⟨hC,aG.of rfl (aA.refl _),⟨_,rfl,by rw[ByteArray.size_append];omega⟩,av (by kernel_rfl)⟩)
  case oA22=>
   intro ev wo hev hC hs hph
   have u51:=su hs 51 21
   obtain⟨s51,f51,z51⟩:=u51
   exact bf (aJ rfl) (bI (by simp[go_sem,f51,hev.const,bz];rw[if_neg (by omega)];try first|exact⟨rfl,rfl⟩|rfl) ⟨hC,aG.of rfl (aA.refl _),⟨_,rfl,by rw[vV];simp;omega⟩,av (by kernel_rfl)⟩)
  case oA23=>intro ev wo hev hC hs hph;have x0:=se hA hs 6;exact od rfl rfl (by kernel_rfl) hC (aG.of rfl (aA.refl _)) (by simp[go_sem,x0]<;>rfl)
  case oA24=>intro ev wo hev hC hs hph;have x0:=sd hs 53 23;exact od rfl rfl (by kernel_rfl) hC (aG.of rfl (aA.refl _)) (by simp[go_sem,x0,hev.const,q7]<;>rfl)
  case oA25=>
   intro ev wo hev hC hs hph
   have e54:=sd hs 54 24
   exact bf (aJ rfl) (dP (by simp[go_sem,e54,hev.func,hev.const];try first|exact⟨rfl,rfl⟩|rfl) (Calls.mono (oP (t%86400%60) (by omega) (by omega) wo (Ht wo hC)) (by
    rintro ev2 w3 ⟨s,rfl,_,hz,hb3⟩
    exact⟨_,rfl,hC.trans (hb3.mono hC.size),aG.of rfl hb3,⟨s,rfl,hz⟩,av (by kernel_rfl)⟩)))
  case oA26=>
   intro ev wo hev hC hs hph
   have u52:=su hs 52 22
   have u55:=su hs 55 25
   obtain⟨s52,f52,z52⟩:=u52
   obtain⟨s55,f55,z55⟩:=u55
   exact bf (aJ rfl) (bI (by simp[go_sem,f52,f55,hev.const,bz];rw[if_neg (by omega)];try first|exact⟨rfl,rfl⟩|rfl) ⟨hC,aG.of rfl (aA.refl _),⟨_,rfl,by rw[ByteArray.size_append];omega⟩,av (by kernel_rfl)⟩)
  case oA27=>
   intro ev wo hev hC hs hph
   have u56:=su hs 56 26
   obtain⟨s56,f56,z56⟩:=u56
   exact bf (aJ rfl) (bI (v:= .string (s56++⟨#[32,43,48,48,48,48]⟩)) (by simp[go_sem,f56,hev.const];omega) ⟨hC,aG.of rfl (aA.refl _),⟨_,rfl,Gr _ _ _⟩,av (by kernel_rfl)⟩)
  case oA28=>
   intro ev wo hev hC hs hph
   have u57:=sh hs 57 27
   exact bf (aJ rfl) (bI (v:=ev (.tmp 57)) (by simp[go_sem]) ⟨hC,aG.of rfl (aA.refl _),u57,av (by kernel_rfl)⟩)
  intro sg wf hC hph
  intro x33 hx33
  intro x34 hx34
  intro x35 hx35
  intro x40 hx40
  intro x41 hx41
  intro x44 hx44
  intro x45 hx45
  intro x46 hx46
  intro x50 hx50
  intro x51 hx51
  intro x52 hx52
  intro x55 hx55
  intro x56 hx56
  intro x57 hx57 h57
  intro x2 hx2 h2
  intro a hA
  replace hA:=hA.keepN [2]
  refine nT (wp_ret ?_)
  refine ab hA 2 rfl rfl ?_
  obtain⟨s,rfl,hs⟩:=h2
  refine⟨s,rfl, ?_,hC⟩
  rw[hs]
  unfold oY
  simp
  omega
def gD (d f:Int):Bool:=oY d&&decide (0≤f)&&decide (f≤31)
def BJ (m:aU):Bool:=gD m.date m.flags
def lG (l:List aU):Nat→Nat
 |0=>0
 |j+1=>match l[j]? with|some y=>y.uid|none=>0
theorem qt {l:List aU} {j:Nat} {x:aU} (hx:l[j]?=some x):lG l (j+1)=x.uid:=by
 show(match l[j]? with|some y=>y.uid|none=>0)=_
 rw[hx]
def iX (nx:Nat) (l:List aU) (j:Nat) (m:aU):Bool:=decide (lG l j<m.uid)&&decide (m.uid<nx)&&BJ m&&decide (m.b.length≤20000)
def BN (nx:Nat) (l:List aU) (j:Nat):Bool:=match l[j]? with|some m=>iX nx l j m|none=>true
def ix (nx:Nat) (l:List aU) (j:Nat):Bool:=(List.range j).all (BN nx l)
theorem rD {nx:Nat} {l:List aU} {j:Nat} {x:aU} (hx:l[j]?=some x):ix nx l (j+1)=(ix nx l j&&iX nx l j x):=by
 unfold ix
 rw[List.range_succ,List.all_append]
 simp[BN,hx]
theorem GC {nx:Nat} {l:List aU} {j:Nat} {x:aU} (hx:l[j]?=some x) (h:iX nx l j x=false):ix nx l l.length=false:=by
 unfold ix
 rw[List.all_eq_false]
 exact⟨j,List.mem_range.2 (List.getElem?_eq_some_iff.1 hx).1,by unfold BN;rw[hx];simp only[h];simp⟩
def fU (nm:ByteArray) (e nx:Nat) (l:List aU):Bool:=ba nm&&decide (1≤e)&&decide (1≤nx)&&decide (l.length≤500)&&ix nx l l.length
section
variable {P:Program} {Q:Exit→Act→World→Prop} {a:Act} {w:World} {n:Nat} {Γ:oR} {l rest:List Oper} {o:Oper} {t:Nat} {b:Bool}
theorem DQ {gi gt:Nat} {f:FuncId} {args:Array Value} {R:ByteArray→Prop} (q:Bool) (hA:At n Γ a) (hg:o.guard=some (gi,b)) (hgd:(l[gi]?).bind (·.dst)=some gt) (hl:eX Γ gt=some (.bool q)) (hd:o.dst=some t) (ht:t<n)
 (hrun:q=b→∀ev,gT Γ ev→(execOp ev o).run P w= .ok (.enter f args) w) (hc:q=b→Calls P f args w fun e w'=>∃s,e= .returned (.string s)∧R s∧Below w.heap.size w w')
 (hk:∀(s:ByteArray) a' w',(q=b→R s)→Below w.heap.size w w'→At n ((t,gv q b (.string s))::Γ) a'→wpList P l.toArray Q rest a' w'):wpList P l.toArray Q (o::rest) a w:=by
 refine FW q hA hg hgd hl hd ht hrun hc (fun v w'=>(∃s,v= .string s∧(q=b→R s)∧Below w.heap.size w w')∨(q≠b∧Below w.heap.size w w')) (fun _ e w' ⟨s,h1,h2,h3⟩=>⟨_,h1, .inl ⟨s,rfl,fun _=>h2,h3⟩⟩) (fun h=> .inr ⟨h,Below.refl _ _⟩) ?_
 rintro v a' w' (⟨s,rfl,h2,h3⟩|⟨h2,h3⟩) hA'
 ·exact hk s a' w' h2 h3 hA'
 ·refine hk ⟨#[]⟩ a' w' (fun e=>absurd e h2) h3 ?_
  have e:gv q b v=gv q b (.string ⟨#[]⟩):=by
   have:(q==b)=false:=by simpa using h2
   unfold gv gw
   rw[this]
   rfl
  rw[←e]
  exact hA'
end
structure ak where
 kind:Int
 ep:Nat
 nm:ByteArray
 m:aU
def fQ (k:Int) (e:Nat) (nm:ByteArray) (m:aU):Array Value:=#[.int .i64 k, .int .u32 (e:Nat), .string nm, .int .u32 (m.uid:Nat), .int .i64 m.date, .int .i64 m.flags, .slice m.a m.b.length m.c]
def kX (d f:Int) (n:Nat):Bool:=d==0&&f==0&&(n:Int)==0
def kZ (m:aU):Bool:=decide (1≤m.uid)&&(gD m.date m.flags&&decide (m.b.length≤20000))
def af (k:Int) (e:Nat) (nm:ByteArray) (m:aU):Bool:=decide (1≤e)&&(bif k==1 then ba nm&&kX m.date m.flags m.b.length&&m.uid==0 else bif k==2 then ba nm&&kZ m else k==3&&nm.toList.isEmpty&&kX m.date m.flags m.b.length&&decide (1≤m.uid))
theorem IU (u:Nat):decide ((1:Int)≤(u:Int))=decide (1≤u):=by rw[Bool.eq_iff_iff];simp;omega
theorem I0 (u:Nat):((u:Int)==0)=(u==0):=by rw[Bool.eq_iff_iff];simp
theorem Fr (n:Nat):decide ((n:Int)≤20000)=decide (n≤20000):=by rw[Bool.eq_iff_iff];simp;omega
theorem ED {k:Int} {e:Nat} (nm:ByteArray) (m:aU) (h:decide ((e:Int)<1)=true):af k e nm m=false:=by
 have:¬1≤e:=by simp at h;omega
 unfold af
 simp[this]
theorem EE {k:Int} {e:Nat} (nm:ByteArray) (m:aU) (h:decide ((e:Int)<1)=false) (h1:(k==1)=true):af k e nm m=(ba nm&&kX m.date m.flags m.b.length&&(m.uid:Int)==0):=by
 have:1≤e:=by simp at h;omega
 unfold af
 rw[h1,I0]
 simp[this]
theorem EF {k:Int} {e:Nat} (nm:ByteArray) (m:aU) (h:decide ((e:Int)<1)=false) (h1:(k==1)=false) (h2:(k==2)=true):af k e nm m=(ba nm&&kZ m):=by
 have:1≤e:=by simp at h;omega
 unfold af
 rw[h1,h2]
 simp[this]
theorem EG {k:Int} {e:Nat} (nm:ByteArray) (m:aU) (h:decide ((e:Int)<1)=false) (h1:(k==1)=false) (h2:(k==2)=false):af k e nm m=(k==3&&nm.toList.isEmpty&&kX m.date m.flags m.b.length&&decide ((1:Int)≤(m.uid:Int))):=by
 have:1≤e:=by simp at h;omega
 unfold af
 rw[h1,h2,IU]
 simp[this]
theorem qH (s:ByteArray) (hs:s.size≤9223372036854775807) (w:World) (hm:cX w):
 Calls Tryz.prog 93 #[.string s] w fun ev w'=>ev= .returned (.bool (ba s))∧Below w.heap.size w w':=by
 obtain⟨mx,hmx⟩:=hm
 refine aK 16 Tryz.func93 rfl rfl (Nat.le_of_ble_eq_true rfl) ?_
 intro a hA;replace hA:=hA.norm
 refine wS (wR ?_)
 revert a;refine wo rfl rfl (by decide) (fun ev e h=>by simp[go_sem,h]<;>rfl) ?_;intro a hA
 replace hA:=hA.keepN [0]
 refine wN (nT (wS (wR ?_)))
 revert a;refine wo rfl rfl (by decide) (fun ev e h=>by simp[go_sem,h]<;>rfl) ?_;intro a hA
 refine aC hA rfl rfl (by decide) (fun ev h=>aB Tryz.func80 (by kernel_rfl) rfl (h.f _) (by first|(simp only[mL,h.get 6 rfl,h.c]<;>rfl)|(simp[mL,h.get 6 rfl,h.c]<;>rfl))) (rF s mx _ hs hmx) ?_
 rintro e w1 ⟨rfl,hb⟩
 refine⟨_,rfl,fun a hA=> ?_⟩
 revert a;(iterate 5 refine wo rfl rfl (by decide) (fun ev e h=>by simp[go_sem,h]<;>rfl) ?_);intro a hA
 replace hA:=hA.keepN [0,3,4]
 refine wN (nT (wS (wR ?_)))
 revert a;(iterate 2 refine wo rfl rfl (by decide) (fun ev e h=>by simp[go_sem,h]<;>rfl) ?_);(iterate 3 refine wg _ rfl rfl rfl rfl (by decide) (fun hq ev e h=>by simp[go_sem,h,↓aL (aF hq)]<;>rfl) ?_);refine j9 rfl rfl (by decide) rfl rfl rfl ?_;refine wo rfl rfl (by decide) (fun ev e h=>by simp[go_sem,h]<;>rfl) ?_;intro a hA
 replace hA:=hA.keepN [2]
 refine wN (nT (wp_ret ?_))
 refine ab hA 2 rfl rfl ?_
 exact⟨bH (by unfold ba;rfl),hb⟩
theorem vW (u d f:Int) (A:Option Addr) (n c:Nat) (w:World):
 Calls Tryz.prog 94 #[.agg #[.int .u32 u, .int .i64 d, .int .i64 f, .slice A n c]] w fun ev w'=>ev= .returned (.bool (kX d f n))∧Below w.heap.size w w':=by
 refine aK 17 Tryz.func94 rfl rfl (Nat.le_of_ble_eq_true rfl) ?_
 intro a hA;replace hA:=hA.norm
 refine wS (wR ?_)
 refine aP hA rfl rfl (by decide) (fun ev h=>by simp[go_sem,h.get 0 rfl];try first|exact⟨rfl,rfl⟩|rfl) fun w1 a (K:aI _ _ _ _) hz hb hA=> ?_
 revert a;refine wo rfl rfl (by decide) (fun ev e h=>by simp[go_sem,h,K.cell]<;>rfl) ?_;intro a hA
 replace hA:=hA.keepN [1]
 refine wN (nT (wS (wR ?_)))
 revert a;(iterate 4 refine wo rfl rfl (by decide) (fun ev e h=>by simp[go_sem,h,K.cell]<;>rfl) ?_);(iterate 3 refine wg _ rfl rfl rfl rfl (by decide) (fun hq ev e h=>by simp[go_sem,h,↓aL (aF hq),K.cell]<;>rfl) ?_);refine j9 rfl rfl (by decide) rfl rfl rfl ?_;refine wo rfl rfl (by decide) (fun ev e h=>by simp[go_sem,h,K.cell]<;>rfl) ?_;refine wg _ rfl rfl rfl rfl (by decide) (fun hq ev e h=>by simp[go_sem,h,↓aL (aF hq),K.cell]<;>rfl) ?_;intro a hA
 replace hA:=hA.keepN [11,12]
 revert a;(iterate 3 refine wg _ rfl rfl rfl rfl (by decide) (fun hq ev e h=>by simp[go_sem,h,↓aL (aF hq),K.cell]<;>rfl) ?_);refine j9 rfl rfl (by decide) rfl rfl rfl ?_;refine wo rfl rfl (by decide) (fun ev e h=>by simp[go_sem,h,K.cell]<;>rfl) ?_;intro a hA
 replace hA:=hA.keepN [2]
 refine wN (nT (wp_ret ?_))
 refine ab hA 2 rfl rfl ?_
 exact⟨rfl,hb⟩
theorem Fk (m:aU) (s:ByteArray) (hs:decide ((1:Int)≤(m.uid:Int))=true→s.toList.isEmpty= !oY m.date):(decide ((1:Int)≤(m.uid:Int))&& !s.toList.isEmpty&&decide (0≤m.flags)&&decide (m.flags≤31)&&decide ((m.b.length:Int)≤20000))=kZ m:=by
 unfold kZ gD
 rw[Fr]
 rw[IU] at*
 cases hu:decide (1≤m.uid) with
 |false=>simp
 |true=>rw[hs hu];simp[Bool.and_assoc]
theorem uw (m:aU) (w:World) (htab:Lib.TabIs Tryz.prog w "internal/strconv.uint64pow10" .u64 Lib.pow10Tab):
 Calls Tryz.prog 95 #[.agg #[.int .u32 (m.uid:Nat), .int .i64 m.date, .int .i64 m.flags, .slice m.a m.b.length m.c]] w fun ev w'=>ev= .returned (.bool (kZ m))∧Below w.heap.size w w':=by
 have Ht:=Lib.tabBelow_of_tabIs htab
 refine aK 28 Tryz.func95 rfl rfl (Nat.le_of_ble_eq_true rfl) ?_
 intro a hA;replace hA:=hA.norm
 refine wS (wR ?_)
 refine aP hA rfl rfl (by decide) (fun ev h=>by simp[go_sem,h.get 0 rfl];try first|exact⟨rfl,rfl⟩|rfl) fun w1 a (K:aI _ _ _ _) hz hb hA=> ?_
 revert a;refine wo rfl rfl (by decide) (fun ev e h=>by simp[go_sem,h,K.cell]<;>rfl) ?_;intro a hA
 replace hA:=hA.keepN [1]
 refine wN (nT (wS (wR ?_)))
 revert a;(iterate 4 refine wo rfl rfl (by decide) (fun ev e h=>by simp[go_sem,h,K.cell]<;>rfl) ?_);(iterate 2 refine wg _ rfl rfl rfl rfl (by decide) (fun hq ev e h=>by simp[go_sem,h,↓aL (aF hq),K.cell]<;>rfl) ?_);intro a hA
 refine DQ _ hA rfl rfl rfl rfl (by decide) (fun hq ev h=>aB Tryz.func113 (by kernel_rfl) rfl (h.f _) (by first|(simp only[mL,((h.get 8 rfl).trans (aL (aF hq))),h.c]<;>rfl)|(simp[mL,((h.get 8 rfl).trans (aL (aF hq))),h.c,K.cell]<;>rfl))) (fun hq=>rP m.date _ (Ht _ hb)) fun s a w2 hs hb2 hA=> ?_
 replace K:=K.below hb2 K.lt
 revert a;refine wg _ rfl rfl rfl rfl (by decide) (fun hq ev e h=>by simp[go_sem,h,↓aL (aF hq),K.cell]<;>rfl) ?_;refine j9 rfl rfl (by decide) rfl rfl rfl ?_;refine wo rfl rfl (by decide) (fun ev e h=>by simp[go_sem,h,K.cell]<;>rfl) ?_;refine wg _ rfl rfl rfl rfl (by decide) (fun hq ev e h=>by simp[go_sem,h,↓aL (aF hq),K.cell]<;>rfl) ?_;intro a hA
 replace hA:=hA.keepN [1,12,13]
 revert a;(iterate 2 refine wg _ rfl rfl rfl rfl (by decide) (fun hq ev e h=>by simp[go_sem,h,↓aL (aF hq),K.cell]<;>rfl) ?_);refine j9 rfl rfl (by decide) rfl rfl rfl ?_;refine wo rfl rfl (by decide) (fun ev e h=>by simp[go_sem,h,K.cell]<;>rfl) ?_;(iterate 3 refine wg _ rfl rfl rfl rfl (by decide) (fun hq ev e h=>by simp[go_sem,h,↓aL (aF hq),K.cell]<;>rfl) ?_);refine j9 rfl rfl (by decide) rfl rfl rfl ?_;refine wo rfl rfl (by decide) (fun ev e h=>by simp[go_sem,h,K.cell]<;>rfl) ?_;refine wg _ rfl rfl rfl rfl (by decide) (fun hq ev e h=>by simp[go_sem,h,↓aL (aF hq),K.cell]<;>rfl) ?_;intro a hA
 replace hA:=hA.keepN [22,23]
 revert a;(iterate 3 refine wg _ rfl rfl rfl rfl (by decide) (fun hq ev e h=>by simp[go_sem,h,↓aL (aF hq),K.cell]<;>rfl) ?_);refine j9 rfl rfl (by decide) rfl rfl rfl ?_;refine wo rfl rfl (by decide) (fun ev e h=>by simp[go_sem,h,K.cell]<;>rfl) ?_;intro a hA
 replace hA:=hA.keepN [2]
 refine wN (nT (wp_ret ?_))
 refine ab hA 2 rfl rfl ?_
 exact⟨bH (Fk m s hs),hb.trans (hb2.mono hb.size)⟩
theorem qk (k:Int) (e:Nat) (nm:ByteArray) (m:aU) (w:World) (hm:cX w) (hg:0<w.heap.size) (htab:Lib.TabIs Tryz.prog w "internal/strconv.uint64pow10" .u64 Lib.pow10Tab) (hs:nm.size≤9223372036854775807):
 Calls Tryz.prog 57 #[.agg (fQ k e nm m)] w fun ev w'=>ev= .returned (.bool (af k e nm m))∧Below w.heap.size w w':=by
 have Ht:=Lib.tabBelow_of_tabIs htab
 have hm0:=fun(w':World) (hb:Below w.heap.size w w')=>hm.below hg hb
 refine aK 56 Tryz.func57 rfl rfl (Nat.le_of_ble_eq_true rfl) ?_
 intro a hA;replace hA:=hA.norm
 refine wS (wR ?_)
 refine aP hA rfl rfl (by decide) (fun ev h=>by simp[go_sem,h.get 0 rfl];try first|exact⟨rfl,rfl⟩|rfl) fun w1 a (K:aI _ _ _ _) hz hb0 hA=> ?_
 unfold fQ at K
 revert a;refine wo rfl rfl (by decide) (fun ev e h=>by simp[go_sem,h,K.cell]<;>rfl) ?_;intro a hA
 replace hA:=hA.keepN [1]
 refine wN (nT (wS (wB (wS (wR ?_)))))
 revert a;(iterate 4 refine wo rfl rfl (by decide) (fun ev e h=>by simp[go_sem,h,K.cell]<;>rfl) ?_);intro a hA
 replace hA:=hA.keepN [1,3]
 refine wN (nT ?_)
 refine aH hA 3 _ rfl (fun hq=> ?yA) (fun hq=> ?nA)
 case yA=>
  refine wS (wR ?_)
  revert a;refine wo rfl rfl (by decide) (fun ev e h=>by simp[go_sem,h,K.cell]<;>rfl) ?_;intro a hA
  replace hA:=hA.keepN [2]
  refine wN (nT (wp_ret (rB (rT ?_))))
  refine ab hA 2 rfl rfl ?_
  exact⟨bH ((ED nm m hq).symm),hb0⟩
 case nA=>
  refine wS (wR ?_)
  revert a;(iterate 4 refine wo rfl rfl (by decide) (fun ev e h=>by simp[go_sem,h,K.cell]<;>rfl) ?_);intro a hA
  replace hA:=hA.keepN [1,7]
  refine wN (nT ?_)
  refine aH hA 7 _ rfl (fun hq1=> ?yB) (fun hq1=> ?nB)
  case yB=>
   refine wS (wR ?_)
   revert a;(iterate 2 refine wo rfl rfl (by decide) (fun ev e h=>by simp[go_sem,h,K.cell]<;>rfl) ?_);intro a hA
   refine aC hA rfl rfl (by decide) (fun ev h=>aB Tryz.func93 (by kernel_rfl) rfl (h.f _) (by first|(simp only[mL,h.get 12 rfl,h.c]<;>rfl)|(simp[mL,h.get 12 rfl,h.c,K.cell]<;>rfl))) (qH nm hs _ (hm0 _ hb0)) ?_
   rintro e w2 ⟨rfl,hb⟩
   refine⟨_,rfl,fun a hA=> ?_⟩
   replace K:=K.below hb K.lt
   revert a;refine wo rfl rfl (by decide) (fun ev e h=>by simp[go_sem,h,K.cell]<;>rfl) ?_;(iterate 2 refine wg _ rfl rfl rfl rfl (by decide) (fun hq ev e h=>by simp[go_sem,h,↓aL (aF hq),K.cell]<;>rfl) ?_);intro a hA
   refine dK _ hA rfl rfl rfl rfl (by decide) (fun hq ev h=>aB Tryz.func94 (by kernel_rfl) rfl (h.f _) (by first|(simp only[mL,((h.get 16 rfl).trans (aL (aF hq))),h.c]<;>rfl)|(simp[mL,((h.get 16 rfl).trans (aL (aF hq))),h.c,K.cell]<;>rfl))) (fun hq=>vW (m.uid:Nat) m.date m.flags m.a m.b.length m.c _) fun a w3 hb3 hA=> ?_
   replace K:=K.below hb3 K.lt
   revert a;refine j9 rfl rfl (by decide) rfl rfl rfl ?_;refine wo rfl rfl (by decide) (fun ev e h=>by simp[go_sem,h,K.cell]<;>rfl) ?_;(iterate 3 refine wg _ rfl rfl rfl rfl (by decide) (fun hq ev e h=>by simp[go_sem,h,↓aL (aF hq),K.cell]<;>rfl) ?_);intro a hA
   replace hA:=hA.keepN [19,22]
   revert a;refine wg _ rfl rfl rfl rfl (by decide) (fun hq ev e h=>by simp[go_sem,h,↓aL (aF hq),K.cell]<;>rfl) ?_;refine j9 rfl rfl (by decide) rfl rfl rfl ?_;refine wo rfl rfl (by decide) (fun ev e h=>by simp[go_sem,h,K.cell]<;>rfl) ?_;intro a hA
   replace hA:=hA.keepN [2]
   refine wN (nT (wp_ret (rB (rT ?_))))
   refine ab hA 2 rfl rfl ?_
   exact⟨bH ((EE nm m hq hq1).symm),(hb0.trans (hb.mono hb0.size)).trans (hb3.mono (Nat.le_trans hb0.size hb.size))⟩
  case nB=>
   refine wS (wR ?_)
   revert a;(iterate 4 refine wo rfl rfl (by decide) (fun ev e h=>by simp[go_sem,h,K.cell]<;>rfl) ?_);intro a hA
   replace hA:=hA.keepN [1,25]
   refine wN (nT ?_)
   refine aH hA 25 _ rfl (fun hq2=> ?yC) (fun hq2=> ?nC)
   case yC=>
    refine wS (wR ?_)
    revert a;(iterate 2 refine wo rfl rfl (by decide) (fun ev e h=>by simp[go_sem,h,K.cell]<;>rfl) ?_);intro a hA
    refine aC hA rfl rfl (by decide) (fun ev h=>aB Tryz.func93 (by kernel_rfl) rfl (h.f _) (by first|(simp only[mL,h.get 30 rfl,h.c]<;>rfl)|(simp[mL,h.get 30 rfl,h.c,K.cell]<;>rfl))) (qH nm hs _ (hm0 _ hb0)) ?_
    rintro e w2 ⟨rfl,hb⟩
    refine⟨_,rfl,fun a hA=> ?_⟩
    replace K:=K.below hb K.lt
    revert a;refine wo rfl rfl (by decide) (fun ev e h=>by simp[go_sem,h,K.cell]<;>rfl) ?_;(iterate 2 refine wg _ rfl rfl rfl rfl (by decide) (fun hq ev e h=>by simp[go_sem,h,↓aL (aF hq),K.cell]<;>rfl) ?_);intro a hA
    refine dK _ hA rfl rfl rfl rfl (by decide) (fun hq ev h=>aB Tryz.func95 (by kernel_rfl) rfl (h.f _) (by first|(simp only[mL,((h.get 34 rfl).trans (aL (aF hq))),h.c]<;>rfl)|(simp[mL,((h.get 34 rfl).trans (aL (aF hq))),h.c,K.cell]<;>rfl))) (fun hq=>uw m _ (Ht _ (hb0.trans (hb.mono hb0.size)))) fun a w3 hb3 hA=> ?_
    replace K:=K.below hb3 K.lt
    revert a;refine j9 rfl rfl (by decide) rfl rfl rfl ?_;refine wo rfl rfl (by decide) (fun ev e h=>by simp[go_sem,h,K.cell]<;>rfl) ?_;intro a hA
    replace hA:=hA.keepN [2]
    refine wN (nT (wp_ret (rB (rT ?_))))
    refine ab hA 2 rfl rfl ?_
    exact⟨bH ((EF nm m hq hq1 hq2).symm),(hb0.trans (hb.mono hb0.size)).trans (hb3.mono (Nat.le_trans hb0.size hb.size))⟩
   case nC=>
    refine wp_skip (nB (nT (wS (wR ?_))))
    revert a;(iterate 4 refine wo rfl rfl (by decide) (fun ev e h=>by simp[go_sem,h,K.cell]<;>rfl) ?_);(iterate 3 refine wg _ rfl rfl rfl rfl (by decide) (fun hq ev e h=>by simp[go_sem,h,↓aL (aF hq),K.cell]<;>rfl) ?_);refine j9 rfl rfl (by decide) rfl rfl rfl ?_;refine wo rfl rfl (by decide) (fun ev e h=>by simp[go_sem,h,K.cell]<;>rfl) ?_;refine wg _ rfl rfl rfl rfl (by decide) (fun hq ev e h=>by simp[go_sem,h,↓aL (aF hq),K.cell]<;>rfl) ?_;intro a hA
    replace hA:=hA.keepN [1,45,46]
    revert a;refine wg _ rfl rfl rfl rfl (by decide) (fun hq ev e h=>by simp[go_sem,h,↓aL (aF hq),K.cell]<;>rfl) ?_;intro a hA
    refine dK _ hA rfl rfl rfl rfl (by decide) (fun hq ev h=>aB Tryz.func94 (by kernel_rfl) rfl (h.f _) (by first|(simp only[mL,((h.get 47 rfl).trans (aL (aF hq))),h.c]<;>rfl)|(simp[mL,((h.get 47 rfl).trans (aL (aF hq))),h.c,K.cell]<;>rfl))) (fun hq=>vW (m.uid:Nat) m.date m.flags m.a m.b.length m.c _) fun a w3 hb3 hA=> ?_
    replace K:=K.below hb3 K.lt
    revert a;refine j9 rfl rfl (by decide) rfl rfl rfl ?_;refine wo rfl rfl (by decide) (fun ev e h=>by simp[go_sem,h,K.cell]<;>rfl) ?_;(iterate 4 refine wg _ rfl rfl rfl rfl (by decide) (fun hq ev e h=>by simp[go_sem,h,↓aL (aF hq),K.cell]<;>rfl) ?_);refine j9 rfl rfl (by decide) rfl rfl rfl ?_;refine wo rfl rfl (by decide) (fun ev e h=>by simp[go_sem,h,K.cell]<;>rfl) ?_;intro a hA
    replace hA:=hA.keepN [2]
    refine wN (nT (wp_ret ?_))
    refine ab hA 2 rfl rfl ?_
    exact⟨bH ((EG nm m hq hq1 hq2).symm),hb0.trans (hb3.mono hb0.size)⟩
structure eR where
 m:aU
 ep:Nat
 at_:Nat
def mV (x:eR):List Value:=[.int .u32 (x.m.uid:Nat), .int .i64 x.m.date, .int .i64 x.m.flags, .slice x.m.a x.m.b.length x.m.c, .int .u32 (x.ep:Nat), .int .i64 (x.at_:Nat)]
theorem C0 (x:eR):∀u∈mV x,u.oneCell'=true:=by
 intro u hu
 unfold mV at hu
 simp only[List.mem_cons,List.not_mem_nil,or_false] at hu
 rcases hu with rfl|rfl|rfl|rfl|rfl|rfl<;>rfl
def dA :Sh eR:=⟨133,75,6,64, .agg #[.int .u32 0, .int .i64 0, .int .i64 0, .slice none 0 0, .int .u32 0, .int .i64 0],mV,fun x=>[(x.m.a,x.m.b)],fun _=>rfl,C0,Tryz.underlying75,by kernel_rfl,rfl,by decide,by decide⟩
def pY (ep uid:Nat) (x:eR):Bool:=x.ep==ep&&x.m.uid==uid
def k8 (ep uid:Nat) (l:List eR):List eR:=l.filter fun x=> !pY ep uid x
theorem qu {ep uid j:Nat} {l:List eR} {x:eR} (hx:l[j]?=some x):k8 ep uid (l.take (j+1))=k8 ep uid (l.take j)++bif pY ep uid x then[] else[x]:=by
 unfold k8
 rw[List.take_add_one,hx,List.filter_append]
 congr 1
 cases hg:pY ep uid x<;>simp[hg]
abbrev BE (pn:Nat):Value:= .func (.func 102) #[] #[.pointer (some ⟨pn,0,none⟩)]
theorem jW (a b:Nat):((a:Int)==(b:Int))=(a==b):=by rw[Bool.eq_iff_iff,beq_iff_eq,beq_iff_eq];omega
theorem tu (pn:Nat) (k:Int) (e:Nat) (nm:ByteArray) (m:aU) (x:eR) (w:World) (Kn:aI w pn 66 (fQ k e nm m)):
 Calls Tryz.prog 102 #[.agg #[.int .u32 (x.m.uid:Nat), .int .i64 x.m.date, .int .i64 x.m.flags, .slice x.m.a x.m.b.length x.m.c, .int .u32 (x.ep:Nat), .int .i64 (x.at_:Nat)], .pointer (some ⟨pn,0,none⟩)] w
  fun ev w'=>ev= .returned (.bool (pY e m.uid x))∧Below w.heap.size w w':=by
 unfold fQ at Kn
 refine aK 18 Tryz.func102 rfl rfl (Nat.le_of_ble_eq_true rfl) ?_
 intro a hA;replace hA:=hA.norm
 refine wS (wR ?_)
 refine aP hA rfl rfl (by decide) (fun ev h=>by simp[go_sem,h.get 0 rfl];try first|exact⟨rfl,rfl⟩|rfl) fun w1 a (K:aI _ _ _ _) hz1 hb1 hA=> ?_
 replace Kn:=Kn.below hb1 Kn.lt
 revert a;refine wo rfl rfl (by decide) (fun ev e h=>by simp[go_sem,h,K.cell,Kn.cell,jW]<;>rfl) ?_;intro a hA
 replace hA:=hA.keepN [1,2]
 refine wN (nT (wS (wR ?_)))
 revert a;(iterate 6 refine wo rfl rfl (by decide) (fun ev e h=>by simp[go_sem,h,K.cell,Kn.cell,jW]<;>rfl) ?_);(iterate 4 refine wg _ rfl rfl rfl rfl (by decide) (fun hq ev e h=>by simp[go_sem,h,↓aL (aF hq),K.cell,Kn.cell,jW]<;>rfl) ?_);intro a hA
 replace hA:=hA.keepN [9,12,13]
 revert a;(iterate 3 refine wg _ rfl rfl rfl rfl (by decide) (fun hq ev e h=>by simp[go_sem,h,↓aL (aF hq),K.cell,Kn.cell,jW]<;>rfl) ?_);refine j9 rfl rfl (by decide) rfl rfl rfl ?_;refine wo rfl rfl (by decide) (fun ev e h=>by simp[go_sem,h,K.cell,Kn.cell,jW]<;>rfl) ?_;intro a hA
 replace hA:=hA.keepN [3]
 refine wN (nT (wp_ret ?_))
 refine ab hA 3 rfl rfl ?_
 exact⟨bH (by unfold pY;rfl),hb1⟩
theorem zY (pn:Nat) (k:Int) (e:Nat) (nm:ByteArray) (m:aU) (A:Option Addr) (c n:Nat) (l:List eR) (w:World) (Kn:aI w pn 66 (fQ k e nm m)) (hl:l.length=n) (hn:n≤16000000) (hr:bu dA w A l):
 Calls Tryz.prog 122 #[.slice A n c,BE pn] w
  fun ev w'=>∃r:Int,ev= .returned (.int .i64 r)∧(r= -1∧k8 e m.uid l=l∨∃i:Nat,i<n∧r=(i:Nat)∧k8 e m.uid (l.take (i+1))=l.take i)∧Below w.heap.size w w':=by
 have HB:=Below.refl w.heap.size w
 unfold BE
 refine aK 19 Tryz.func122 rfl rfl (Nat.le_of_ble_eq_true rfl) ?_
 intro a hA;replace hA:=hA.norm
 refine wS (wR ?_)
 revert a;refine wo rfl rfl (by decide) (fun ev e h=>by simp[go_sem,h]<;>rfl) ?_;intro a hA
 replace hA:=hA.keepN [0,1]
 refine wN (nT (wS (wS (wR ?_))))
 revert a;(iterate 3 refine wo rfl rfl (by decide) (fun ev e h=>by simp[go_sem,h]<;>rfl) ?_);intro a hA
 replace hA:=hA.keepN [0,1,7,8]
 refine wN (nT (wB ?_))
 refine aQ (fun kk a wx=>∃(j:Nat),j+kk=n∧At 19 [(0, .slice A n c),(1, .func (.func 102) #[] #[.pointer (some ⟨pn,0,none⟩)]),(7, .int .i64 (n:Nat)),(8, .int .i64 (j:Nat))] a∧k8 e m.uid (l.take j)=l.take j∧Below w.heap.size w wx) (n) ?_ ?_
 ·exact⟨0,by omega,hA,rfl,HB⟩
 clear HB
 rintro kk a wx ⟨j,hjk,hA,hleft,HB⟩
 refine wS (wR ?_)
 revert a;refine wo rfl rfl (by decide) (fun ev e h=>by simp[go_sem,h]<;>rfl) ?_;intro a hA
 replace hA:=hA.keepN [0,1,7,8,9]
 refine wN (nT (wS ?_))
 refine aH hA 9 _ rfl (fun hq=> ?yL) (fun hq=> ?nL)
 case yL=>
  have hlt:j<n:=by simp at hq;omega
  obtain⟨x,hx⟩:∃x,l[j]?=some x:=⟨_,List.getElem?_eq_getElem (by omega)⟩
  obtain⟨ad,rfl,hadl,kz,kk'⟩:=hr.cell hx
  have z0:=(HB.cell (by rw[aD];exact hadl)).trans (kz _ rfl)
  have z1:=(HB.cell (p:=⟨(ad.add (j*6)).block,(ad.add (j*6)).off+1,none⟩) (by show(ad.add _).block<_;rw[aD];exact hadl)).trans (kk' 1 _ (by decide) rfl)
  have z2:=(HB.cell (p:=⟨(ad.add (j*6)).block,(ad.add (j*6)).off+2,none⟩) (by show(ad.add _).block<_;rw[aD];exact hadl)).trans (kk' 2 _ (by decide) rfl)
  have z3:=(HB.cell (p:=⟨(ad.add (j*6)).block,(ad.add (j*6)).off+3,none⟩) (by show(ad.add _).block<_;rw[aD];exact hadl)).trans (kk' 3 _ (by decide) rfl)
  have z4:=(HB.cell (p:=⟨(ad.add (j*6)).block,(ad.add (j*6)).off+4,none⟩) (by show(ad.add _).block<_;rw[aD];exact hadl)).trans (kk' 4 _ (by decide) rfl)
  have z5:=(HB.cell (p:=⟨(ad.add (j*6)).block,(ad.add (j*6)).off+5,none⟩) (by show(ad.add _).block<_;rw[aD];exact hadl)).trans (kk' 5 _ (by decide) rfl)
  have z0:wx.cell? (ad.add (j*6))=some (.int .u32 (x.m.uid:Nat)):=z0
  have jj0:(0:Int)≤(j:Int):=by omega
  have jj1:(j:Int)<(n:Int):=by omega
  have hwj:IntKind.i64.wrap ((j:Int)+1)=(j:Int)+1:=IntWalk.i64_in _ (by omega)
  refine wp_skip (nT (wS (wB (wS (wR ?_)))))
  revert a;(iterate 2 refine wo rfl rfl (by decide) (fun ev e h=>by simp[go_sem,h,z0,z1,z2,z3,z4,z5,jj0,jj1,hwj]<;>rfl) ?_);intro a hA
  replace hA:=hA.keepN [0,1,5,7,8]
  refine wN (nT (wS (wR ?_)))
  revert a;(iterate 5 refine wo rfl rfl (by decide) (fun ev e h=>by simp[go_sem,h,z0,z1,z2,z3,z4,z5,jj0,jj1,hwj]<;>rfl) ?_);intro a hA
  refine aC hA rfl rfl (by decide) (fun ev h=>by simp[go_sem,h.get 11 rfl,h.get 15 rfl,z0,z1,z2,z3,z4,z5,jj0,jj1,hwj];try first|exact⟨rfl,rfl⟩|rfl) (tu pn k e nm m x _ (Kn.below HB Kn.lt)) ?_
  rintro e w2 ⟨rfl,hb2⟩
  refine⟨_,rfl,fun a hA=> ?_⟩
  have HB:=HB.trans (hb2.mono HB.size)
  replace hA:=hA.keepN [0,1,5,7,8,16]
  refine wN (nT ?_)
  obtain⟨q,hqe⟩:∃q,pY e m.uid x=q:=⟨_,rfl⟩
  rw[hqe] at hA
  have hl1:=qu (ep:=e) (uid:=m.uid) hx
  rw[hqe,hleft] at hl1
  refine aH hA 16 _ rfl (fun hq2=> ?yR) (fun hq2=> ?nR)
  case yR=>
   subst hq2
   refine wS (wR ?_)
   revert a;(iterate 2 refine wo rfl rfl (by decide) (fun ev e h=>by simp[go_sem,h,z0,z1,z2,z3,z4,z5,jj0,jj1,hwj]<;>rfl) ?_);intro a hA
   replace hA:=hA.keepN [4]
   refine wN (nT (wp_ret (rB (rT (rT (rB (rT ?_)))))))
   refine ab hA 4 rfl rfl ?_
   exact⟨_,rfl, .inr ⟨j,hlt,rfl,by rw[hl1];simp⟩,HB⟩
  case nR=>
   subst hq2
   refine wp_skip (nB (nT (wR ?_)))
   revert a;(iterate 2 refine wo rfl rfl (by decide) (fun ev e h=>by simp[go_sem,h,z0,z1,z2,z3,z4,z5,jj0,jj1,hwj]<;>rfl) ?_);intro a hA
   replace hA:=hA.keepN [0,1,7,8]
   refine wN (nT ?_)
   rw[show((j:Int)+1)=((j+1:Nat):Int) by omega] at hA
   exact⟨kk - 1,by omega,j+1,by omega,hA,by rw[hl1,List.take_add_one,hx];rfl,HB⟩
 case nL=>
  have hjn:j=n:=by simp at hq;omega
  subst hjn
  rw[←hl,List.take_length] at hleft
  replace hA:=hA.keepN []
  refine wp_exit (xT (xT (xB (nT (wS (wR ?_))))))
  revert a;refine wo rfl rfl (by decide) (fun ev e h=>by simp[go_sem,h]<;>rfl) ?_;intro a hA
  replace hA:=hA.keepN [4]
  refine wN (nT (wp_ret ?_))
  refine ab hA 4 rfl rfl ?_
  exact⟨_,rfl, .inl ⟨rfl,hleft⟩,HB⟩
theorem vx (pn B:Nat) (k:Int) (e:Nat) (nm:ByteArray) (m:aU) (A:Option Addr) (c n:Nat) (l:List eR) (w:World) (Kn:aI w pn 66 (fQ k e nm m)) (hBw:B≤w.heap.size) (hn:n≤16000000) (hl:l.length=n) (ho:ac dA B w (.slice A n c) l):
 Calls Tryz.prog 101 #[.slice A n c,BE pn] w
  fun ev w'=>∃v,ev= .returned v∧ac dA B w' v (k8 e m.uid l)∧fc (fun i=>(Value.slice A n c).ownBlock=some i) w w':=by
 have hrr:bu dA w A l:=by
  obtain⟨A',c',e',hm,_⟩:=ho.reads
  injection e' with e1 _ e3
  subst e1
  exact hm
 have Idx:=zY pn k e nm m A c n l w Kn hl hn hrr
 unfold BE at Idx ⊢
 refine aK 42 Tryz.func101 rfl rfl (Nat.le_of_ble_eq_true rfl) ?_
 intro a hA;replace hA:=hA.norm
 refine wS (wR ?_)
 revert a;refine wo rfl rfl (by decide) (fun ev e h=>by simp[go_sem,h]<;>rfl) ?_;intro a hA
 replace hA:=hA.keepN [0,1]
 refine wN (nT (wS (wR ?_)))
 revert a;(iterate 2 refine wo rfl rfl (by decide) (fun ev e h=>by simp[go_sem,h]<;>rfl) ?_);intro a hA
 refine aC hA rfl rfl (by decide) (fun ev h=>aB Tryz.func122 (by kernel_rfl) rfl (h.f _) (by first|(simp only[mL,h.get 8 rfl,h.get 9 rfl,h.c]<;>rfl)|(simp[mL,h.get 8 rfl,h.get 9 rfl,h.c]<;>rfl))) (Idx) ?_
 rintro e w1 ⟨r,rfl,hI,hb1⟩
 refine⟨_,rfl,fun a hA=> ?_⟩
 revert a;refine wo rfl rfl (by decide) (fun ev e h=>by simp[go_sem,h]<;>rfl) ?_;intro a hA
 replace hA:=hA.keepN [0,1,5]
 refine wN (nT (wS (wS (wR ?_))))
 revert a;(iterate 2 refine wo rfl rfl (by decide) (fun ev e h=>by simp[go_sem,h]<;>rfl) ?_);intro a hA
 replace hA:=hA.keepN [0,1,5,12]
 refine wN (nT ?_)
 refine aH hA 12 _ rfl (fun hq=> ?yA) (fun hq=> ?nA)
 case yA=>
  have hr1:r= -1:=by simpa using hq
  refine wS (wR ?_)
  revert a;(iterate 2 refine wo rfl rfl (by decide) (fun ev e h=>by simp[go_sem,h]<;>rfl) ?_);intro a hA
  replace hA:=hA.keepN [4]
  refine wN (nT (wp_ret (rT ?_)))
  refine ab hA 4 rfl rfl ?_
  rcases hI with⟨_,h1⟩|⟨i,_,h1,_⟩
  ·refine⟨_,rfl,by rw[h1];exact ho.below hb1, ?_⟩
   exact(fc.refl _ w).below hb1
  ·omega
 case nA=>
  have hr1:¬r= -1:=by simpa using hq
  obtain⟨i0,hi0,hr0,hleft0⟩:∃i:Nat,i<n∧r=(i:Nat)∧k8 e m.uid (l.take (i+1))=l.take i:=by
   rcases hI with⟨h,_⟩|h
   ·exact absurd h hr1
   ·exact h
  clear hI hq hr1 Idx
  subst hr0
  obtain⟨g,cc,hv,hgB,hglt⟩:=ho.at_ (by omega)
  injection hv with hv1 _ hv3
  subst hv1 hv3
  have hgpn:g≠pn:=eu ho.row Kn (by decide) g rfl
  have hoffS:∀x∈l,∀p∈dA.parts x,0<p.2.length→∀ad,p.1=some ad→¬(ad.block=g):=fun x hx p hp hn ad ha h=>ho.off g rfl x hx p hp hn ad ha h
  have hap:fc (fun q=>q=g) w w1:=(fc.refl _ w).below hb1
  have ho1:=ho.below hb1
  have hwi:IntKind.i64.wrap ((i0:Int)+1)=(i0:Int)+1:=IntWalk.i64_in _ (by omega)
  refine wp_skip (nT (wS (wS (wR ?_))))
  revert a;(iterate 3 refine wo rfl rfl (by decide) (fun ev e h=>by simp[go_sem,h,hwi]<;>rfl) ?_);intro a hA
  replace hA:=hA.keepN [0,1,5,6]
  refine wN (nT (wB ?_))
  rw[show((i0:Int)+1)=((i0+1:Nat):Int) by omega] at hA
  refine aQ (fun kk a wx=>∃(i j:Nat) (l':List eR),j+kk=n∧i<j∧At 42 [(0, .slice (some ⟨g,0,none⟩) n c),(1, .func (.func 102) #[] #[.pointer (some ⟨pn,0,none⟩)]),(5, .int .i64 (i:Nat)),(6, .int .i64 (j:Nat))] a∧ac dA B wx (.slice (some ⟨g,0,none⟩) n c) l'∧l'.take i=k8 e m.uid (l.take j)∧l'.drop j=l.drop j∧(∀x∈l',x∈l)∧fc (fun q=>q=g) w wx) (n - (i0+1)) ?_ ?_
  ·exact⟨i0,i0+1,l,by omega,by omega,hA,ho1,hleft0.symm,rfl,fun _ h=>h,hap⟩
  clear hap ho1 hleft0
  rintro kk a wx ⟨i,j,l',hjk,hij,hA,ho',htake,hdrop,hmem,hap⟩
  have hlen':l'.length=n:=ho'.len
  have hBb:Below B w wx:=hap.toBelow (fun q hq=>by omega) hBw
  have hsz:=hap.size
  refine wS (wS (wR ?_))
  revert a;(iterate 4 refine wo rfl rfl (by decide) (fun ev e h=>by simp[go_sem,h]<;>rfl) ?_);intro a hA
  replace hA:=hA.keepN [0,1,5,6,19]
  refine wN (nT ?_)
  refine aH hA 19 _ rfl (fun hq=> ?yL) (fun hq=> ?nL)
  case yL=>
   have hlt:j<n:=by simp at hq;omega
   obtain⟨x,hx⟩:∃x,l[j]?=some x:=⟨_,List.getElem?_eq_getElem (by omega)⟩
   have hx':l'[j]?=some x:=by
    have h1:=congrArg List.head? hdrop
    rwa [List.head?_drop,List.head?_drop,hx] at h1
   obtain⟨y,hy⟩:∃y,l'[i]?=some y:=⟨_,List.getElem?_eq_getElem (by omega)⟩
   have hfr:=ho'.row
   rw[ho'.len] at hfr
   have cell:∀{q z},l'[q]?=some z→∀d u,(mV z)[d]?=some u→d<6→wx.cell? ⟨g,q*6+d,none⟩=some u:=fun{q z} hz d u hu hd=>by
    rw[hfr.cellAt _ (by have:=(List.getElem?_eq_some_iff.1 hz).1;show _<n*6;omega)]
    exact(je dA.len l' q d z hz hd).trans hu
   have k0:wx.cell? ⟨g,j*6,none⟩=some (.int .u32 (x.m.uid:Nat)):=cell hx' 0 _ rfl (by decide)
   have k1:=cell hx' 1 _ rfl (by decide)
   have k2:=cell hx' 2 _ rfl (by decide)
   have k3:=cell hx' 3 _ rfl (by decide)
   have k4:=cell hx' 4 _ rfl (by decide)
   have k5:=cell hx' 5 _ rfl (by decide)
   have jj0:(0:Int)≤(j:Int):=by omega
   have jj1:(j:Int)<(n:Int):=by omega
   have ii0:(0:Int)≤(i:Int):=by omega
   have ii1:(i:Int)<(n:Int):=by omega
   have hwj:IntKind.i64.wrap ((j:Int)+1)=(j:Int)+1:=IntWalk.i64_in _ (by omega)
   have hwi:IntKind.i64.wrap ((i:Int)+1)=(i:Int)+1:=IntWalk.i64_in _ (by omega)
   have hl1:=qu (ep:=e) (uid:=m.uid) hx
   refine wp_skip (nT (wS (wB (wS (wR ?_)))))
   revert a;(iterate 4 refine wo rfl rfl (by decide) (fun ev e h=>by simp[go_sem,h,aS,k0,k1,k2,k3,k4,k5,jj0,jj1]<;>rfl) ?_);intro a hA
   refine ap [.int .u32 (x.m.uid:Nat), .int .i64 x.m.date, .int .i64 x.m.flags, .slice x.m.a x.m.b.length x.m.c, .int .u32 (x.ep:Nat), .int .i64 (x.at_:Nat)] hA rfl rfl (by decide) (fun ev h=>by simp[go_sem,aS,k0,k1,k2,k3,k4,k5,jj0,jj1];try first|exact⟨rfl,rfl⟩|rfl) rfl rfl (by rfl) (fun w1 g ev hb h=>by simp[go_sem,h.get 7 rfl,h.get 25 rfl,aS,k0,k1,k2,k3,k4,k5,jj0,jj1,setAll,hb.cell,hb.frozen]) fun w5 a (K7:aI _ _ _ _) hz5 hb5 hA=> ?_
   replace ho':=ho'.below hb5
   replace hap:=hap.below hb5
   replace hBb:=hBb.trans (hb5.mono (Nat.le_trans hBw hsz))
   replace hA:=hA.keepN [0,1,5,6,7]
   refine wN (nT (wS (wR ?_)))
   revert a;(iterate 2 refine wo rfl rfl (by decide) (fun ev e h=>by simp[go_sem,h,K7.cell]<;>rfl) ?_);intro a hA
   refine aC hA rfl rfl (by decide) (fun ev h=>by simp[go_sem,h.get 26 rfl,h.get 27 rfl,K7.cell];try first|exact⟨rfl,rfl⟩|rfl) (tu pn k e nm m x _ (hap.blk Kn (fun h=>hgpn h.symm))) ?_
   rintro e w7 ⟨rfl,hb7⟩
   refine⟨_,rfl,fun a hA=> ?_⟩
   replace ho':=ho'.below hb7
   replace K7:=K7.below hb7 K7.lt
   replace hBb:=hBb.trans (hb7.mono (Nat.le_trans hBw hap.size))
   replace hap:=hap.below hb7
   revert a;refine wo rfl rfl (by decide) (fun ev e h=>by simp[go_sem,h,K7.cell]<;>rfl) ?_;intro a hA
   replace hA:=hA.keepN [0,1,5,6,7,29]
   refine wN (nT ?_)
   obtain⟨q,hqe⟩:∃q,pY e m.uid x=q:=⟨_,rfl⟩
   rw[hqe] at hA
   rw[hqe] at hl1
   have hdrop1:l'.drop (j+1)=l.drop (j+1):=by rw[←List.tail_drop,hdrop,List.tail_drop]
   have hmx:x∈l':=List.mem_of_getElem? hx'
   clear k0 k1 k2 k3 k4 k5 cell hfr
   refine aH hA 29 _ rfl (fun hq2=> ?yR) (fun hq2=> ?nR)
   case yR=>
    have hq2:q=false:=by simpa using hq2
    subst hq2
    rw[cond_false] at hl1
    have hfr:=ho'.row
    rw[ho'.len] at hfr
    obtain⟨h8,h9⟩:=ho'.put hy (ho'.octs x hmx) (ho'.off g rfl x hmx)
    have cell:∀{q z},l'[q]?=some z→∀d u,(mV z)[d]?=some u→d<6→w7.cell? ⟨g,q*6+d,none⟩=some u:=fun{q z} hz d u hu hd=>by
     rw[hfr.cellAt _ (by have:=(List.getElem?_eq_some_iff.1 hz).1;show _<n*6;omega)]
     exact(je dA.len l' q d z hz hd).trans hu
    have q0:w7.cell? ⟨g,i*6,none⟩=some (.int .u32 (y.m.uid:Nat)):=cell hy 0 _ rfl (by decide)
    have q1:=cell hy 1 _ rfl (by decide)
    have q2:=cell hy 2 _ rfl (by decide)
    have q3:=cell hy 3 _ rfl (by decide)
    have q4:=cell hy 4 _ rfl (by decide)
    have q5:=cell hy 5 _ rfl (by decide)
    have hap9:=hap.grown h9 (fun q hq=> .inr (Option.some.inj hq).symm)
    clear cell
    refine wS (wR ?_)
    revert a;(iterate 4 refine wo rfl rfl (by decide) (fun ev e h=>by simp[go_sem,h,aS,ii0,ii1,K7.cell,q0,q1,q2,q3,q4,q5,hfr.frozenAt]<;>rfl) ?_);intro a hA
    refine jP hA rfl rfl (fun ev h=>by simp[go_sem,h.get 33 rfl,h.get 32 rfl,aS,ii0,ii1,K7.cell,q0,q1,q2,q3,q4,q5,hfr.frozenAt];try first|exact⟨rfl,rfl⟩|rfl) ?_
    replace hA:=hA.keepN [0,1,5,6]
    refine wN (nT (wR ?_))
    revert a;(iterate 3 refine wo rfl rfl (by decide) (fun ev e h=>by simp[go_sem,h,hwi,hwj]<;>rfl) ?_);intro a hA
    replace hA:=hA.keepN [0,1,5,6]
    refine wN (nB (nT (wR ?_)))
    revert a;(iterate 3 refine wo rfl rfl (by decide) (fun ev e h=>by simp[go_sem,h,hwi,hwj]<;>rfl) ?_);intro a hA
    replace hA:=hA.keepN [0,1,5,6]
    refine wN (nT ?_)
    rw[show((j:Int)+1)=((j+1:Nat):Int) by omega,show((i:Int)+1)=((i+1:Nat):Int) by omega] at hA
    refine⟨kk - 1,by omega,i+1,j+1,_,by omega,by omega,hA,h8, ?_, ?_, ?_,hap9⟩
    ·rw[List.take_add_one,List.take_set_of_le (Nat.le_refl i),List.getElem?_set_self (by omega),htake,hl1];rfl
    ·rw[List.drop_set_of_lt (by omega)];exact hdrop1
    ·intro m' hm'
     rcases List.mem_or_eq_of_mem_set hm' with h|h
     ·exact hmem _ h
     ·subst h;exact hmem _ hmx
   case nR=>
    have hq2:q=true:=by simpa using hq2
    subst hq2
    rw[cond_true] at hl1
    refine wp_skip (nB (nT (wR ?_)))
    revert a;(iterate 3 refine wo rfl rfl (by decide) (fun ev e h=>by simp[go_sem,h,hwj]<;>rfl) ?_);intro a hA
    replace hA:=hA.keepN [0,1,5,6]
    refine wN (nT ?_)
    rw[show((j:Int)+1)=((j+1:Nat):Int) by omega] at hA
    exact⟨kk - 1,by omega,i,j+1,l',by omega,by omega,hA,ho',by rw[htake,hl1,List.append_nil],hdrop1,hmem,hap⟩
  case nL=>
   have hjn:j=n:=by simp at hq;omega
   subst hjn
   obtain⟨A9,c9,e9,_,hc9⟩:=ho'.reads
   injection e9 with _ _ e9
   subst e9
   rw[hlen'] at hc9
   have hij2:i≤j:=by omega
   have hci:¬c=i:=by omega
   have hjc:j≤c:=hc9
   obtain⟨w9,hcl,ho9,hg9⟩:=AI (d:=c - i) ho' hij (by rfl)
   have hcl:∀ty,(Builtin.clear_ #[75] ty #[.slice (some ⟨g,i*6,none⟩) (j - i) (c - i)]).run Tryz.prog wx= .ok (.tuple #[]) w9:=hcl
   have hap9:=hap.grown hg9 (fun q hq=> .inr (Option.some.inj hq).symm)
   rw[←hl,List.take_length] at htake
   rw[htake] at ho9
   have hic:i≤c:=by omega
   replace hA:=hA.keepN [0,5]
   refine wp_exit (xT (xT (xB (nT (wS (wR ?_))))))
   revert a;(iterate 3 refine wo rfl rfl (by decide) (fun ev e h=>by simp[go_sem,h,aS,hij2,hci,hjc]<;>rfl) ?_);intro a hA
   refine G3 hA rfl rfl (fun ev h=>by simp[go_sem,h.get 38 rfl,aS,hij2,hci,hjc,hcl];try first|exact⟨rfl,rfl⟩|rfl) ?_
   replace hA:=hA.keepN [0,5]
   refine wN (nT (wS (wR ?_)))
   revert a;(iterate 4 refine wo rfl rfl (by decide) (fun ev e h=>by simp[go_sem,h,hic,aS]<;>rfl) ?_);intro a hA
   replace hA:=hA.keepN [4]
   refine wN (nT (wp_ret ?_))
   refine ab hA 4 rfl rfl ?_
   refine⟨_,rfl,ho9,hap9.mono' fun q hq=> ?_⟩
   rw[hq];rfl
end Go.Proofs.YtclcfkaphlopeaaGreatDoor
namespace Go.Proofs.YtclcfkaphlopeaaGreatDoor
def be :Nat→Nat→List UInt8
 |0,_=>[]
 |n+1,v=>UInt8.ofNat (v/256^n)::be n v
theorem aO :∀n v,(be n v).length=n
 |0,_=>rfl
 |n+1,v=>by rw[be,List.length_cons,aO n v]
theorem Ay :∀n v,be (n+1) v=be n (v/256)++[UInt8.ofNat v]
 |0,v=>by simp[be]
 |n+1,v=>by
  rw[be,Ay n v,be,List.cons_append]
  congr 2
  rw[Nat.div_div_eq_div_mul,Nat.pow_succ,Nat.mul_comm]
def dL (l:List UInt8):Nat:=l.foldl (fun a c=>a*256+c.toNat) 0
theorem kD (l:List UInt8) (c:UInt8):dL (l++[c])=dL l*256+c.toNat:=by simp[dL,List.foldl_append]
theorem jc (l:List UInt8):dL l<256^l.length:=by
 suffices h:∀(n:Nat) (l:List UInt8),l.length=n→dL l<256^n from h _ l rfl
 intro n
 induction n with
 |zero=>intro l h;rw[List.length_eq_zero_iff.1 h];decide
 |succ n ih=>
  intro l h
  have hne:l≠[]:=by intro e;rw[e] at h;cases h
  have e:=(List.dropLast_concat_getLast hne).symm
  have hd:l.dropLast.length=n:=by rw[List.length_dropLast];omega
  have h1:=ih _ hd
  have h2:=(l.getLast hne).toNat_lt
  rw[e,kD,Nat.pow_succ]
  omega
theorem qJ :∀n v,v<256^n→dL (be n v)=v
 |0,v,h=>by simp at h;subst h;rfl
 |n+1,v,h=>by
  rw[Ay,kD,qJ n (v/256) (by rw[Nat.pow_succ] at h;exact Nat.div_lt_of_lt_mul (by omega))]
  have:(UInt8.ofNat v).toNat=v%256:=by simp
  omega
def fZ (c:Nat):Nat:=if c%2=1 then(c/2)^^^3988292384 else c/2
def fW :Nat→Nat→Nat
 |0,c=>c
 |n+1,c=>fW n (fZ c)
def iU (c:Nat) (x:UInt8):Nat:=fW 8 (c^^^x.toNat)
def nb (c:Nat) (l:List UInt8):Nat:=l.foldl iU c
def sG (l:List UInt8):Nat:=nb 4294967295 l^^^4294967295
theorem Bw {c:Nat} (h:c<2^32):fZ c<2^32:=by
 unfold fZ
 have:c/2<2^32:=by omega
 split
 ·exact Nat.xor_lt_two_pow this (by decide)
 ·exact this
theorem ma :∀(n:Nat) {c:Nat},c<2^32→fW n c<2^32
 |0,_,h=>h
 |n+1,_,h=>ma n (Bw h)
theorem zE {c:Nat} (h:c<2^32) (x:UInt8):iU c x<2^32:=
 ma 8 (Nat.xor_lt_two_pow h (by have:=x.toNat_lt;omega))
theorem kw :∀(l:List UInt8) {c:Nat},c<2^32→nb c l<2^32
 |[],_,h=>h
 |x::r,_,h=>kw r (zE h x)
theorem Gv (l:List UInt8):sG l<2^32:=Nat.xor_lt_two_pow (kw l (by decide)) (by decide)
theorem zG (c:Nat) (l:List UInt8) (x:UInt8):nb c (l++[x])=iU (nb c l) x:=by simp[nb,List.foldl_append]
theorem kF :∀(n c:Nat),fW (n+1) c=fZ (fW n c)
 |0,_=>rfl
 |n+1,c=>by
  show fW (n+1) (fZ c)=fZ (fW n (fZ c))
  exact kF n (fZ c)
def jZ (c bit:Nat):Nat:=if(c%2)^^^bit=1 then(c/2)^^^3988292384 else c/2
def gI (x:Nat):Nat→Nat→Nat
 |0,c=>c
 |n+1,c=>jZ (gI x n c) (x/2^n%2)
theorem F0 (a b:Nat):(a^^^b)%2=(a%2)^^^(b%2):=by
 have:=Nat.xor_mod_two_pow (a:=a) (b:=b) (n:=1)
 simpa using this
theorem FZ (a b:Nat):(a^^^b)/2=(a/2)^^^(b/2):=by
 have:=Nat.xor_div_two_pow (a:=a) (b:=b) (n:=1)
 simpa using this
theorem sl (x c:Nat):∀n,fW n (c^^^x)=gI x n c^^^(x/2^n)
 |0=>by simp[fW,gI]
 |n+1=>by
  rw[kF,sl x c n]
  show fZ _=jZ (gI x n c) (x/2^n%2)^^^_
  generalize gI x n c=r
  unfold fZ jZ
  rw[F0,FZ,Nat.div_div_eq_div_mul,←Nat.pow_succ]
  split
  ·rw[Nat.xor_assoc,Nat.xor_assoc,Nat.xor_comm (x/2^(n+1))]
  ·rfl
theorem Bm (c:Nat) (x:UInt8):gI x.toNat 8 c=iU c x:=by
 unfold iU
 rw[sl,Nat.div_eq_of_lt (by have:=x.toNat_lt;omega),Nat.xor_zero]
def df (k:Nat) (p:List UInt8):List UInt8:=[112,97,103,UInt8.ofNat k]++be 4 p.length++p
def cy (k:Nat) (p:List UInt8):List UInt8:=df k p++be 4 (sG (df k p))
theorem ke (k:Nat) (p:List UInt8):(df k p).length=p.length+8:=by
 unfold df;simp[aO];omega
theorem kP (k:Nat) (p:List UInt8):(cy k p).length=p.length+12:=by
 unfold cy;rw[List.length_append,ke,aO]
def iC (b:List UInt8):List UInt8:=(b.drop 8).take (b.length - 12)
theorem zi (k:Nat) (p:List UInt8):iC (cy k p)=p:=by
 unfold iC
 rw[kP]
 unfold cy
 generalize sG (df k p)=c
 unfold df
 rw[List.append_assoc,List.drop_left' (by simp[aO])]
 exact List.take_left' (by simp)
def dC (k:Nat) (b:List UInt8):Option (List UInt8):=if 12≤b.length∧(iC b).length≤60000∧cy k (iC b)=b then some (iC b) else none
theorem uj {k:Nat} {p:List UInt8} (h:p.length≤60000):dC k (cy k p)=some p:=by
 unfold dC
 rw[zi,if_pos ⟨by rw[kP];omega,h,rfl⟩]
def iG (s:ByteArray):List UInt8:=be 2 s.size++s.data.toList
structure l5 where
 rest:List UInt8
 bad:Bool
def cK (s:l5) (n:Int):List UInt8×l5:=
 if s.bad=true then([],s) else if n<0∨(s.rest.length:Int)<n then([],⟨[],true⟩) else(s.rest.take n.toNat,⟨s.rest.drop n.toNat,false⟩)
def eW (s:l5) (n:Nat):Nat×l5:=(dL (cK s n).1,(cK s n).2)
def ir (s:l5):ByteArray×l5:=(⟨(cK (eW s 2).2 (eW s 2).1).1.toArray⟩,(cK (eW s 2).2 (eW s 2).1).2)
theorem jU (l r:List UInt8) (n:Nat) (h:l.length=n):cK ⟨l++r,false⟩ n=(l,⟨r,false⟩):=by
 unfold cK
 rw[if_neg (by simp),if_neg (by simp;omega)]
 subst h
 simp
theorem kK (n v:Nat) (r:List UInt8) (h:v<256^n):eW ⟨be n v++r,false⟩ n=(v,⟨r,false⟩):=by
 unfold eW
 rw[jU _ _ n (aO n v),qJ n v h]
theorem uY (s:ByteArray) (r:List UInt8) (h:s.size<65536):ir ⟨iG s++r,false⟩=(s,⟨r,false⟩):=by
 unfold ir iG
 rw[List.append_assoc,kK 2 s.size _ (by omega)]
 simp only
 rw[jU _ _ s.size (by simp)]
def cH (x n:Nat):Nat:=(x>>>n|||x<<<(32 - n))%4294967296
theorem ca (x n:Nat):cH x n<4294967296:=Nat.mod_lt _ (by decide)
def fq :List Nat:=[
 0x428a2f98,0x71374491,0xb5c0fbcf,0xe9b5dba5,0x3956c25b,0x59f111f1,0x923f82a4,0xab1c5ed5,
 0xd807aa98,0x12835b01,0x243185be,0x550c7dc3,0x72be5d74,0x80deb1fe,0x9bdc06a7,0xc19bf174,
 0xe49b69c1,0xefbe4786,0x0fc19dc6,0x240ca1cc,0x2de92c6f,0x4a7484aa,0x5cb0a9dc,0x76f988da,
 0x983e5152,0xa831c66d,0xb00327c8,0xbf597fc7,0xc6e00bf3,0xd5a79147,0x06ca6351,0x14292967,
 0x27b70a85,0x2e1b2138,0x4d2c6dfc,0x53380d13,0x650a7354,0x766a0abb,0x81c2c92e,0x92722c85,
 0xa2bfe8a1,0xa81a664b,0xc24b8b70,0xc76c51a3,0xd192e819,0xd6990624,0xf40e3585,0x106aa070,
 0x19a4c116,0x1e376c08,0x2748774c,0x34b0bcb5,0x391c0cb3,0x4ed8aa4a,0x5b9cca4f,0x682e6ff3,
 0x748f82ee,0x78a5636f,0x84c87814,0x8cc70208,0x90befffa,0xa4506ceb,0xbef9a3f7,0xc67178f2]
def bn (n:Nat):Nat:=(119 - n%64)%64
def j6 (b:List UInt8):List UInt8:=b++[128]++List.replicate (bn b.length) 0++be 8 (b.length*8)
theorem mZ (b:List UInt8):(j6 b).length%64=0:=by
 unfold j6 bn
 simp only[List.length_append,List.length_cons,List.length_nil,List.length_replicate,aO]
 omega
def vA (x:Nat):Nat:=cH x 7^^^cH x 18^^^x>>>3
def vB (x:Nat):Nat:=cH x 17^^^cH x 19^^^x>>>10
def kS (w:List Nat) (i:Nat):Nat:=(w.getD (i - 16) 0+vA (w.getD (i - 15) 0)+w.getD (i - 7) 0+vB (w.getD (i - 2) 0))%4294967296
def jN (b:List UInt8) (i:Nat):Nat:=dL ((b.drop (4*i)).take 4)
def bT (b:List UInt8):Nat→List Nat
 |0=>[]
 |i+1=>bT b i++[if i<16 then jN b i else kS (bT b i) i]
theorem dh (b:List UInt8):∀n,(bT b n).length=n
 |0=>rfl
 |n+1=>by unfold bT;rw[List.length_append,dh b n];rfl
def uO (x:Nat):Nat:=cH x 6^^^cH x 11^^^cH x 25
def Dj (x:Nat):Nat:=cH x 2^^^cH x 13^^^cH x 22
def ik (e f g:Nat):Nat:=(e&&&f)^^^((4294967295 - e)&&&g)
def zl (a b c:Nat):Nat:=(a&&&b)^^^(a&&&c)^^^(b&&&c)
structure dH where
 a:Nat
 b:Nat
 c:Nat
 d:Nat
 e:Nat
 f:Nat
 g:Nat
 h:Nat
def dH.l (s:dH):List Nat:=[s.a,s.b,s.c,s.d,s.e,s.f,s.g,s.h]
def jL (k w:Nat) (s:dH):dH:=
 ⟨(s.h+uO s.e+ik s.e s.f s.g+k+w+Dj s.a+zl s.a s.b s.c)%4294967296,s.a,s.b,s.c,(s.d+(s.h+uO s.e+ik s.e s.f s.g+k+w))%4294967296,s.e,s.f,s.g⟩
def dT (w:List Nat) (s:dH):Nat→dH
 |0=>s
 |i+1=>jL (fq.getD i 0) (w.getD i 0) (dT w s i)
def pH (s t:dH):dH:=⟨(s.a+t.a)%4294967296,(s.b+t.b)%4294967296,(s.c+t.c)%4294967296,(s.d+t.d)%4294967296,(s.e+t.e)%4294967296,(s.f+t.f)%4294967296,(s.g+t.g)%4294967296,(s.h+t.h)%4294967296⟩
def rh (s:dH) (blk:List UInt8):dH:=pH (dT (bT blk 64) s 64) s
def AN :dH:=⟨0x6a09e667,0xbb67ae85,0x3c6ef372,0xa54ff53a,0x510e527f,0x9b05688c,0x1f83d9ab,0x5be0cd19⟩
def iF (all:List UInt8):Nat→dH
 |0=>AN
 |i+1=>rh (iF all i) ((all.drop (64*i)).take 64)
def cP (b:List UInt8):List UInt8:=(iF (j6 b) ((j6 b).length/64)).l.flatMap (be 4)
theorem sm {e:Nat} (he:e<2^32) (i:Nat):(4294967295 - e).testBit i=(decide (i<32)&& !e.testBit i):=by
 have h:=Nat.testBit_two_pow_sub_succ he i
 rw[show 2^32 - (e+1)=4294967295 - e by omega] at h
 exact h
theorem GB (a b c:Nat):(a&&&b)|||(a&&&c)|||(b&&&c)=zl a b c:=by
 apply Nat.eq_of_testBit_eq
 intro i
 unfold zl
 simp only[Nat.testBit_or,Nat.testBit_and,Nat.testBit_xor]
 cases a.testBit i<;>cases b.testBit i<;>cases c.testBit i<;>rfl
theorem zC {e f g:Nat} (he:e<2^32) (hg:g<2^32):(e&&&f)|||((4294967295^^^e)&&&g)=ik e f g:=by
 apply Nat.eq_of_testBit_eq
 intro i
 unfold ik
 have h1:(4294967295:Nat).testBit i=decide (i<32):=by
  have:=Nat.testBit_two_pow_sub_one 32 i
  simpa using this
 simp only[Nat.testBit_or,Nat.testBit_and,Nat.testBit_xor,sm he,h1]
 by_cases hi:i<32
 ·simp only[hi,decide_true,Bool.true_and]
  cases e.testBit i<;>cases f.testBit i<;>cases g.testBit i<;>rfl
 ·have hg2:g.testBit i=false:=Nat.testBit_lt_two_pow (Nat.lt_of_lt_of_le hg (Nat.pow_le_pow_right (by omega) (by omega)))
  have he2:e.testBit i=false:=Nat.testBit_lt_two_pow (Nat.lt_of_lt_of_le he (Nat.pow_le_pow_right (by omega) (by omega)))
  simp[hi,hg2,he2]
theorem Et {x n:Nat} (hx:x<4294967296):(x<<<(32 - n))%4294967296|||x>>>n=cH x n:=by
 unfold cH
 have h1:x>>>n<4294967296:=Nat.lt_of_le_of_lt (by rw[Nat.shiftRight_eq_div_pow];exact Nat.div_le_self _ _) hx
 rw[show(4294967296:Nat)=2^32 from rfl] at*
 rw[Nat.or_mod_two_pow,Nat.mod_eq_of_lt h1,Nat.or_comm]
def ef (k:Nat) (p:List UInt8):List UInt8:=[99,117,98,UInt8.ofNat k]++be 4 p.length
def dr (k:Nat) (p:List UInt8):List UInt8:=ef k p++be 4 (sG (ef k p))++cP p++p
theorem dH.l_len (s:dH):(s.l.flatMap (be 4)).length=32:=by
 simp[dH.l,aO]
theorem bK (b:List UInt8):(cP b).length=32:=dH.l_len _
theorem im (k:Nat) (p:List UInt8):(ef k p).length=8:=by unfold ef;simp[aO]
theorem gx (k:Nat) (p:List UInt8):(dr k p).length=44+p.length:=by
 unfold dr;simp[aO,im,bK];omega
def cE (b:List UInt8):Nat:=(b.getD 3 0).toNat
def cD (b:List UInt8):Nat:=dL ((b.drop 4).take 4)
def jg (b:List UInt8):Nat:=dL ((b.drop 8).take 4)
def ah (b:List UInt8):Bool:=decide (44≤b.length)&&(b.take 3==[99,117,98])&&(decide (1≤cE b)&&decide (cE b≤3)&&decide (cD b≤30000)&&(jg b==sG (b.take 8)))
theorem fb {b:List UInt8} (h:ah b=true):44≤b.length:=by
 unfold ah at h
 simp only[Bool.and_eq_true,decide_eq_true_eq] at h
 exact h.1.1
theorem kJ {b:List UInt8} (h:b.length<44):ah b=false:=by
 cases hb:ah b with
 |false=>rfl
 |true=>have:=fb hb;omega
structure ig where
 at_:Nat
 kind:Nat
 b:List UInt8
def cA (b:List UInt8):List UInt8:=(b.drop 44).take (cD b)
def ed (b:List UInt8) (at_:Nat):List ig:=bif cP (cA (b.drop at_))==((b.drop at_).drop 12).take 32 then[⟨at_,cE (b.drop at_),cA (b.drop at_)⟩] else[]
def cC (b:List UInt8) (at_ torn:Nat) (l:List ig):List ig×Nat:=
 if h:at_<b.length then
  if ah (b.drop at_)=true then
   if cD (b.drop at_)+44+at_>b.length then(l,at_)
   else cC b (at_+44+cD (b.drop at_)) (at_+44+cD (b.drop at_)) (l++ed b at_)
  else cC b (at_+1) torn l
 else(l,torn)
termination_by b.length - at_
def gP (b:List UInt8):List ig×Nat:=cC b 0 0 []
section
variable {b:List UInt8} {at_ torn:Nat} {l:List ig}
theorem dy (h:b.length≤at_):cC b at_ torn l=(l,torn):=by
 rw[cC,dif_neg (by omega)]
theorem ic (h:ah (b.drop at_)=true) (h2:b.length<cD (b.drop at_)+44+at_):cC b at_ torn l=(l,at_):=by
 have h3:=fb h
 rw[List.length_drop] at h3
 rw[cC,dif_pos (by omega),if_pos h,if_pos h2]
theorem jD (h:ah (b.drop at_)=true) (h2:cD (b.drop at_)+44+at_≤b.length):cC b at_ torn l=cC b (at_+44+cD (b.drop at_)) (at_+44+cD (b.drop at_)) (l++ed b at_):=by
 have h3:=fb h
 rw[List.length_drop] at h3
 rw[cC,dif_pos (by omega),if_pos h,if_neg (by omega)]
theorem ib (h:ah (b.drop at_)=false) (h2:at_<b.length):cC b at_ torn l=cC b (at_+1) torn l:=by
 rw[cC,dif_pos h2,if_neg (by rw[h];decide)]
theorem oz :∀(k at_:Nat),(∀j,at_≤j→j<at_+k→ah (b.drop j)=false)→at_+k≤b.length→cC b at_ torn l=cC b (at_+k) torn l
 |0,_,_,_=>rfl
 |k+1,at_,h,hl=>by
  rw[ib (h at_ (Nat.le_refl _) (by omega)) (by omega)]
  have:=oz k (at_+1) (fun j h1 h2=>h j (by omega) (by omega)) (by omega)
  rw[this]
  congr 1
  omega
theorem DD (h:∀j,at_≤j→ah (b.drop j)=false):cC b at_ torn l=(l,torn):=by
 rcases Nat.lt_or_ge at_ b.length with h1|h1
 ·rw[oz (b.length - at_) at_ (fun j h2 _=>h j h2) (by omega)]
  exact dy (by omega)
 ·exact dy h1
end
theorem fi (k:Nat) (p r:List UInt8):dr k p++r=[99,117,98,UInt8.ofNat k]++(be 4 p.length++(be 4 (sG (ef k p))++(cP p++(p++r)))):=by
 unfold dr ef
 simp only[List.append_assoc]
theorem oX (l:List UInt8):sG l<4294967296:=by
 unfold sG
 exact Nat.xor_lt_two_pow (n:=32) (kw _ (by decide)) (by decide)
theorem si (n v:Nat) (h:v<256^n):dL (be n v)=v:=by
 exact qJ n v h
theorem zO {k:Nat} {p:List UInt8} (r:List UInt8) (h1:1≤k) (h2:k≤3) (hp:p.length≤30000):ah (dr k p++r)=true∧cE (dr k p++r)=k∧cD (dr k p++r)=p.length∧cA (dr k p++r)=p∧((dr k p++r).drop 12).take 32=cP p:=by
 have e1:cE (dr k p++r)=k:=by
  rw[fi]
  unfold cE
  show(UInt8.ofNat k).toNat=k
  simp;omega
 have e2:cD (dr k p++r)=p.length:=by
  rw[fi]
  unfold cD
  rw[List.drop_left' (by rfl),List.take_left' (aO _ _)]
  exact si 4 _ (by show _<4294967296;omega)
 have e3:jg (dr k p++r)=sG (ef k p):=by
  rw[fi]
  unfold jg
  rw[←List.append_assoc,List.drop_left' (by simp[aO]),List.take_left' (aO _ _)]
  exact si 4 _ (oX _)
 have e4:(dr k p++r).take 8=ef k p:=by
  unfold dr
  rw[List.append_assoc,List.append_assoc,List.append_assoc,List.take_left' (im k p)]
 have e5:(dr k p++r).take 3=[99,117,98]:=by rw[fi];rfl
 refine⟨?_,e1,e2, ?_, ?_⟩
 ·unfold ah
  rw[e1,e2,e3,e4,e5,List.length_append,gx]
  simp[h1,h2,hp]
  omega
 ·unfold cA
  rw[e2,fi,←List.append_assoc,←List.append_assoc,←List.append_assoc,List.drop_left' (by simp[aO,bK]),List.take_left' rfl]
 ·rw[fi,←List.append_assoc,←List.append_assoc,List.drop_left' (by simp[aO]),List.take_left' (bK p)]
theorem AJ {b r:List UInt8} {k at_ torn:Nat} {p:List UInt8} {l:List ig} (hb:b.drop at_=dr k p++r) (h1:1≤k) (h2:k≤3) (hp:p.length≤30000):cC b at_ torn l=cC b (at_+44+p.length) (at_+44+p.length) (l++[⟨at_,k,p⟩]):=by
 obtain⟨e1,e2,e3,e4,e5⟩:=zO r h1 h2 hp
 have hl:=congrArg List.length hb
 rw[List.length_drop,List.length_append,gx] at hl
 rw[←hb] at e1 e2 e3 e4 e5
 rw[jD e1 (by rw[e3];omega),e3]
 congr 2
 unfold ed
 rw[e4,e5,e2]
 simp
end Go.Proofs.YtclcfkaphlopeaaGreatDoor
namespace Go.Proofs.YtclcfkaphlopeaaGreatDoor
open Go.RowKit
theorem vn {w:World} {B n:Nat} {A:Option Addr} {l:List UInt8} (hl:l.length=n) (hr:aE w B 1 A n (ar l)):Lib.BytesIn w A n (gQ l):=by
 cases A with
 |none=>
  obtain⟨rfl,rfl⟩:=hr.empty8
  exact Lib.BytesIn.nil _ _ _
 |some a=>exact Lib.BytesIn.of_cells (nr hl hr)
theorem gV (A1 A2:Option Addr) (n c m d:Nat) (l1 l2:List UInt8) (w:World) (h1:l1.length=n) (h2:l2.length=m) (r1:aE w w.heap.size 1 A1 n (ar l1)) (r2:aE w w.heap.size 1 A2 m (ar l2)):
 Calls Tryz.prog 36 #[.slice A1 n c, .slice A2 m d] w fun e w'=>e= .returned (.bool (l1==l2))∧w'=w:=by
 have h:=Tryz.bytes_Equal_all A1 A2 n c m d (gQ l1) (gQ l2) w (by simpa[gQ] using h1) (by simpa[gQ] using h2) (vn h1 r1) (vn h2 r2)
 rw[gu,gu] at h
 exact h
theorem G1 (l:List UInt8) (i:Nat) (c:UInt8):ar (l.set i c)=(ar l).set i (.int .u8 ((c.toNat:Nat):Int)):=by simp[ar,List.map_set]
theorem F2 (m j v:Nat):(List.replicate (m+1) (0:UInt8)++be j v).set m (UInt8.ofNat (v/256^j))=List.replicate m 0++be (j+1) v:=by
 rw[List.replicate_succ',List.append_assoc,List.set_append_right _ _ (by simp)]
 simp[be]
theorem Gc (n:Nat):madeCells (Value.int IntKind.u8 0).cells n=(ar (List.replicate n 0)).toArray:=by
 unfold madeCells ar
 apply Array.ext
 ·simp
 ·intro i h1 h2;simp[Value.cells,Nat.mod_one]
theorem oJ (v n:Nat) (hv:v<18446744073709551616) (hn:n≤1000) (w:World):
 Calls Tryz.prog 90 #[.int .u64 (v:Nat), .int .i64 (n:Nat)] w fun e w'=>∃r,e= .returned r∧w'.ownsRow w.heap.size 5 1 r n (ar (be n v))∧Below w.heap.size w w':=by
 obtain⟨i0,hi0,hz0,hz1,hz2⟩:=eK mG
 have hmk:=mX (P:=Tryz.prog) 22 5 i0 (.int .u8 0) Tryz.underlying22 hi0 hz0 .i64 .i64 n n (Nat.le_refl _) (by rw[hz2];omega) (by omega) w
 rw[hz1,Nat.mul_one,Gc] at hmk
 have hown:(w.alloc (.cells (ar (List.replicate n 0)).toArray 5)).ownsRow w.heap.size 5 1 (.slice (some ⟨w.heap.size,0,none⟩) n n) n (ar (List.replicate n 0++be 0 v)):=by
  have:=World.ownsRow_lit (base:=w.heap.size) (e:=5) (size:=1) w (ar (List.replicate n 0)).toArray n (Nat.le_refl _) (by unfold maxLen;omega) (by simp[ar])
  simpa[be] using this
 have HO:=Lib.hid hown
 have HB:=Lib.hid ((Below.refl w.heap.size w).alloc (Nat.le_refl _) (.cells (ar (List.replicate n 0)).toArray 5))
 obtain⟨g,hg⟩:∃g,w.heap.size=g:=⟨_,rfl⟩
 rw[hg] at HO
 have HG:=Lib.hid hg
 clear hown
 go_enter Tryz.func90,Tryz.ntmps90
 go_wp2
 clear hg hmk
 go_loopw [0,6] (fun z i wr=>∃(m j vj:Nat),m+j=n∧i= .int .i64 ((m:Int) - 1)∧z= .int .u64 (vj:Nat)∧Hid (vj=v/256^j)∧Hid (wr.ownsRow g 5 1 (.slice (some ⟨g,0,none⟩) n n) n (ar (List.replicate m 0++be j v)))∧Hid (Below w.heap.size w wr)) (fun _ i _=>(intOf i+1).toNat)
 case atStart=>exact⟨n,0,v,by omega,rfl,rfl,by show v=_;simp,HO,HB⟩
 case round=>
  obtain⟨m,j,vj,hmj,rfl,rfl,hvj,ho,hb⟩:=hrel
  rcases m with _|m
  ·go_wp2
   go_ret
   have hj:j=n:=by omega
   subst hj
   refine⟨_,rfl, ?_,hb.out⟩
   have:=ho.out
   rw[HG.out]
   simpa using this
  ·have hc0:wr.cell? ⟨g,m,none⟩=some (.int .u8 0):=by
    rw[ho.out.cellAt m (by omega),dp,List.getElem?_append_left (by simp)]
    simp
   have hf0:=ho.out.frozenAt m
   have hvl:vj<18446744073709551616:=by rw[hvj.out];exact Nat.lt_of_le_of_lt (Nat.div_le_self _ _) hv
   have hst:=(ho.out.stored m (.int .u8 (((UInt8.ofNat (v/256^j)).toNat:Nat):Int)))
   rw[←G1,F2,←hvj.out] at hst
   have hs8:(((UInt8.ofNat vj).toNat:Nat):Int)=(vj:Int)%256:=by simp
   rw[hs8] at hst
   have HS:=Lib.hid hst.1
   have hb2:=hb.out.grown hst.2 (by have:=HB.out.size;exact hb.out.size) (fun k hk=>by injection hk with hk;have:=HG.out;omega)
   have HB2:=Lib.hid hb2
   have HV2:Hid (vj/256=v/256^(j+1)):=by rw[hvj.out,Nat.div_div_eq_div_mul,←Nat.pow_succ];exact rfl
   have e:(((m+1:Nat):Int) - 1)=(m:Int):=by omega
   have m0:(0:Int)≤(m:Int):=by omega
   have m1:(m:Int)<(n:Int):=by omega
   rw[e]
   clear hst hb2 hvj e hs8
   go_wp2
   go_roundw
   case rel=>exact⟨m,j+1,vj/256,by omega,by first|go_num|rfl,by rw[Int.natCast_ediv];rfl,HV2,HS,HB2⟩
   case measure=>simp[intOf]
def pM (w:World) (g:Nat):Prop:=∃cs p,w.heap[g]?=some (.cells cs 5 p)
theorem pM.same {w w':World} {g:Nat} (h:pM w g) (e:w'.heap[g]?=w.heap[g]?):pM w' g:=by
 obtain⟨cs,p,hg⟩:=h
 exact⟨cs,p,e.trans hg⟩
theorem tT {w:World} {g:Nat} {o:Obj} (h:w.heap[g]?=some o):g<w.heap.size:=by
 rcases Nat.lt_or_ge g w.heap.size with h'|h'
 ·exact h'
 ·rw[Array.getElem?_eq_none h'] at h;cases h
theorem pM.lt {w:World} {g:Nat} (h:pM w g):g<w.heap.size:=by
 obtain⟨cs,p,hg⟩:=h
 exact tT hg
structure fp (B o:Nat) (w w':World):Prop where
 os:w'.os=w.os
 tape:w'.tape=w.tape
 output:w'.output=w.output
 size:w.heap.size≤w'.heap.size
 block:∀i,i<w.heap.size→i≠o→(i<B∨¬pM w i)→w'.heap[i]?=w.heap[i]?
section
variable {B o:Nat} {w w' w'':World}
theorem fp.refl (B o:Nat) (w:World):fp B o w w:=⟨rfl,rfl,rfl,Nat.le_refl _,fun _ _ _ _=>rfl⟩
theorem fp.trans (h:fp B o w w') (k:fp B o w' w''):fp B o w w'':=by
 refine⟨k.os.trans h.os,k.tape.trans h.tape,k.output.trans h.output,Nat.le_trans h.size k.size,fun i hi h1 h2=> ?_⟩
 have e:=h.block i hi h1 h2
 refine(k.block i (Nat.lt_of_lt_of_le hi h.size) h1 ?_).trans e
 rcases h2 with h2|h2
 ·exact .inl h2
 ·exact .inr fun hf=>h2 (hf.same e.symm)
theorem fp.of_below (k:Below w.heap.size w w'):fp B o w w':=⟨k.os,k.tape,k.output,k.size,fun i hi _ _=>k.block i hi⟩
theorem fp.below (h:fp B o w w') (k:Below w'.heap.size w' w''):fp B o w w'':=h.trans (.of_below k)
theorem fp.set_ (h:fp B o w w') (i:Nat) (u:Value):fp B o w (w'.setCell ⟨o,i,none⟩ u):=
 h.trans ⟨rfl,rfl,rfl,by simp[World.setCell],fun j _ h1 _=>Below.heap_setCell _ _ _ _ h1⟩
theorem fp.grown (h:fp B o w w') {base:Nat} {v:Value} {n:Nat} {xs:List Value} (hv:w'.ownsRow base 5 1 v n xs) (hB:B≤base) (g:w'.grownBy w'' v.ownBlock):fp B o w w'':=by
 refine h.trans ⟨g.os,g.tape,g.output,g.size,fun i hi _ h2=>g.block i hi (fun e=> ?_)⟩
 have hlt:=hv.lt i e.symm
 rcases h2 with h2|h2
 ·omega
 ·refine h2 ?_
  rcases hv.2 with⟨rfl,_⟩|⟨g',cap,cur,rfl,_,hg,_⟩
  ·cases e
  ·injection e with e
   subst e
   exact⟨cur,_,hg⟩
theorem fp.toBelow (h:fp B o w w') {C:Nat} (hC:C≤w.heap.size) (hB:C≤B) (ho:C≤o):Below C w w':=
 ⟨h.os,h.tape,h.output,h.size,fun i hi=>h.block i (by omega) (by omega) (.inl (by omega))⟩
theorem aI.obut {g:Nat} {t:TypeId} {cs:Array Value} (h:aI w g t cs) (hb:fp B o w w') (hg:g≠o) (ht:t≠5):aI w' g t cs:=by
 refine(hb.block g h.lt hg (.inr ?_)).trans h
 rintro⟨cs',p,h'⟩
 unfold aI at h
 rw[h] at h'
 injection h' with h'
 injection h' with _ h'
 exact ht h'
end
structure cf (w:World) (B o:Nat) (l:List UInt8) (sp:Bool) (v:Value):Prop where
 le:B≤o
 cells:aI w o 138 #[v, .bool sp]
 own:w.ownsRow B 5 1 v l.length (ar l)
theorem cf.below {w w':World} {B o:Nat} {l:List UInt8} {sp:Bool} {v:Value} (h:cf w B o l sp v) (hb:Below w.heap.size w w'):cf w' B o l sp v:=
 ⟨h.le,h.cells.below hb h.cells.lt,dv h.own hb⟩
theorem cf.c0 {w:World} {B o:Nat} {l:List UInt8} {sp:Bool} {v:Value} (h:cf w B o l sp v):w.cell? ⟨o,0,none⟩=some v:=by rw[h.cells.cell];rfl
theorem cf.c1 {w:World} {B o:Nat} {l:List UInt8} {sp:Bool} {v:Value} (h:cf w B o l sp v):w.cell? ⟨o,1,none⟩=some (.bool sp):=by rw[h.cells.cell];rfl
theorem BT {w:World} {B:Nat} (hB:B≤w.heap.size):cf (w.alloc (.cells #[.slice none 0 0, .bool false] 138)) B w.heap.size [] false (.slice none 0 0):=
 ⟨hB,aI.new w _ _,World.ownsRow_nil _ _ _ _⟩
def qG (args:Array Value):Sem Next:=do pure (.value (←Builtin.append_ #[22,22] 22 args))
theorem iI (cs:Array Bool) (args:Array Value):builtin .append #[22,22] 22 cs args=qG args:=rfl
theorem lX {w:World} {B:Nat} {v:Value} {l m:List UInt8} (h:w.ownsRow B 5 1 v l.length (ar l)) {A:Option Addr} {n:Nat} (c:Nat) {Bd:Nat} (hn:n=m.length) (hr:aE w Bd 1 A n (ar m)) (hlen:l.length+m.length≤1000000000) (hB:B≤w.heap.size):
 ∃A' c' w',(qG #[v, .slice A n c]).run Tryz.prog w= .ok (.value (.slice A' (l++m).length c')) w'∧w'.ownsRow B 5 1 (.slice A' (l++m).length c') (l++m).length (ar (l++m))∧w.grownBy w' v.ownBlock:=by
 subst hn
 obtain⟨i0,hi0,hz0,hz1,hz2⟩:=eK mG
 obtain⟨v',w',hrun,ho,hg⟩:=gL (P:=Tryz.prog) w B 22 22 5 i0 _ 1 1 Tryz.underlying22 hi0 hz0 hz1 hz2 rfl (by omega) v l.length (ar l) h A m.length c (ar m) (n8.of_reads hr (qD m)) (by unfold maxLen;omega) (by omega) hB
 rw[←my,←List.length_append] at ho
 obtain⟨A',c',rfl,_,_⟩:=cQ ho
 exact⟨A',c',w',by unfold qG;simp only[Sem.run_bind,hrun,Result.andThen_ok,Sem.run_pure],ho,hg⟩
theorem Hi {w:World} {B o:Nat} {l:List UInt8} {sp:Bool} {v:Value} (h:cf w B o l sp v):some o≠v.ownBlock:=fun e=>by
 rcases h.own.2 with⟨rfl,_⟩|⟨g',cap,cur,rfl,_,hgg,_⟩
 ·cases e
 ·injection e with e
  subst e
  have:=h.cells
  unfold aI at this
  rw[this] at hgg
  injection hgg with hgg
  injection hgg with _ hgg
  exact absurd hgg (by decide)
theorem xL {X w2:World} {B o:Nat} {l l2:List UInt8} {sp:Bool} {v v2:Value} (h:cf X B o l sp v) (hg:X.grownBy w2 v.ownBlock) (hown:w2.ownsRow B 5 1 v2 l2.length (ar l2)):
 aI w2 o 138 #[v, .bool sp]∧cf (w2.setCell ⟨o,0,none⟩ v2) B o l2 sp v2∧fp B o X (w2.setCell ⟨o,0,none⟩ v2):=by
 have ho2:=h.cells.grown hg (Hi h)
 refine⟨ho2,⟨h.le,ho2.set_ 0 _,fV hown fun g hgg=>Below.heap_setCell _ _ _ _ (fun e=> ?_)⟩,((fp.refl B o X).grown h.own (Nat.le_refl B) hg).set_ 0 _⟩
 rcases hown.2 with⟨h0,_⟩|⟨g',cap,cur,h0,_,hgg',_⟩
 ·rw[h0] at hgg;cases hgg
 ·rw[h0] at hgg
  injection hgg with hgg
  subst hgg
  simp only at e
  subst e
  unfold aI at ho2
  rw[ho2] at hgg'
  injection hgg' with hgg'
  injection hgg' with _ hgg'
  exact absurd hgg' (by decide)
theorem tr (v m:Nat):(v:Int)/2^(8*m)=((v/256^m:Nat):Int):=by
 have e:(256:Nat)^m=2^(8*m):=by rw[Nat.pow_mul]
 rw[e,Int.natCast_ediv,Int.natCast_pow];rfl
section
attribute [local go_sem ↓ 100000] iI
theorem gH {w:World} {B o:Nat} {l:List UInt8} {sp:Bool} {v0:Value} (h:cf w B o l sp v0) (hB:B≤w.heap.size) (hl:l.length≤900000000) (v n:Nat) (hn:1≤n∧n≤7) (hv:v<256^n):
 Calls Tryz.prog 72 #[.pointer (some ⟨o,0,none⟩), .int .i64 (v:Nat), .int .i64 (n:Nat)] w fun e w'=>e= .returned (.tuple #[])∧(∃v',cf w' B o (l++be n v) sp v')∧fp B o w w':=by
 have hv7:v<72057594037927936:=Nat.lt_of_lt_of_le hv (Nat.le_trans (Nat.pow_le_pow_right (by omega) hn.2) (by decide))
 have H:=Lib.hid h
 have n1:decide ((n:Int)<1)=false:=by simp;omega
 have n2:decide (7<(n:Int))=false:=by simp;omega
 have n3:decide ((v:Int)<0)=false:=by simp
 have hz:(v:Int)/2^(8*n)=0:=by
  rw[tr,Nat.div_eq_of_lt hv];rfl
 go_enter Tryz.func72,Tryz.ntmps72
 go_wp2
 go_loopw [6] (fun i wr=>∃(m:Nat) (l1:List UInt8) (v1:Value),i= .int .i64 ((m:Int) - 1)∧m≤n∧Hid (l1++be m v=l++be n v)∧Hid (cf wr B o l1 sp v1)∧Hid (fp B o w wr)) (fun i _=>(intOf i+1).toNat)
 case atStart=>exact⟨n,l,v0,by go_num,Nat.le_refl _,rfl,H,fp.refl _ _ _⟩
 case round=>
  obtain⟨m,l1,v1,rfl,hm,hl1,ho,hb⟩:=hrel
  rcases m with _|m
  ·go_wp2
   go_end0
   have h1:=ho.out
   have h2:=hl1.out
   rw[be,List.append_nil] at h2
   rw[h2] at h1
   exact⟨rfl,⟨v1,h1⟩,hb.out⟩
  ·have e:(((m+1:Nat):Int) - 1)=(m:Int):=by omega
   rw[e]
   obtain⟨qm,hqm⟩:∃qm,v/256^m=qm:=⟨_,rfl⟩
   have hq:(v:Int)/2^(8*m)=(qm:Int):=by rw[tr,hqm]
   have hs8:(((UInt8.ofNat qm).toNat:Nat):Int)=(qm:Int)%256:=by simp
   have hll:l1.length≤900000010:=by
    have:=congrArg List.length hl1.out
    rw[List.length_append,List.length_append,aO,aO] at this
    omega
   have hbx:=((Below.refl wr.heap.size wr).alloc (Nat.le_refl _) (.cells #[.int .u8 (((UInt8.ofNat qm).toNat:Nat):Int)] 5)).drew
   have hox:=ho.out.below hbx
   obtain⟨A2,c2,w2,E1,hown,hg⟩:=lX (n:=1) (m:=[UInt8.ofNat qm]) hox.own 1 rfl (Fu wr (UInt8.ofNat qm)).drew (by simp;omega) (Nat.le_trans (Nat.le_trans hB hb.out.size) hbx.size)
   have hl2:(l1++[UInt8.ofNat qm])++be m v=l++be n v:=by rw[List.append_assoc,←hl1.out,←hqm];rfl
   obtain⟨l2,hl2e⟩:∃l2,l1++[UInt8.ofNat qm]=l2:=⟨_,rfl⟩
   rw[hl2e] at E1 hown hl2
   obtain⟨ho2,p1,p2⟩:=xL hox hg hown
   have HFIN:Hid (cf (w2.setCell ⟨o,0,none⟩ (.slice A2 l2.length c2)) B o l2 sp (.slice A2 l2.length c2)∧fp B o w (w2.setCell ⟨o,0,none⟩ (.slice A2 l2.length c2))):=⟨p1,(hb.out.below hbx).trans p2⟩
   rw[hs8] at E1
   have c0:=ho.out.c0
   have hol:=ho.out.cells.lt
   have z0:w2.cell? ⟨o,0,none⟩=some v1:=by rw[ho2.cell];rfl
   have zf:=ho2.frozen 0
   have m0:(0:Int)≤(m:Int):=by omega
   have hm7:m≤7:=by omega
   have HL2:=Lib.hid hl2
   clear hbx hox hown hg ho2 p1 p2 hl2 hl2e hs8 e hqm hll hl1
   go_wp2
   go_region
   all_goals (try go_wp2)
   go_roundw
   case rel=>exact⟨m,l2,_,by go_num,by omega,HL2,HFIN.out.1,HFIN.out.2⟩
   case measure=>simp[intOf]
end
attribute [local go_sem ↓ 100000] iI
theorem sq (w:World):(w.alloc (.cells #[] 5)).ownsRow w.heap.size 5 1 (.slice (some ⟨w.heap.size,0,none⟩) 0 0) ([]:List UInt8).length (ar []):=vp w
theorem GE (w:World):(binOp .eql 22 (.slice none 0 0) (.slice none 0 0)).run Tryz.prog w= .ok (.bool true) w:=by kernel_rfl
theorem FH (g n c:Nat) (w:World):(binOp .eql 22 (.slice (some ⟨g,0,none⟩) n c) (.slice none 0 0)).run Tryz.prog w= .ok (.bool false) w:=by kernel_rfl
theorem AM {w:World} {B n:Nat} {v:Value} {l:List UInt8} (h:w.ownsRow B 5 1 v n (ar l)) (hl:l.length=n) (hn:n≤900000000):
 Calls Tryz.prog 79 #[v] w fun e w'=>∃v,e= .returned v∧w'.ownsRow w.heap.size 5 1 v n (ar l)∧Below w.heap.size w w':=by
 obtain⟨_,_,_,hr,_⟩:=cQ h
 rcases h.2 with⟨rfl,rfl⟩|⟨g,c,cur,rfl,_⟩
 ·obtain rfl:=List.length_eq_zero_iff.1 hl
  have he:=GE w
  go_enter Tryz.func79,Tryz.ntmps79
  go_wp2
  go_ret
  exact⟨_,rfl,World.ownsRow_nil _ _ _ _,Below.refl _ _⟩
 ·have hr:=aE.of_own h
  have he:=FH g n c w
  have hbx:=(Below.refl w.heap.size w).alloc (Nat.le_refl _) (.cells #[] 5)
  obtain⟨A2,c2,w2,E1,hown,hg⟩:=lX (n:=n) (m:=l) (sq w) c hl.symm (hr.below hbx) (by simp;omega) hbx.size
  have hb2:=hbx.grown hg hbx.size (fun k hk=>((sq w).lt k hk).1)
  simp only[List.nil_append] at E1 hown
  rw[hl] at E1 hown
  have HO:=Lib.hid hown
  have HB2:=Lib.hid hb2
  clear hr hbx hown hg hb2
  go_enter Tryz.func79,Tryz.ntmps79
  go_wp2
  go_ret
  exact⟨_,rfl,HO.out,HB2.out⟩
theorem kO {w:World} {B o:Nat} {l:List UInt8} {sp:Bool} {v0:Value} (h:cf w B o l sp v0) (hB:B≤w.heap.size) (hl:l.length≤800000000) (A:Option Addr) (n c:Nat) (m:List UInt8) (hm:m.length=n) (hn:n≤100000000) (hr:aE w w.heap.size 1 A n (ar m)):
 Calls Tryz.prog 96 #[.pointer (some ⟨o,0,none⟩), .slice A n c] w fun e w'=>e= .returned (.tuple #[])∧(∃v',cf w' B o (l++m) sp v')∧fp B o w w':=by
 obtain⟨A2,c2,w2,E1,hown,hg⟩:=lX (n:=n) (m:=m) h.own c hm.symm hr (by omega) hB
 obtain⟨ho2,p1,p2⟩:=xL h hg hown
 have c0:=h.c0
 have z0:w2.cell? ⟨o,0,none⟩=some v0:=by rw[ho2.cell];rfl
 have zf:=ho2.frozen 0
 obtain⟨l2,hl2⟩:∃l2,l++m=l2:=⟨_,rfl⟩
 rw[hl2] at E1 p1 p2 ⊢
 have H1:=Lib.hid p1
 have H2:=Lib.hid p2
 clear h hr hown hg ho2 p1 p2 hl2
 go_enter Tryz.func96,Tryz.ntmps96
 go_wp2
 go_end0
 exact⟨rfl,⟨_,H1.out⟩,H2.out⟩
theorem xK {w:World} {B o:Nat} {l:List UInt8} {sp:Bool} {v0:Value} (h:cf w B o l sp v0) (hB:B≤w.heap.size) (hl:l.length≤700000000) (s:ByteArray) (hs:s.size<65536):
 Calls Tryz.prog 71 #[.pointer (some ⟨o,0,none⟩), .string s] w fun e w'=>e= .returned (.tuple #[])∧(∃v',cf w' B o (l++iG s) sp v')∧fp B o w w':=by
 have HN:=Lib.hid (gH h hB (by omega) s.size 2 (by omega) (by omega))
 have hcv:∀w1:World,(convert 9 22 (.string s)).run Tryz.prog w1= .ok (.slice (some ⟨w1.heap.size,0,none⟩) s.size (grownCap w1 s.size 0 5)) (Lib.bytesWorld w1 5 s):=fun w1=>Lib.run_convert_string_bytes w1 9 22 5 s Tryz.underlying9 Tryz.underlying22 Tryz.underlying5
 go_enter Tryz.func71,Tryz.ntmps71
 go_wp2_with fail
 refine HN.out.mono ?_
 rintro e w1 ⟨rfl,⟨v1,h1⟩,hb1⟩
 have hbx:Below w1.heap.size w1 (Lib.bytesWorld w1 5 s):=⟨rfl,rfl,rfl,by rw[Lib.bytesWorld_size];omega,fun k hk=>Lib.bytesWorld_at_old w1 5 s k hk⟩
 have hx:=h1.below hbx
 have hrd:aE (Lib.bytesWorld w1 5 s) (Lib.bytesWorld w1 5 s).heap.size 1 (some ⟨w1.heap.size,0,none⟩) s.size (ar s.data.toList):=by
  refine⟨by rw[bg,Array.length_toList,Nat.mul_one];rfl,fun _=>⟨_,rfl,by rw[Lib.bytesWorld_size];exact Nat.lt_succ_self _,fun j u hu=> ?_⟩⟩
  have hj:j<s.size:=by
   rcases Nat.lt_or_ge j s.size with h|h
   ·exact h
   ·rw[dp,List.getElem?_eq_none (by simpa using h)] at hu;cases hu
  have ha:(⟨w1.heap.size,0,none⟩:Addr).add j=⟨w1.heap.size,j,none⟩:=by unfold Addr.add;split<;>simp_all
  rw[ha,Lib.bytesWorld_cell w1 5 s j hj,←hu,dp]
  have hj2:j<s.data.toList.length:=by simpa using hj
  rw[List.getD_eq_getElem?_getD,List.getElem?_eq_getElem hj2]
  rfl
 have HR:=Lib.hid (kO hx (Nat.le_trans (Nat.le_trans hB hb1.size) hbx.size) (by rw[List.length_append,aO];omega) (some ⟨w1.heap.size,0,none⟩) s.size (grownCap w1 s.size 0 5) s.data.toList rfl (by omega) hrd)
 have HB1:=Lib.hid (hb1.below hbx)
 have hcv1:=hcv w1
 clear hcv hx hrd h1 hb1 hbx
 go_wp2_with fail
 refine HR.out.mono ?_
 rintro e w2 ⟨rfl,⟨v2,h2⟩,hb2⟩
 have H2:=Lib.hid h2
 have HB2:=Lib.hid (HB1.out.trans hb2)
 clear h2 hb2
 go_wp2
 go_end0
 refine⟨rfl,⟨v2, ?_⟩,HB2.out⟩
 have:=H2.out
 rw[List.append_assoc] at this
 exact this
theorem lu {w:World} {B o:Nat} {l:List UInt8} {v0:Value} (h:cf w B o l false v0) (hl:l.length≤800000000):
 Calls Tryz.prog 97 #[.pointer (some ⟨o,0,none⟩)] w fun e w'=>∃v,e= .returned (.tuple #[v, .int .i64 0])∧w'.ownsRow w.heap.size 5 1 v l.length (ar l)∧Below w.heap.size w w':=by
 have HC:=Lib.hid (AM h.own rfl (by omega))
 have c0:=h.c0
 have c1:=h.c1
 clear h
 go_enter Tryz.func97,Tryz.ntmps97
 go_wp2_with fail
 refine HC.out.mono ?_
 rintro e w2 ⟨v,rfl,ho,hb⟩
 go_wp2
 go_ret2
 exact⟨v,rfl,ho,hb⟩
attribute [local go_sem ↓ 100000] iI
def Dd (args:Array Value):Sem Next:=do pure (.value (←Builtin.append_ #[22,9] 22 args))
theorem oU (cs:Array Bool) (args:Array Value):builtin .append #[22,9] 22 cs args=Dd args:=rfl
attribute [local go_sem ↓ 100000] oU
structure fY (i:Nat) (w w':World):Prop where
 os:w'.os=w.os
 tape:w'.tape=w.tape
 output:w'.output=w.output
 size:w.heap.size≤w'.heap.size
 block:∀j,j<w.heap.size→j≠i→w'.heap[j]?=w.heap[j]?
section
variable {i:Nat} {w w' w'':World}
theorem fY.refl (i:Nat) (w:World):fY i w w:=⟨rfl,rfl,rfl,Nat.le_refl _,fun _ _ _=>rfl⟩
theorem fY.trans (h:fY i w w') (k:fY i w' w''):fY i w w'':=
 ⟨k.os.trans h.os,k.tape.trans h.tape,k.output.trans h.output,Nat.le_trans h.size k.size,fun j hj h1=>(k.block j (Nat.lt_of_lt_of_le hj h.size) h1).trans (h.block j hj h1)⟩
theorem fY.of_below (k:Below w.heap.size w w'):fY i w w':=⟨k.os,k.tape,k.output,k.size,fun j hj _=>k.block j hj⟩
theorem fY.below (h:fY i w w') (k:Below w'.heap.size w' w''):fY i w w'':=h.trans (.of_below k)
theorem fY.set_ (h:fY i w w') (j:Nat) (u:Value):fY i w (w'.setCell ⟨i,j,none⟩ u):=
 h.trans ⟨rfl,rfl,rfl,by simp[World.setCell],fun k _ h1=>Below.heap_setCell _ _ _ _ h1⟩
theorem fY.toBelow (h:fY i w w') {C:Nat} (hC:C≤w.heap.size) (hi:C≤i):Below C w w':=
 ⟨h.os,h.tape,h.output,h.size,fun j hj=>h.block j (by omega) (by omega)⟩
theorem aE.ibut {B n:Nat} {A:Option Addr} {l:List UInt8} (h:aE w B 1 A n (ar l)) (hB:B≤w.heap.size) {t:TypeId} {cs:Array Value} (hi:aI w i t cs) (hcs:∀(k:Int) (j:Nat),cs[j]?≠some (.int .u8 k)) (hb:fY i w w'):aE w' w'.heap.size 1 A n (ar l):=by
 refine⟨h.1,fun hn=> ?_⟩
 obtain⟨ad,e,hlt,hc⟩:=h.2 hn
 have hl:0<l.length:=by have:=h.1;rw[bg] at this;omega
 have h0:=hc 0 _ (by rw[dp,List.getElem?_eq_getElem hl];rfl)
 have a2:ad.block≠i:=by
  intro e
  have hcell:=h0
  unfold World.cell? at hcell
  rw[aD,e] at hcell
  unfold aI at hi
  rw[hi] at hcell
  simp only at hcell
  split at hcell
  ·cases hcell
  ·exact hcs _ _ hcell
 refine⟨ad,e,Nat.lt_of_lt_of_le hlt (Nat.le_trans hB hb.size),fun j u hu=> ?_⟩
 have hk:=hb.block ad.block (by omega) a2
 exact(World.cell?_of_block (by rw[aD];exact hk)).trans (hc j u hu)
end
structure dn (w:World) (i:Nat) (s:l5) (v:Value):Prop where
 cells:aI w i 166 #[v, .bool s.bad]
 row:(v= .slice none 0 0∧s.rest=[])∨∃ad c,v= .slice (some ad) s.rest.length c∧s.rest.length≤c∧aE w w.heap.size 1 (some ad) s.rest.length (ar s.rest)∧pM w ad.block
section
variable {w w':World} {i:Nat} {s:l5} {v:Value}
theorem dn.below (h:dn w i s v) (hb:Below w.heap.size w w'):dn w' i s v:=by
 refine⟨h.cells.below hb h.cells.lt, ?_⟩
 rcases h.row with h|⟨ad,c,e,hc,hr,hu⟩
 ·exact .inl h
 ·exact .inr ⟨ad,c,e,hc,(hr.below hb).more hb.size,hu.same (hb.block _ hu.lt)⟩
theorem dn.c0 (h:dn w i s v):w.cell? ⟨i,0,none⟩=some v:=by rw[h.cells.cell];rfl
theorem dn.c1 (h:dn w i s v):w.cell? ⟨i,1,none⟩=some (.bool s.bad):=by rw[h.cells.cell];rfl
theorem EO {A:Option Addr} {n c:Nat} {b:Bool}:∀(k:Int) (j:Nat),(#[.slice A n c, .bool b]:Array Value)[j]?≠some (.int .u8 k):=by
 intro k j h
 rcases j with _|_|j<;>simp at h
theorem uZ (h:dn w i s v) (hl:s.rest.length≤1000000) (n:Int):
 Calls Tryz.prog 92 #[.pointer (some ⟨i,0,none⟩), .int .i64 n] w fun e w'=>∃r,e= .returned r∧qF w' r (cK s n).1∧(∃v',dn w' i (cK s n).2 v')∧fY i w w':=by
 obtain⟨rest,bad⟩:=s
 have c0:=h.c0
 have c1:=h.c1
 have f0:=h.cells.frozen 0
 have f1:=h.cells.frozen 1
 have H:=Lib.hid h
 cases bad with
 |true=>
  have e:cK ⟨rest,true⟩ n=([],⟨rest,true⟩):=by unfold cK;rw[if_pos rfl]
  rw[e]
  clear h
  go_enter Tryz.func92,Tryz.ntmps92
  go_wp2
  go_ret
  exact⟨_,rfl,qF.nil _,⟨v,H.out⟩,fY.refl _ _⟩
 |false=>
  obtain⟨m,hm⟩:∃m,rest.length=m:=⟨_,rfl⟩
  by_cases hbad:n<0∨(m:Int)<n
  ·have e:cK ⟨rest,false⟩ n=([],⟨[],true⟩):=by unfold cK;rw[if_neg (by simp),if_pos (by simpa[hm] using hbad)]
   rw[e]
   have HF:Hid (dn ((w.setCell ⟨i,0,none⟩ (.slice none 0 0)).setCell ⟨i,1,none⟩ (.bool true)) i ⟨[],true⟩ (.slice none 0 0)∧fY i w ((w.setCell ⟨i,0,none⟩ (.slice none 0 0)).setCell ⟨i,1,none⟩ (.bool true))):=
    ⟨⟨(h.cells.set_ 0 _).set_ 1 _, .inl ⟨rfl,rfl⟩⟩,((fY.refl i w).set_ 0 _).set_ 1 _⟩
   have hv:∃A c,v= .slice A m c:=by
    rcases h.row with⟨e1,e2⟩|⟨ad,c,e1,_⟩
    ·simp only at e2;subst e2;exact⟨none,0,by rw[←hm];exact e1⟩
    ·exact⟨some ad,c,by rw[←hm];exact e1⟩
   obtain⟨A,c,rfl⟩:=hv
   clear h
   rcases(show n<0∨(0≤n∧(m:Int)<n) by omega) with hneg|⟨hpos,hbig⟩
   ·have g1:decide (n<0)=true:=by simp;omega
    go_enter Tryz.func92,Tryz.ntmps92
    go_wp2
    go_ret
    exact⟨_,rfl,qF.nil _,⟨_,HF.out.1⟩,HF.out.2⟩
   ·have g1:decide (n<0)=false:=by simp;omega
    have g2:decide ((m:Int)<n)=true:=by simp;omega
    go_enter Tryz.func92,Tryz.ntmps92
    go_wp2
    go_ret
    exact⟨_,rfl,qF.nil _,⟨_,HF.out.1⟩,HF.out.2⟩
  ·obtain⟨k,rfl⟩:∃k:Nat,n=k:=⟨n.toNat,by omega⟩
   have hkm:k≤m:=by omega
   have e:cK ⟨rest,false⟩ k=(rest.take k,⟨rest.drop k,false⟩):=by unfold cK;rw[if_neg (by simp),if_neg (by simpa[hm] using hbad)];rfl
   rw[e]
   have htl:(rest.take k).length=k:=by rw[List.length_take];omega
   have hdl:(rest.drop k).length=m - k:=by rw[List.length_drop,hm]
   have g1:decide ((k:Int)<0)=false:=by simp
   have g2:decide ((m:Int)<(k:Int))=false:=by simp;omega
   have i0:(0:Int)≤(k:Int):=by omega
   have i1:(k:Int)≤(m:Int):=by omega
   rcases h.row with⟨rfl,e2⟩|⟨ad,c,rfl,hc,hr,hu⟩
   ·simp only at e2
    subst e2
    obtain rfl:m=0:=by rw[←hm];rfl
    obtain rfl:k=0:=by omega
    have HF:Hid (dn (w.setCell ⟨i,0,none⟩ (.slice none 0 0)) i ⟨[],false⟩ (.slice none 0 0)∧fY i w (w.setCell ⟨i,0,none⟩ (.slice none 0 0))):=
     ⟨⟨h.cells.set_ 0 _, .inl ⟨rfl,rfl⟩⟩,(fY.refl i w).set_ 0 _⟩
    clear h htl hdl
    go_enter Tryz.func92,Tryz.ntmps92
    go_wp2
    go_ret
    exact⟨_,rfl,qF.nil _,⟨_,HF.out.1⟩,HF.out.2⟩
   ·simp only at hc hr c0 f0 H
    rw[hm] at hc hr c0 H
    have hsk:aE w w.heap.size 1 (if c=k then some ad else some (ad.add k)) (m - k) (ar (rest.drop k)):=hr.drop8 hkm hc
    have htk:=hr.take8 hkm
    obtain⟨ad2,had2,hblk⟩:∃ad2,(if c=k then some ad else some (ad.add k))=some ad2∧ad2.block=ad.block:=by
     split
     ·exact⟨_,rfl,rfl⟩
     ·exact⟨_,rfl,aD _ _⟩
    rw[had2] at hsk
    have hI:=h.cells.set_ 0 (.slice (some ad2) (m - k) (c - k))
    have hB:fY i w (w.setCell ⟨i,0,none⟩ (.slice (some ad2) (m - k) (c - k))):=(fY.refl i w).set_ 0 _
    have hs2:=hsk.ibut (Nat.le_refl _) h.cells EO hB
    have ht2:=htk.ibut (Nat.le_refl _) h.cells EO hB
    have HF:Hid (qF (w.setCell ⟨i,0,none⟩ (.slice (some ad2) (m - k) (c - k))) (.slice (some ad) k c) (rest.take k)∧(∃v',dn (w.setCell ⟨i,0,none⟩ (.slice (some ad2) (m - k) (c - k))) i ⟨rest.drop k,false⟩ v')∧fY i w (w.setCell ⟨i,0,none⟩ (.slice (some ad2) (m - k) (c - k)))):=
     ⟨⟨some ad,c,by rw[htl],by rw[htl];exact ht2⟩,⟨_,⟨hI, .inr ⟨ad2,c - k,by simp only;rw[hdl],by simp only;omega,by simp only;rw[hdl];exact hs2,by
      rw[hblk]
      refine hu.same (hB.block _ hu.lt (fun e=> ?_))
      obtain⟨cs,p,hg⟩:=hu
      have hx:=h.cells
      unfold aI at hx
      rw[e,hx] at hg
      injection hg with hg
      injection hg with _ hg
      exact absurd hg (by decide)⟩⟩⟩,hB⟩
    have i2:(k:Int)≤(c:Int):=by omega
    have i3:(m:Int)≤(c:Int):=by omega
    clear h hsk htk hI hB hs2 ht2 hr htl hdl e hbad hu hblk
    by_cases hck:c=k
    ·rw[if_pos hck] at had2
     injection had2 with had2
     subst had2
     subst hck
     rw[show m - c=0 by omega,Nat.sub_self] at HF
     go_enter Tryz.func92,Tryz.ntmps92
     go_wp2
     go_ret
     exact⟨_,rfl,HF.out⟩
    ·rw[if_neg hck] at had2
     injection had2 with had2
     go_enter Tryz.func92,Tryz.ntmps92
     go_wp2
     go_ret
     exact⟨_,rfl,HF.out⟩
end
def sH (k:Int) (m:aU):List UInt8:=bif k==1 then[] else be 4 m.uid
def sI (k:Int) (m:aU):List UInt8:=bif k==2 then be 6 m.date.toNat++be 1 m.flags.toNat else[]
def sJ (k:Int) (nm:ByteArray):List UInt8:=bif k==3 then[] else iG nm
def fL (k:Int) (e:Nat) (nm:ByteArray) (m:aU):List UInt8:=be 4 e++sH k m++sI k m++sJ k nm++m.b
theorem A4 (s:ByteArray):(iG s).length=2+s.size:=by unfold iG;simp[aO]
theorem qa (k:Int) (m:aU):(sH k m).length≤4:=by unfold sH;cases k==1<;>simp[aO]
theorem qb (k:Int) (m:aU):(sI k m).length≤7:=by unfold sI;cases k==2<;>simp[aO]
theorem qc (k:Int) (nm:ByteArray):(sJ k nm).length≤2+nm.size:=by unfold sJ;cases k==3<;>simp[A4]
theorem vX {d f:Int} {n:Nat} (h:kX d f n=true):n=0:=by
 unfold kX at h
 simp only[Bool.and_eq_true,beq_iff_eq] at h
 omega
theorem ql {m:aU} (h:kZ m=true):m.b.length≤20000∧1≤m.uid∧0≤m.date∧m.date≤253402300799∧0≤m.flags∧m.flags≤31:=by
 unfold kZ gD oY at h
 simp only[Bool.and_eq_true,decide_eq_true_eq] at h
 omega
theorem eJ {k:Int} {e:Nat} {nm:ByteArray} {m:aU} (h:af k e nm m=true):1≤e∧nm.size≤60∧m.b.length≤20000∧(k=1∨k=2∨k=3)∧((k==2)=true→0≤m.date∧m.date≤253402300799∧0≤m.flags∧m.flags≤31):=by
 unfold af at h
 rw[Bool.and_eq_true,decide_eq_true_eq] at h
 obtain⟨h0,h⟩:=h
 refine⟨h0, ?_⟩
 cases h1:k==1 with
 |true=>
  have e1:k=1:=by simpa using h1
  rw[h1,cond_true,Bool.and_eq_true,Bool.and_eq_true] at h
  refine⟨fk h.1.1,by rw[vX h.1.2];omega, .inl e1,fun h2=> ?_⟩
  rw[e1] at h2
  cases h2
 |false=>
  rw[h1,cond_false] at h
  cases h2:k==2 with
  |true=>
   rw[h2,cond_true,Bool.and_eq_true] at h
   obtain⟨p1,p2,p3⟩:=ql h.2
   exact⟨fk h.1,p1, .inr (.inl (by simpa using h2)),fun _=>p3⟩
  |false=>
   rw[h2,cond_false] at h
   simp only[Bool.and_eq_true,beq_iff_eq] at h
   have hz:nm.size=0:=by
    have:=h.1.1.2
    rw[ByteArray.toList_eq] at this
    have h4:=congrArg List.length (List.isEmpty_iff.1 this)
    rw[Array.length_toList] at h4
    exact h4
   exact⟨by omega,by rw[vX h.1.2];omega, .inr (.inr h.1.1.1),fun e=>by cases e⟩
theorem qd (k:Int) (e:Nat) (nm:ByteArray) (m:aU) (w:World) (hm:cX w) (hg:0<w.heap.size) (htab:Lib.TabIs Tryz.prog w "internal/strconv.uint64pow10" .u64 Lib.pow10Tab) (hs:nm.size≤9223372036854775807) (he:e<4294967296) (hu:m.uid<4294967296) (hr:aE w w.heap.size 1 m.a m.b.length (ar m.b)):
 Calls Tryz.prog 58 #[.agg (fQ k e nm m)] w fun ev w'=>∃r,ev= .returned (.tuple #[r, .int .i64 (bif af k e nm m then 0 else 1)])∧ce w.heap.size w' r (bif af k e nm m then fL k e nm m else[])∧Below w.heap.size w w':=by
 have Ht:=Lib.tabBelow_of_tabIs htab
 refine aK 44 Tryz.func58 rfl rfl (Nat.le_of_ble_eq_true rfl) ?_
 intro a hA;replace hA:=hA.norm
 refine wS (wR ?_)
 refine aP hA rfl rfl (by decide) (fun ev h=>by simp[go_sem,h.get 0 rfl];try first|exact⟨rfl,rfl⟩|rfl) fun w1 a (K:aI _ _ _ _) hz hb0 hA=> ?_
 unfold fQ at K
 revert a;(iterate 2 refine wo rfl rfl (by decide) (fun ev e h=>by simp[go_sem,h,K.cell]<;>rfl) ?_);intro a hA
 replace hA:=hA.keepN [1]
 refine wN (nT (wS (wS (wR ?_))))
 revert a;refine wo rfl rfl (by decide) (fun ev e h=>by simp[go_sem,h,K.cell]<;>rfl) ?_;intro a hA
 have HB:=Below.refl w1.heap.size w1
 refine aC hA rfl rfl (by decide) (fun ev h=>aB Tryz.func57 (by kernel_rfl) rfl (h.f _) (by first|(simp only[mL,h.get 5 rfl,h.c]<;>rfl)|(simp[mL,h.get 5 rfl,h.c,K.cell]<;>rfl))) (qk k e nm m _ (hm.below hg hb0) (Nat.lt_of_lt_of_le hg hb0.size) (htab:=Ht _ hb0) hs) ?_
 rintro e w2 ⟨rfl,hb⟩
 refine⟨_,rfl,fun a hA=> ?_⟩
 replace HB:=HB.trans (hb.mono HB.size)
 revert a;refine wo rfl rfl (by decide) (fun ev e h=>by simp[go_sem,h,K.cell]<;>rfl) ?_;intro a hA
 replace hA:=hA.keepN [1,7]
 refine wN (nT ?_)
 refine aH hA 7 _ rfl (fun hv=> ?yA) (fun hv=> ?nA)
 case yA=>
  have hv:af k e nm m=false:=by simpa using hv
  rw[hv,cond_false,cond_false]
  refine wS (wR ?_)
  revert a;(iterate 2 refine wo rfl rfl (by decide) (fun ev e h=>by simp[go_sem,h,K.cell]<;>rfl) ?_);intro a hA
  replace hA:=hA.keepN [2,3]
  refine wN (nT (wp_ret (rT ?_)))
  refine gJ hA 2 3 rfl rfl rfl ?_
  exact⟨_,rfl,ce.nil _,hb0.trans (HB.mono hb0.size)⟩
 case nA=>
  have hv:af k e nm m=true:=by simpa using hv
  rw[hv,cond_true,cond_true]
  obtain⟨h1e,h60,h20,hk,hdf⟩:=eJ hv
  have l1:=qa k m
  have l2:=qb k m
  have l3:=qc k nm
  refine wp_skip (nT (wS (wR ?_)))
  have hB2:=HB.size
  refine aP hA rfl rfl (by decide) (fun ev h=>by simp[go_sem,K.cell];try first|exact⟨rfl,rfl⟩|rfl) fun w3 a (Ko:aI _ _ _ _) hz hb hA=> ?_
  replace HB:=HB.trans (hb.mono HB.size)
  obtain⟨o,hoe⟩:∃o,w2.heap.size=o:=⟨_,rfl⟩
  rw[hoe] at Ko hA hB2
  have hO:cf w3 w1.heap.size o [] false (.slice none 0 0):=⟨hB2,Ko,World.ownsRow_nil _ _ _ _⟩
  have K0:=K.below HB K.lt
  have hwe:IntKind.i64.wrap (e:Int)=(e:Int):=IntWalk.i64_in _ (by omega)
  have hwu:IntKind.i64.wrap (m.uid:Int)=(m.uid:Int):=IntWalk.i64_in _ (by omega)
  replace hA:=hA.keepN [1,4]
  refine wN (nT (wS (wR ?_)))
  revert a;(iterate 2 refine wo rfl rfl (by decide) (fun ev e h=>by simp[go_sem,h,K0.cell,hwe]<;>rfl) ?_);intro a hA
  refine a7 hA rfl rfl (by decide) (fun ev h=>by simp[go_sem,h.get 9 rfl,K0.cell,hwe];try first|exact⟨rfl,rfl⟩|rfl) fun a hA=> ?_
  refine aC hA rfl rfl (by decide) (fun ev h=>aB Tryz.func72 (by kernel_rfl) rfl (h.f _) (by first|(simp only[mL,h.get 4 rfl,h.get 10 rfl,h.c]<;>rfl)|(simp[mL,h.get 4 rfl,h.get 10 rfl,h.c,K0.cell,hwe]<;>rfl))) (gH hO HB.size (by simp) e 4 (by omega) (show e<256^4 from he)) ?_
  rintro e w4 ⟨rfl,⟨v4,hO⟩,hob⟩
  refine⟨_,rfl,fun a hA=> ?_⟩
  replace HB:=HB.trans (hob.toBelow HB.size (Nat.le_refl _) hB2)
  have K0:=K.below HB K.lt
  rw[List.nil_append] at hO
  replace hA:=hA.keepN [1,4]
  refine wN (nT (wS (wS (wR ?_))))
  revert a;(iterate 3 refine wo rfl rfl (by decide) (fun ev e h=>by simp[go_sem,h,K0.cell]<;>rfl) ?_);intro a hA
  replace hA:=hA.keepN [1,4,14]
  refine wN (nT ?_)
  refine cd (fun a wx=>∃v,At 44 [(1, .pointer (some ⟨w.heap.size,0,none⟩)),(4, .pointer (some ⟨o,0,none⟩))] a∧cf wx w1.heap.size o (be 4 e++sH k m) false v∧Below w1.heap.size w1 wx) ?jfJ ?jrJ
  case jfJ=>
   refine aH hA 14 _ rfl (fun hq=> ?yD) (fun hq=> ?nD)
   case yD=>
    have hq:(k==1)=false:=by simpa using hq
    refine wR ?_
    revert a;(iterate 3 refine wo rfl rfl (by decide) (fun ev e h=>by simp[go_sem,h,K0.cell,hwu]<;>rfl) ?_);intro a hA
    refine a7 hA rfl rfl (by decide) (fun ev h=>by simp[go_sem,h.get 17 rfl,K0.cell,hwu];try first|exact⟨rfl,rfl⟩|rfl) fun a hA=> ?_
    refine aC hA rfl rfl (by decide) (fun ev h=>aB Tryz.func72 (by kernel_rfl) rfl (h.f _) (by first|(simp only[mL,h.get 4 rfl,h.get 18 rfl,h.c]<;>rfl)|(simp[mL,h.get 4 rfl,h.get 18 rfl,h.c,K0.cell,hwu]<;>rfl))) (gH hO HB.size (by simp[aO]) m.uid 4 (by omega) (show m.uid<256^4 from hu)) ?_
    rintro e w5 ⟨rfl,⟨v5,hO⟩,hob⟩
    refine⟨_,rfl,fun a hA=> ?_⟩
    replace HB:=HB.trans (hob.toBelow HB.size (Nat.le_refl _) hB2)
    replace hA:=hA.keepN [1,4]
    refine wN (nT ?_)
    exact⟨_,hA,by unfold sH;rw[hq,cond_false];exact hO,HB⟩
   case nD=>
    have hq:(k==1)=true:=by simpa using hq
    replace hA:=hA.keepN [1,4]
    refine wp_skip (nT ?_)
    exact⟨_,hA,by unfold sH;rw[hq,cond_true,List.append_nil];exact hO,HB⟩
  clear hO HB K0
  rintro a wx ⟨v6,hA,hO,HB⟩
  have K0:=K.below HB K.lt
  refine wS (wS (wR ?_))
  revert a;(iterate 3 refine wo rfl rfl (by decide) (fun ev e h=>by simp[go_sem,h,K0.cell]<;>rfl) ?_);intro a hA
  replace hA:=hA.keepN [1,4,22]
  refine wN (nT ?_)
  refine cd (fun a wx=>∃v,At 44 [(1, .pointer (some ⟨w.heap.size,0,none⟩)),(4, .pointer (some ⟨o,0,none⟩))] a∧cf wx w1.heap.size o (be 4 e++sH k m++sI k m) false v∧Below w1.heap.size w1 wx) ?jfL ?jrL
  case jfL=>
   refine aH hA 22 _ rfl (fun hq=> ?yD2) (fun hq=> ?nD2)
   case yD2=>
    obtain⟨d0,d1,f0,f1⟩:=hdf hq
    obtain⟨dt,hdt⟩:∃dt:Nat,m.date=(dt:Int):=⟨m.date.toNat,by omega⟩
    obtain⟨ft,hft⟩:∃ft:Nat,m.flags=(ft:Int):=⟨m.flags.toNat,by omega⟩
    refine wS (wR ?_)
    revert a;(iterate 3 refine wo rfl rfl (by decide) (fun ev e h=>by simp[go_sem,h,K0.cell,hdt]<;>rfl) ?_);intro a hA
    refine aC hA rfl rfl (by decide) (fun ev h=>aB Tryz.func72 (by kernel_rfl) rfl (h.f _) (by first|(simp only[mL,h.get 4 rfl,h.get 25 rfl,h.c]<;>rfl)|(simp[mL,h.get 4 rfl,h.get 25 rfl,h.c,K0.cell,hdt]<;>rfl))) (gH hO HB.size (by simp only[List.length_append,aO];omega) dt 6 (by omega) (show dt<256^6 by omega)) ?_
    rintro e w7 ⟨rfl,⟨v7,hO⟩,hob⟩
    refine⟨_,rfl,fun a hA=> ?_⟩
    replace HB:=HB.trans (hob.toBelow HB.size (Nat.le_refl _) hB2)
    have K0:=K.below HB K.lt
    replace hA:=hA.keepN [1,4]
    refine wN (nT (wR ?_))
    revert a;(iterate 3 refine wo rfl rfl (by decide) (fun ev e h=>by simp[go_sem,h,K0.cell,hft]<;>rfl) ?_);intro a hA
    refine aC hA rfl rfl (by decide) (fun ev h=>aB Tryz.func72 (by kernel_rfl) rfl (h.f _) (by first|(simp only[mL,h.get 4 rfl,h.get 29 rfl,h.c]<;>rfl)|(simp[mL,h.get 4 rfl,h.get 29 rfl,h.c,K0.cell,hft]<;>rfl))) (gH hO HB.size (by simp only[List.length_append,aO];omega) ft 1 (by omega) (show ft<256^1 by omega)) ?_
    rintro e w8 ⟨rfl,⟨v8,hO⟩,hob⟩
    refine⟨_,rfl,fun a hA=> ?_⟩
    replace HB:=HB.trans (hob.toBelow HB.size (Nat.le_refl _) hB2)
    replace hA:=hA.keepN [1,4]
    refine wN (nT ?_)
    exact⟨_,hA,by unfold sI;rw[hq,cond_true,hdt,hft,Int.toNat_natCast,Int.toNat_natCast,←List.append_assoc];exact hO,HB⟩
   case nD2=>
    replace hA:=hA.keepN [1,4]
    refine wp_skip (nT ?_)
    exact⟨_,hA,by unfold sI;rw[hq,cond_false,List.append_nil];exact hO,HB⟩
  clear hO HB K0
  rintro a wx ⟨v9,hA,hO,HB⟩
  have K0:=K.below HB K.lt
  refine wS (wS (wR ?_))
  revert a;(iterate 3 refine wo rfl rfl (by decide) (fun ev e h=>by simp[go_sem,h,K0.cell]<;>rfl) ?_);intro a hA
  replace hA:=hA.keepN [1,4,33]
  refine wN (nT ?_)
  refine cd (fun a wx=>∃v,At 44 [(1, .pointer (some ⟨w.heap.size,0,none⟩)),(4, .pointer (some ⟨o,0,none⟩))] a∧cf wx w1.heap.size o (be 4 e++sH k m++sI k m++sJ k nm) false v∧Below w1.heap.size w1 wx) ?jfM ?jrM
  case jfM=>
   refine aH hA 33 _ rfl (fun hq=> ?yD3) (fun hq=> ?nD3)
   case yD3=>
    have hq:(k==3)=false:=by simpa using hq
    refine wR ?_
    revert a;(iterate 2 refine wo rfl rfl (by decide) (fun ev e h=>by simp[go_sem,h,K0.cell]<;>rfl) ?_);intro a hA
    refine aC hA rfl rfl (by decide) (fun ev h=>aB Tryz.func71 (by kernel_rfl) rfl (h.f _) (by first|(simp only[mL,h.get 4 rfl,h.get 35 rfl,h.c]<;>rfl)|(simp[mL,h.get 4 rfl,h.get 35 rfl,h.c,K0.cell]<;>rfl))) (xK hO HB.size (by simp only[List.length_append,aO];omega) nm (by omega)) ?_
    rintro e w10 ⟨rfl,⟨v10,hO⟩,hob⟩
    refine⟨_,rfl,fun a hA=> ?_⟩
    replace HB:=HB.trans (hob.toBelow HB.size (Nat.le_refl _) hB2)
    replace hA:=hA.keepN [1,4]
    refine wN (nT ?_)
    exact⟨_,hA,by unfold sJ;rw[hq,cond_false];exact hO,HB⟩
   case nD3=>
    have hq:(k==3)=true:=by simpa using hq
    replace hA:=hA.keepN [1,4]
    refine wp_skip (nT ?_)
    exact⟨_,hA,by unfold sJ;rw[hq,cond_true,List.append_nil];exact hO,HB⟩
  clear hO HB K0
  rintro a wx ⟨v11,hA,hO,HB⟩
  have K0:=K.below HB K.lt
  have HW:=hb0.trans (HB.mono hb0.size)
  refine wS (wR ?_)
  revert a;(iterate 3 refine wo rfl rfl (by decide) (fun ev e h=>by simp[go_sem,h,K0.cell]<;>rfl) ?_);intro a hA
  refine aC hA rfl rfl (by decide) (fun ev h=>aB Tryz.func96 (by kernel_rfl) rfl (h.f _) (by first|(simp only[mL,h.get 4 rfl,h.get 39 rfl,h.c]<;>rfl)|(simp[mL,h.get 4 rfl,h.get 39 rfl,h.c,K0.cell]<;>rfl))) (kO hO HB.size (by simp only[List.length_append,aO];omega) m.a m.b.length m.c m.b rfl (by omega) ((hr.below HW).more HW.size)) ?_
  rintro e w12 ⟨rfl,⟨v12,hO⟩,hob⟩
  refine⟨_,rfl,fun a hA=> ?_⟩
  replace HB:=HB.trans (hob.toBelow HB.size (Nat.le_refl _) hB2)
  replace hA:=hA.keepN [4]
  refine wN (nT (wS (wR ?_)))
  refine aC hA rfl rfl (by decide) (fun ev h=>aB Tryz.func97 (by kernel_rfl) rfl (h.f _) (by first|(simp only[mL,h.get 4 rfl,h.c]<;>rfl)|(simp[mL,h.get 4 rfl,h.c]<;>rfl))) (lu hO (by simp only[List.length_append,aO];omega)) ?_
  rintro e w13 ⟨r,rfl,hown,hb⟩
  refine⟨_,rfl,fun a hA=> ?_⟩
  have HW:=(hb0.trans (HB.mono hb0.size))
  revert a;(iterate 4 refine wo rfl rfl (by decide) (fun ev e h=>by simp[go_sem,h]<;>rfl) ?_);intro a hA
  replace hA:=hA.keepN [2,3]
  refine wN (nT (wp_ret ?_))
  refine gJ hA 2 3 rfl rfl rfl ?_
  exact⟨r,rfl,(ce.of hown).mono HW.size,HW.trans (hb.mono HW.size)⟩
theorem oW (A:Option Addr) (n c:Nat) (l:List UInt8) (w:World) (hl:l.length=n) (hn:n≤1000000000) (hr:aE w w.heap.size 1 A n (ar l)):
 Calls Tryz.prog 19 #[.slice A n c] w fun e w'=>∃v,e= .returned v∧w'.ownsRow w.heap.size 5 1 v n (ar l)∧Below w.heap.size w w':=by
 cases A with
 |none=>
  obtain⟨rfl,rfl⟩:=hr.empty8
  refine(Tryz.bytes_Clone_nil 0 c w).mono ?_
  rintro e w' ⟨rfl,rfl⟩
  exact⟨_,rfl,World.ownsRow_nil _ _ _ _,Below.refl _ _⟩
 |some a=>
  refine(Tryz.bytes_Clone_at a n c (gQ l) w (by simpa[gQ] using hl) (by omega) (nr hl hr)).mono ?_
  rintro e w' ⟨v',rfl,ho,_,hb⟩
  refine⟨v',rfl, ?_,hb⟩
  unfold gQ at ho
  rw[List.map_map] at ho
  exact ho
theorem ry (n:Int) (h0:0≤n) (h1:n<9223372036854775808):IntKind.i64.wrap n=n:=by
 simp[IntKind.wrap,IntKind.bits,IntKind.signed]
 split<;>omega
theorem zT (a b:Nat) (ha:a<9223372036854775808) (hb:b<9223372036854775808):bits .or .i64 (a:Int) (b:Int)=((a|||b:Nat):Int):=by
 show IntKind.i64.wrap ((BitVec.ofInt 64 (a:Int)|||BitVec.ofInt 64 (b:Int)).toNat:Int)=_
 rw[BitVec.toNat_or,ofInt_u64 a (by omega),ofInt_u64 b (by omega)]
 have h:a|||b<2^63:=Nat.or_lt_two_pow (by omega) (by omega)
 exact ry _ (by omega) (by omega)
theorem EK (v c:Nat) (hv:v<281474976710656) (hc:c<256):bits .or .i64 ((v:Int)*256) (c:Int)=((v*256+c:Nat):Int):=by
 have h:=zT (v*256) c (by omega) (by omega)
 rw[nat_join 8 (v*256) c (by omega) (by omega)] at h
 rw[←h];rfl
theorem zA {l:List UInt8} {j:Nat} {x:UInt8} (hx:l[j]?=some x):dL (l.take (j+1))=dL (l.take j)*256+x.toNat:=by
 rw[List.take_add_one,hx,←kD];rfl
theorem mf (s:l5) (n:Nat):(cK s n).1.length≤n:=by
 unfold cK
 split
 ·simp
 ·split
  ·simp
  ·simp only[Int.toNat_natCast,List.length_take];omega
theorem da (s:l5) (n:Int):(cK s n).2.rest.length≤s.rest.length:=by
 unfold cK
 split
 ·exact Nat.le_refl _
 ·split
  ·simp
  ·simp
theorem iL (s:l5) (n:Nat):(eW s n).1<256^n:=Nat.lt_of_lt_of_le (jc _) (Nat.pow_le_pow_right (by omega) (mf s n))
section
variable {w w':World} {i:Nat} {s:l5} {v:Value}
theorem qq (h:dn w i s v) (hl:s.rest.length≤1000000) (n:Nat) (hn:1≤n∧n≤7):
 Calls Tryz.prog 52 #[.pointer (some ⟨i,0,none⟩), .int .i64 (n:Nat)] w fun e w'=>e= .returned (.int .i64 ((eW s n).1:Nat))∧(∃v',dn w' i (eW s n).2 v')∧fY i w w':=by
 have H:=Lib.hid (uZ h hl n)
 have n1:decide ((n:Int)<1)=false:=by simp;omega
 have n2:decide (7<(n:Int))=false:=by simp;omega
 unfold eW
 have hlen:=mf s n
 dsimp only
 generalize cK s n=r at*
 obtain⟨l,s2⟩:=r
 simp only at H hlen ⊢
 clear h
 go_enter Tryz.func52,Tryz.ntmps52
 go_wp2_with fail
 refine H.out.mono ?_
 rintro e w1 ⟨r,rfl,⟨A,c,rfl,hr⟩,hi,hb⟩
 obtain⟨m,hm⟩:∃m,l.length=m:=⟨_,rfl⟩
 rw[hm] at hr hlen ⊢
 have HR:=Lib.hid hr
 have HI:Hid (∃v',dn w1 i s2 v'):=hi
 have HB:=Lib.hid hb
 clear hr hi hb H
 go_wp2
 go_loopw [5,18] (fun z k wr=>∃(j cc:Nat),k= .int .i64 j∧j≤m∧z= .int .i64 cc∧Hid (cc=dL (l.take j))∧wr=w1) (fun _ k _=>m - (intOf k).toNat)
 case atStart=>exact⟨0,0,rfl,by omega,rfl,rfl,rfl⟩
 case round=>
  obtain⟨j,cc,rfl,hj,rfl,hcc,rfl⟩:=hrel
  by_cases hlt:j<m
  ·obtain⟨x,hx⟩:∃x,l[j]?=some x:=⟨_,List.getElem?_eq_getElem (by omega)⟩
   obtain⟨ad,rfl,_,hc⟩:=HR.out.2 (by omega)
   have hcx:=hc j (.int .u8 (x.toNat:Int)) (by rw[dp,hx];rfl)
   have hst:=zA hx
   rw[←hcc.out] at hst
   obtain⟨xn,hxn⟩:∃xn,x.toNat=xn:=⟨_,rfl⟩
   have hx8:xn<256:=by rw[←hxn];exact x.toNat_lt
   have hcl:cc<281474976710656:=by
    rw[hcc.out]
    have h1:=jc (l.take j)
    refine Nat.lt_of_lt_of_le h1 (Nat.le_trans (Nat.pow_le_pow_right (by omega) (show _≤6 from ?_)) (by decide))
    rw[List.length_take];omega
   rw[hxn] at hcx hst
   have HST:=Lib.hid hst
   have hjn:=EK cc xn hcl hx8
   clear hst hx hc hxn
   go_wp2
   go_roundw
   case rel=>exact⟨j+1,cc*256+xn,by go_num,by omega,rfl,HST.out.symm,by first|rfl|trivial⟩
   case measure=>simp[intOf];omega
  ·obtain rfl:j=m:=by omega
   go_wp2
   go_ret
   refine⟨?_,HI.out,HB.out⟩
   rw[hcc.out,List.take_of_length_le (by omega)]
   rfl
theorem wU (s:l5):(ir s).2.rest.length≤s.rest.length:=Nat.le_trans (da _ _) (da _ _)
theorem Fo (h:dn w i s v) (hl:s.rest.length≤1000000):
 Calls Tryz.prog 53 #[.pointer (some ⟨i,0,none⟩)] w fun e w'=>e= .returned (.string (ir s).1)∧(∃v',dn w' i (ir s).2 v')∧fY i w w':=by
 have R1:=Lib.hid (qq h hl 2 (by omega))
 have hle:(eW s 2).2.rest.length≤1000000:=Nat.le_trans (da s _) hl
 unfold ir
 generalize eW s 2=r at*
 obtain⟨nn,s2⟩:=r
 simp only at R1 hle ⊢
 clear h
 go_enter Tryz.func53,Tryz.ntmps53
 go_wp2_with fail
 refine R1.out.mono ?_
 rintro e w1 ⟨rfl,⟨v1,h1⟩,hb1⟩
 have R2:=Lib.hid (uZ h1 hle (nn:Int))
 have HB1:=Lib.hid hb1
 clear h1 hb1 R1
 go_wp2_with fail
 refine R2.out.mono ?_
 rintro e w2 ⟨r,rfl,⟨A,c,rfl,hr⟩,hi,hb2⟩
 have hcv:=aY (c:=c) rfl hr
 have HI:Hid (∃v',dn w2 i (cK s2 nn).2 v'):=hi
 have HB2:=Lib.hid (HB1.out.trans hb2)
 clear hr hi hb2
 go_wp2
 go_ret
 exact⟨rfl,HI.out,HB2.out⟩
end
theorem Hj {w:World} {B n:Nat} {v:Value} {l:List UInt8} (h:w.ownsRow B 5 1 v n (ar l)) (hn:l.length=n):(v= .slice none 0 0∧l=[])∨∃ad c,v= .slice (some ad) l.length c∧l.length≤c∧aE w w.heap.size 1 (some ad) l.length (ar l)∧pM w ad.block:=by
 subst hn
 rcases h.2 with⟨rfl,h0⟩|⟨g,c,cur,rfl,_,hgg,hc,_⟩
 ·exact .inl ⟨rfl,List.length_eq_zero_iff.1 h0⟩
 ·exact .inr ⟨_,c,rfl,hc,aE.of_own h,⟨cur,_,hgg⟩⟩
theorem zV (A:Option Addr) (n c:Nat) (l:List UInt8) (hl:l.length=n) (hn:n≤1000000) (w:World) (hr:aE w w.heap.size 1 A n (ar l)):
 Calls Tryz.prog 51 #[.slice A n c] w fun e w'=>∃i v,e= .returned (.pointer (some ⟨i,0,none⟩))∧dn w' i ⟨l,false⟩ v∧w.heap.size≤i∧Below w.heap.size w w':=by
 have R1:=Lib.hid (oW A n c l w hl (by omega) hr)
 clear hr
 go_enter Tryz.func51,Tryz.ntmps51
 go_wp2_with fail
 refine R1.out.mono ?_
 rintro e w1 ⟨v,rfl,ho,hb⟩
 have hx:=(Below.refl w1.heap.size w1).alloc (Nat.le_refl _) (.cells #[v, .bool false] 166)
 have HI:Hid (dn (w1.alloc (.cells #[v, .bool false] 166)) w1.heap.size ⟨l,false⟩ v):=⟨aI.new w1 _ _,Hj (dv ho hx) hl⟩
 have HB:=Lib.hid (hb.trans (hx.mono hb.size))
 have HS:Hid (w.heap.size≤w1.heap.size):=hb.size
 have hv:∃A c,v= .slice A n c:=by
  obtain⟨A,c,e,_⟩:=cQ ho
  exact⟨A,c,e⟩
 obtain⟨A',c',rfl⟩:=hv
 clear ho hb hx
 go_wp2
 go_ret
 exact⟨_,_,rfl,HI.out,HS.out,HB.out⟩
theorem aI.ibut {w w':World} {g i:Nat} {t:TypeId} {cs:Array Value} (h:aI w g t cs) (hb:fY i w w') (hne:g≠i):aI w' g t cs:=(hb.block g h.lt hne).trans h
theorem dn.only {w w':World} {g i:Nat} {s:l5} {v:Value} {t:TypeId} {cs:Array Value} (h:dn w i s v) (hs:dZ g w w') (hne:i≠g) (K:aI w g t cs) (ht:t≠5):dn w' i s v:=by
 refine⟨(hs.block i hne).trans h.cells, ?_⟩
 rcases h.row with h|⟨ad,c,e,hc,hr,hu⟩
 ·exact .inl h
 ·have ha:ad.block≠g:=by
   rintro rfl
   obtain⟨cs',p,hg⟩:=hu
   unfold aI at K
   rw[K] at hg
   injection hg with hg
   injection hg with _ h2
   exact ht h2
  refine .inr ⟨ad,c,e,hc,⟨hr.1,fun hn=> ?_⟩,hu.same (hs.block _ ha)⟩
  obtain⟨ad',e',hlt,hcc⟩:=hr.2 hn
  have ea:ad=ad':=Option.some.inj e'
  subst ea
  exact⟨ad,rfl,by rw[hs.size];exact hlt,fun j u hu=>(World.cell?_of_block (by rw[aD];exact hs.block _ ha)).trans (hcc j u hu)⟩
theorem CW (s:l5) (n:Int):(cK s n).1.length≤s.rest.length:=by
 unfold cK
 split
 ·exact Nat.zero_le _
 ·split
  ·exact Nat.zero_le _
  ·show(List.take _ _).length≤_
   rw[List.length_take]
   exact Nat.min_le_right _ _
theorem HE {w:World} {i:Nat} {s:l5} {v:Value} (h:dn w i s v) (hl:s.rest.length≤1000000) (n:Int):
 Calls Tryz.prog 54 #[.pointer (some ⟨i,0,none⟩), .int .i64 n] w fun e w'=>∃r,e= .returned r∧ce w.heap.size w' r (cK s n).1∧(∃v',dn w' i (cK s n).2 v')∧fY i w w':=by
 have hn:=CW s n
 refine aK 9 Tryz.func54 rfl rfl (Nat.le_of_ble_eq_true rfl) ?_
 intro a hA;replace hA:=hA.norm
 refine wS (wR ?_)
 revert a;refine wo rfl rfl (by decide) (fun ev e h=>by simp[go_sem,h]<;>rfl) ?_;intro a hA
 replace hA:=hA.keepN [0,1]
 refine wN (nT (wS (wR ?_)))
 revert a;(iterate 2 refine wo rfl rfl (by decide) (fun ev e h=>by simp[go_sem,h]<;>rfl) ?_);intro a hA
 refine aC hA rfl rfl (by decide) (fun ev h=>aB Tryz.func92 (by kernel_rfl) rfl (h.f _) (by first|(simp only[mL,h.get 5 rfl,h.get 6 rfl,h.c]<;>rfl)|(simp[mL,h.get 5 rfl,h.get 6 rfl,h.c]<;>rfl))) (uZ h hl n) ?_
 rintro e w1 ⟨r,rfl,⟨A,c,rfl,hr⟩,⟨v1,h1⟩,hib⟩
 refine⟨_,rfl,fun a hA=> ?_⟩
 refine aC hA rfl rfl (by decide) (fun ev h=>aB Tryz.func19 (by kernel_rfl) rfl (h.f _) (by first|(simp only[mL,h.get 7 rfl,h.c]<;>rfl)|(simp[mL,h.get 7 rfl,h.c]<;>rfl))) (oW A _ c _ _ rfl (by omega) hr) ?_
 rintro e w2 ⟨v2,rfl,ho,hb⟩
 refine⟨_,rfl,fun a hA=> ?_⟩
 revert a;refine wo rfl rfl (by decide) (fun ev e h=>by simp[go_sem,h]<;>rfl) ?_;intro a hA
 replace hA:=hA.keepN [4]
 refine wN (nT (wp_ret ?_))
 refine ab hA 4 rfl rfl ?_
 exact⟨_,rfl,(ce.of ho).mono hib.size,⟨v1,h1.below hb⟩,hib.below hb⟩
theorem Fn {w:World} {i:Nat} {s:l5} {v:Value} (h:dn w i s v):
 Calls Tryz.prog 55 #[.pointer (some ⟨i,0,none⟩)] w fun e w'=>e= .returned (.int .i64 (s.rest.length:Nat))∧Below w.heap.size w w':=by
 obtain⟨A,c,hv⟩:∃A c,v= .slice A s.rest.length c:=by
  rcases h.row with⟨rfl,e⟩|⟨ad,c,e,_⟩
  ·exact⟨none,0,by rw[e];rfl⟩
  ·exact⟨_,_,e⟩
 subst hv
 have K:=h.cells
 have HB:=Below.refl w.heap.size w
 refine aK 10 Tryz.func55 rfl rfl (Nat.le_of_ble_eq_true rfl) ?_
 intro a hA;replace hA:=hA.norm
 refine wS (wR ?_)
 revert a;refine wo rfl rfl (by decide) (fun ev e h=>by simp[go_sem,h]<;>rfl) ?_;intro a hA
 replace hA:=hA.keepN [0]
 refine wN (nT (wS (wS (wR ?_))))
 revert a;(iterate 2 refine wo rfl rfl (by decide) (fun ev e h=>by simp[go_sem,h]<;>rfl) ?_);intro a hA
 replace hA:=hA.keepN [0,4]
 refine wN (nT ?_)
 refine aH hA 4 _ rfl (fun hq=> ?yA) (fun hq=> ?nA)
 case yA=>cases hq
 case nA=>
  refine wp_skip (nT (wS (wR ?_)))
  revert a;(iterate 6 refine wo rfl rfl (by decide) (fun ev e h=>by simp[go_sem,h,K.cell]<;>rfl) ?_);intro a hA
  replace hA:=hA.keepN [2]
  refine wN (nT (wp_ret ?_))
  refine ab hA 2 rfl rfl ?_
  exact⟨rfl,HB⟩
theorem HA {w:World} {i:Nat} {s:l5} {v:Value} (h:dn w i s v):
 Calls Tryz.prog 56 #[.pointer (some ⟨i,0,none⟩)] w fun e w'=>e= .returned (.bool s.bad)∧Below w.heap.size w w':=by
 have K:=h.cells
 have HB:=Below.refl w.heap.size w
 refine aK 11 Tryz.func56 rfl rfl (Nat.le_of_ble_eq_true rfl) ?_
 intro a hA;replace hA:=hA.norm
 refine wS (wR ?_)
 revert a;refine wo rfl rfl (by decide) (fun ev e h=>by simp[go_sem,h,K.cell]<;>rfl) ?_;intro a hA
 replace hA:=hA.keepN [0]
 refine wN (nT (wS (wR ?_)))
 revert a;(iterate 3 refine wo rfl rfl (by decide) (fun ev e h=>by simp[go_sem,h,K.cell]<;>rfl) ?_);(iterate 4 refine wg _ rfl rfl rfl rfl (by decide) (fun hq ev e h=>by simp[go_sem,h,↓aL (aF hq),K.cell]<;>rfl) ?_);refine j9 rfl rfl (by decide) rfl rfl rfl ?_;refine wo rfl rfl (by decide) (fun ev e h=>by simp[go_sem,h,K.cell]<;>rfl) ?_;intro a hA
 replace hA:=hA.keepN [2]
 refine wN (nT (wp_ret ?_))
 refine ab hA 2 rfl rfl ?_
 exact⟨rfl,HB⟩
def ko (p:List UInt8):Nat×l5:=eW ⟨p,false⟩ 4
def kn (k:Int) (p:List UInt8):Nat×l5:=bif k==1 then(0,(ko p).2) else eW (ko p).2 4
def mp (k:Int) (p:List UInt8):(Nat×Nat)×l5:=bif k==2 then(((eW (kn k p).2 6).1,(eW (eW (kn k p).2 6).2 1).1),(eW (eW (kn k p).2 6).2 1).2) else((0,0),(kn k p).2)
def mN (k:Int) (p:List UInt8):ByteArray×l5:=bif k==3 then(⟨#[]⟩,(mp k p).2) else ir (mp k p).2
def DX (k:Int) (p:List UInt8):List UInt8×l5:=cK (mN k p).2 ((mN k p).2.rest.length:Nat)
def vO (k:Int) (p:List UInt8) (a:Option Addr) (c:Nat):aU:=⟨(kn k p).1,((mp k p).1.1:Nat),((mp k p).1.2:Nat),a,c,(DX k p).1⟩
def bk (k:Int) (p:List UInt8):Bool:= !(DX k p).2.bad&&(af k (ko p).1 (mN k p).1 (vO k p none 0)&&(fL k (ko p).1 (mN k p).1 (vO k p none 0)==p))
theorem tD (k:Int) (e:Nat) (nm:ByteArray) (p:List UInt8) (a:Option Addr) (c:Nat):af k e nm (vO k p a c)=af k e nm (vO k p none 0):=rfl
theorem Dx (k:Int) (e:Nat) (nm:ByteArray) (p:List UInt8) (a:Option Addr) (c:Nat):fL k e nm (vO k p a c)=fL k e nm (vO k p none 0):=rfl
theorem jk (s:l5) (n:Nat):(eW s n).2.rest.length≤s.rest.length:=da s n
theorem xV (k:Int) (p:List UInt8):(kn k p).2.rest.length≤p.length:=by
 have h1:(ko p).2.rest.length≤p.length:=jk _ _
 unfold kn
 cases k==1
 ·exact Nat.le_trans (jk _ _) h1
 ·exact h1
theorem xW (k:Int) (p:List UInt8):(mp k p).2.rest.length≤p.length:=by
 have h2:=xV k p
 unfold mp
 cases k==2
 ·exact h2
 ·exact Nat.le_trans (jk _ _) (Nat.le_trans (jk _ _) h2)
theorem En (k:Int) (p:List UInt8):(mN k p).2.rest.length≤p.length:=by
 have h3:=xW k p
 unfold mN
 cases k==3
 ·exact Nat.le_trans (wU _) h3
 ·exact h3
theorem um (k:Int) (p:List UInt8):(kn k p).1<4294967296:=by
 unfold kn
 cases k==1
 ·exact iL _ 4
 ·show(0:Nat)<_
  decide
theorem Hk (k:Int) (p:List UInt8):(mp k p).1.1<281474976710656∧(mp k p).1.2<256:=by
 unfold mp
 cases k==2
 ·exact⟨show(0:Nat)<_ by decide,show(0:Nat)<_ by decide⟩
 ·exact⟨iL _ 6,iL _ 1⟩
theorem A7 (s:l5):(ir s).1.size<65536:=by
 have h1:=iL s 2
 have h2:=mf (eW s 2).2 (eW s 2).1
 have h3:(ir s).1.size=(cK (eW s 2).2 (eW s 2).1).1.length:=by
  show(List.toArray _).size=_
  rw[List.size_toArray]
 rw[h3]
 exact Nat.lt_of_le_of_lt h2 h1
theorem Eo (k:Int) (p:List UInt8):(mN k p).1.size<65536:=by
 unfold mN
 cases k==3
 ·exact A7 _
 ·show(0:Nat)<_
  decide
theorem BU {B n c:Nat} {w:World} {A:Option Addr} {l:List UInt8} (h:ce B w (.slice A n c) l):aE w w.heap.size 1 A l.length (ar l):=by
 obtain⟨A',c',e,hr⟩:=h.took
 injection e with e1
 subst e1
 exact hr
def rH :Array Value:=#[.int .i64 0, .int .u32 0, .string ⟨#[]⟩, .int .u32 0, .int .i64 0, .int .i64 0, .slice none 0 0]
theorem qV (k:Int) (A:Option Addr) (n c:Nat) (p:List UInt8) (hl:p.length=n) (hn:n≤1000000) (w:World) (hm:cX w) (hg:0<w.heap.size) (htab:Lib.TabIs Tryz.prog w "internal/strconv.uint64pow10" .u64 Lib.pow10Tab) (hr:aE w w.heap.size 1 A n (ar p)):
 Calls Tryz.prog 23 #[.int .i64 k, .slice A n c] w fun ev w'=>∃a c',ev= .returned (.tuple #[.agg (bif bk k p then fQ k (ko p).1 (mN k p).1 (vO k p a c') else rH), .int .i64 (bif bk k p then 0 else 2)])∧(bk k p=true→aE w' w'.heap.size 1 a (DX k p).1.length (ar (DX k p).1)∧∀ad,a=some ad→w.heap.size≤ad.block)∧Below w.heap.size w w':=by
 have Ht:=Lib.tabBelow_of_tabIs htab
 have q1:(ko p).1<4294967296:=iL _ 4
 have q1r:(ko p).2.rest.length≤p.length:=jk _ _
 have q2:=um k p
 have q2r:=xV k p
 obtain⟨q3a,q3b⟩:=Hk k p
 have q3r:=xW k p
 have q4:=Eo k p
 have q4r:=En k p
 obtain⟨Z,hZ⟩:∃Z:Array Value,Z=rH:=⟨_,rfl⟩
 have HB0:=Below.refl w.heap.size w
 refine aK 68 Tryz.func23 rfl rfl (Nat.le_of_ble_eq_true rfl) ?_
 intro a hA;replace hA:=hA.norm
 refine wS (wR ?_)
 refine aP hA rfl rfl (by decide) (fun ev h=>by simp[go_sem];try first|exact⟨rfl,rfl⟩|rfl) fun w1 a (K4:aI _ _ _ _) hz1 hb0 hA=> ?_
 obtain⟨g4,hg4⟩:∃g4,w.heap.size=g4:=⟨_,rfl⟩
 rw[hg4] at K4 hA
 have h4:g4<w1.heap.size:=by omega
 have HB:Below w.heap.size w w1:=hb0
 revert a;refine wo rfl rfl (by decide) (fun ev e h=>by simp[go_sem,h]<;>rfl) ?_;intro a hA
 replace hA:=hA.keepN [0,1,4]
 refine wN (nT (wS (wR ?_)))
 revert a;refine wo rfl rfl (by decide) (fun ev e h=>by simp[go_sem,h]<;>rfl) ?_;intro a hA
 refine aC hA rfl rfl (by decide) (fun ev h=>aB Tryz.func51 (by kernel_rfl) rfl (h.f _) (by first|(simp only[mL,h.get 10 rfl,h.c]<;>rfl)|(simp[mL,h.get 10 rfl,h.c]<;>rfl))) (zV A n c p hl hn _ ((hr.below hb0).more hb0.size)) ?_
 rintro e w2 ⟨i,v1,rfl,hI,hi,hb⟩
 refine⟨_,rfl,fun a hA=> ?_⟩
 replace K4:=K4.below hb K4.lt
 replace HB:=HB.trans (hb.mono HB.size)
 have h4i:g4≠i:=by omega
 revert a;refine wo rfl rfl (by decide) (fun ev e h=>by simp[go_sem,h]<;>rfl) ?_;intro a hA
 replace hA:=hA.keepN [0,1,4,6]
 refine wN (nT (wS (wR ?_)))
 revert a;(iterate 2 refine wo rfl rfl (by decide) (fun ev e h=>by simp[go_sem,h]<;>rfl) ?_);intro a hA
 refine aC hA rfl rfl (by decide) (fun ev h=>aB Tryz.func52 (by kernel_rfl) rfl (h.f _) (by first|(simp only[mL,h.get 13 rfl,h.c]<;>rfl)|(simp[mL,h.get 13 rfl,h.c]<;>rfl))) (qq hI (by show p.length≤_;omega) 4 (by omega)) ?_
 rintro e w3 ⟨rfl,⟨v2,hI⟩,hib⟩
 refine⟨_,rfl,fun a hA=> ?_⟩
 replace K4:=K4.ibut hib h4i
 replace HB:=HB.trans (hib.toBelow HB.size (by omega))
 rw[show(eW ⟨p,false⟩ 4)=ko p from rfl] at hI hA
 have hw1:IntKind.u32.wrap ((ko p).1:Int)=((ko p).1:Int):=IntWalk.u32_in _ (by omega)
 refine a7 hA rfl rfl (by decide) (fun ev h=>by simp[go_sem,h.get 14 rfl,hw1];try first|exact⟨rfl,rfl⟩|rfl) fun a hA=> ?_
 revert a;refine wo rfl rfl (by decide) (fun ev e h=>by simp[go_sem,h,hw1]<;>rfl) ?_;intro a hA
 have hi3:=hI.cells.lt
 refine ap [.int .i64 k, .int .u32 ((ko p).1:Nat), .string ⟨#[]⟩, .int .u32 0, .int .i64 0, .int .i64 0, .slice none 0 0] hA rfl rfl (by decide) (fun ev h=>by simp[go_sem,hw1];try first|exact⟨rfl,rfl⟩|rfl) rfl rfl (by rfl) (fun w1 g ev hb h=>by simp[go_sem,h.get 7 rfl,h.get 16 rfl,hw1,setAll,hb.cell,hb.frozen]) fun w4 a (K7:aI _ _ _ _) hz4 hb4 hA=> ?_
 replace K4:=K4.below hb4 K4.lt
 replace HB:=HB.trans (hb4.mono HB.size)
 replace hI:=hI.below hb4
 obtain⟨g7,hg7⟩:∃g7,w3.heap.size=g7:=⟨_,rfl⟩
 have h3w:=HB.size
 rw[hg7] at K7 hA hi3
 have h47:g4≠g7:=by have:=K4.lt;omega
 have hi7:i≠g7:=by omega
 have hw7:w.heap.size≤g7:=by omega
 have hw4:w.heap.size≤i:=by omega
 replace hA:=hA.keepN [0,1,4,6,7]
 refine wN (nT (wS (wS (wR ?_))))
 revert a;(iterate 2 refine wo rfl rfl (by decide) (fun ev e h=>by simp[go_sem,h,hw1]<;>rfl) ?_);intro a hA
 replace hA:=hA.keepN [0,1,4,6,7,18]
 refine wN (nT ?_)
 refine cd (fun a wx=>∃v,At 68 [(0, .int .i64 k),(1, .slice A n c),(4, .pointer (some ⟨g4,0,none⟩)),(6, .pointer (some ⟨i,0,none⟩)),(7, .pointer (some ⟨g7,0,none⟩))] a∧dn wx i (kn k p).2 v∧aI wx g4 66 rH∧aI wx g7 66 #[.int .i64 k, .int .u32 ((ko p).1:Nat), .string ⟨#[]⟩, .int .u32 ((kn k p).1:Nat), .int .i64 0, .int .i64 0, .slice none 0 0]∧Below w.heap.size w wx) ?jfJ ?jrJ
 case jfJ=>
  refine aH hA 18 _ rfl (fun hq=> ?yD) (fun hq=> ?nD)
  case yD=>
   have hq:(k==1)=false:=by simpa using hq
   have e2:kn k p=eW (ko p).2 4:=by unfold kn;rw[hq,cond_false]
   refine wR ?_
   revert a;refine wo rfl rfl (by decide) (fun ev e h=>by simp[go_sem,h,hw1]<;>rfl) ?_;intro a hA
   refine aC hA rfl rfl (by decide) (fun ev h=>aB Tryz.func52 (by kernel_rfl) rfl (h.f _) (by first|(simp only[mL,h.get 19 rfl,h.c]<;>rfl)|(simp[mL,h.get 19 rfl,h.c,hw1]<;>rfl))) (qq hI (by omega) 4 (by omega)) ?_
   rintro e w5 ⟨rfl,⟨v5,hI⟩,hib⟩
   refine⟨_,rfl,fun a hA=> ?_⟩
   rw[←e2] at hI hA
   replace K4:=K4.ibut hib h4i
   replace K7:=K7.ibut hib hi7.symm
   replace HB:=HB.trans (hib.toBelow HB.size hw4)
   have hw2:IntKind.u32.wrap ((kn k p).1:Int)=((kn k p).1:Int):=IntWalk.u32_in _ (by omega)
   refine a7 hA rfl rfl (by decide) (fun ev h=>by simp[go_sem,h.get 20 rfl,hw2];try first|exact⟨rfl,rfl⟩|rfl) fun a hA=> ?_
   revert a;(iterate 2 refine wo rfl rfl (by decide) (fun ev e h=>by simp[go_sem,h,hw2]<;>rfl) ?_);intro a hA
   have K7b:=K7
   refine aq ([.int .i64 k, .int .u32 ((ko p).1:Nat), .string ⟨#[]⟩, .int .u32 ((kn k p).1:Nat), .int .i64 0, .int .i64 0, .slice none 0 0]) _ hA rfl rfl K7 (j:=3) (by rfl) (fun ev h=>by simp[go_sem,h.get 23 rfl,h.get 21 rfl,hw2,K7.cell,K7.frozen];try first|exact⟨rfl,rfl⟩|rfl) fun w6 (K7:aI _ _ _ _) hs=> ?_
   replace hA:=hA.keepN [0,1,4,6,7]
   refine wN (nT ?_)
   exact⟨_,hA,hI.only hs hi7 K7b (by decide),hs.blk K4 h47,K7,hs.below HB hw7⟩
  case nD=>
   have hq:(k==1)=true:=by simpa using hq
   have e2:kn k p=(0,(ko p).2):=by unfold kn;rw[hq,cond_true]
   replace hA:=hA.keepN [0,1,4,6,7]
   refine wp_skip (nT ?_)
   rw[e2]
   exact⟨_,hA,hI,K4,K7,HB⟩
 clear hI K4 K7 HB
 rintro a wx ⟨v7,hA,hI,K4,K7,HB⟩
 refine wS (wS (wR ?_))
 revert a;(iterate 2 refine wo rfl rfl (by decide) (fun ev e h=>by simp[go_sem,h,hw1]<;>rfl) ?_);intro a hA
 replace hA:=hA.keepN [0,1,4,6,7,25]
 refine wN (nT ?_)
 refine cd (fun a wx=>∃v,At 68 [(0, .int .i64 k),(1, .slice A n c),(4, .pointer (some ⟨g4,0,none⟩)),(6, .pointer (some ⟨i,0,none⟩)),(7, .pointer (some ⟨g7,0,none⟩))] a∧dn wx i (mp k p).2 v∧aI wx g4 66 rH∧aI wx g7 66 #[.int .i64 k, .int .u32 ((ko p).1:Nat), .string ⟨#[]⟩, .int .u32 ((kn k p).1:Nat), .int .i64 ((mp k p).1.1:Nat), .int .i64 ((mp k p).1.2:Nat), .slice none 0 0]∧Below w.heap.size w wx) ?jfL ?jrL
 case jfL=>
  refine aH hA 25 _ rfl (fun hq=> ?yD2) (fun hq=> ?nD2)
  case yD2=>
   have e3:mp k p=(((eW (kn k p).2 6).1,(eW (eW (kn k p).2 6).2 1).1),(eW (eW (kn k p).2 6).2 1).2):=by unfold mp;rw[hq,cond_true]
   rw[e3]
   have q6:=jk (kn k p).2 6
   refine wR ?_
   revert a;refine wo rfl rfl (by decide) (fun ev e h=>by simp[go_sem,h,hw1]<;>rfl) ?_;intro a hA
   refine aC hA rfl rfl (by decide) (fun ev h=>aB Tryz.func52 (by kernel_rfl) rfl (h.f _) (by first|(simp only[mL,h.get 26 rfl,h.c]<;>rfl)|(simp[mL,h.get 26 rfl,h.c,hw1]<;>rfl))) (qq hI (by omega) 6 (by omega)) ?_
   rintro e w8 ⟨rfl,⟨v8,hI⟩,hib⟩
   refine⟨_,rfl,fun a hA=> ?_⟩
   replace K4:=K4.ibut hib h4i
   replace K7:=K7.ibut hib hi7.symm
   replace HB:=HB.trans (hib.toBelow HB.size hw4)
   revert a;refine wo rfl rfl (by decide) (fun ev e h=>by simp[go_sem,h,hw1]<;>rfl) ?_;intro a hA
   refine aC hA rfl rfl (by decide) (fun ev h=>aB Tryz.func52 (by kernel_rfl) rfl (h.f _) (by first|(simp only[mL,h.get 28 rfl,h.c]<;>rfl)|(simp[mL,h.get 28 rfl,h.c,hw1]<;>rfl))) (qq hI (by omega) 1 (by omega)) ?_
   rintro e w9 ⟨rfl,⟨v9,hI⟩,hib⟩
   refine⟨_,rfl,fun a hA=> ?_⟩
   replace K4:=K4.ibut hib h4i
   replace K7:=K7.ibut hib hi7.symm
   replace HB:=HB.trans (hib.toBelow HB.size hw4)
   revert a;(iterate 2 refine wo rfl rfl (by decide) (fun ev e h=>by simp[go_sem,h,hw1]<;>rfl) ?_);intro a hA
   have K7b:=K7
   refine aq ([.int .i64 k, .int .u32 ((ko p).1:Nat), .string ⟨#[]⟩, .int .u32 ((kn k p).1:Nat), .int .i64 ((eW (kn k p).2 6).1:Nat), .int .i64 0, .slice none 0 0]) _ hA rfl rfl K7 (j:=4) (by rfl) (fun ev h=>by simp[go_sem,h.get 31 rfl,h.get 27 rfl,hw1,K7.cell,K7.frozen];try first|exact⟨rfl,rfl⟩|rfl) fun w10 (K7:aI _ _ _ _) hs=> ?_
   replace hI:=hI.only hs hi7 K7b (by decide)
   replace K4:=hs.blk K4 h47
   replace HB:=hs.below HB hw7
   revert a;(iterate 2 refine wo rfl rfl (by decide) (fun ev e h=>by simp[go_sem,h,hw1]<;>rfl) ?_);intro a hA
   have K7b:=K7
   refine aq ([.int .i64 k, .int .u32 ((ko p).1:Nat), .string ⟨#[]⟩, .int .u32 ((kn k p).1:Nat), .int .i64 ((eW (kn k p).2 6).1:Nat), .int .i64 ((eW (eW (kn k p).2 6).2 1).1:Nat), .slice none 0 0]) _ hA rfl rfl K7 (j:=5) (by rfl) (fun ev h=>by simp[go_sem,h.get 33 rfl,h.get 29 rfl,hw1,K7.cell,K7.frozen];try first|exact⟨rfl,rfl⟩|rfl) fun w11 (K7:aI _ _ _ _) hs=> ?_
   replace hA:=hA.keepN [0,1,4,6,7]
   refine wN (nT ?_)
   exact⟨_,hA,hI.only hs hi7 K7b (by decide),hs.blk K4 h47,K7,hs.below HB hw7⟩
  case nD2=>
   have e3:mp k p=((0,0),(kn k p).2):=by unfold mp;rw[hq,cond_false]
   replace hA:=hA.keepN [0,1,4,6,7]
   refine wp_skip (nT ?_)
   rw[e3]
   exact⟨_,hA,hI,K4,K7,HB⟩
 clear hI K4 K7 HB
 rintro a wx ⟨v12,hA,hI,K4,K7,HB⟩
 refine wS (wS (wR ?_))
 revert a;(iterate 2 refine wo rfl rfl (by decide) (fun ev e h=>by simp[go_sem,h,hw1]<;>rfl) ?_);intro a hA
 replace hA:=hA.keepN [1,4,6,7,35]
 refine wN (nT ?_)
 refine cd (fun a wx=>∃v,At 68 [(1, .slice A n c),(4, .pointer (some ⟨g4,0,none⟩)),(6, .pointer (some ⟨i,0,none⟩)),(7, .pointer (some ⟨g7,0,none⟩))] a∧dn wx i (mN k p).2 v∧aI wx g4 66 rH∧aI wx g7 66 #[.int .i64 k, .int .u32 ((ko p).1:Nat), .string (mN k p).1, .int .u32 ((kn k p).1:Nat), .int .i64 ((mp k p).1.1:Nat), .int .i64 ((mp k p).1.2:Nat), .slice none 0 0]∧Below w.heap.size w wx) ?jfM ?jrM
 case jfM=>
  refine aH hA 35 _ rfl (fun hq=> ?yD3) (fun hq=> ?nD3)
  case yD3=>
   have hq:(k==3)=false:=by simpa using hq
   have e4:mN k p=ir (mp k p).2:=by unfold mN;rw[hq,cond_false]
   rw[e4]
   refine wR ?_
   revert a;refine wo rfl rfl (by decide) (fun ev e h=>by simp[go_sem,h,hw1]<;>rfl) ?_;intro a hA
   refine aC hA rfl rfl (by decide) (fun ev h=>aB Tryz.func53 (by kernel_rfl) rfl (h.f _) (by first|(simp only[mL,h.get 36 rfl,h.c]<;>rfl)|(simp[mL,h.get 36 rfl,h.c,hw1]<;>rfl))) (Fo hI (by omega)) ?_
   rintro e w13 ⟨rfl,⟨v13,hI⟩,hib⟩
   refine⟨_,rfl,fun a hA=> ?_⟩
   replace K4:=K4.ibut hib h4i
   replace K7:=K7.ibut hib hi7.symm
   replace HB:=HB.trans (hib.toBelow HB.size hw4)
   revert a;refine wo rfl rfl (by decide) (fun ev e h=>by simp[go_sem,h,hw1]<;>rfl) ?_;intro a hA
   have K7b:=K7
   refine aq ([.int .i64 k, .int .u32 ((ko p).1:Nat), .string (ir (mp k p).2).1, .int .u32 ((kn k p).1:Nat), .int .i64 ((mp k p).1.1:Nat), .int .i64 ((mp k p).1.2:Nat), .slice none 0 0]) _ hA rfl rfl K7 (j:=2) (by rfl) (fun ev h=>by simp[go_sem,h.get 38 rfl,h.get 37 rfl,hw1,K7.cell,K7.frozen];try first|exact⟨rfl,rfl⟩|rfl) fun w14 (K7:aI _ _ _ _) hs=> ?_
   replace hA:=hA.keepN [1,4,6,7]
   refine wN (nT ?_)
   exact⟨_,hA,hI.only hs hi7 K7b (by decide),hs.blk K4 h47,K7,hs.below HB hw7⟩
  case nD3=>
   have hq:(k==3)=true:=by simpa using hq
   have e4:mN k p=(⟨#[]⟩,(mp k p).2):=by unfold mN;rw[hq,cond_true]
   replace hA:=hA.keepN [1,4,6,7]
   refine wp_skip (nT ?_)
   rw[e4]
   exact⟨_,hA,hI,K4,K7,HB⟩
 clear hI K4 K7 HB
 rintro a wx ⟨v15,hA,hI,K4,K7,HB⟩
 unfold rH at K4
 refine wS (wR ?_)
 revert a;(iterate 2 refine wo rfl rfl (by decide) (fun ev e h=>by simp[go_sem,h,hw1]<;>rfl) ?_);intro a hA
 refine aC hA rfl rfl (by decide) (fun ev h=>aB Tryz.func55 (by kernel_rfl) rfl (h.f _) (by first|(simp only[mL,h.get 40 rfl,h.c]<;>rfl)|(simp[mL,h.get 40 rfl,h.c,hw1]<;>rfl))) (Fn hI) ?_
 rintro e w16 ⟨rfl,hb⟩
 refine⟨_,rfl,fun a hA=> ?_⟩
 replace K4:=K4.below hb K4.lt
 replace K7:=K7.below hb K7.lt
 replace HB:=HB.trans (hb.mono HB.size)
 replace hI:=hI.below hb
 refine aC hA rfl rfl (by decide) (fun ev h=>aB Tryz.func54 (by kernel_rfl) rfl (h.f _) (by first|(simp only[mL,h.get 39 rfl,h.get 41 rfl,h.c]<;>rfl)|(simp[mL,h.get 39 rfl,h.get 41 rfl,h.c,hw1]<;>rfl))) (HE hI (by omega) ((mN k p).2.rest.length:Nat)) ?_
 rintro e w17 ⟨vr,rfl,hor,⟨v17,hI⟩,hib⟩
 refine⟨_,rfl,fun a hA=> ?_⟩
 rw[show(cK (mN k p).2 ((mN k p).2.rest.length:Nat))=DX k p from rfl] at hor hI
 have h716:=K7.lt
 replace K4:=K4.ibut hib h4i
 replace K7:=K7.ibut hib hi7.symm
 replace HB:=HB.trans (hib.toBelow HB.size hw4)
 obtain⟨Ao,co,rfl,hro⟩:=hor.took
 clear hro
 revert a;(iterate 2 refine wo rfl rfl (by decide) (fun ev e h=>by simp[go_sem,h,hw1]<;>rfl) ?_);intro a hA
 have K7b:=K7
 refine aq ([.int .i64 k, .int .u32 ((ko p).1:Nat), .string (mN k p).1, .int .u32 ((kn k p).1:Nat), .int .i64 ((mp k p).1.1:Nat), .int .i64 ((mp k p).1.2:Nat), .slice Ao (DX k p).1.length co]) _ hA rfl rfl K7 (j:=6) (by rfl) (fun ev h=>by simp[go_sem,h.get 44 rfl,h.get 42 rfl,hw1,K7.cell,K7.frozen];try first|exact⟨rfl,rfl⟩|rfl) fun w18 (K7:aI _ _ _ _) hs=> ?_
 replace hI:=hI.only hs hi7 K7b (by decide)
 replace K4:=hs.blk K4 h47
 replace HB:=hs.below HB hw7
 replace hor:=hor.keep fun g hg=>hs.block g (by have:=(World.ownsRow.lt hor g hg).1;omega)
 replace hA:=hA.keepN [1,4,6,7]
 refine wN (nT (wS (wS (wR ?_))))
 revert a;refine wo rfl rfl (by decide) (fun ev e h=>by simp[go_sem,h,hw1]<;>rfl) ?_;intro a hA
 refine aC hA rfl rfl (by decide) (fun ev h=>aB Tryz.func56 (by kernel_rfl) rfl (h.f _) (by first|(simp only[mL,h.get 45 rfl,h.c]<;>rfl)|(simp[mL,h.get 45 rfl,h.c,hw1]<;>rfl))) (HA hI) ?_
 rintro e w19 ⟨rfl,hb⟩
 refine⟨_,rfl,fun a hA=> ?_⟩
 replace K4:=K4.below hb K4.lt
 replace K7:=K7.below hb K7.lt
 replace HB:=HB.trans (hb.mono HB.size)
 replace hI:=hI.below hb
 replace hor:=hor.below hb
 revert a;refine wo rfl rfl (by decide) (fun ev e h=>by simp[go_sem,h,K7.cell]<;>rfl) ?_;refine wg _ rfl rfl rfl rfl (by decide) (fun hq ev e h=>by simp[go_sem,h,↓aL (aF hq),K7.cell]<;>rfl) ?_;intro a hA
 refine dK _ hA rfl rfl rfl rfl (by decide) (fun hq ev h=>aB Tryz.func57 (by kernel_rfl) rfl (h.f _) (by first|(simp only[mL,((h.get 48 rfl).trans (aL (aF hq))),h.c]<;>rfl)|(simp[mL,((h.get 48 rfl).trans (aL (aF hq))),h.c,K7.cell]<;>rfl))) (fun hq=>qk k (ko p).1 (mN k p).1 (vO k p Ao co) _ (hm.below hg HB) (Nat.lt_of_lt_of_le hg HB.size) (htab:=Ht _ HB) (by omega)) fun a w20 hb hA=> ?_
 replace K4:=K4.below hb K4.lt
 replace K7:=K7.below hb K7.lt
 replace HB:=HB.trans (hb.mono HB.size)
 replace hor:=hor.below hb
 revert a;refine wg _ rfl rfl rfl rfl (by decide) (fun hq ev e h=>by simp[go_sem,h,↓aL (aF hq),K7.cell]<;>rfl) ?_;refine kj rfl rfl (by decide) rfl rfl rfl ?_;intro a hA
 replace hA:=hA.keepN [1,4,7,51]
 refine wN (nT ?_)
 refine aH hA 51 _ rfl (fun hq=> ?yE) (fun hq=> ?nE)
 case yE=>
  have hno:bk k p=false:=by
   rw[tD] at hq
   unfold bk
   cases hb:(DX k p).2.bad with
   |true=>rfl
   |false=>
    rw[hb,Bool.false_or] at hq
    have hf:af k (ko p).1 (mN k p).1 (vO k p none 0)=false:=by simpa using hq
    rw[hf]
    rfl
  refine wS (wR ?_)
  revert a;refine wo rfl rfl (by decide) (fun ev e h=>by simp[go_sem,h,K7.cell]<;>rfl) ?_;intro a hA
  refine bX [.int .i64 0, .int .u32 0, .string ⟨#[]⟩, .int .u32 0, .int .i64 0, .int .i64 0, .slice none 0 0] hA rfl rfl K4 (by rfl) (fun ev h=>by simp[go_sem,h.get 4 rfl,h.get 52 rfl,K7.cell,setAll,K4.cell,K4.frozen]) fun w21 (K4:aI _ _ _ _) hs=> ?_
  revert a;refine wo rfl rfl (by decide) (fun ev e h=>by simp[go_sem,h,K4.cell]<;>rfl) ?_;intro a hA
  replace hA:=hA.keepN [4,5]
  refine wN (nT (wp_ret (rT ?_)))
  refine bodyPost_ret (by simp[results,Tryz.results23,go_sem,hA.env 4 _ rfl,hA.env 5 _ rfl,K4.cell];try first|exact⟨rfl,rfl⟩|rfl) hA.defers ?_
  exact⟨none,0,by rw[hno];rfl,fun h=>(by rw[hno] at h;cases h),hs.below HB (by omega)⟩
 case nE=>
  rw[Bool.or_eq_false_iff] at hq
  obtain⟨hbd,hq⟩:=hq
  have hf:af k (ko p).1 (mN k p).1 (vO k p Ao co)=true:=by simpa using hq
  refine wp_skip (nT (wS (wS (wR ?_))))
  revert a;refine wo rfl rfl (by decide) (fun ev e h=>by simp[go_sem,h,K7.cell]<;>rfl) ?_;intro a hA
  refine aC hA rfl rfl (by decide) (fun ev h=>aB Tryz.func58 (by kernel_rfl) rfl (h.f _) (by first|(simp only[mL,h.get 54 rfl,h.c]<;>rfl)|(simp[mL,h.get 54 rfl,h.c,K7.cell]<;>rfl))) (qd k (ko p).1 (mN k p).1 (vO k p Ao co) _ (hm.below hg HB) (Nat.lt_of_lt_of_le hg HB.size) (htab:=Ht _ HB) (by omega) q1 q2 (BU hor)) ?_
  rintro e w22 ⟨r,rfl,hoe,hb⟩
  refine⟨_,rfl,fun a hA=> ?_⟩
  replace K4:=K4.below hb K4.lt
  replace K7:=K7.below hb K7.lt
  replace HB:=HB.trans (hb.mono HB.size)
  replace hor:=hor.below hb
  rw[hf,cond_true] at hoe hA
  obtain⟨Ar,cr,rfl,hrr⟩:=hoe.took
  revert a;(iterate 5 refine wo rfl rfl (by decide) (fun ev e h=>by simp[go_sem,h,K7.cell]<;>rfl) ?_);intro a hA
  replace hA:=hA.keepN [1,4,7,8,9]
  refine wN (nT (wS (wR ?_)))
  revert a;(iterate 3 refine wo rfl rfl (by decide) (fun ev e h=>by simp[go_sem,h,K7.cell]<;>rfl) ?_);(iterate 2 refine wg _ rfl rfl rfl rfl (by decide) (fun hq ev e h=>by simp[go_sem,h,↓aL (aF hq),K7.cell]<;>rfl) ?_);intro a hA
  have hrp:=(hr.below HB).more HB.size
  refine dK _ hA rfl rfl rfl rfl (by decide) (fun hq ev h=>aB Tryz.func36 (by kernel_rfl) rfl (h.f _) (by first|(simp only[mL,((h.get 61 rfl).trans (aL (aF hq))),((h.get 62 rfl).trans (aL (aF hq))),h.c]<;>rfl)|(simp[mL,((h.get 61 rfl).trans (aL (aF hq))),((h.get 62 rfl).trans (aL (aF hq))),h.c,K7.cell]<;>rfl))) (fun hq=>(gV Ar A _ cr n c _ p _ rfl hl hrr hrp).mono fun e' w' h=>⟨h.1,h.2▸Below.refl _ _⟩) fun a w23 hb hA=> ?_
  replace K4:=K4.below hb K4.lt
  replace K7:=K7.below hb K7.lt
  replace HB:=HB.trans (hb.mono HB.size)
  replace hor:=hor.below hb
  revert a;refine wg _ rfl rfl rfl rfl (by decide) (fun hq ev e h=>by simp[go_sem,h,↓aL (aF hq),K7.cell]<;>rfl) ?_;refine kj rfl rfl (by decide) rfl rfl rfl ?_;intro a hA
  replace hA:=hA.keepN [4,7,65]
  refine wN (nT ?_)
  refine aH hA 65 _ rfl (fun hq2=> ?yF) (fun hq2=> ?nF)
  case yF=>
   have hno:bk k p=false:=by
    have he:(fL k (ko p).1 (mN k p).1 (vO k p Ao co)==p)=false:=by simpa using hq2
    rw[Dx] at he
    unfold bk
    rw[he,Bool.and_false,Bool.and_false]
   refine wS (wR ?_)
   revert a;refine wo rfl rfl (by decide) (fun ev e h=>by simp[go_sem,h,K7.cell]<;>rfl) ?_;intro a hA
   refine bX [.int .i64 0, .int .u32 0, .string ⟨#[]⟩, .int .u32 0, .int .i64 0, .int .i64 0, .slice none 0 0] hA rfl rfl K4 (by rfl) (fun ev h=>by simp[go_sem,h.get 4 rfl,h.get 66 rfl,K7.cell,setAll,K4.cell,K4.frozen]) fun w24 (K4:aI _ _ _ _) hs=> ?_
   revert a;refine wo rfl rfl (by decide) (fun ev e h=>by simp[go_sem,h,K4.cell]<;>rfl) ?_;intro a hA
   replace hA:=hA.keepN [4,5]
   refine wN (nT (wp_ret (rT ?_)))
   refine bodyPost_ret (by simp[results,Tryz.results23,go_sem,hA.env 4 _ rfl,hA.env 5 _ rfl,K4.cell];try first|exact⟨rfl,rfl⟩|rfl) hA.defers ?_
   exact⟨none,0,by rw[hno];rfl,fun h=>(by rw[hno] at h;cases h),hs.below HB (by omega)⟩
  case nF=>
   have hyes:bk k p=true:=by
    have he:(fL k (ko p).1 (mN k p).1 (vO k p Ao co)==p)=true:=by simpa using hq2
    rw[Dx] at he
    rw[tD] at hf
    unfold bk
    rw[he,hf,hbd]
    rfl
   refine wp_skip (nT (wS (wR ?_)))
   revert a;refine wo rfl rfl (by decide) (fun ev e h=>by simp[go_sem,h,K7.cell]<;>rfl) ?_;intro a hA
   refine bX [.int .i64 k, .int .u32 ((ko p).1:Nat), .string (mN k p).1, .int .u32 ((kn k p).1:Nat), .int .i64 ((mp k p).1.1:Nat), .int .i64 ((mp k p).1.2:Nat), .slice Ao (DX k p).1.length co] hA rfl rfl K4 (by rfl) (fun ev h=>by simp[go_sem,h.get 4 rfl,h.get 67 rfl,K7.cell,setAll,K4.cell,K4.frozen]) fun w25 (K4:aI _ _ _ _) hs=> ?_
   replace hor:=hor.keep fun g hg=>hs.block g (by have:=(World.ownsRow.lt hor g hg).1;omega)
   revert a;refine wo rfl rfl (by decide) (fun ev e h=>by simp[go_sem,h,K4.cell]<;>rfl) ?_;intro a hA
   replace hA:=hA.keepN [4,5]
   refine wN (nT (wp_ret ?_))
   refine bodyPost_ret (by simp[results,Tryz.results23,go_sem,hA.env 4 _ rfl,hA.env 5 _ rfl,K4.cell];try first|exact⟨rfl,rfl⟩|rfl) hA.defers ?_
   exact⟨Ao,co,by rw[hyes];rfl,fun _=>⟨BU hor,fun ad ha=>by have:=(World.ownsRow.lt hor ad.block (by rw[ha];rfl)).1;omega⟩,hs.below HB (by omega)⟩
theorem sc {d f:Int} {n:Nat} (h:kX d f n=true):d=0∧f=0:=by
 unfold kX at h
 simp only[Bool.and_eq_true,beq_iff_eq] at h
 exact⟨h.1.1,h.1.2⟩
theorem zJ {nm:ByteArray} (h:nm.toList.isEmpty=true):nm=⟨#[]⟩:=by
 rw[ByteArray.toList_eq] at h
 have h4:=List.isEmpty_iff.1 h
 obtain⟨⟨l⟩⟩:=nm
 have:l=[]:=h4
 rw[this]
theorem iA {k:Int} {e:Nat} {nm:ByteArray} {m:aU} (h:af k e nm m=true):((k==1)=true→m.uid=0)∧((k==2)=false→m.date=0∧m.flags=0)∧((k==3)=true→nm=⟨#[]⟩)∧0≤m.date∧m.date≤253402300799∧0≤m.flags∧m.flags≤31:=by
 unfold af at h
 rw[Bool.and_eq_true] at h
 obtain⟨_,h⟩:=h
 cases h1:k==1 with
 |true=>
  rw[h1,cond_true,Bool.and_eq_true,Bool.and_eq_true,beq_iff_eq] at h
  obtain⟨hd,hf⟩:=sc h.1.2
  have e1:k=1:=by simpa using h1
  exact⟨fun _=>h.2,fun _=>⟨hd,hf⟩,fun h3=>(by rw[e1] at h3;cases h3),by omega,by omega,by omega,by omega⟩
 |false=>
  rw[h1,cond_false] at h
  cases h2:k==2 with
  |true=>
   rw[h2,cond_true,Bool.and_eq_true] at h
   obtain⟨_,_,p⟩:=ql h.2
   have e2:k=2:=by simpa using h2
   exact⟨fun e=>(by cases e),fun e=>(by cases e),fun h3=>(by rw[e2] at h3;cases h3),p⟩
  |false=>
   rw[h2,cond_false,Bool.and_eq_true,Bool.and_eq_true,Bool.and_eq_true] at h
   obtain⟨hd,hf⟩:=sc h.1.2
   exact⟨fun e=>(by cases e),fun _=>⟨hd,hf⟩,fun _=>zJ h.1.1.2,by omega,by omega,by omega,by omega⟩
section
variable {k:Int} {e:Nat} {nm:ByteArray} {m:aU}
theorem uk (he:e<4294967296):ko (fL k e nm m)=(e,⟨sH k m++(sI k m++(sJ k nm++m.b)),false⟩):=by
 unfold ko fL
 rw[List.append_assoc,List.append_assoc,List.append_assoc]
 exact kK 4 e _ he
theorem ul (h:af k e nm m=true) (he:e<4294967296) (hu:m.uid<4294967296):kn k (fL k e nm m)=(m.uid,⟨sI k m++(sJ k nm++m.b),false⟩):=by
 obtain⟨h1,_⟩:=iA h
 unfold kn
 rw[uk he]
 unfold sH
 cases hk:k==1 with
 |true=>rw[h1 hk,cond_true,cond_true];rfl
 |false=>rw[cond_false,cond_false];exact kK 4 m.uid _ hu
theorem un (h:af k e nm m=true) (he:e<4294967296) (hu:m.uid<4294967296):mp k (fL k e nm m)=((m.date.toNat,m.flags.toNat),⟨sJ k nm++m.b,false⟩):=by
 obtain⟨_,h2,_,d0,d1,f0,f1⟩:=iA h
 unfold mp
 rw[ul h he hu]
 unfold sI
 cases hk:k==2 with
 |true=>
  rw[cond_true,cond_true,List.append_assoc]
  rw[kK 6 m.date.toNat _ (show m.date.toNat<256^6 by omega)]
  rw[kK 1 m.flags.toNat _ (show m.flags.toNat<256^1 by omega)]
 |false=>
  obtain⟨e1,e2⟩:=h2 hk
  rw[cond_false,cond_false,e1,e2]
  rfl
theorem uo (h:af k e nm m=true) (he:e<4294967296) (hu:m.uid<4294967296):mN k (fL k e nm m)=(nm,⟨m.b,false⟩):=by
 obtain⟨_,_,h3,_⟩:=iA h
 obtain⟨_,hs,_⟩:=eJ h
 unfold mN
 rw[un h he hu]
 unfold sJ
 cases hk:k==3 with
 |true=>rw[cond_true,cond_true,h3 hk];rfl
 |false=>rw[cond_false,cond_false];exact uY nm _ (by omega)
theorem uq (h:af k e nm m=true) (he:e<4294967296) (hu:m.uid<4294967296):DX k (fL k e nm m)=(m.b,⟨[],false⟩):=by
 unfold DX
 rw[uo h he hu]
 have:=jU m.b [] m.b.length rfl
 rw[List.append_nil] at this
 exact this
theorem GN (h:af k e nm m=true) (he:e<4294967296) (hu:m.uid<4294967296) (a:Option Addr) (c:Nat):vO k (fL k e nm m) a c=⟨m.uid,m.date,m.flags,a,c,m.b⟩:=by
 obtain⟨_,_,_,d0,d1,f0,f1⟩:=iA h
 unfold vO
 rw[ul h he hu,un h he hu,uq h he hu]
 show aU.mk m.uid ((m.date.toNat:Nat):Int) ((m.flags.toNat:Nat):Int) a c m.b=_
 rw[Int.toNat_of_nonneg d0,Int.toNat_of_nonneg f0]
theorem Bx (h:af k e nm m=true) (he:e<4294967296) (hu:m.uid<4294967296):bk k (fL k e nm m)=true:=by
 unfold bk
 rw[uq h he hu,uk he,uo h he hu,GN h he hu]
 have e1:af k e nm ⟨m.uid,m.date,m.flags,none,0,m.b⟩=af k e nm m:=rfl
 have e2:fL k e nm ⟨m.uid,m.date,m.flags,none,0,m.b⟩=fL k e nm m:=rfl
 show(!false&&(af k e nm ⟨m.uid,m.date,m.flags,none,0,m.b⟩&&(fL k e nm ⟨m.uid,m.date,m.flags,none,0,m.b⟩==fL k e nm m)))=true
 rw[e1,e2,h]
 simp
end
structure aX where
 k:Int
 ep:Nat
 nm:ByteArray
 u:Nat
 d:Int
 f:Int
 o:List UInt8
 at_:Nat
def aW (u:Nat):Nat:=if u=4294967295 then u else u+1
structure fo where
 nm:ByteArray
 ep:Nat
 nx:Nat
 live:List aX
def wb :fo:=⟨⟨#[]⟩,0,1,[]⟩
def fP (n x:aX):Bool:=x.ep==n.ep&&x.u==n.u
def pT (s:fo) (n:aX):Nat:=if s.ep<n.ep then n.ep else s.ep
def vN (s:fo) (n:aX):Nat:=if(pT s n==n.ep&& !(n.k==1))=true then max (if s.ep<n.ep then 1 else s.nx) (aW n.u) else if s.ep<n.ep then 1 else s.nx
def du (l:List aX) (n:aX):List aX:=bif n.k==2 then l++[n] else bif n.k==3 then l.filter (fun x=> !fP n x) else l
def dU (s:fo) (n:aX):fo:=⟨bif n.k==3 then s.nm else n.nm,pT s n,vN s n,du s.live n⟩
def bG (l:List aX):fo:=l.foldl dU wb
def gh (l:List aX):Nat:=l.foldl (fun e n=>max e n.ep) 0
def lR (l:List aX):ByteArray:=l.foldl (fun s n=>bif decide (n.k<3) then n.nm else s) ⟨#[]⟩
def jX (E x:Nat) (n:aX):Nat:=bif decide (1<n.k)&&n.ep==E then max x (aW n.u) else x
def iD (E:Nat) (l:List aX):Nat:=l.foldl (jX E) 1
def bt :List aX→List aX
 |[]=>[]
 |n::r=>bif n.k==2&& !r.any (fun m=>m.k==3&&fP m n) then n::bt r else bt r
def m6 (n:aX):Prop:=n.k=1∨n.k=2∨n.k=3
theorem pg (n:aX) (h:m6 n):∀l:List aX,bt (l++[n])=du (bt l) n
 |[]=>by
  unfold du
  rcases h with h|h|h<;>simp[bt,h]
 |m::r=>by
  have ih:=pg n h r
  rw[List.cons_append]
  unfold bt
  rw[ih,List.any_append]
  have e1:([n].any fun x=>x.k==3&&fP x m)=(n.k==3&&fP n m):=by simp
  rw[e1]
  generalize hA:(r.any fun x=>x.k==3&&fP x m)=A
  unfold du
  rcases h with h|h|h
  ·rw[h]
   cases hm:m.k==2<;>cases A<;>simp
  ·rw[h]
   cases hm:m.k==2<;>cases A<;>simp
  ·rw[h]
   cases hg:fP n m<;>cases hm:m.k==2<;>cases A<;>simp[hg]
theorem t7 (n:aX) (l:List aX):gh (l++[n])=max (gh l) n.ep:=by unfold gh;rw[List.foldl_append];rfl
theorem Cj (n:aX) (h:m6 n) (l:List aX):lR (l++[n])=bif n.k==3 then lR l else n.nm:=by
 unfold lR
 rw[List.foldl_append]
 rcases h with h|h|h<;>simp[h]
theorem GG {l:List aX} {n:aX} (h:n∈l):n.ep≤gh l:=by
 suffices H:∀(l:List aX) (e:Nat),e≤l.foldl (fun e n=>max e n.ep) e∧∀n∈l,n.ep≤l.foldl (fun e n=>max e n.ep) e from(H l 0).2 n h
 intro l
 induction l with
 |nil=>intro e;exact⟨Nat.le_refl _,fun n h=>(by cases h)⟩
 |cons x r ih=>
  intro e
  obtain⟨h1,h2⟩:=ih (max e x.ep)
  rw[List.foldl_cons]
  refine⟨Nat.le_trans (Nat.le_max_left _ _) h1,fun n hn=> ?_⟩
  rcases List.mem_cons.1 hn with e|e
  ·subst e;exact Nat.le_trans (Nat.le_max_right _ _) h1
  ·exact h2 n e
theorem ta {E:Nat}:∀(l:List aX) (x:Nat),(∀n∈l,n.ep≠E)→l.foldl (jX E) x=x
 |[],_,_=>rfl
 |n::r,x,h=>by
  rw[List.foldl_cons,show jX E x n=x by unfold jX;have:(n.ep==E)=false:=by simpa using h n List.mem_cons_self
                                        rw[this,Bool.and_false];rfl]
  exact ta r x fun m hm=>h m (List.mem_cons_of_mem _ hm)
theorem tb (E:Nat) (n:aX) (l:List aX):iD E (l++[n])=jX E (iD E l) n:=by unfold iD;rw[List.foldl_append];rfl
def dV (l:List aX):fo:=⟨lR l,gh l,iD (gh l) l,bt l⟩
theorem zr (n:aX) (h:m6 n) (l:List aX):dV (l++[n])=dU (dV l) n:=by
 have hE:gh (l++[n])=pT (dV l) n:=by
  rw[t7]
  unfold pT dV
  simp only
  split<;>omega
 unfold dU
 show fo.mk _ _ _ _=_
 rw[Cj n h,pg n h,hE]
 congr 1
 rw[tb]
 unfold vN jX
 have hk:decide (1<n.k)= !(n.k==1):=by rcases h with h|h|h<;>rw[h]<;>rfl
 rw[hk]
 by_cases hlt:(dV l).ep<n.ep
 ·have e1:pT (dV l) n=n.ep:=by unfold pT;rw[if_pos hlt]
  have e2:iD n.ep l=1:=ta l 1 fun m hm e=>by
   have:=GG hm
   have h3:gh l<n.ep:=hlt
   omega
  rw[e1,e2,if_pos hlt]
  cases hq:n.k==1<;>simp
 ·have e1:pT (dV l) n=(dV l).ep:=by unfold pT;rw[if_neg hlt]
  rw[e1,if_neg hlt]
  show(bif (!(n.k==1)&&n.ep==gh l) then max (iD (gh l) l) (aW n.u) else iD (gh l) l)=(if(gh l==n.ep&& !(n.k==1))=true then max (iD (gh l) l) (aW n.u) else iD (gh l) l)
  rw[Bool.and_comm,show(n.ep==gh l)=(gh l==n.ep) by rw[Bool.eq_iff_iff,beq_iff_eq,beq_iff_eq];exact eq_comm]
  cases gh l==n.ep&& !(n.k==1)<;>rfl
theorem AZ (l:List aX) (h:∀n∈l,m6 n):bG l=dV l:=by
 suffices H:∀(r:List aX),(∀n∈r,m6 n)→bG r.reverse=dV r.reverse by
  have:=H l.reverse (fun n hn=>h n (List.mem_reverse.1 hn))
  rwa [List.reverse_reverse] at this
 intro r
 induction r with
 |nil=>intro _;rfl
 |cons n r ih=>
  intro hr
  rw[List.reverse_cons,zr n (hr n List.mem_cons_self),←ih fun m hm=>hr m (List.mem_cons_of_mem _ hm)]
  unfold bG
  rw[List.foldl_append]
  rfl
def dx (E:Nat):Nat→List aX→Bool
 |_,[]=>true
 |last,n::r=>n.ep==E&&decide (last<n.u)&& !(n.u==4294967295)&&dx E n.u r
def al (s:fo):Bool:=dx s.ep 0 s.live
def dF (n:aX):Nat×Int×Int×List UInt8:=(n.u,n.d,n.f,n.o)
def fR :Nat→List aX→List (Nat×Int×Int×List UInt8)
 |_,[]=>[]
 |i,n::r=>((i+1)%4294967296,n.d,n.f,n.o)::fR (i+1) r
structure eU where
 nm:ByteArray
 ep:Nat
 nx:Nat
 msgs:List (Nat×Int×Int×List UInt8)
def bQ (s:fo):eU:=bif al s then⟨s.nm,s.ep,s.nx,s.live.map dF⟩ else⟨s.nm,aW s.ep,(s.live.length+1)%4294967296,fR 0 s.live⟩
end Go.Proofs.YtclcfkaphlopeaaGreatDoor
namespace Go.Proofs.YtclcfkaphlopeaaGreatDoor
open Go Go.RowKit
def FU (L:List Oper) (m:Nat) (o:Oper) (i j:Nat):Bool:=DW o j||((List.range i).any fun k=>Nat.ble m k&&Nat.blt j k&&DW o k)||o.after.any fun e=>Region.binds .any e&&blk L j L.length e.on
def mE (L:List Oper) (m:Nat):Nat→List Oper→Bool
 |_,[]=>true
 |k,o::r=>(List.range k).all (fun j=>FU L m o k j)&&mE L m (k+1) r
theorem re {L:List Oper} {m:Nat}:∀{r:List Oper} {k:Nat},mE L m k r=true→∀i o,r[i]?=some o→∀j,j<k+i→DW o j=true∨(∃k',m≤k'∧j<k'∧DW o k'=true)∨∃e∈o.after,Region.binds .any e=true∧blk L j L.length e.on=true:=by
 intro r
 induction r with
 |nil=>intro k _ i o ho;simp at ho
 |cons x r ih=>
  intro k h i o ho j hj
  unfold mE at h
  rw[Bool.and_eq_true] at h
  cases i with
  |zero=>
   have e:x=o:=by simpa using ho
   subst e
   have h2:=List.all_eq_true.1 h.1 j (List.mem_range.2 hj)
   unfold FU at h2
   rw[Bool.or_eq_true,Bool.or_eq_true] at h2
   rcases h2 with(h2|h2)|h2
   ·exact .inl h2
   ·obtain⟨k',_,hk⟩:=List.any_eq_true.1 h2
    simp only[Bool.and_eq_true] at hk
    exact .inr (.inl ⟨k',Nat.le_of_ble_eq_true hk.1.1,by simpa[Nat.blt_eq] using hk.1.2,hk.2⟩)
   ·obtain⟨e,he,hb⟩:=Array.any_eq_true'.1 h2
    simp only[Bool.and_eq_true] at hb
    exact .inr (.inr ⟨e,he,hb.1,hb.2⟩)
  |succ i=>exact ih h.2 i o (by simpa using ho) j (by omega)
def fy :Nat→List Oper→Bool
 |_,[]=>true
 |k,o::r=>(o.after.all fun e=> !Region.binds .any e||decide (e.on<k))&&fy (k+1) r
theorem eF :∀{r:List Oper} {k:Nat},fy k r=true→∀i o,r[i]?=some o→∀e∈o.after,Region.binds .any e=true→e.on<k+i:=by
 intro r
 induction r with
 |nil=>intro k _ i o ho;simp at ho
 |cons x r ih=>
  intro k h i o ho e he hb
  unfold fy at h
  rw[Bool.and_eq_true] at h
  cases i with
  |zero=>
   have e2:x=o:=by simpa using ho
   subst e2
   have:=Array.all_eq_true'.1 h.1 e he
   rw[hb] at this
   simpa using this
  |succ i=>
   have:=ih h.2 i o (by simpa using ho) e he hb
   omega
section
variable {P:Program} {Q:Exit→Act→World→Prop} {l1 l2:List Oper}
theorem rx {ops:Array Oper} {K:Act→World→Prop} {i:Nat} {o:Oper} {a:Act} {w:World} (h:ops[i]?=some o):wpOp P ops Q i K a w=(if Region.wanted o (yielded ops a.tmps) then o.wp P a w K Q∨(o.asks P a w∧LetsOut Q) else K (a.put o.dst undef) w):=by
 unfold wpOp;rw[h]
theorem Ai (hseq:mE (l1++l2) l1.length l1.length l2=true) (hback:fy l1.length l2=true) (hback1:fy 0 l1=true):∀(r:List Oper) (k:Nat) (fuel:Nat) (listed:Array Bool) (a:Act) (w:World),l2.drop k=r→k≤l2.length→r.length≤fuel→listed.size=(l1++l2).length→
 (∀i,i<l1.length+k→listed.getD i false=true)→(∀i,l1.length+k≤i→listed.getD i false=false)→wpList P (l1++l2).toArray Q r a w→wpAny P .any (l1++l2).toArray Q fuel listed a w:=by
 intro r
 induction r with
 |nil=>
  intro k fuel listed a w hr hk hf hs h1 h2 hwp
  have hkl:l2.length≤k:=List.drop_eq_nil_iff.1 hr
  have hready:Region.ready .any (l1++l2).toArray listed=[]:=by
   rw[List.eq_nil_iff_forall_not_mem]
   intro i hi
   obtain⟨hun,o,ho,_⟩:=mem_ready.1 hi
   rw[List.getElem?_toArray] at ho
   have hlt:=(List.getElem?_eq_some_iff.1 ho).1
   rw[List.length_append] at hlt
   have:=h1 i (by omega)
   rw[ei hun] at this
   cases this
  cases fuel with
  |zero=>exact⟨hready,hwp⟩
  |succ f=>exact⟨fun _=>hwp,fun i hi=>by rw[hready] at hi;cases hi⟩
 |cons o r ih=>
  intro k fuel listed a w hr hk hf hs h1 h2 hwp
  cases fuel with
  |zero=>simp at hf
  |succ f=>
   have hkl:k<l2.length:=by
    rcases Nat.lt_or_ge k l2.length with h|h
    ·exact h
    ·rw[List.drop_eq_nil_of_le h] at hr;cases hr
   have ho2:l2[k]?=some o:=by
    have:=congrArg List.head? hr
    rwa [List.head?_drop] at this
   have hr2:l2.drop (k+1)=r:=by
    rw[←List.tail_drop,hr];rfl
   have hget:(l1++l2).toArray[l1.length+k]?=some o:=by
    rw[List.getElem?_toArray,List.getElem?_append_right (by omega),Nat.add_sub_cancel_left,ho2]
   have hmem:l1.length+k∈Region.ready .any (l1++l2).toArray listed:=by
    refine mem_ready.2 ⟨lD (by rw[hs,List.length_append];omega) (h2 _ (Nat.le_refl _)),o,hget,fun e he hb=>h1 _ ?_⟩
    exact eF hback k o ho2 e he hb
   refine⟨fun hn=> ?_,fun i hi=> ?_⟩
   ·rw[hn] at hmem;cases hmem
   ·obtain⟨hun,oi,hoi,hall⟩:=mem_ready.1 hi
    have hgi:l1.length+k≤i:=by
     rcases Nat.lt_or_ge i (l1.length+k) with h|h
     ·have:=h1 i h
      rw[ei hun] at this
      cases this
     ·exact h
    have hik:i=l1.length+k:=by
     rcases Nat.eq_or_lt_of_le hgi with h|h
     ·exact h.symm
     ·exfalso
      rw[List.getElem?_toArray,List.getElem?_append_right (by omega)] at hoi
      rcases re hseq (i - l1.length) oi hoi (l1.length+k) (by omega) with hon|⟨k',_,hk',hon⟩|⟨e,he,hb,hbl⟩
      ·obtain⟨e,he,hb,heq⟩:=lS hon
       have:=hall e he hb
       rw[heq,h2 _ (Nat.le_refl _)] at this
       cases this
      ·obtain⟨e,he,hb,heq⟩:=lS hon
       have:=hall e he hb
       rw[heq,h2 _ (by omega)] at this
       cases this
      ·have hcl:∀j oj,(l1++l2)[j]?=some oj→listed.getD j false=true→∀e∈oj.after,Region.binds .any e=true→listed.getD e.on false=true:=fun j oj hj hlj e he hb=>by
        have hjk:j<l1.length+k:=by
         rcases Nat.lt_or_ge j (l1.length+k) with h|h
         ·exact h
         ·rw[h2 j h] at hlj;cases hlj
        refine h1 _ ?_
        rcases Nat.lt_or_ge j l1.length with h|h
        ·rw[List.getElem?_append_left h] at hj
         have:=eF hback1 j oj hj e he hb
         omega
        ·rw[List.getElem?_append_right h] at hj
         have:=eF hback (j - l1.length) oj hj e he hb
         omega
       have:=dO hcl (l1.length+k) _ e.on hbl (hall e he hb)
       rw[h2 _ (Nat.le_refl _)] at this
       cases this
    subst hik
    rw[hget] at hoi
    injection hoi with hoi
    subst hoi
    rw[rx hget]
    have hset:∀i,i<l1.length+(k+1)→(listed.setIfInBounds (l1.length+k) true).getD i false=true:=fun i hi=>by
     by_cases e:l1.length+k=i
     ·subst e
      have:l1.length+k<listed.size:=by rw[hs,List.length_append];omega
      simp[this]
     ·rw[getD_set_ne false e];exact h1 i (by omega)
    have hset2:∀i,l1.length+(k+1)≤i→(listed.setIfInBounds (l1.length+k) true).getD i false=false:=fun i hi=>by
     rw[getD_set_ne false (by omega)];exact h2 i (by omega)
    unfold wpList at hwp
    have next:∀a w,wpList P (l1++l2).toArray Q r a w→wpAny P .any (l1++l2).toArray Q f (listed.setIfInBounds (l1.length+k) true) a w:=fun a w h=>
     ih (k+1) f _ a w hr2 (by omega) (by simp at hf;omega) (by simpa using hs) hset hset2 h
    by_cases hw:Region.wanted o (yielded (l1++l2).toArray a.tmps)=true
    ·rw[if_pos hw] at hwp ⊢
     exact hwp.imp (Oper.wp_mono next) id
    ·rw[if_neg hw] at hwp ⊢
     exact next _ _ hwp
theorem GZ {next:Act→World→Prop} {o:Oper} {a:Act} {w:World} {K:Act→World→Prop} (h:o.wp P a w K (Exit.then next Q)):o.wp P a w K Q:=by
 unfold Oper.wp at*
 generalize (execOp a.eval o).run P w=r at*
 cases r with
 |ok n w'=>cases n<;>exact h
 |halt x w'=>cases x<;>exact h
theorem DN {next:Act→World→Prop} (h:LetsOut (Exit.then next Q)):LetsOut Q:=h
theorem ym (hseq:mE (l1++l2) l1.length l1.length l2=true) (hback:fy l1.length l2=true) (hback1:fy 0 l1=true) (hg:(l1.all fun o=>match o.guard with|some (g,_)=>decide (g<l1.length)|none=>true)=true):
 ∀(fuel1 fuel:Nat) (listed1 listed:Array Bool) (a:Act) (w:World),fuel1+l2.length≤fuel→listed1.size=l1.length→listed.size=(l1++l2).length→(∀i,i<l1.length→listed.getD i false=listed1.getD i false)→(∀i,l1.length≤i→listed.getD i false=false)→(∀j oj,l1[j]?=some oj→listed1.getD j false=true→∀e∈oj.after,Region.binds .any e=true→listed1.getD e.on false=true)→
  wpAny P .any l1.toArray (Exit.then (wpList P (l1++l2).toArray Q l2) Q) fuel1 listed1 a w→wpAny P .any (l1++l2).toArray Q fuel listed a w:=by
 have allOf:∀(listed1:Array Bool),listed1.size=l1.length→Region.ready .any l1.toArray listed1=[]→∀j,j<l1.length→listed1.getD j false=true:=by
  intro listed1 hs hr j
  induction j using Nat.strongRecOn with
  |_ j jh=>
   intro hj
   cases hl:listed1.getD j false with
   |true=>rfl
   |false=>
    exfalso
    have hnr:j∉Region.ready .any l1.toArray listed1:=by rw[hr];simp
    refine hnr (mem_ready.2 ⟨lD (by rw[hs];exact hj) hl,l1[j],by rw[List.getElem?_toArray,List.getElem?_eq_getElem hj],fun e he hb=> ?_⟩)
    have hlt:=eF hback1 j l1[j] (List.getElem?_eq_getElem hj) e he hb
    exact jh e.on (by omega) (by omega)
 have fin:∀(fuel:Nat) (listed1 listed:Array Bool) (a:Act) (w:World),l2.length≤fuel→listed1.size=l1.length→listed.size=(l1++l2).length→(∀i,i<l1.length→listed.getD i false=listed1.getD i false)→(∀i,l1.length≤i→listed.getD i false=false)→
  Region.ready .any l1.toArray listed1=[]→wpList P (l1++l2).toArray Q l2 a w→wpAny P .any (l1++l2).toArray Q fuel listed a w:=fun fuel listed1 listed a w hf h1 h2 h3 h4 hr hwp=>
  Ai hseq hback hback1 l2 0 fuel listed a w rfl (Nat.zero_le _) hf h2 (fun i hi=>by rw[h3 i hi];exact allOf listed1 h1 hr i hi) h4 hwp
 intro fuel1
 induction fuel1 with
 |zero=>
  intro fuel listed1 listed a w hf h1 h2 h3 h4 _ hwp
  exact fin fuel listed1 listed a w (by omega) h1 h2 h3 h4 hwp.1 hwp.2
 |succ fuel1 ih=>
  intro fuel listed1 listed a w hf h1 h2 h3 h4 hcl hwp
  by_cases hr:Region.ready .any l1.toArray listed1=[]
  ·exact fin fuel listed1 listed a w (by omega) h1 h2 h3 h4 hr (hwp.1 hr)
  ·obtain⟨fuel,rfl⟩:∃f,fuel=f+1:=⟨fuel - 1,by omega⟩
   have hto:∀i,i∈Region.ready .any l1.toArray listed1→i∈Region.ready .any (l1++l2).toArray listed:=fun i hi=>by
    obtain⟨hun,o,ho,hall⟩:=mem_ready.1 hi
    rw[List.getElem?_toArray] at ho
    have hlt:=(List.getElem?_eq_some_iff.1 ho).1
    refine mem_ready.2 ⟨lD (by rw[h2,List.length_append];omega) (by rw[h3 i hlt];exact ei hun),o,by rw[List.getElem?_toArray,List.getElem?_append_left hlt];exact ho,fun e he hb=> ?_⟩
    have hlt2:=eF hback1 i o ho e he hb
    rw[h3 _ (by omega)]
    exact hall e he hb
   refine⟨fun hn=> ?_,fun i hi=> ?_⟩
   ·obtain⟨i,hi⟩:=List.exists_mem_of_ne_nil _ hr
    have:=hto i hi
    rw[hn] at this
    cases this
   ·obtain⟨hun,o,ho,hall⟩:=mem_ready.1 hi
    have hget:=ho
    rw[List.getElem?_toArray] at ho
    have hlt:i<l1.length:=by
     rcases Nat.lt_or_ge i l1.length with h|h
     ·exact h
     ·exfalso
      rw[List.getElem?_append_right h] at ho
      obtain⟨j,hj⟩:=List.exists_mem_of_ne_nil _ hr
      obtain⟨hun2,oj,hoj,_⟩:=mem_ready.1 hj
      rw[List.getElem?_toArray] at hoj
      have hjl:=(List.getElem?_eq_some_iff.1 hoj).1
      rcases re hseq (i - l1.length) o ho j (by omega) with hon|⟨k',hk',_,hon⟩|⟨e,he,hb,hbl⟩
      ·obtain⟨e,he,hb,heq⟩:=lS hon
       have:=hall e he hb
       rw[heq,h3 j hjl,ei hun2] at this
       cases this
      ·obtain⟨e,he,hb,heq⟩:=lS hon
       have:=hall e he hb
       rw[heq,h4 _ hk'] at this
       cases this
      ·have hcl2:∀j oj,(l1++l2)[j]?=some oj→listed.getD j false=true→∀e∈oj.after,Region.binds .any e=true→listed.getD e.on false=true:=fun j oj hj hlj e he hb=>by
        rcases Nat.lt_or_ge j l1.length with h|h
        ·rw[List.getElem?_append_left h] at hj
         have hlt:=eF hback1 j oj hj e he hb
         rw[h3 _ (by omega)]
         exact hcl j oj hj (by rw[←h3 j h];exact hlj) e he hb
        ·rw[h4 j h] at hlj;cases hlj
       have:=dO hcl2 j _ e.on hbl (hall e he hb)
       rw[h3 j hjl,ei hun2] at this
       cases this
    rw[List.getElem?_append_left hlt] at ho
    have hi1:i∈Region.ready .any l1.toArray listed1:=by
     refine mem_ready.2 ⟨lD (by rw[h1];exact hlt) (by rw[←h3 i hlt];exact ei hun),o,by rw[List.getElem?_toArray];exact ho,fun e he hb=> ?_⟩
     have hlt2:=eF hback1 i o ho e he hb
     rw[←h3 _ (by omega)]
     exact hall e he hb
    have hst:=hwp.2 i hi1
    have hget1:l1.toArray[i]?=some o:=by rw[List.getElem?_toArray];exact ho
    rw[rx hget1] at hst
    rw[rx hget]
    have next:∀a w,wpAny P .any l1.toArray (Exit.then (wpList P (l1++l2).toArray Q l2) Q) fuel1 (listed1.setIfInBounds i true) a w→wpAny P .any (l1++l2).toArray Q fuel (listed.setIfInBounds i true) a w:=fun a w h=>by
     refine ih fuel _ _ a w (by omega) (by simpa using h1) (by simpa using h2) (fun j hj=> ?_) (fun j hj=> ?_) ?_ h
     ·by_cases e:i=j
      ·subst e
       have q1:i<listed.size:=by rw[h2,List.length_append];omega
       have q2:i<listed1.size:=by omega
       simp[q1,q2]
      ·rw[getD_set_ne false e,getD_set_ne false e];exact h3 j hj
     ·rw[getD_set_ne false (by omega)];exact h4 j hj
     ·intro j oj hj hlj e he hb
      by_cases hij:i=j
      ·subst hij
       have:oj=o:=Option.some.inj (hj.symm.trans ho)
       subst this
       have hlt2:=eF hback1 i oj ho e he hb
       have h5:=hall e he hb
       rw[h3 _ (by omega)] at h5
       exact getD_set_true h5
      ·rw[getD_set_ne false hij] at hlj
       exact getD_set_true (hcl j oj hj hlj e he hb)
    have hwt:Region.wanted o (yielded (l1++l2).toArray a.tmps)=Region.wanted o (yielded l1.toArray a.tmps):=by
     rw[fO,fO]
     unfold bV
     have hgo:=List.all_eq_true.1 hg o (List.mem_of_getElem? ho)
     cases hgd:o.guard with
     |none=>rfl
     |some gb=>
      obtain⟨g,b⟩:=gb
      rw[hgd] at hgo
      simp only[decide_eq_true_eq] at hgo
      simp only[List.getElem?_append_left hgo]
    rw[hwt]
    by_cases hw:Region.wanted o (yielded l1.toArray a.tmps)=true
    ·rw[if_pos hw] at hst ⊢
     exact hst.imp (fun h=>Oper.wp_mono next (GZ h)) fun h=>⟨h.1,DN h.2⟩
    ·rw[if_neg hw] at hst ⊢
     exact next _ _ hst
theorem aj {id:Nat} {d:Bool} {l:List Oper} {a:Act} {w:World} (m:Nat) (h:(Code.region id (l.take m++l.drop m).toArray d).wp P Q a w):(Code.region id l.toArray d).wp P Q a w:=by
 rwa [List.take_append_drop] at h
theorem ai {id:Nat} {d:Bool} {a:Act} {w:World} {n:Nat} {Γ:oR} (hA:At n Γ a) (F:List eQ) (Ph:List ff) (C:World→Prop) (T:Nat→World→World→Prop) (hm:P.follows .mixedOrders=true) (hdr:d=true) (hB:ku l1 n=true) (hdB:BH l1 n=true) (hFl:F.length=l1.length)
 (hseq:mE (l1++l2) l1.length l1.length l2=true) (hback:fy l1.length l2=true) (hback1:fy 0 l1=true) (hg:(l1.all fun o=>match o.guard with|some (g,_)=>decide (g<l1.length)|none=>true)=true) (hC:C {w with drawn:=w.drawn+1})
 (hstab:∀i j x w w',pc l1 F i j=true→i≠j→C w→(F.getD j (.det undef)).says x w→T i w w'→(F.getD j (.det undef)).says x w')
 (hph0:∀ph∈Ph,ph.start=none→ph.p (n5 a.eval) {w with drawn:=w.drawn+1})
 (hph:∀i (ph:ff) σ w w',ph∈Ph→ph.start≠some i→ph.upto≠some i→p8 l1 i ph.start ph.upto=true→C w→ph.p σ w→T i w w'→ph.p σ w')
 (hpl:∀ph∈Ph,∀a,ph.start=some a→a<l1.length)
 (hob:vR P l1 F Ph C T a.tmps 0 l1)
 (hlk:IJ l1 (Ph.map fun ph=>(ph.start,ph.looks))=true)
 (hfin:∀σ w',C w'→(∀ph∈Ph,ph.upto=none→ph.p σ w')→yq σ (fun Γ=>∀a',At n Γ a'→wpList P (l1++l2).toArray Q l2 a' w') w' (l1.zip F) Γ):(Code.region id (l1++l2).toArray d).wp P Q a w:=by
 subst hdr
 have h1:=pt (P:=P) (l:=l1) (Q:=Exit.then (wpList P (l1++l2).toArray Q l2) Q) (a:=a) (w:=w) n F Ph C T hA.size hB hFl hC hstab hph0 hph hpl (Ec hob) hlk fun σ w' hC' hp'=>by
  refine lm (Q:=Exit.then (wpList P (l1++l2).toArray Q l2) Q) hA.defers _ _ Γ (fun p hp t ht=> ?_) hA (hfin σ w' hC' hp')
  have hpl:=(List.of_mem_zip (a:=p.1) (b:=p.2) hp).1
  unfold BH at hdB
  have:=List.all_eq_true.1 hdB p.1 hpl
  rw[ht] at this
  simpa using this
 refine wp_region_any hm (ym hseq hback hback1 hg _ _ _ _ a _ ?_ ?_ ?_ (fun i hi=> ?_) (fun i hi=> ?_) (fun j oj _ hl=> ?_) h1)
 ·simp
 ·simp
 ·simp
 ·rw[Array.getD_eq_getD_getElem?,Array.getD_eq_getD_getElem?,Array.getElem?_replicate,Array.getElem?_replicate]
  split<;>split<;>rfl
 ·rw[Array.getD_eq_getD_getElem?,Array.getElem?_replicate]
  split<;>rfl
 ·exfalso
  rw[Array.getD_eq_getD_getElem?,Array.getElem?_replicate] at hl
  split at hl<;>cases hl
end
end Go.Proofs.YtclcfkaphlopeaaGreatDoor
namespace Go.Proofs.YtclcfkaphlopeaaGreatDoor
open Go.RowKit
def iw (x:eR):Nat×Nat×Int×Int×List UInt8×Nat:=(x.ep,x.m.uid,x.m.date,x.m.flags,x.m.b,x.at_)
def iS (n:aX):Nat×Nat×Int×Int×List UInt8×Nat:=(n.ep,n.u,n.d,n.f,n.o,n.at_)
theorem m7 (u:Nat) (hu:u<4294967296) (w:World):Calls Tryz.prog 65 #[.int .u32 (u:Nat)] w fun ev w'=>ev= .returned (.int .u32 (aW u:Nat))∧w'=w:=by
 refine aK 8 Tryz.func65 rfl rfl (Nat.le_of_ble_eq_true rfl) ?_
 intro a hA;replace hA:=hA.norm
 refine wS (wR ?_)
 revert a;refine wo rfl rfl (by decide) (fun ev e h=>by simp[go_sem,h]<;>rfl) ?_;intro a hA
 replace hA:=hA.keepN [0]
 refine wN (nT (wS (wS (wR ?_))))
 revert a;(iterate 2 refine wo rfl rfl (by decide) (fun ev e h=>by simp[go_sem,h]<;>rfl) ?_);intro a hA
 replace hA:=hA.keepN [0,4]
 refine wN (nT ?_)
 refine aH hA 4 _ rfl (fun hq=> ?yA) (fun hq=> ?nA)
 case yA=>
  have hq:u=4294967295:=by simp at hq;omega
  refine wS (wR ?_)
  revert a;(iterate 2 refine wo rfl rfl (by decide) (fun ev e h=>by simp[go_sem,h]<;>rfl) ?_);intro a hA
  replace hA:=hA.keepN [2]
  refine wN (nT (wp_ret (rT ?_)))
  refine ab hA 2 rfl rfl ?_
  exact⟨by unfold aW;rw[if_pos hq,hq],rfl⟩
 case nA=>
  have hq:¬u=4294967295:=by simp at hq;omega
  have hw:IntKind.u32.wrap ((u:Int)+1)=(u:Int)+1:=IntWalk.u32_in _ (by omega)
  refine wp_skip (nT (wS (wR ?_)))
  revert a;(iterate 3 refine wo rfl rfl (by decide) (fun ev e h=>by simp[go_sem,h,hw]<;>rfl) ?_);intro a hA
  replace hA:=hA.keepN [2]
  refine wN (nT (wp_ret ?_))
  refine ab hA 2 rfl rfl ?_
  exact⟨by unfold aW;rw[if_neg hq];rfl,rfl⟩
theorem FM (pl B:Nat) (k:Int) (e:Nat) (nm:ByteArray) (m:aU) (at_:Nat) (s:fo) (z:Int) (cl:Bool) (v:Value) (L:List eR) (w:World)
 (hk:k=1∨k=2∨k=3) (hpl:pl<B) (hBw:B≤w.heap.size) (KL:aI w pl 77 #[.string s.nm, .int .u32 (s.ep:Nat), .int .u32 (s.nx:Nat),v, .int .i64 z, .bool cl]) (ho:ac dA B w v L) (hL:L.length≤16000000)
 (hlv:L.map iw=s.live.map iS) (hm:bj w (m.a,m.b)) (hoff:∀g,v.ownBlock=some g→jR g (m.a,m.b)) (hu:m.uid<4294967296) (n:aX) (hn:n=⟨k,e,nm,m.uid,m.date,m.flags,m.b,at_⟩):
 Calls Tryz.prog 60 #[.pointer (some ⟨pl,0,none⟩), .agg #[.int .i64 k, .int .u32 (e:Nat), .string nm, .int .u32 (m.uid:Nat), .int .i64 m.date, .int .i64 m.flags, .slice m.a m.b.length m.c], .int .i64 (at_:Nat)] w
  fun ev w'=>ev= .returned (.tuple #[])∧∃v' L',aI w' pl 77 #[.string (dU s n).nm, .int .u32 ((dU s n).ep:Nat), .int .u32 ((dU s n).nx:Nat),v', .int .i64 z, .bool cl]∧ac dA B w' v' L'∧L'.map iw=(dU s n).live.map iS∧Below pl w w':=by
 obtain⟨A0,c0,hv,_⟩:=ho.reads
 subst hv
 refine aK 83 Tryz.func60 rfl rfl (Nat.le_of_ble_eq_true rfl) ?_
 intro a hA;replace hA:=hA.norm
 refine wS (wR ?_)
 refine aP hA rfl rfl (by decide) (fun ev h=>by simp[go_sem,h.get 1 rfl];try first|exact⟨rfl,rfl⟩|rfl) fun w1 a (Kn:aI _ _ _ _) hz1 hb1 hA=> ?_
 replace KL:=KL.below hb1 KL.lt
 replace ho:=ho.below hb1
 have hpw:pl<w.heap.size:=by omega
 have HB:Below pl w w1:=hb1.mono (by omega)
 have hm1:=hm.below hb1
 obtain⟨pn,hpn⟩:∃x,w.heap.size=x:=⟨_,rfl⟩
 rw[hpn] at Kn hA
 have hplB:pl<pn:=by omega
 have hBn:B≤pn:=by omega
 have hz:pn<w1.heap.size:=Kn.lt
 replace hA:=hA.keepN [0,2,4]
 have pA:=fun(wo:World) (hC:(fun wy=>Below w1.heap.size w1 wy) wo)=>have Kx:=KL.below hC KL.lt;have Ky:=Kn.below hC Kn.lt;And.intro (Kx.cell) (Ky.cell)
 refine wN (nT (wS (wS ?_)))
 refine bi hA [(.det ?dA0),(.det ?dA1),(.det ?dA2),(.det ?dA3),(.det ?dA4),(.det ?dA5),(.det ?dA6)] [] (fun wy=>Below w1.heap.size w1 wy) (aG [] aA) (by kernel_rfl) rfl (by kernel_rfl) (by kernel_rfl) rfl ((Below.refl _ _).drew) (bF [] [true,true,true,true,true,true,true] [true,true,true,true,true,true,true] [] rfl rfl rfl (by kernel_rfl) ⟨trivial,trivial,trivial,trivial,trivial,trivial,trivial,trivial⟩ trivial) (fun _ h=>by cases h) (fun _ _ _ _ _ h=>by cases h) (fun _ h=>by cases h) ⟨?oA0, ?oA1, ?oA2, ?oA3, ?oA4, ?oA5, ?oA6,trivial⟩ (by kernel_rfl) ?fA
 case oA0=>intro ev wo hev hC hs hph;have x0:=se hA hs 4;exact od rfl rfl (by kernel_rfl) hC (aG.of rfl (aA.refl _)) (by simp[go_sem,x0]<;>rfl)
 case oA1=>intro ev wo hev hC hs hph;have x0:=sd hs 6 0;exact od rfl rfl (by kernel_rfl) hC (aG.of rfl (aA.refl _)) (by simp[go_sem,x0,pA _ hC]<;>rfl)
 case oA2=>intro ev wo hev hC hs hph;have x0:=se hA hs 0;exact od rfl rfl (by kernel_rfl) hC (aG.of rfl (aA.refl _)) (by simp[go_sem,x0]<;>rfl)
 case oA3=>intro ev wo hev hC hs hph;have x0:=sd hs 8 2;exact od rfl rfl (by kernel_rfl) hC (aG.of rfl (aA.refl _)) (by simp[go_sem,x0]<;>rfl)
 case oA4=>intro ev wo hev hC hs hph;have x0:=sd hs 9 3;exact od rfl rfl (by kernel_rfl) hC (aG.of rfl (aA.refl _)) (by simp[go_sem,x0]<;>rfl)
 case oA5=>intro ev wo hev hC hs hph;have x0:=sd hs 10 4;exact od rfl rfl (by kernel_rfl) hC (aG.of rfl (aA.refl _)) (by simp[go_sem,x0,pA _ hC]<;>rfl)
 case oA6=>intro ev wo hev hC hs hph;have x0:=sd hs 7 1;have x1:=sd hs 11 5;exact od rfl rfl (by kernel_rfl) hC (aG.of rfl (aA.refl _)) (by simp[go_sem,x0,x1]<;>rfl)
 intro sg wf hC hph
 intro a hA
 replace hA:=hA.keepN [0,2,4,12]
 refine nT ?_
 replace KL:=KL.below hC KL.lt
 replace Kn:=Kn.below hC Kn.lt
 replace ho:=ho.below hC
 replace hm1:=hm1.below hC
 replace HB:=HB.trans (hC.mono (by omega))
 clear hC hb1 hz1
 have hne:n.ep=e:=by rw[hn]
 have hnk:n.k=k:=by rw[hn]
 have hnu:n.u=m.uid:=by rw[hn]
 have hnm:n.nm=nm:=by rw[hn]
 refine cd (fun a wx=>At 83 [(0, .pointer (some ⟨pl,0,none⟩)),(2, .int .i64 (at_:Nat)),(4, .pointer (some ⟨pn,0,none⟩))] a∧aI wx pl 77 #[.string s.nm, .int .u32 (pT s n:Nat), .int .u32 ((if s.ep<n.ep then 1 else s.nx:Nat):Int), .slice A0 L.length c0, .int .i64 z, .bool cl]∧aI wx pn 66 (fQ k e nm m)∧ac dA B wx (.slice A0 L.length c0) L∧bj wx (m.a,m.b)∧Below pl w wx) ?jfJ ?jrJ
 case jfJ=>
  refine aH hA 12 _ rfl (fun hq=> ?yA1) (fun hq=> ?nA1)
  case nA1=>
   have hq:¬s.ep<e:=by simpa using hq
   replace hA:=hA.keepN [0,2,4]
   refine wp_skip (nT ?_)
   refine⟨hA, ?_,Kn,ho,hm1,HB⟩
   unfold pT
   rw[hne,if_neg hq,if_neg hq]
   exact KL
  case yA1=>
   have hq:s.ep<e:=by simpa using hq
   refine wR ?_
   revert a;(iterate 6 refine wo rfl rfl (by decide) (fun ev e h=>by simp[go_sem,h,Kn.cell]<;>rfl) ?_);intro a hA
   have KL0:=KL
   refine aq ([.string s.nm, .int .u32 (e:Nat), .int .u32 (s.nx:Nat), .slice A0 L.length c0, .int .i64 z, .bool cl]) _ hA rfl rfl KL (j:=1) (by rfl) (fun ev h=>by simp[go_sem,h.get 18 rfl,h.get 16 rfl,Kn.cell,KL.cell,KL.frozen];try first|exact⟨rfl,rfl⟩|rfl) fun w2 (KL:aI _ _ _ _) hs2=> ?_
   revert a;(iterate 2 refine wo rfl rfl (by decide) (fun ev e h=>by simp[go_sem,h,Kn.cell]<;>rfl) ?_);intro a hA
   refine aq ([.string s.nm, .int .u32 (e:Nat), .int .u32 1, .slice A0 L.length c0, .int .i64 z, .bool cl]) _ hA rfl rfl KL (j:=2) (by rfl) (fun ev h=>by simp[go_sem,h.c,h.get 20 rfl,Kn.cell,KL.cell,KL.frozen];try first|exact⟨rfl,rfl⟩|rfl) fun w3 (KL:aI _ _ _ _) hs3=> ?_
   have hs:=hs2.trans hs3
   replace hA:=hA.keepN [0,2,4]
   refine wN (nT ?_)
   refine⟨hA, ?_,hs.blk Kn (by omega),ho.onlyK hs KL0 (by decide) rfl,cG hm1 hs KL0 rfl,hs.below HB (Nat.le_refl _)⟩
   unfold pT
   rw[hne,if_pos hq,if_pos hq]
   exact KL
 clear KL Kn ho hm1 HB
 rintro a wx ⟨hA,KL,Kn,ho,hm1,HB⟩
 obtain⟨E,hE⟩:∃E,pT s n=E:=⟨_,rfl⟩
 obtain⟨X,hX⟩:∃X,(if s.ep<n.ep then 1 else s.nx)=X:=⟨_,rfl⟩
 rw[hE,hX] at KL
 unfold fQ at Kn
 have pB:=fun(wo:World) (hC:(fun wy=>Below wx.heap.size wx wy) wo)=>have Kx:=KL.below hC KL.lt;have Ky:=Kn.below hC Kn.lt;And.intro (Kx.cell) (Ky.cell)
 refine wS (wS ?_)
 refine bi hA [(.det ?dB0),(.det ?dB1),(.det ?dB2),(.det ?dB3),(.det ?dB4),(.det ?dB5),(.det ?dB6),(.det ?dB7),(.det ?dB8),(.det ?dB9),(.det ?dB10),(.det ?dB11)] [] (fun wy=>Below wx.heap.size wx wy) (aG [] aA) (by kernel_rfl) rfl (by kernel_rfl) (by kernel_rfl) rfl ((Below.refl _ _).drew) (bF [] [true,true,true,true,true,true,true,true,true,true,true,true] [true,true,true,true,true,true,true,true,true,true,true,true] [] rfl rfl rfl (by kernel_rfl) ⟨trivial,trivial,trivial,trivial,trivial,trivial,trivial,trivial,trivial,trivial,trivial,trivial,trivial⟩ trivial) (fun _ h=>by cases h) (fun _ _ _ _ _ h=>by cases h) (fun _ h=>by cases h) ⟨?oB0, ?oB1, ?oB2, ?oB3, ?oB4, ?oB5, ?oB6, ?oB7, ?oB8, ?oB9, ?oB10, ?oB11,trivial⟩ (by kernel_rfl) ?fB
 case oB0=>intro ev wo hev hC hs hph;have x0:=se hA hs 4;exact od rfl rfl (by kernel_rfl) hC (aG.of rfl (aA.refl _)) (by simp[go_sem,x0]<;>rfl)
 case oB1=>intro ev wo hev hC hs hph;have x0:=sd hs 21 0;exact od rfl rfl (by kernel_rfl) hC (aG.of rfl (aA.refl _)) (by simp[go_sem,x0,pB _ hC]<;>rfl)
 case oB2=>intro ev wo hev hC hs hph;have x0:=se hA hs 0;exact od rfl rfl (by kernel_rfl) hC (aG.of rfl (aA.refl _)) (by simp[go_sem,x0]<;>rfl)
 case oB3=>intro ev wo hev hC hs hph;have x0:=sd hs 23 2;exact od rfl rfl (by kernel_rfl) hC (aG.of rfl (aA.refl _)) (by simp[go_sem,x0]<;>rfl)
 case oB4=>intro ev wo hev hC hs hph;have x0:=sd hs 24 3;exact od rfl rfl (by kernel_rfl) hC (aG.of rfl (aA.refl _)) (by simp[go_sem,x0]<;>rfl)
 case oB5=>intro ev wo hev hC hs hph;have x0:=sd hs 25 4;exact od rfl rfl (by kernel_rfl) hC (aG.of rfl (aA.refl _)) (by simp[go_sem,x0,pB _ hC]<;>rfl)
 case oB6=>intro ev wo hev hC hs hph;have x0:=sd hs 22 1;have x1:=sd hs 26 5;exact od rfl rfl (by kernel_rfl) hC (aG.of rfl (aA.refl _)) (by simp[go_sem,x0,x1]<;>rfl)
 case oB7=>intro ev wo hev hC hs hph;have x0:=sd hs 27 6;exact od rfl rfl (by kernel_rfl) hC (aG.of rfl (aA.refl _)) (by simp[go_sem,x0]<;>rfl)
 case oB8=>intro ev wo hev hC hs hph;have x0:=se hA hs 4;have y:=sd hs 28 7;exact bq _ rfl rfl y rfl (by kernel_rfl) hC (aG.of rfl (aA.refl _)) (fun hq=>by simp[go_sem,x0]<;>rfl) (by rfl)
 case oB9=>intro ev wo hev hC hs hph;have x0:=sd hs 29 8;have y:=sd hs 28 7;exact bq _ rfl rfl y rfl (by kernel_rfl) hC (aG.of rfl (aA.refl _)) (fun hq=>by simp[go_sem,(x0.trans (aL (aF hq))),pB _ hC]<;>rfl) (by rfl)
 case oB10=>intro ev wo hev hC hs hph;have x0:=sd hs 30 9;have y:=sd hs 28 7;exact bq _ rfl rfl y rfl (by kernel_rfl) hC (aG.of rfl (aA.refl _)) (fun hq=>by simp[go_sem,(x0.trans (aL (aF hq))),hev.const]<;>rfl) (by rfl)
 case oB11=>intro ev wo hev hC hs hph;have x0:=sd hs 28 7;have x1:=sd hs 31 10;exact od rfl rfl (by kernel_rfl) hC (aG.of rfl (aA.refl _)) (by rw[iz rfl x0 x1 (hev.const _)]<;>rfl)
 intro sg wf hC hph
 intro a hA
 replace hA:=hA.keepN [0,2,4,32]
 refine nT ?_
 replace KL:=KL.below hC KL.lt
 replace Kn:=Kn.below hC Kn.lt
 replace ho:=ho.below hC
 replace hm1:=hm1.below hC
 replace HB:=HB.trans (hC.mono (by have:=KL.lt;have:=HB.size;omega))
 clear hC
 have hnxe:vN s n=if(E==e&& !(k==1))=true then max X (aW m.uid) else X:=by
  unfold vN
  rw[hE,hX,hne,hnk,hnu]
 refine cd (fun a wx=>At 83 [(0, .pointer (some ⟨pl,0,none⟩)),(2, .int .i64 (at_:Nat)),(4, .pointer (some ⟨pn,0,none⟩))] a∧aI wx pl 77 #[.string s.nm, .int .u32 (E:Nat), .int .u32 (vN s n:Nat), .slice A0 L.length c0, .int .i64 z, .bool cl]∧aI wx pn 66 (fQ k e nm m)∧ac dA B wx (.slice A0 L.length c0) L∧bj wx (m.a,m.b)∧Below pl w wx) ?jfJ2 ?jrJ2
 case jfJ2=>
  refine aH hA 32 _ rfl (fun hq=> ?yB1) (fun hq=> ?nB1)
  case nB1=>
   have hqn:¬(E==e&& !(k==1))=true:=by
    rw[jW] at hq
    rw[show(E==e)=(e==E) by rw[Bool.eq_iff_iff,beq_iff_eq,beq_iff_eq];exact eq_comm]
    show ¬(e==E&&k !=1)=true
    rw[hq]
    decide
   rw[if_neg hqn] at hnxe
   replace hA:=hA.keepN [0,2,4]
   refine wp_skip (nT ?_)
   refine⟨hA, ?_,Kn,ho,hm1,HB⟩
   rw[hnxe]
   exact KL
  case yB1=>
   have hqy:(E==e&& !(k==1))=true:=by
    rw[jW] at hq
    rw[show(E==e)=(e==E) by rw[Bool.eq_iff_iff,beq_iff_eq,beq_iff_eq];exact eq_comm]
    exact hq
   rw[if_pos hqy] at hnxe
   have pC4:=fun(wo:World) (hC:(fun wy=>Below wf.heap.size wf wy) wo)=>have Kx:=KL.below hC KL.lt;have Ky:=Kn.below hC Kn.lt;And.intro (Kx.cell) (Ky.cell)
   refine aj 10 ?_
   simp only[List.take_succ_cons,List.take_zero,List.drop_succ_cons,List.drop_zero]
   refine ai hA [(.det ?dC40),(.det ?dC41),(.det ?dC42),(.det ?dC43),(.det ?dC44),(.det ?dC45),(.det ?dC46),(.det ?dC47),(.det ?dC48),(.det ?dC49)] [] (fun wy=>Below wf.heap.size wf wy) (aG [] aA) (by kernel_rfl) rfl (by kernel_rfl) (by kernel_rfl) rfl (by kernel_rfl) (by kernel_rfl) (by kernel_rfl) (by kernel_rfl) ((Below.refl _ _).drew) (bF [] [true,true,true,true,true,true,true,true,true,true] [true,true,true,true,true,true,true,true,true,true] [] rfl rfl rfl (by kernel_rfl) ⟨trivial,trivial,trivial,trivial,trivial,trivial,trivial,trivial,trivial,trivial,trivial⟩ trivial) (fun _ h=>by cases h) (fun _ _ _ _ _ h=>by cases h) (fun _ h=>by cases h) ⟨?oC40, ?oC41, ?oC42, ?oC43, ?oC44, ?oC45, ?oC46, ?oC47, ?oC48, ?oC49,trivial⟩ (by kernel_rfl) ?fC4
   case oC40=>intro ev wo hev hC hs hph;have x0:=se hA hs 0;exact od rfl rfl (by kernel_rfl) hC (aG.of rfl (aA.refl _)) (by simp[go_sem,x0]<;>rfl)
   case oC41=>intro ev wo hev hC hs hph;have x0:=se hA hs 0;exact od rfl rfl (by kernel_rfl) hC (aG.of rfl (aA.refl _)) (by simp[go_sem,x0]<;>rfl)
   case oC42=>intro ev wo hev hC hs hph;have x0:=sd hs 34 1;exact od rfl rfl (by kernel_rfl) hC (aG.of rfl (aA.refl _)) (by simp[go_sem,x0]<;>rfl)
   case oC43=>intro ev wo hev hC hs hph;have x0:=sd hs 35 2;exact od rfl rfl (by kernel_rfl) hC (aG.of rfl (aA.refl _)) (by simp[go_sem,x0]<;>rfl)
   case oC44=>intro ev wo hev hC hs hph;have x0:=sd hs 36 3;exact od rfl rfl (by kernel_rfl) hC (aG.of rfl (aA.refl _)) (by simp[go_sem,x0,pC4 _ hC]<;>rfl)
   case oC45=>intro ev wo hev hC hs hph;have x0:=se hA hs 4;exact od rfl rfl (by kernel_rfl) hC (aG.of rfl (aA.refl _)) (by simp[go_sem,x0]<;>rfl)
   case oC46=>intro ev wo hev hC hs hph;have x0:=sd hs 38 5;exact od rfl rfl (by kernel_rfl) hC (aG.of rfl (aA.refl _)) (by simp[go_sem,x0]<;>rfl)
   case oC47=>intro ev wo hev hC hs hph;have x0:=sd hs 39 6;exact od rfl rfl (by kernel_rfl) hC (aG.of rfl (aA.refl _)) (by simp[go_sem,x0,pC4 _ hC]<;>rfl)
   case oC48=>
    intro ev wo hev hC hs hph
    have e40:=sd hs 40 7
    have Kx:=KL.below hC KL.lt
    have Ky:=Kn.below hC Kn.lt
    exact bm (aJ rfl) rfl (by kernel_rfl) ((m7 m.uid hu wo).mono fun e' w' h=>⟨h.1,h.2▸Below.refl _ _⟩) (aB Tryz.func65 (by kernel_rfl) rfl (hev.func _) (by first|(simp only[mL,e40,hev.const]<;>rfl)|(simp[mL,e40,hev.const]<;>rfl))) (by rfl) (fun w3 hb3=>⟨hC.trans (hb3.mono hC.size),aG.of rfl hb3⟩)
   case oC49=>intro ev wo hev hC hs hph;have x0:=sd hs 37 4;have x1:=sd hs 41 8;exact od rfl rfl (by kernel_rfl) hC (aG.of rfl (aA.refl _)) (by simp[go_sem,x0,x1]<;>rfl)
   intro sg wf hC hph
   intro a hA
   replace hA:=hA.keepN [0,2,4,33,42]
   replace KL:=KL.below hC KL.lt
   replace Kn:=Kn.below hC Kn.lt
   replace ho:=ho.below hC
   replace hm1:=hm1.below hC
   replace HB:=HB.trans (hC.mono (by have:=KL.lt;have:=HB.size;omega))
   clear hC
   have KL0:=KL
   revert a;(iterate 2 refine wo rfl rfl (by decide) (fun ev e h=>by simp[go_sem,h]<;>rfl) ?_);intro a hA
   refine aq ([.string s.nm, .int .u32 (E:Nat), .int .u32 (max (X:Int) (aW m.uid:Int)), .slice A0 L.length c0, .int .i64 z, .bool cl]) _ hA rfl rfl KL (j:=2) (by rfl) (fun ev h=>by simp[go_sem,h.get 44 rfl,h.get 42 rfl,KL.cell,KL.frozen];try first|exact⟨rfl,rfl⟩|rfl) fun w5 (KL:aI _ _ _ _) hs5=> ?_
   replace hA:=hA.keepN [0,2,4]
   refine wN (nT ?_)
   refine⟨hA, ?_,hs5.blk Kn (by omega),ho.onlyK hs5 KL0 (by decide) rfl,cG hm1 hs5 KL0 rfl,hs5.below HB (Nat.le_refl _)⟩
   rw[hnxe,show((max X (aW m.uid):Nat):Int)=max (X:Int) (aW m.uid:Int) by omega]
   exact KL
 clear KL Kn ho hm1 HB
 rintro a wx ⟨hA,KL,Kn,ho,hm1,HB⟩
 obtain⟨N,hN⟩:∃N,vN s n=N:=⟨_,rfl⟩
 rw[hN] at KL
 unfold fQ at Kn
 refine wS (wS (wR ?_))
 revert a;(iterate 3 refine wo rfl rfl (by decide) (fun ev e h=>by simp[go_sem,h,KL.cell,Kn.cell]<;>rfl) ?_);intro a hA
 replace hA:=hA.keepN [0,2,4,47]
 refine wN (nT ?_)
 refine cd (fun a wx=>At 83 [(0, .pointer (some ⟨pl,0,none⟩)),(2, .int .i64 (at_:Nat)),(4, .pointer (some ⟨pn,0,none⟩))] a∧aI wx pl 77 #[.string (dU s n).nm, .int .u32 (E:Nat), .int .u32 (N:Nat), .slice A0 L.length c0, .int .i64 z, .bool cl]∧aI wx pn 66 (fQ k e nm m)∧ac dA B wx (.slice A0 L.length c0) L∧bj wx (m.a,m.b)∧Below pl w wx) ?jfJ3 ?jrJ3
 case jfJ3=>
  have htn:(dU s n).nm=bif k==3 then s.nm else nm:=by
   unfold dU
   rw[hnk,hnm]
  refine aH hA 47 _ rfl (fun hq=> ?yC1) (fun hq=> ?nC1)
  case nC1=>
   have hq:(k==3)=true:=by simpa using hq
   replace hA:=hA.keepN [0,2,4]
   refine wp_skip (nT ?_)
   refine⟨hA, ?_,Kn,ho,hm1,HB⟩
   rw[htn,hq]
   exact KL
  case yC1=>
   have hq:(k==3)=false:=by simpa using hq
   have KL0:=KL
   refine wR ?_
   revert a;(iterate 5 refine wo rfl rfl (by decide) (fun ev e h=>by simp[go_sem,h,Kn.cell]<;>rfl) ?_);intro a hA
   refine aq ([.string nm, .int .u32 (E:Nat), .int .u32 (N:Nat), .slice A0 L.length c0, .int .i64 z, .bool cl]) _ hA rfl rfl KL (j:=0) (by rfl) (fun ev h=>by simp[go_sem,h.get 52 rfl,h.get 50 rfl,Kn.cell,KL.cell,KL.frozen];try first|exact⟨rfl,rfl⟩|rfl) fun w6 (KL:aI _ _ _ _) hs6=> ?_
   replace hA:=hA.keepN [0,2,4]
   refine wN (nT ?_)
   refine⟨hA, ?_,hs6.blk Kn (by omega),ho.onlyK hs6 KL0 (by decide) rfl,cG hm1 hs6 KL0 rfl,hs6.below HB (Nat.le_refl _)⟩
   rw[htn,hq]
   exact KL
 clear KL Kn ho hm1 HB
 rintro a wx ⟨hA,KL,Kn,ho,hm1,HB⟩
 have hlvt:(dU s n).live=du s.live n:=rfl
 have hept:(dU s n).ep=E:=hE
 have hnxt:(dU s n).nx=N:=hN
 rw[hept,hnxt,hlvt]
 unfold fQ at Kn
 refine wS (wR ?_)
 revert a;(iterate 2 refine wo rfl rfl (by decide) (fun ev e h=>by simp[go_sem,h,KL.cell,Kn.cell]<;>rfl) ?_);intro a hA
 replace hA:=hA.keepN [0,2,4,54]
 refine wN (nT (wB (wS (wR ?_))))
 revert a;(iterate 2 refine wo rfl rfl (by decide) (fun ev e h=>by simp[go_sem,h,KL.cell,Kn.cell]<;>rfl) ?_);intro a hA
 replace hA:=hA.keepN [0,2,4,54,55]
 refine wN (nT ?_)
 have hBx:B≤wx.heap.size:=by have:=Kn.lt;omega
 have hln:iS n=(e,m.uid,m.date,m.flags,m.b,at_):=by rw[hn];rfl
 refine aH hA 55 _ rfl (fun hq=> ?yD) (fun hq=> ?nD)
 case yD=>
  have hq:(k==2)=true:=hq
  have hnew:du s.live n=s.live++[n]:=by
   unfold du
   rw[hnk,hq]
   rfl
  obtain⟨x,hx⟩:∃x,x=(⟨m,e,at_⟩:eR):=⟨_,rfl⟩
  have hxL:(L++[x]).map iw=(du s.live n).map iS:=by
   rw[hnew,List.map_append,List.map_append,hlv,List.map_cons,List.map_cons,hln,hx]
   rfl
  have hoffx:∀g,(Value.slice A0 L.length c0).ownBlock=some g→∀y∈[x],∀p∈dA.parts y,jR g p:=fun g hg y hy p hp=>by
   rw[List.mem_singleton.1 hy,hx] at hp
   rw[List.mem_singleton.1 hp]
   exact hoff g hg
  have pF:=fun(wo:World) (hC:(fun wy=>(fun wy=>Below B wx wy) wy∧aI wy (pn) (66) (#[.int .i64 k, .int .u32 (e:Nat), .string nm, .int .u32 (m.uid:Nat), .int .i64 m.date, .int .i64 m.flags, .slice m.a m.b.length m.c])) wo)=>have Kx:=KL.below hC.1 hpl;And.intro (Kx.cell) (hC.2.cell)
  refine aj 13 ?_
  simp only[List.take_succ_cons,List.take_zero,List.drop_succ_cons,List.drop_zero]
  refine ai hA [(.det ?dF0),(.det ?dF1),(.det ?dF2),(.det ?dF3),(.det ?dF4),(.det ?dF5),(.det ?dF6),(.det ?dF7),(.det ?dF8),(.det ?dF9),(.det ?dF10),(.used (fun val wy=>∃g,val= .slice (some ⟨g,0,none⟩) 1 1∧bu dA wy (some ⟨g,0,none⟩) [x])),(.held (fun val wy=>ac dA B wy val (L++[x])))] [⟨none,(some 12),[],fun _=>(fun wy=>ac dA B wy (.slice A0 L.length c0) L∧bj wy (m.a,m.b)),fun _ _ _ _ h=>h⟩] (fun wy=>(fun wy=>Below B wx wy) wy∧aI wy (pn) (66) (#[.int .i64 k, .int .u32 (e:Nat), .string nm, .int .u32 (m.uid:Nat), .int .i64 m.date, .int .i64 m.flags, .slice m.a m.b.length m.c])) (aG [(12,fun _ _=>True)] aA) (by kernel_rfl) rfl (by kernel_rfl) (by kernel_rfl) rfl (by kernel_rfl) (by kernel_rfl) (by kernel_rfl) (by kernel_rfl) (⟨(Below.refl _ _).drew,(Kn).drew⟩) (bF [(12,fun _ _=>True)] [true,true,true,true,true,true,true,true,true,true,true,false,false] [true,true,true,true,true,true,true,true,true,true,true,false,true] [] rfl rfl rfl (by kernel_rfl) ⟨trivial,trivial,trivial,trivial,trivial,trivial,trivial,trivial,trivial,trivial,trivial,(fun _ _ _ _ hp hb=>by obtain⟨g,h1,h2⟩:=hp;exact⟨g,h1,h2.below hb⟩),(fun _ _ _ _ hp hb=>hp.below hb),trivial⟩ trivial) (List.forall_mem_cons.2 ⟨(fun hn=>⟨ho.below (Below.refl _ _).drew,hm1.below (Below.refl _ _).drew⟩),(fun _ h=>by cases h)⟩) (rO [(12,fun _ _=>True)] [(none,(some 12))] [] rfl (by kernel_rfl) (List.forall_mem_cons.2 ⟨fun _=>fun _ _ _ hp hb=>⟨hp.1.below hb,hp.2.below hb⟩,(fun _ h=>by cases h)⟩) trivial) (List.forall_mem_cons.2 ⟨(fun a h=>by first|(exact(Ea h).elim)|(injection h with h;subst h;exact Nat.le_of_ble_eq_true rfl)),(fun _ h=>by cases h)⟩) ⟨?oF0, ?oF1, ?oF2, ?oF3, ?oF4, ?oF5, ?oF6, ?oF7, ?oF8, ?oF9, ?oF10, ?oF11, ?oF12,trivial⟩ (by kernel_rfl) ?fF
  case oF0=>intro ev wo hev hC hs hph;have x0:=se hA hs 0;exact od rfl rfl (by kernel_rfl) hC (aG.of rfl (aA.refl _)) (by simp[go_sem,x0]<;>rfl)
  case oF1=>intro ev wo hev hC hs hph;have x0:=se hA hs 0;exact od rfl rfl (by kernel_rfl) hC (aG.of rfl (aA.refl _)) (by simp[go_sem,x0]<;>rfl)
  case oF2=>intro ev wo hev hC hs hph;have x0:=sd hs 58 1;exact od rfl rfl (by kernel_rfl) hC (aG.of rfl (aA.refl _)) (by simp[go_sem,x0]<;>rfl)
  case oF3=>intro ev wo hev hC hs hph;have x0:=sd hs 59 2;exact od rfl rfl (by kernel_rfl) hC (aG.of rfl (aA.refl _)) (by simp[go_sem,x0]<;>rfl)
  case oF4=>intro ev wo hev hC hs hph;have x0:=sd hs 60 3;exact od rfl rfl (by kernel_rfl) hC (aG.of rfl (aA.refl _)) (by simp[go_sem,x0,pF _ hC,KL.cell,Kn.cell]<;>rfl)
  case oF5=>intro ev wo hev hC hs hph;have x0:=se hA hs 4;exact od rfl rfl (by kernel_rfl) hC (aG.of rfl (aA.refl _)) (by simp[go_sem,x0]<;>rfl)
  case oF6=>intro ev wo hev hC hs hph;have x0:=sd hs 62 5;exact od rfl rfl (by kernel_rfl) hC (aG.of rfl (aA.refl _)) (by simp[go_sem,x0,pF _ hC,KL.cell,Kn.cell]<;>rfl)
  case oF7=>intro ev wo hev hC hs hph;have x0:=se hA hs 4;exact od rfl rfl (by kernel_rfl) hC (aG.of rfl (aA.refl _)) (by simp[go_sem,x0]<;>rfl)
  case oF8=>intro ev wo hev hC hs hph;have x0:=sd hs 64 7;exact od rfl rfl (by kernel_rfl) hC (aG.of rfl (aA.refl _)) (by simp[go_sem,x0,pF _ hC,KL.cell,Kn.cell]<;>rfl)
  case oF9=>intro ev wo hev hC hs hph;have x0:=se hA hs 2;exact od rfl rfl (by kernel_rfl) hC (aG.of rfl (aA.refl _)) (by simp[go_sem,x0]<;>rfl)
  case oF10=>intro ev wo hev hC hs hph;have x0:=sd hs 63 6;have x1:=sd hs 65 8;have x2:=sd hs 66 9;exact od rfl rfl (by kernel_rfl) hC (aG.of rfl (aA.refl _)) (by simp[go_sem,x0,x1,x2]<;>rfl)
  case oF11=>
   intro ev wo hev hC hs hph
   have e67:=sd hs 67 10
   have Kx:=KL.below hC.1 hpl
   obtain⟨hp1,hp2⟩:=(hph _ List.mem_cons_self (by kernel_rfl))
   have hbn:=(Below.refl wo.heap.size wo).alloc (Nat.le_refl _) (.cells (mV x).toArray 133)
   have hBo:B≤wo.heap.size:=Nat.le_trans hBx hC.1.size
   exact bf (aJ rfl) (bI (v:= .slice (some ⟨wo.heap.size,0,none⟩) 1 1) (w':=wo.alloc (.cells (mV x).toArray 133)) (by simp[go_sem,e67,hx,mV]) ⟨⟨hC.1.trans (hbn.mono hBo),hC.2.below hbn hC.2.lt⟩,aG.of rfl hbn,⟨_,rfl,ey (s:=dA) (x:=x) (aI.new wo _ _) (fun p hp=>by
    rw[hx] at hp
    rw[List.mem_singleton.1 hp]
    exact hp2.below hbn)⟩,av (by kernel_rfl)⟩)
  case oF12=>
   intro ev wo hev hC hs hph
   have e61:=sd hs 61 4
   have u68:=su hs 68 11
   have Kx:=KL.below hC.1 hpl
   obtain⟨hp1,hp2⟩:=(hph _ List.mem_cons_self (by kernel_rfl))
   obtain⟨g,h1,h2⟩:=u68
   have hBo:B≤wo.heap.size:=Nat.le_trans hBx hC.1.size
   obtain⟨r,w3,hr,ho3,hgr,_⟩:=eT (c:=1) hp1 h2 hoffx (by simp;omega) hBo
   exact bf (aJ rfl) (bI (ao rfl e61 h1 hr) ⟨⟨dN hC.1 hp1 hgr (Nat.le_refl _) hBo,hC.2.grown hgr (fun e=>eu hp1.row hC.2 (by decide) _ e.symm rfl)⟩,aG.sp rfl trivial,ho3,av (by kernel_rfl)⟩)
  intro sg wf hC hph
  intro x68 hx68
  intro x69 hx69 h69
  intro a hA
  replace hA:=hA.keepN [57,69]
  replace KL:=KL.below hC.1 hpl
  have HB:=HB.trans (hC.1.mono (Nat.le_of_lt hpl))
  have KL0:=KL
  obtain⟨A9,c9,e9,_⟩:=h69.reads
  subst e9
  clear hx69
  revert a;(iterate 2 refine wo rfl rfl (by decide) (fun ev e h=>by simp[go_sem,h,KL.cell,Kn.cell]<;>rfl) ?_);intro a hA
  refine aq ([.string (dU s n).nm, .int .u32 (E:Nat), .int .u32 (N:Nat), .slice A9 (L++[x]).length c9, .int .i64 z, .bool cl]) _ hA rfl rfl KL (j:=3) (by rfl) (fun ev h=>by simp[go_sem,h.get 71 rfl,h.get 69 rfl,KL.cell,Kn.cell,KL.cell,KL.frozen];try first|exact⟨rfl,rfl⟩|rfl) fun w7 (KL:aI _ _ _ _) hs7=> ?_
  refine wN (nB ?_)
  exact wA hA rfl ⟨rfl,_,_,KL,h69.onlyK hs7 KL0 (by decide) rfl,hxL,hs7.below HB (Nat.le_refl _)⟩
 case nD=>
  have hq:(k==2)=false:=hq
  refine wS (wR ?_)
  revert a;(iterate 2 refine wo rfl rfl (by decide) (fun ev e h=>by simp[go_sem,h,KL.cell,Kn.cell]<;>rfl) ?_);intro a hA
  replace hA:=hA.keepN [0,4,72]
  refine wN (nT ?_)
  refine aH hA 72 _ rfl (fun hq2=> ?yG) (fun hq2=> ?nG)
  case nG=>
   have hq2:(k==3)=false:=hq2
   have hsame:du s.live n=s.live:=by
    unfold du
    rw[hnk,hq,hq2]
    rfl
   rw[hsame]
   refine wp_skip (nB ?_)
   exact wA hA rfl ⟨rfl,_,_,KL,ho,hlv,HB⟩
  case yG=>
   have hq2:(k==3)=true:=hq2
   have hgone:du s.live n=s.live.filter (fun x=> !fP n x):=by
    unfold du
    rw[hnk,hq,hq2]
    rfl
   have hleft:(k8 e m.uid L).map iw=(du s.live n).map iS:=by
    rw[hgone]
    unfold k8
    have e1:L.filter (fun x=> !pY e m.uid x)=L.filter ((fun q=> !(q.1==e&&q.2.1==m.uid))∘iw):=rfl
    have e2:s.live.filter (fun x=> !fP n x)=s.live.filter ((fun q:Nat×Nat×Int×Int×List UInt8×Nat=> !(q.1==e&&q.2.1==m.uid))∘iS):=by
     congr 1
     funext y
     show(!fP n y)= !(y.ep==e&&y.u==m.uid)
     unfold fP
     rw[hne,hnu]
    rw[e1,e2,←List.filter_map,←List.filter_map,hlv]
   refine wR ?_
   revert a;(iterate 6 refine wo rfl rfl (by decide) (fun ev e h=>by simp[go_sem,h,KL.cell]<;>rfl) ?_);intro a hA
   refine aC hA rfl rfl (by decide) (fun ev h=>aB Tryz.func101 (by kernel_rfl) rfl (h.f _) (by first|(simp only[mL,h.get 78 rfl,h.get 79 rfl,h.c]<;>rfl)|(simp[mL,h.get 78 rfl,h.get 79 rfl,h.c,KL.cell]<;>rfl))) (vx pn B k e nm m A0 c0 L.length L _ Kn hBx (by omega) rfl ho) ?_
   rintro e w8 ⟨v8,rfl,ho8,hap⟩
   refine⟨_,rfl,fun a hA=> ?_⟩
   have KL8:=hap.blk KL (fun h=>by have:=World.ownsRow.lt ho.row _ h;omega)
   have HB8:Below pl w w8:=HB.trans (hap.toBelow (fun i h=>by have:=World.ownsRow.lt ho.row _ h;omega) (by omega))
   have KL0:=KL8
   obtain⟨A9,c9,e9,_⟩:=ho8.reads
   subst e9
   revert a;(iterate 2 refine wo rfl rfl (by decide) (fun ev e h=>by simp[go_sem,h,KL.cell]<;>rfl) ?_);intro a hA
   refine aq ([.string (dU s n).nm, .int .u32 (E:Nat), .int .u32 (N:Nat), .slice A9 (k8 e m.uid L).length c9, .int .i64 z, .bool cl]) _ hA rfl rfl KL8 (j:=3) (by rfl) (fun ev h=>by simp[go_sem,h.get 82 rfl,h.get 80 rfl,KL.cell,KL8.cell,KL8.frozen];try first|exact⟨rfl,rfl⟩|rfl) fun w9 (KL8:aI _ _ _ _) hs9=> ?_
   refine wN (nB ?_)
   exact wA hA rfl ⟨rfl,_,_,KL8,ho8.onlyK hs9 KL0 (by decide) rfl,hleft,hs9.below HB8 (Nat.le_refl _)⟩
def pk (E:Nat):Nat→List (Nat×Nat)→Bool
 |_,[]=>true
 |last,q::r=>q.1==E&&decide (last<q.2)&& !(q.2==4294967295)&&pk E q.2 r
theorem BZ (E:Nat):∀(last:Nat) (l:List aX),dx E last l=pk E last (l.map fun n=>(n.ep,n.u))
 |_,[]=>rfl
 |last,n::r=>by
  rw[List.map_cons]
  unfold dx pk
  rw[BZ E n.u r]
def Hy (x:eR):Nat×Nat:=(x.ep,x.m.uid)
theorem Gz {L:List eR} {l:List aX} (h:L.map iw=l.map iS):L.map Hy=l.map fun n=>(n.ep,n.u):=by
 have:=congrArg (List.map fun q:Nat×Nat×Int×Int×List UInt8×Nat=>(q.1,q.2.1)) h
 rw[List.map_map,List.map_map] at this
 exact this
def jo (L:List eR) (j:Nat):Nat:=if j=0 then 0 else((L[j - 1]?).map (·.m.uid)).getD 0
theorem Bu (pl:Nat) (s:fo) (z:Int) (cl:Bool) (A:Option Addr) (n c:Nat) (L:List eR) (w:World) (KL:aI w pl 77 #[.string s.nm, .int .u32 (s.ep:Nat), .int .u32 (s.nx:Nat), .slice A n c, .int .i64 z, .bool cl])
 (hr:bu dA w A L) (hl:L.length=n) (hn:n≤16000000) (hlv:L.map iw=s.live.map iS) (h1:∀x∈L,1≤x.m.uid):
 Calls Tryz.prog 61 #[.pointer (some ⟨pl,0,none⟩)] w fun ev w'=>ev= .returned (.bool (al s))∧Below w.heap.size w w':=by
 have hcs:al s=pk s.ep 0 (L.map Hy):=by
  unfold al
  rw[BZ,Gz hlv]
 rw[hcs]
 have HB:=Below.refl w.heap.size w
 refine aK 49 Tryz.func61 rfl rfl (Nat.le_of_ble_eq_true rfl) ?_
 intro a hA;replace hA:=hA.norm
 refine wS (wR ?_)
 revert a;refine wo rfl rfl (by decide) (fun ev e h=>by simp[go_sem,h,KL.cell]<;>rfl) ?_;intro a hA
 replace hA:=hA.keepN [0]
 refine wN (nT (wS (wS (wR ?_))))
 revert a;(iterate 6 refine wo rfl rfl (by decide) (fun ev e h=>by simp[go_sem,h,KL.cell]<;>rfl) ?_);intro a hA
 replace hA:=hA.keepN [0,8,9,10]
 refine wN (nT (wB ?_))
 refine aQ (fun kk a wx=>∃(j:Nat),j+kk=n∧At 49 [(0, .pointer (some ⟨pl,0,none⟩)),(8, .slice A n c),(9, .int .i64 (n:Nat)),(10, .int .i64 (j:Nat))] a∧pk s.ep 0 (L.map Hy)=pk s.ep (jo L j) ((L.drop j).map Hy)∧Below w.heap.size w wx) (n) ?_ ?_
 ·exact⟨0,by omega,hA,rfl,HB⟩
 clear HB
 rintro kk a wx ⟨j,hjk,hA,hri,HB⟩
 refine wS (wR ?_)
 revert a;refine wo rfl rfl (by decide) (fun ev e h=>by simp[go_sem,h]<;>rfl) ?_;intro a hA
 replace hA:=hA.keepN [0,8,9,10,11]
 refine wN (nT (wS ?_))
 refine aH hA 11 _ rfl (fun hq=> ?yI) (fun hq=> ?nI)
 case nI=>
  have hjn:j=n:=by simp at hq;omega
  rw[hjn,←hl,List.drop_length] at hri
  replace hA:=hA.keepN []
  refine wp_exit (xT (xT (xB (nT (wS (wR ?_))))))
  revert a;refine wo rfl rfl (by decide) (fun ev e h=>by simp[go_sem,h]<;>rfl) ?_;intro a hA
  replace hA:=hA.keepN [2]
  refine wN (nT (wp_ret ?_))
  refine ab hA 2 rfl rfl ?_
  exact⟨by rw[hri];rfl,HB⟩
 case yI=>
  have hlt:j<n:=by simp at hq;omega
  obtain⟨x,hx⟩:∃x,L[j]?=some x:=⟨_,List.getElem?_eq_getElem (by omega)⟩
  have hdr:L.drop j=x::L.drop (j+1):=by
   rw[List.drop_eq_getElem_cons (by omega)]
   congr 1
   exact(List.getElem?_eq_some_iff.1 hx).2
  have hlu:jo L (j+1)=x.m.uid:=by
   unfold jo
   rw[if_neg (by omega),Nat.add_sub_cancel,hx]
   rfl
  rw[hdr,List.map_cons] at hri
  obtain⟨ad,rfl,hadl,kz,kk'⟩:=hr.cell hx
  have z0:=(HB.cell (by rw[aD];exact hadl)).trans (kz _ rfl)
  have z1:=(HB.cell (p:=⟨(ad.add (j*6)).block,(ad.add (j*6)).off+1,none⟩) (by show(ad.add _).block<_;rw[aD];exact hadl)).trans (kk' 1 _ (by decide) rfl)
  have z2:=(HB.cell (p:=⟨(ad.add (j*6)).block,(ad.add (j*6)).off+2,none⟩) (by show(ad.add _).block<_;rw[aD];exact hadl)).trans (kk' 2 _ (by decide) rfl)
  have z3:=(HB.cell (p:=⟨(ad.add (j*6)).block,(ad.add (j*6)).off+3,none⟩) (by show(ad.add _).block<_;rw[aD];exact hadl)).trans (kk' 3 _ (by decide) rfl)
  have z4:=(HB.cell (p:=⟨(ad.add (j*6)).block,(ad.add (j*6)).off+4,none⟩) (by show(ad.add _).block<_;rw[aD];exact hadl)).trans (kk' 4 _ (by decide) rfl)
  have z5:=(HB.cell (p:=⟨(ad.add (j*6)).block,(ad.add (j*6)).off+5,none⟩) (by show(ad.add _).block<_;rw[aD];exact hadl)).trans (kk' 5 _ (by decide) rfl)
  have z0:wx.cell? (ad.add (j*6))=some (.int .u32 (x.m.uid:Nat)):=z0
  have jj0:(0:Int)≤(j:Int):=by omega
  have jj1:(j:Int)<(n:Int):=by omega
  have hwj:IntKind.i64.wrap ((j:Int)+1)=(j:Int)+1:=IntWalk.i64_in _ (by omega)
  have hwm:IntKind.i64.wrap ((j:Int) - 1)=(j:Int) - 1:=IntWalk.i64_in _ (by omega)
  refine wp_skip (nT (wS (wB (wS (wR ?_)))))
  revert a;(iterate 3 refine wo rfl rfl (by decide) (fun ev e h=>by simp[go_sem,h,z0,z1,z2,z3,z4,z5,jj0,jj1,hwj]<;>rfl) ?_);intro a hA
  refine aP hA rfl rfl (by decide) (fun ev h=>by simp[go_sem,z0,z1,z2,z3,z4,z5,jj0,jj1,hwj];try first|exact⟨rfl,rfl⟩|rfl) fun w4 a (K:aI _ _ _ _) hz4 hb4 hA=> ?_
  revert a;refine wo rfl rfl (by decide) (fun ev e h=>by simp[go_sem,h,z0,z1,z2,z3,z4,z5,jj0,jj1,hwj]<;>rfl) ?_;intro a hA
  refine bX [.int .u32 (x.m.uid:Nat), .int .i64 x.m.date, .int .i64 x.m.flags, .slice x.m.a x.m.b.length x.m.c, .int .u32 (x.ep:Nat), .int .i64 (x.at_:Nat)] hA rfl rfl K (by rfl) (fun ev h=>by simp[go_sem,h.get 4 rfl,h.get 14 rfl,z0,z1,z2,z3,z4,z5,jj0,jj1,hwj,setAll,K.cell,K.frozen]) fun w5 (K:aI _ _ _ _) hs5=> ?_
  have hb5:=hs5.below hb4 (Nat.le_refl _)
  replace HB:=HB.trans (hb5.mono HB.size)
  clear z0 z1 z2 z3 z4 z5 hb5 hb4 hs5
  have KL5:=KL.below HB KL.lt
  replace hA:=hA.keepN [0,3,4,8,9,10]
  refine wN (nT (wS ?_))
  have hmx:=List.mem_of_getElem? hx
  have hx1:=h1 x hmx
  have kp:decide (0<j)=true→w5.cell? (ad.add ((j - 1)*6))=some (.int .u32 (jo L j:Nat)):=fun h=>by
   have hj:0<j:=by simpa using h
   obtain⟨y,hy⟩:∃y,L[j - 1]?=some y:=⟨_,List.getElem?_eq_getElem (by omega)⟩
   obtain⟨ad',e',_,ky,_⟩:=hr.cell hy
   injection e' with e'
   subst e'
   have hlv:jo L j=y.m.uid:=by
    unfold jo
    rw[if_neg (by omega),hy]
    rfl
   rw[hlv]
   exact(HB.cell (by rw[aD];exact hadl)).trans (ky _ rfl)
  have jm:decide (0<j)=true→(1:Int)≤(j:Int):=fun h=>by simp at h;omega
  have jn:(j:Int) - 1<(n:Int):=by omega
  have jt:((j:Int) - 1).toNat=j - 1:=by omega
  have pC:=fun(wo:World) (hC:(fun wy=>Below w5.heap.size w5 wy) wo)=>have Kx:=KL5.below hC KL5.lt;have Ky:=K.below hC K.lt;have Kp:=fun h=>(hC.cell (p:=ad.add ((j - 1)*6)) (by rw[aD];exact Nat.lt_of_lt_of_le hadl HB.size)).trans (kp h);And.intro (Kx.cell) (Ky.cell)
  refine bi hA ((.det ?dC0)::(.det ?dC1)::(.det ?dC2)::(.det ?dC3)::(.det ?dC4)::(.det ?dC5)::(.det ?dC6)::(.det ?dC7)::(.det ?dC8)::(.det ?dC9)::(.det ?dC10)::(.det ?dC11)::(.det ?dC12)::(.det ?dC13)::(.det ?dC14)::(.det ?dC15)::(.det ?dC16)::(.det ?dC17)::(.det ?dC18)::(.det ?dC19)::(.det ?dC20)::(.det ?dC21)::(.det ?dC22)::(.det ?dC23)::(.det ?dC24)::(.det ?dC25)::(.det ?dC26)::(.det ?dC27)::(.det ?dC28)::(.det ?dC29)::(.det ?dC30)::(.det ?dC31)::(.det ?dC32)::[]) [] (fun wy=>Below w5.heap.size w5 wy) (aG [] aA) (by kernel_rfl) rfl (by kernel_rfl) (by kernel_rfl) rfl ((Below.refl _ _).drew) (bF [] (true::true::true::true::true::true::true::true::true::true::true::true::true::true::true::true::true::true::true::true::true::true::true::true::true::true::true::true::true::true::true::true::true::[]) (true::true::true::true::true::true::true::true::true::true::true::true::true::true::true::true::true::true::true::true::true::true::true::true::true::true::true::true::true::true::true::true::true::[]) [] rfl rfl rfl (by kernel_rfl) ⟨trivial,trivial,trivial,trivial,trivial,trivial,trivial,trivial,trivial,trivial,trivial,trivial,trivial,trivial,trivial,trivial,trivial,trivial,trivial,trivial,trivial,trivial,trivial,trivial,trivial,trivial,trivial,trivial,trivial,trivial,trivial,trivial,trivial,trivial⟩ trivial) (fun _ h=>by cases h) (fun _ _ _ _ _ h=>by cases h) (fun _ h=>by cases h) ⟨?oC0, ?oC1, ?oC2, ?oC3, ?oC4, ?oC5, ?oC6, ?oC7, ?oC8, ?oC9, ?oC10, ?oC11, ?oC12, ?oC13, ?oC14, ?oC15, ?oC16, ?oC17, ?oC18, ?oC19, ?oC20, ?oC21, ?oC22, ?oC23, ?oC24, ?oC25, ?oC26, ?oC27, ?oC28, ?oC29, ?oC30, ?oC31, ?oC32,trivial⟩ (by kernel_rfl) ?fC
  case oC0=>intro ev wo hev hC hs hph;have x0:=se hA hs 4;exact od rfl rfl (by kernel_rfl) hC (aG.of rfl (aA.refl _)) (by simp[go_sem,x0,hwm,jn,jt]<;>rfl)
  case oC1=>intro ev wo hev hC hs hph;have x0:=sd hs 15 0;exact od rfl rfl (by kernel_rfl) hC (aG.of rfl (aA.refl _)) (by simp[go_sem,x0,pC _ hC,hwm,jn,jt]<;>rfl)
  case oC2=>intro ev wo hev hC hs hph;have x0:=se hA hs 0;exact od rfl rfl (by kernel_rfl) hC (aG.of rfl (aA.refl _)) (by simp[go_sem,x0,hwm,jn,jt]<;>rfl)
  case oC3=>intro ev wo hev hC hs hph;have x0:=sd hs 17 2;exact od rfl rfl (by kernel_rfl) hC (aG.of rfl (aA.refl _)) (by simp[go_sem,x0,hwm,jn,jt]<;>rfl)
  case oC4=>intro ev wo hev hC hs hph;have x0:=sd hs 18 3;exact od rfl rfl (by kernel_rfl) hC (aG.of rfl (aA.refl _)) (by simp[go_sem,x0,hwm,jn,jt]<;>rfl)
  case oC5=>intro ev wo hev hC hs hph;have x0:=sd hs 19 4;exact od rfl rfl (by kernel_rfl) hC (aG.of rfl (aA.refl _)) (by simp[go_sem,x0,pC _ hC,hwm,jn,jt]<;>rfl)
  case oC6=>intro ev wo hev hC hs hph;have x0:=sd hs 16 1;have x1:=sd hs 20 5;exact od rfl rfl (by kernel_rfl) hC (aG.of rfl (aA.refl _)) (by simp[go_sem,x0,x1,hwm,jn,jt]<;>rfl)
  case oC7=>intro ev wo hev hC hs hph;have x0:=sd hs 21 6;exact od rfl rfl (by kernel_rfl) hC (aG.of rfl (aA.refl _)) (by simp[go_sem,x0,hwm,jn,jt]<;>rfl)
  case oC8=>intro ev wo hev hC hs hph;have x0:=se hA hs 4;have y:=sd hs 22 7;exact bq _ rfl rfl y rfl (by kernel_rfl) hC (aG.of rfl (aA.refl _)) (fun hq=>by simp[go_sem,x0,hwm,jn,jt]<;>rfl) (by rfl)
  case oC9=>intro ev wo hev hC hs hph;have x0:=sd hs 23 8;have y:=sd hs 22 7;exact bq _ rfl rfl y rfl (by kernel_rfl) hC (aG.of rfl (aA.refl _)) (fun hq=>by simp[go_sem,(x0.trans (aL (aF hq))),hwm,jn,jt]<;>rfl) (by rfl)
  case oC10=>intro ev wo hev hC hs hph;have x0:=sd hs 24 9;have y:=sd hs 22 7;exact bq _ rfl rfl y rfl (by kernel_rfl) hC (aG.of rfl (aA.refl _)) (fun hq=>by simp[go_sem,(x0.trans (aL (aF hq))),pC _ hC,hwm,jn,jt]<;>rfl) (by rfl)
  case oC11=>intro ev wo hev hC hs hph;have x0:=sd hs 25 10;have y:=sd hs 22 7;exact bq _ rfl rfl y rfl (by kernel_rfl) hC (aG.of rfl (aA.refl _)) (fun hq=>by simp[go_sem,(x0.trans (aL (aF hq))),hev.const,hwm,jn,jt]<;>rfl) (by rfl)
  case oC12=>intro ev wo hev hC hs hph;have x0:=sd hs 22 7;have x1:=sd hs 26 11;exact od rfl rfl (by kernel_rfl) hC (aG.of rfl (aA.refl _)) (by rw[gz rfl x0 (hev.const _) x1]<;>rfl)
  case oC13=>intro ev wo hev hC hs hph;have x0:=sd hs 27 12;exact od rfl rfl (by kernel_rfl) hC (aG.of rfl (aA.refl _)) (by simp[go_sem,x0,hwm,jn,jt]<;>rfl)
  case oC14=>intro ev wo hev hC hs hph;have x0:=se hA hs 3;have y:=sd hs 28 13;exact bq _ rfl rfl y rfl (by kernel_rfl) hC (aG.of rfl (aA.refl _)) (fun hq=>by simp[go_sem,x0,hwm,jn,jt]<;>rfl) (by rfl)
  case oC15=>intro ev wo hev hC hs hph;have x0:=sd hs 29 14;have y:=sd hs 28 13;exact bq _ rfl rfl y rfl (by kernel_rfl) hC (aG.of rfl (aA.refl _)) (fun hq=>by simp[go_sem,(x0.trans (aL (aF hq))),hev.const,hwm,jn,jt]<;>rfl) (by rfl)
  case oC16=>intro ev wo hev hC hs hph;have x0:=sd hs 30 15;have y:=sd hs 28 13;exact bq _ rfl rfl y rfl (by kernel_rfl) hC (aG.of rfl (aA.refl _)) (fun hq=>by simp[go_sem,(x0.trans (aL (aF hq))),hwm,jn,jt]<;>rfl) (by rfl)
  case oC17=>intro ev wo hev hC hs hph;have x0:=se hA hs 0;have y:=sd hs 31 16;exact dG _ _ rfl rfl y rfl (by kernel_rfl) hC (aG.of rfl (aA.refl _)) (fun hq hr=>by simp[go_sem,x0,hwm,jn,jt]<;>rfl) (by rfl)
  case oC18=>intro ev wo hev hC hs hph;have x0:=sd hs 32 17;have y:=sd hs 31 16;exact dG _ _ rfl rfl y rfl (by kernel_rfl) hC (aG.of rfl (aA.refl _)) (fun hq hr=>by simp[go_sem,(x0.trans (aL (ax hq hr))),hwm,jn,jt]<;>rfl) (by rfl)
  case oC19=>intro ev wo hev hC hs hph;have x0:=sd hs 33 18;have y:=sd hs 31 16;exact dG _ _ rfl rfl y rfl (by kernel_rfl) hC (aG.of rfl (aA.refl _)) (fun hq hr=>by simp[go_sem,(x0.trans (aL (ax hq hr))),hwm,jn,jt]<;>rfl) (by rfl)
  case oC20=>intro ev wo hev hC hs hph;have x0:=sd hs 34 19;have y:=sd hs 31 16;exact dG _ _ rfl rfl y rfl (by kernel_rfl) hC (aG.of rfl (aA.refl _)) (fun hq hr=>by simp[go_sem,(x0.trans (aL (ax hq hr))),pC _ hC,hwm,jn,jt]<;>rfl) (by rfl)
  case oC21=>intro ev wo hev hC hs hph;have x0:=se hA hs 3;have y:=sd hs 31 16;exact dG _ _ rfl rfl y rfl (by kernel_rfl) hC (aG.of rfl (aA.refl _)) (fun hq hr=>by simp[go_sem,x0,hwm,jn,jt]<;>rfl) (by rfl)
  case oC22=>intro ev wo hev hC hs hph;have x0:=sd hs 36 21;have y:=sd hs 31 16;exact dG _ _ rfl rfl y rfl (by kernel_rfl) hC (aG.of rfl (aA.refl _)) (fun hq hr=>by simp[go_sem,(x0.trans (aL (ax hq hr))),hev.const,hwm,jn,jt]<;>rfl) (by rfl)
  case oC23=>
   intro ev wo hev hC hs hph
   have e35:=sd hs 35 20
   have e37:=sd hs 37 22
   have e31:=sd hs 31 16
   have Kx:=KL5.below hC KL5.lt
   have Ky:=K.below hC K.lt
   have Kp:=fun h=>(hC.cell (p:=ad.add ((j - 1)*6)) (by rw[aD];exact Nat.lt_of_lt_of_le hadl HB.size)).trans (kp h)
   exact dG _ _ rfl rfl e31 rfl (by kernel_rfl) hC (aG.of rfl (aA.refl _)) (fun hq hr=>by simp[go_sem,(e35.trans (aL (ax hq hr))),(e37.trans (aL (ax hq hr))),e31,jm hr,hwm,jn,jt];try first|exact⟨rfl,rfl⟩|rfl) (by rfl)
  case oC24=>intro ev wo hev hC hs hph;have x0:=sd hs 38 23;have y:=sd hs 31 16;exact dG _ _ rfl rfl y rfl (by kernel_rfl) hC (aG.of rfl (aA.refl _)) (fun hq hr=>by simp[go_sem,(x0.trans (aL (ax hq hr))),hwm,jn,jt]<;>rfl) (by rfl)
  case oC25=>intro ev wo hev hC hs hph;have x0:=sd hs 39 24;have y:=sd hs 31 16;exact dG _ _ rfl rfl y rfl (by kernel_rfl) hC (aG.of rfl (aA.refl _)) (fun hq hr=>by simp[go_sem,(x0.trans (aL (ax hq hr))),hwm,jn,jt]<;>rfl) (by rfl)
  case oC26=>
   intro ev wo hev hC hs hph
   have e40:=sd hs 40 25
   have e31:=sd hs 31 16
   have Kx:=KL5.below hC KL5.lt
   have Ky:=K.below hC K.lt
   have Kp:=fun h=>(hC.cell (p:=ad.add ((j - 1)*6)) (by rw[aD];exact Nat.lt_of_lt_of_le hadl HB.size)).trans (kp h)
   exact dG _ _ rfl rfl e31 rfl (by kernel_rfl) hC (aG.of rfl (aA.refl _)) (fun hq hr=>by simp[go_sem,(e40.trans (aL (ax hq hr))),e31,Kx.cell,Ky.cell,Kp hr,hwm,jn,jt];try first|exact⟨rfl,rfl⟩|rfl) (by rfl)
  case oC27=>intro ev wo hev hC hs hph;have x0:=se hA hs 4;have y:=sd hs 31 16;exact dG _ _ rfl rfl y rfl (by kernel_rfl) hC (aG.of rfl (aA.refl _)) (fun hq hr=>by simp[go_sem,x0,hwm,jn,jt]<;>rfl) (by rfl)
  case oC28=>intro ev wo hev hC hs hph;have x0:=sd hs 42 27;have y:=sd hs 31 16;exact dG _ _ rfl rfl y rfl (by kernel_rfl) hC (aG.of rfl (aA.refl _)) (fun hq hr=>by simp[go_sem,(x0.trans (aL (ax hq hr))),hwm,jn,jt]<;>rfl) (by rfl)
  case oC29=>intro ev wo hev hC hs hph;have x0:=sd hs 43 28;have y:=sd hs 31 16;exact dG _ _ rfl rfl y rfl (by kernel_rfl) hC (aG.of rfl (aA.refl _)) (fun hq hr=>by simp[go_sem,(x0.trans (aL (ax hq hr))),pC _ hC,hwm,jn,jt]<;>rfl) (by rfl)
  case oC30=>intro ev wo hev hC hs hph;have x0:=sd hs 41 26;have x1:=sd hs 44 29;have y:=sd hs 31 16;exact dG _ _ rfl rfl y rfl (by kernel_rfl) hC (aG.of rfl (aA.refl _)) (fun hq hr=>by simp[go_sem,(x0.trans (aL (ax hq hr))),(x1.trans (aL (ax hq hr))),hwm,jn,jt]<;>rfl) (by rfl)
  case oC31=>intro ev wo hev hC hs hph;have x0:=sd hs 31 16;have x1:=sd hs 45 30;have y:=sd hs 28 13;exact bq _ rfl rfl y rfl (by kernel_rfl) hC (aG.of rfl (aA.refl _)) (fun hq=>by rw[iz rfl (x0.trans (aL (aF hq))) (x1.trans (wM (aF hq))) (hev.const _)]<;>rfl) (by rfl)
  case oC32=>intro ev wo hev hC hs hph;have x0:=sd hs 28 13;have x1:=sd hs 46 31;exact od rfl rfl (by kernel_rfl) hC (aG.of rfl (aA.refl _)) (by rw[gz rfl x0 (hev.const _) x1]<;>rfl)
  intro sg wf hC hph
  intro a hA
  replace hA:=hA.keepN [0,8,9,10,47]
  refine nT ?_
  clear kp jm jn jt hwm
  replace HB:=HB.trans (hC.mono HB.size)
  have hq0:(x.ep==s.ep&&decide (jo L j<x.m.uid)&& !(x.m.uid==4294967295))= !((x.ep:Int) !=(s.ep:Int)||(x.m.uid:Int)==4294967295||decide (0<j)&&decide (x.m.uid≤jo L j)):=by
   have e1:((x.ep:Int) !=(s.ep:Int))= !(x.ep==s.ep):=by unfold bne;rw[jW]
   have e2:((x.m.uid:Int)==4294967295)=(x.m.uid==4294967295):=jW _ 4294967295
   have e3:(decide (0<j)&&decide (x.m.uid≤jo L j))= !decide (jo L j<x.m.uid):=by
    rcases Nat.eq_zero_or_pos j with h|h
    ·subst h
     have h0:jo L 0=0:=rfl
     rw[h0,decide_eq_true (show 0<x.m.uid by omega)]
     rfl
    ·rw[decide_eq_true h,Bool.true_and,Bool.eq_iff_iff]
     simp
   rw[e1,e2,e3]
   cases x.ep==s.ep<;>cases x.m.uid==4294967295<;>cases decide (jo L j<x.m.uid)<;>rfl
  have hri2:pk s.ep 0 (L.map Hy)=((x.ep==s.ep&&decide (jo L j<x.m.uid)&& !(x.m.uid==4294967295))&&pk s.ep x.m.uid ((L.drop (j+1)).map Hy)):=by rw[hri];rfl
  refine aH hA 47 _ rfl (fun hq3=> ?yR) (fun hq3=> ?nR)
  case yR=>
   rw[hq0,hq3] at hri2
   refine wS (wR ?_)
   revert a;refine wo rfl rfl (by decide) (fun ev e h=>by simp[go_sem,h]<;>rfl) ?_;intro a hA
   replace hA:=hA.keepN [2]
   refine wN (nT (wp_ret (rB (rT (rT (rB (rT ?_)))))))
   refine ab hA 2 rfl rfl ?_
   exact⟨by rw[hri2];rfl,HB⟩
  case nR=>
   rw[hq0,hq3] at hri2
   refine wp_skip (nB (nT (wR ?_)))
   revert a;(iterate 2 refine wo rfl rfl (by decide) (fun ev e h=>by simp[go_sem,h,hwj]<;>rfl) ?_);intro a hA
   replace hA:=hA.keepN [0,8,9,10]
   refine wN (nT ?_)
   rw[show((j:Int)+1)=((j+1:Nat):Int) by omega] at hA
   exact⟨kk - 1,by omega,j+1,by omega,hA,by rw[hlu,hri2];rfl,HB⟩
def ad (a b:Nat):Nat:=(a+b)%4294967296
def xo (a b:Nat):Nat:=a^^^b
def an (a b:Nat):Nat:=a&&&b
def Gd (a b:Nat):Nat:=a|||b
def ug (a:Nat):Nat:=4294967295 - a
def sr (a n:Nat):Nat:=a>>>n
def cO (a b:Nat):Nat:=(a+b)%18446744073709551616
theorem gS {a b:Nat} (ha:a<4294967296) (hb:b<4294967296):xo a b<4294967296:=Nat.xor_lt_two_pow (n:=32) ha hb
theorem fr {a b:Nat} (ha:a<4294967296):an a b<4294967296:=Nat.lt_of_le_of_lt Nat.and_le_left ha
theorem ui {a b:Nat} (ha:a<4294967296) (hb:b<4294967296):Gd a b<4294967296:=Nat.or_lt_two_pow (n:=32) ha hb
theorem BP (a:Nat):ug a<4294967296:=by unfold ug;omega
theorem tt {a n:Nat} (ha:a<4294967296):sr a n<4294967296:=by
 unfold sr
 rw[Nat.shiftRight_eq_div_pow]
 exact Nat.lt_of_le_of_lt (Nat.div_le_self _ _) ha
theorem bZ (a b:Nat):IntKind.u32.wrap ((a:Int)+(b:Int))=((ad a b:Nat):Int):=by
 rw[IntKind.wrap_u32'];unfold ad;omega
theorem rr {a b:Nat} (ha:a<4294967296) (hb:b<4294967296):bits .xor .u32 (a:Int) (b:Int)=((xo a b:Nat):Int):=u32_xor_nat a b ha hb
theorem FT {a b:Nat} (ha:a<4294967296) (hb:b<4294967296):bits .and .u32 (a:Int) (b:Int)=((an a b:Nat):Int):=u32_and_nat a b ha hb
theorem F5 {a:Nat} (h:a<4294967296):a<18446744073709551616:=by omega
theorem dm (a b:Nat):IntKind.u64.wrap ((a:Int)+(b:Int))=((cO a b:Nat):Int):=by
 rw[IntKind.wrap_u64];unfold cO;omega
theorem qA (a b:Nat):cO a b<18446744073709551616:=Nat.mod_lt _ (by decide)
theorem vI {a b:Nat} (ha:a<4294967296) (hb:b<4294967296):bits .xor .u64 (a:Int) (b:Int)=((xo a b:Nat):Int):=u64_xor_nat a b (F5 ha) (F5 hb)
theorem FS {a b:Nat} (ha:a<18446744073709551616) (hb:b<4294967296):bits .and .u64 (a:Int) (b:Int)=((an a b:Nat):Int):=u64_and_nat a b ha (F5 hb)
theorem Ho {a b:Nat} (ha:a<4294967296) (hb:b<4294967296):bits .or .u64 (a:Int) (b:Int)=((Gd a b:Nat):Int):=u64_or_nat a b (F5 ha) (F5 hb)
end Go.Proofs.YtclcfkaphlopeaaGreatDoor
