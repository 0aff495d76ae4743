/-
  Plain words on memory, bytes and rows for the walks: no program in sight but its name in the namespace.
-/
import Derived.WalkKit
import Derived.WalkSpells
import Derived.WalkLawsBesides
import Derived.Handy
import Derived.ProofKit
import Derived.OpenShut
import Derived.Deep.Draws
import Derived.Deep.QuietTactic
import Derived.BigQuiet
import Derived.Lib.Hide
import Derived.ChangeSame
import Derived.Deep.DeepHandedRow
import Derived.Lay
import Derived.LaidMore
import Derived.LaidLaws
import Derived.Stop.Joined
import Derived.Below
import Derived.Laws.OwnMore
import Derived.Deep.AppendLies
import Derived.Deep.AppendSrc
import Derived.OwnWalk
import Derived.Deep.Cut
import Derived.Lib.QuietBelow
import Derived.Laws.BytesString
import Derived.Shelf.SlIter.Nil
import Derived.Shelf.SortM.Plain
import Derived.Shelf.SortM.SortNone
import Derived.Ground.GgzProg
import Derived.Ground.SlgmProg
import Derived.Shelf.Spec.SlicesGrow
import Derived.Ground.Names8Prog
import Derived.Shelf.SlGeneric
import Derived.Shelf.Strings.Builder1
import Derived.Shelf.Strings.Builder2
import Derived.Shelf.Strings.OnBuilder
import Derived.Shelf.Small.Utf8
import Derived.Shelf.Small.Bits
import Derived.Shelf.Strings.BuilderF
import Derived.Shelf.Strings.BuilderK
import Derived.Shelf.Strings.BuilderRune
import Derived.Shelf.Utf8.RuneCount
import Derived.Shelf.Strings.Builder2Cap
import Derived.Shelf.Strconv.Itoa0
import Derived.Shelf.Strconv.Itoa1
import Derived.Shelf.LaysM
import Derived.Shelf.Strconv.Itoa2
import Derived.Shelf.Strconv.Itoa3
import Derived.Shelf.Strconv.Itoa4
import Derived.Shelf.Strings.Search1
import Derived.Shelf.Strings.Search2
import Derived.Shelf.Strings.Search3
import Derived.Shelf.Strings.Count
import Derived.Shelf.Strings.Shaped
import Derived.Shelf.Sort.Plain
import Derived.Shelf.Strings.Split
import Derived.Shelf.Strings.SplitShaped
import Derived.Shelf.Unicode.Latin
import Derived.Shelf.Unicode.Decode
import Derived.Shelf.Strings.RuneCount
import Derived.Shelf.Strings.Explode
import Derived.Shelf.Unicode.DecodeSlow
import Derived.Shelf.Unicode.DecodeAny
import Derived.Shelf.Unicode.CaseLookup
import Derived.Shelf.Unicode.CaseConvert
import Derived.Shelf.Unicode.CaseTo
import Derived.Shelf.Unicode.CaseLaid
import Derived.Shelf.Strings.MapAny
import Derived.Shelf.Strings.CaseAny
import Derived.Shelf.Slices.Turned
import Derived.Shelf.Slices.In.SortNone
import Derived.Shelf.Bytes.SlIndexSmall
import Derived.Shelf.Bytes.SlIndexAt
import Derived.Shelf.Bytes.SlSearch0
import Derived.Shelf.Bytes.SlSearch1
import Derived.Shelf.Bytes.SlSearch2
import Derived.Shelf.Bytes.SlIndexWhole
import Derived.Ground.SlbCloneProg
import Derived.Shelf.Bytes.SlClone
import Derived.Shelf.Bytes.SlEqualAll
import Derived.Shelf.Bytes.Small
import Derived.Shelf.Bytes.IndexByte
import Derived.Test.YtclcfkaphlopeaaGreatDoorProg
import Derived.Lib.Bytes
import Derived.Test.YtclcfkaphlopeaaGreatDoorChecked
import Derived.Sort.KeysCollected
import Derived.Maps.RangeWalk
import Derived.StringKeys
import Derived.StillTailTactics
import Derived.Orders
import Derived.OrdersHeld
import Derived.Deep.LoopGhost
import Derived.IntWalk
import Derived.Laws.AppendOwn
import Derived.Maps.AppendAt
import Derived.Lib.SliceRun
import Derived.Lib.SplitLaws
set_option linter.unusedSimpArgs false
set_option linter.unusedVariables false
set_option maxRecDepth 100000
set_option maxHeartbeats 16000000
namespace Go.Proofs.YtclcfkaphlopeaaGreatDoor
open Go.RowKit Go.WideShapes Go.ChangeShapes
def aI (w:World) (g:Nat) (t:TypeId) (cs:Array Value):Prop:=w.heap[g]?=some (.cells cs t (0,0))
section
variable {w w':World} {g:Nat} {t:TypeId} {cs:Array Value}
theorem aI.lt (h:aI w g t cs):g<w.heap.size:=by
 rcases Nat.lt_or_ge g w.heap.size with hlt|hge
 ·exact hlt
 ·unfold aI at h;rw[Array.getElem?_eq_none hge] at h;cases h
theorem aI.cell (h:aI w g t cs) (i:Nat):w.cell? ⟨g,i,none⟩=cs[i]?:=cell_of_row w g i cs t (0,0) h
theorem aI.frozen (h:aI w g t cs) (i:Nat):w.frozen? ⟨g,i,none⟩=false:=by
 unfold aI at h
 simp[World.frozen?,h]
theorem aI.new (w:World) (t:TypeId) (cs:Array Value):aI (w.alloc (.cells cs t)) w.heap.size t cs:=heap_alloc_new w _
theorem aI.drew (h:aI w g t cs):aI w.drew g t cs:=h
theorem aI.alloc (h:aI w g t cs) (o:Obj):aI (w.alloc o) g t cs:=(Below.heap_alloc w o g h.lt).trans h
theorem aI.set_ (h:aI w g t cs) (i:Nat) (u:Value):aI (w.setCell ⟨g,i,none⟩ u) g t (cs.setIfInBounds i u):=by
 unfold aI at h ⊢
 simp[World.setCell,Array.getElem?_modify,h]
theorem aI.far (h:aI w g t cs) {p:Addr} (hp:g≠p.block) (u:Value):aI (w.setCell p u) g t cs:=(Below.heap_setCell w p u g hp).trans h
theorem aI.below {B:Nat} (h:aI w g t cs) (hb:Below B w w') (hg:g<B):aI w' g t cs:=(hb.block g hg).trans h
theorem aI.grown {row:Option Nat} (h:aI w g t cs) (hb:w.grownBy w' row) (hg:some g≠row):aI w' g t cs:=(hb.block g h.lt hg).trans h
end
theorem vZ {B:Nat} {a w:World} (h:Below B a w) (n:Nat):Below B a (w.drewN n):=⟨h.os,h.tape,h.output,h.size,h.block⟩
theorem tw (s:ByteArray) (k:Nat) (h:k<s.size):s.data.toList.take (k+1)=s.data.toList.take k++[s[k]]:=by
 rw[List.take_succ_eq_append_getElem (by simpa using h)];rfl
theorem bH {a b:Bool} (h:a=b):Ending.returned (.bool a)= .returned (.bool b):=by rw[h]
theorem mX {P:Program} (t e:TypeId) (i:TypeInfo) (z:Value) (ht:P.underlying t=some (.slice e)) (hi:P.info? e=some i) (hz:i.zero=some z)
 (kl kc:IntKind) (n c:Nat) (hnc:n≤c) (hbytes:i.bytes*c≤281474976710656) (h63:c≤9223372036854775807) (w:World):
 (Instr.makeSlice t (.int kl (n:Int)) (.int kc (c:Int))).run P w= .ok (.slice (some ⟨w.heap.size,0,none⟩) n c) (w.alloc (.cells (madeCells z.cells (c*i.size)) e)):=by
 have hb:(i.bytes:Int)*(c:Int)≤281474976710656:=by
  have h:((i.bytes*c:Nat):Int)≤281474976710656:=by omega
  rwa [Int.natCast_mul] at h
 have hr:=run_make (P:=P) w t e i z ht hi hz kl kc n c (by omega) (by omega) hb (by omega)
 simp only[Int.toNat_natCast] at hr
 exact hr
theorem sO {H:Type} {enc:TypeId×Value→H} {P:Program}
 {f:Func} {s:ChangeSpec} {apart fresh handsOn again:Bool} {W W':World} {args:Array Value} {v:Value} {ds gs:List (DataW H)} {before pa pv:List MemPlace}
 (hW:DataW.Whole enc P f.params.toList s.vars apart W args.toList ds gs before)
 (hres:∀(b:Nat) (sp:Nat→Bool) (hd:Bool),DataW.TrodAll enc P W' b sp hd f.resultTypes.toList (v.resultList f.resultTypes.size) (s.fn H (ds++gs)).results [])
 (hargs:∀sp:Nat→Bool,(∀p∈before,sp p.block=true)→DataW.TrodAll enc P W' 0 sp true f.params.toList args.toList (s.fn H (ds++gs)).args pa)
 (hvars:∀sp:Nat→Bool,(∀p∈before,sp p.block=true)→DataW.TrodVars enc P W' sp s.vars (s.fn H (ds++gs)).vars pv)
 (hps:before=pa++pv) (hb:Below W.heap.size W W')
 (hok:∀(j:Nat) (t:TypeId) (r:Value),f.resultTypes[j]?=some t→(v.resultList f.resultTypes.size)[j]?=some r→Value.okWide P W' .any 0 t r):
 s.post enc P f apart fresh handsOn again W args v W':=by
 have hlt:∀p∈before,p.block<W.heap.size:=fun p hp=>hW.lt p hp
 have hold:∀p∈before,(fun b=>decide (b<W.heap.size)) p.block=true:=fun p hp=>by simpa using hlt p hp
 refine⟨ds,gs,before,[],pa,pv,hW,hres _ _ _,hargs _ hold,hvars _ hold,World.keptBut_mono (fun p hp=>⟨hp, ?_⟩) (hb.frame (·∈before)),fun _=> ?_⟩
 ·rw[hps,List.mem_append] at hp
  exact Or.inr hp
 ·obtain⟨_,_,_,_,_,hz,hn⟩:=hW
  refine⟨hok,_,_,([]++pa)++pv,⟨[]++pa,pv,trodAll_append (hargs _ (fun _ _=>rfl)) (hres _ _ _),hvars _ (fun _ _=>rfl),rfl, ?_, ?_⟩, ?_⟩
  ·intro b off hp
   have hin:MemPlace.cell b off∈before:=by rw[hps];simpa using hp
   rw[hb.frozen (hlt _ hin)]
   exact hz b off hin
  ·intro ha
   have:=hn ha
   rw[hps] at this
   simpa using this
  ·intro p hp _
   rw[hps]
   simpa using hp
theorem mz {H:Type} {enc:TypeId×Value→H} {C:Checked} {os:Os} {f:FuncId} {fn:Func} {s:OpenSpec} {conds:List PathCond} {apart:Bool} {laid:List (String×DataW Unit)} (modest:Bool) (w0:World) (args:Array Value) (hos:w0.os=os)
 (hsh:(w0.forCall (fun _ _=>0) ⟨#[],args,[]⟩).Shaped C.prog)
 (hok:Input.okWideB C.prog (w0.forCall (fun _ _=>0) ⟨#[],args,[]⟩) f ⟨#[],args,[]⟩=true)
 (hrow:s.preRow enc C.prog fn conds apart laid (w0.forCall (fun _ _=>0) ⟨#[],args,[]⟩).memory args):
 ∃(w:World) (tape:Tape) (i:Input),w.os=os∧(w.forCall tape i).Shaped C.prog∧i.vars=[]∧Input.okWide C.prog (w.forCall tape i) .any w.heap.size f i∧
  s.preRow enc C.prog fn conds apart laid (w.forCall tape i).memory i.args∧({modest:=modest}:Assume).holds C.prog (lone (Frame.enter C.prog f i.args .normal) [] (w.forCall tape i)):=
 ⟨w0,fun _ _=>0,⟨#[],args,[]⟩,hos,hsh,(Input.okWide_of_okWideB (base:=0) hok).1,(Input.okWide_of_okWideB hok).2,hrow,by
  simp only[Assume.holds]
  exact⟨by simp,by simp,fun _=>Modest.zero,by simp,by simp⟩⟩
end Go.Proofs.YtclcfkaphlopeaaGreatDoor
namespace Go.Proofs.YtclcfkaphlopeaaGreatDoor
open Go.RowKit
theorem aD (a:Addr) (n:Nat):(a.add n).block=a.block:=by unfold Addr.add;split<;>rfl
theorem yt (a:Addr) (i j:Nat):(a.add i).add j=a.add (i+j):=by
 unfold Addr.add
 by_cases hi:i=0<;>by_cases hj:j=0<;>simp[hi,hj,Nat.add_assoc]
def aE (w:World) (B size:Nat) (A:Option Addr) (n:Nat) (xs:List Value):Prop:=
 xs.length=n*size∧(0<n→∃ad,A=some ad∧ad.block<B∧∀j u,xs[j]?=some u→w.cell? (ad.add j)=some u)
section
variable {w w':World} {B B' size n:Nat} {A:Option Addr} {xs:List Value}
theorem aE.none_ :aE w B size A 0 []:=⟨by simp,fun h=>absurd h (by omega)⟩
theorem aE.keep (h:aE w B size A n xs) (hk:∀p:Addr,p.block<B→w'.cell? p=w.cell? p):aE w' B size A n xs:=
 ⟨h.1,fun hn=>by
  obtain⟨ad,e,hb,hc⟩:=h.2 hn
  exact⟨ad,e,hb,fun j u hu=>(hk _ (by rw[aD];exact hb)).trans (hc j u hu)⟩⟩
theorem aE.more (h:aE w B size A n xs) (hB:B≤B'):aE w B' size A n xs:=
 ⟨h.1,fun hn=>by
  obtain⟨ad,e,hb,hc⟩:=h.2 hn
  exact⟨ad,e,by omega,hc⟩⟩
theorem aE.below (h:aE w B size A n xs) (hb:Below B w w'):aE w' B size A n xs:=h.keep fun _ hp=>hb.cell hp
theorem aE.drew (h:aE w B size A n xs):aE w.drew B size A n xs:=h
theorem aE.alloc (h:aE w B size A n xs) (hB:B≤w.heap.size) (o:Obj):aE (w.alloc o) B size A n xs:=h.keep fun p hp=>World.cell?_alloc_lt w o p (by omega)
theorem aE.grown (h:aE w B size A n xs) {row:Option Nat} (hg:w.grownBy w' row) (hB:B≤w.heap.size) (hr:∀g,row=some g→B≤g):aE w' B size A n xs:=
 h.keep fun p hp=>World.cell?_of_block (hg.block p.block (by omega) (fun e=>by have:=hr _ e.symm;omega))
theorem aE.cut (h:aE w B size A n xs) {k cap:Nat} (hk:k≤n) (hc:n≤cap):
 aE w B size (if cap=k then A else A.map (·.add (k*size))) (n - k) (xs.drop (k*size)):=by
 refine⟨by rw[List.length_drop,h.1,Nat.sub_mul],fun hn=> ?_⟩
 obtain⟨ad,rfl,hb,hcell⟩:=h.2 (by omega)
 rw[if_neg (by omega)]
 refine⟨ad.add (k*size),rfl,by rw[aD];exact hb,fun j u hu=> ?_⟩
 rw[yt]
 exact hcell _ u (by rw[←hu,List.getElem?_drop])
theorem aE.of_own {base:Nat} {e:TypeId} {c:Nat} (h:w.ownsRow base e size (.slice A n c) n xs):aE w w.heap.size size A n xs:=by
 refine⟨h.1,fun hn=> ?_⟩
 obtain⟨g,cap,hv,_,hlt⟩:=h.form hn
 have hA:A=some ⟨g,0,none⟩:=by injection hv
 subst hA
 exact⟨_,rfl,hlt,h.cells (g:=g) rfl⟩
end
def n8 (w:World) (size:Nat) (A:Option Addr) (m:Nat) (news:List Value):Prop:=
 news.length=m*size∧(0<m→∃ad,A=some ad∧∀j u,news[j]?=some u→w.cell? (ad.add j)=some u)∧∀u∈news,u.oneCell'=true
theorem n8.of_reads {w:World} {B size m:Nat} {A:Option Addr} {xs:List Value} (h:aE w B size A m xs) (h1:∀u∈xs,u.oneCell'=true):n8 w size A m xs:=
 ⟨h.1,fun hm=>by obtain⟨ad,e,_,hc⟩:=h.2 hm;exact⟨ad,e,hc⟩,h1⟩
theorem oM (w:World) (b off:Nat):w.setCells b off []=w:=by simp[World.setCells]
theorem gL {P:Program} (w:World) (base:Nat) (t ty e:TypeId) (i:TypeInfo) (z:Value) (size bytes:Nat) (ht:P.underlying t=some (.slice e)) (hi:P.info? e=some i) (hz:i.zero=some z)
 (hsize:i.size=size) (hby:i.bytes=bytes) (hzs:z.cells.size=size) (hsz:0<size) (v:Value) (n:Nat) (xs:List Value) (hown:w.ownsRow base e size v n xs)
 (A:Option Addr) (m c:Nat) (news:List Value) (hg:n8 w size A m news) (h63:n+m≤maxLen) (hbytes:(n+m)*bytes≤140737488355328) (hbase:base≤w.heap.size):
 ∃v' w',(Builtin.append_ #[t,t] ty #[v, .slice A m c]).run P w= .ok v' w'∧w'.ownsRow base e size v' (n+m) (xs++news)∧w.grownBy w' v.ownBlock:=by
 obtain⟨hl,hnews,h1⟩:=hg
 cases A with
 |some ad=>
  have hc:∀j u,news[j]?=some u→w.cell? (ad.add j)=some u:=by
   rcases Nat.eq_zero_or_pos m with h|h
   ·subst h
    intro j u hj
    have:news=[]:=List.length_eq_zero_iff.1 (by simpa using hl)
    rw[this] at hj;cases hj
   ·obtain⟨ad',e,hc⟩:=hnews h
    injection e with e;subst e;exact hc
  obtain⟨v',w',hr,h2,h3,_⟩:=run_append_own (P:=P) w base t ty e i z size bytes ht hi hz hsize hby hzs hsz v n xs hown ad m c news hl hc h1 h63 hbytes hbase
  exact⟨v',w',hr,h2,h3⟩
 |none=>
  have h0:m=0:=by
   rcases Nat.eq_zero_or_pos m with h|h
   ·exact h
   ·obtain⟨ad,e,_⟩:=hnews h;cases e
  subst h0
  have hn:news=[]:=List.length_eq_zero_iff.1 (by simpa using hl)
  subst hn
  have hrun:(Builtin.append_ #[t,t] ty #[v, .slice none 0 c]).run P w= .ok v w:=by
   rcases hown.2 with⟨rfl,rfl⟩|⟨g,cap,cur,rfl,_,_,hnc,_⟩
   ·simp[Builtin.append_,run_underlying ht,sizeOf,typeInfo,hi,Builtin.lenOf,Builtin.firstCells,Result.andThen]
   ·have:=run_append_room_src (P:=P) w t t ty e i ht hi g 0 n cap (.slice none 0 c) 0 [] (Src.ofNil w ht c) (by omega) (fun j hj=>by simp at hj) (fun j hj=>by simp at hj)
    rw[oM] at this
    exact this
  exact⟨v,w,hrun,by simpa using hown,⟨rfl,rfl,rfl,Nat.le_refl _,fun _ _ _=>rfl⟩⟩
theorem jQ {P:Program} (w:World) {ops:Array Oper} {rest:List Oper} {o:Oper} {a:Act} {Q:Exit→Act→World→Prop} (hgd:o.guard=none) (s x:Operand) (t:TypeId)
 (ho:o.op= .call {callee:= .builtin .append,args:=#[s,x],argTypes:=#[t,t]})
 (base:Nat) (e:TypeId) (i:TypeInfo) (z:Value) (size bytes:Nat) (ht:P.underlying t=some (.slice e)) (hi:P.info? e=some i) (hz:i.zero=some z)
 (hsize:i.size=size) (hby:i.bytes=bytes) (hzs:z.cells.size=size) (hsz:0<size) (v:Value) (n:Nat) (xs:List Value) (hs:a.eval s=v) (hown:w.ownsRow base e size v n xs)
 (A:Option Addr) (m c:Nat) (news:List Value) (hx:a.eval x= .slice A m c) (hg:n8 w size A m news) (h63:n+m≤maxLen) (hbytes:(n+m)*bytes≤140737488355328) (hbase:base≤w.heap.size)
 (h:∀v' w',w'.ownsRow base e size v' (n+m) (xs++news)→w.grownBy w' v.ownBlock→wpList P ops Q rest (a.put o.dst v') w'):wpList P ops Q (o::rest) a w:=by
 refine wpList_plain hgd fun K hK=> ?_
 obtain⟨v',w',hr,h2,h3⟩:=gL (P:=P) w base t o.type e i z size bytes ht hi hz hsize hby hzs hsz v n xs hown A m c news hg h63 hbytes hbase
 unfold Oper.wp execOp
 simp only[ho,resolve,invoke,builtin,Sem.run_bind,Sem.run_pure,Result.andThen_ok,List.map_toArray,List.map_cons,List.map_nil,hs,hx,hr]
 exact hK _ _ (h v' w' h2 h3)
theorem xQ :∀(bs:List UInt8) (acc:ByteArray),(bs.map fun b=>((b.toNat:Nat):Int)).foldl (fun r n=>r.push (UInt8.ofNat n.toNat)) acc=⟨acc.data++bs.toArray⟩
 |[],acc=>by simp
 |b::bs,acc=>by
  rw[List.map_cons,List.foldl_cons,xQ bs]
  simp[ByteArray.push]
theorem ox {P:Program} (w:World) (src dst e:TypeId) (a:Addr) (bs:List UInt8) (cap:Nat)
 (hs:P.underlying src=some (.slice e)) (he:P.underlying e=some (.int .u8)) (hd:P.underlying dst=some .string)
 (hc:∀j b,bs[j]?=some b→w.cell? (a.add j)=some (.int .u8 ((b.toNat:Nat):Int))):
 (convert src dst (.slice (some a) bs.length cap)).run P w= .ok (.string ⟨bs.toArray⟩) w:=by
 rw[run_convert_bytes_string w src dst e (some a) bs.length cap hs he hd]
 have hl:=run_loadCells_list (P:=P) w a (bs.map fun b=>Value.int .u8 ((b.toNat:Nat):Int)) (fun j v hv=>by
  rw[List.getElem?_map] at hv
  cases hb:bs[j]? with
  |none=>rw[hb] at hv;cases hv
  |some b=>rw[hb] at hv;simp at hv;subst hv;exact hc j b hb)
 rw[List.length_map] at hl
 have:=run_bytesToString (P:=P) w a bs.length cap (bs.map fun b=>((b.toNat:Nat):Int)) (by rw[List.map_map];exact hl)
 rw[this,xQ]
 rw[show(⟨ByteArray.empty.data++bs.toArray⟩:ByteArray)=⟨bs.toArray⟩ from by congr 1;show #[]++bs.toArray=_;simp]
end Go.Proofs.YtclcfkaphlopeaaGreatDoor
namespace Go.Proofs
open Go.Shelf
def Tryz.lays158_ren :Go.Shelf.Ren:=⟨fun|158=>112|165=>125|166=>126|167=>127|169=>128|230=>129|203=>130|240=>152|241=>153|197=>154|118=>155|168=>156|270=>157|262=>158|276=>179|277=>180|260=>181|242=>182|313=>183|278=>195|274=>196|275=>197|n=>n,fun|9=>9|4=>4|3=>3|5=>5|72=>193|0=>0|76=>197|75=>196|107=>201|70=>191|20=>20|37=>22|127=>220|21=>21|105=>221|164=>244|162=>249|203=>247|119=>256|46=>164|139=>259|138=>258|51=>38|160=>260|208=>271|206=>269|80=>117|n=>n,fun|13=>2|3=>3|4=>4|n=>n⟩
theorem Tryz.lays158 :Go.Proofs.Lays.n158 Tryz.prog Tryz.lays158_ren:={
 mixed:=by kernel_rfl
 f118:=Tryz.func155.trans (congrArg some (by kernel_rfl))
 f158:=Tryz.func112.trans (congrArg some (by kernel_rfl))
 f165:=Tryz.func125.trans (congrArg some (by kernel_rfl))
 f166:=Tryz.func126.trans (congrArg some (by kernel_rfl))
 f167:=Tryz.func127.trans (congrArg some (by kernel_rfl))
 f168:=Tryz.func156.trans (congrArg some (by kernel_rfl))
 f169:=Tryz.func128.trans (congrArg some (by kernel_rfl))
 f197:=Tryz.func154.trans (congrArg some (by kernel_rfl))
 f203:=Tryz.func130.trans (congrArg some (by kernel_rfl))
 f230:=Tryz.func129.trans (congrArg some (by kernel_rfl))
 f240:=Tryz.func152.trans (congrArg some (by kernel_rfl))
 f241:=Tryz.func153.trans (congrArg some (by kernel_rfl))
 f242:=Tryz.func182.trans (congrArg some (by kernel_rfl))
 f260:=Tryz.func181.trans (congrArg some (by kernel_rfl))
 f262:=Tryz.func158.trans (congrArg some (by kernel_rfl))
 f270:=Tryz.func157.trans (congrArg some (by kernel_rfl))
 f274:=Tryz.func196.trans (congrArg some (by kernel_rfl))
 f275:=Tryz.func197.trans (congrArg some (by kernel_rfl))
 f276:=Tryz.func179.trans (congrArg some (by kernel_rfl))
 f277:=Tryz.func180.trans (congrArg some (by kernel_rfl))
 f278:=Tryz.func195.trans (congrArg some (by kernel_rfl))
 f313:=Tryz.func183.trans (congrArg some (by kernel_rfl))
 t0:=Tryz.underlying0
 a0:=Tryz.isAgg0
 z0:=Tryz.sizeOf0
 v0:=Tryz.zeroValue0
 t3:=Tryz.underlying3
 a3:=Tryz.isAgg3
 z3:=Tryz.sizeOf3
 v3:=Tryz.zeroValue3
 t4:=Tryz.underlying4
 a4:=Tryz.isAgg4
 z4:=Tryz.sizeOf4
 v4:=Tryz.zeroValue4
 t5:=Tryz.underlying5
 a5:=Tryz.isAgg5
 z5:=Tryz.sizeOf5
 v5:=Tryz.zeroValue5
 t9:=Tryz.underlying9
 a9:=Tryz.isAgg9
 z9:=Tryz.sizeOf9
 v9:=Tryz.zeroValue9
 t20:=Tryz.underlying20
 a20:=Tryz.isAgg20
 z20:=Tryz.sizeOf20
 v20:=Tryz.zeroValue20
 t21:=Tryz.underlying21
 a21:=Tryz.isAgg21
 z21:=Tryz.sizeOf21
 v21:=Tryz.zeroValue21
 t37:=Tryz.underlying22
 a37:=Tryz.isAgg22
 z37:=Tryz.sizeOf22
 v37:=Tryz.zeroValue22
 t46:=Tryz.underlying164
 a46:=Tryz.isAgg164
 z46:=Tryz.sizeOf164
 v46:=Tryz.zeroValue164
 t51:=Tryz.underlying38
 a51:=Tryz.isAgg38
 z51:=Tryz.sizeOf38
 v51:=Tryz.zeroValue38
 t70:=Tryz.underlying191
 a70:=Tryz.isAgg191
 z70:=Tryz.sizeOf191
 v70:=Tryz.zeroValue191
 t72:=Tryz.underlying193
 a72:=Tryz.isAgg193
 z72:=Tryz.sizeOf193
 v72:=Tryz.zeroValue193
 t75:=Tryz.underlying196
 a75:=Tryz.isAgg196
 z75:=Tryz.sizeOf196
 v75:=Tryz.zeroValue196
 t76:=Tryz.underlying197
 a76:=Tryz.isAgg197
 z76:=Tryz.sizeOf197
 v76:=Tryz.zeroValue197
 t105:=Tryz.underlying221
 a105:=Tryz.isAgg221
 z105:=Tryz.sizeOf221
 v105:=Tryz.zeroValue221
 t107:=Tryz.underlying201
 a107:=Tryz.isAgg201
 z107:=Tryz.sizeOf201
 v107:=Tryz.zeroValue201
 t119:=Tryz.underlying256
 a119:=Tryz.isAgg256
 z119:=Tryz.sizeOf256
 t127:=Tryz.underlying220
 a127:=Tryz.isAgg220
 z127:=Tryz.sizeOf220
 v127:=Tryz.zeroValue220
 t138:=Tryz.underlying258
 a138:=Tryz.isAgg258
 z138:=Tryz.sizeOf258
 v138:=Tryz.zeroValue258
 t139:=Tryz.underlying259
 a139:=Tryz.isAgg259
 z139:=Tryz.sizeOf259
 v139:=Tryz.zeroValue259
 t160:=Tryz.underlying260
 a160:=Tryz.isAgg260
 z160:=Tryz.sizeOf260
 v160:=Tryz.zeroValue260
 t162:=Tryz.underlying249
 a162:=Tryz.isAgg249
 z162:=Tryz.sizeOf249
 v162:=Tryz.zeroValue249
 t164:=Tryz.underlying244
 a164:=Tryz.isAgg244
 z164:=Tryz.sizeOf244
 v164:=Tryz.zeroValue244
 t203:=Tryz.underlying247
 a203:=Tryz.isAgg247
 z203:=Tryz.sizeOf247
 v203:=Tryz.zeroValue247
 t206:=Tryz.underlying269
 a206:=Tryz.isAgg269
 z206:=Tryz.sizeOf269
 v206:=Tryz.zeroValue269
 t208:=Tryz.underlying271
 a208:=Tryz.isAgg271
 z208:=Tryz.sizeOf271
 v208:=Tryz.zeroValue271
 g3:=by kernel_rfl
 g4:=by kernel_rfl
 g13:=by kernel_rfl}
theorem Tryz.Builder_Extra_158 :Builder.Extra Tryz.prog Tryz.lays158_ren:={
 sizeBuilder:=by kernel_rfl
 liesBuilder:=by kernel_rfl
 t5:=Tryz.underlying5
 a5:=Tryz.isAgg5
 z5:=Tryz.sizeOf5
 v5:=Tryz.zeroValue5
 infoByte:=by kernel_rfl
 cellsByte:=by kernel_rfl
 sizeByte:=by kernel_rfl
 neB5:=by decide}
open Go.RowKit in
theorem Tryz.strings_ToUpper_ascii (s:ByteArray) (w:World) (hs:s.size≤140737488355328) (hascii:∀(j:Nat) (b:UInt8),s.data.toList[j]?=some b→b.toNat<128):
 Calls Tryz.prog 112 #[.string s] w fun e w'=>e= .returned (.string ⟨(Lib.toUpperA s.data.toList).toArray⟩)∧Below w.heap.size w w':=Any.strings_ToUpper_ascii Tryz.lays158 Tryz.Builder_Extra_158 s w hs hascii
def Tryz.laysM171_ren :Go.Shelf.Ren:=⟨fun|171=>44|243=>85|246=>117|283=>138|284=>139|285=>140|286=>141|129=>169|317=>170|318=>171|319=>172|320=>173|337=>190|338=>191|n=>n,fun|3=>3|9=>9|2=>2|4=>4|171=>207|0=>0|53=>109|37=>22|5=>5|173=>210|212=>237|51=>38|20=>20|213=>238|46=>164|232=>112|233=>266|n=>n,fun|17=>1|18=>5|19=>6|n=>n⟩
theorem Tryz.laysM171 :Go.Proofs.LaysM.n171 Tryz.prog Tryz.laysM171_ren:={
 mixed:=by kernel_rfl
 f129:=Tryz.func169.trans (congrArg some (by kernel_rfl))
 f171:=Tryz.func44.trans (congrArg some (by kernel_rfl))
 f243:=Tryz.func85.trans (congrArg some (by kernel_rfl))
 f246:=Tryz.func117.trans (congrArg some (by kernel_rfl))
 f283:=Tryz.func138.trans (congrArg some (by kernel_rfl))
 f284:=Tryz.func139.trans (congrArg some (by kernel_rfl))
 f285:=Tryz.func140.trans (congrArg some (by kernel_rfl))
 f286:=Tryz.func141.trans (congrArg some (by kernel_rfl))
 f317:=Tryz.func170.trans (congrArg some (by kernel_rfl))
 f318:=Tryz.func171.trans (congrArg some (by kernel_rfl))
 f319:=Tryz.func172.trans (congrArg some (by kernel_rfl))
 f320:=Tryz.func173.trans (congrArg some (by kernel_rfl))
 f337:=Tryz.func190.trans (congrArg some (by kernel_rfl))
 f338:=Tryz.func191.trans (congrArg some (by kernel_rfl))
 t0:=Tryz.underlying0
 a0:=Tryz.isAgg0
 z0:=Tryz.sizeOf0
 v0:=Tryz.zeroValue0
 t2:=Tryz.underlying2
 a2:=Tryz.isAgg2
 z2:=Tryz.sizeOf2
 v2:=Tryz.zeroValue2
 t3:=Tryz.underlying3
 a3:=Tryz.isAgg3
 z3:=Tryz.sizeOf3
 v3:=Tryz.zeroValue3
 t4:=Tryz.underlying4
 a4:=Tryz.isAgg4
 z4:=Tryz.sizeOf4
 v4:=Tryz.zeroValue4
 t5:=Tryz.underlying5
 a5:=Tryz.isAgg5
 z5:=Tryz.sizeOf5
 v5:=Tryz.zeroValue5
 t9:=Tryz.underlying9
 a9:=Tryz.isAgg9
 z9:=Tryz.sizeOf9
 v9:=Tryz.zeroValue9
 t20:=Tryz.underlying20
 a20:=Tryz.isAgg20
 z20:=Tryz.sizeOf20
 v20:=Tryz.zeroValue20
 t37:=Tryz.underlying22
 a37:=Tryz.isAgg22
 z37:=Tryz.sizeOf22
 v37:=Tryz.zeroValue22
 t46:=Tryz.underlying164
 a46:=Tryz.isAgg164
 z46:=Tryz.sizeOf164
 v46:=Tryz.zeroValue164
 t51:=Tryz.underlying38
 a51:=Tryz.isAgg38
 z51:=Tryz.sizeOf38
 v51:=Tryz.zeroValue38
 t53:=Tryz.underlying109
 a53:=Tryz.isAgg109
 z53:=Tryz.sizeOf109
 v53:=Tryz.zeroValue109
 t171:=Tryz.underlying207
 a171:=Tryz.isAgg207
 z171:=Tryz.sizeOf207
 v171:=Tryz.zeroValue207
 t173:=Tryz.underlying210
 a173:=Tryz.isAgg210
 z173:=Tryz.sizeOf210
 v173:=Tryz.zeroValue210
 t212:=Tryz.underlying237
 a212:=Tryz.isAgg237
 z212:=Tryz.sizeOf237
 v212:=Tryz.zeroValue237
 t213:=Tryz.underlying238
 a213:=Tryz.isAgg238
 z213:=Tryz.sizeOf238
 t232:=Tryz.underlying112
 a232:=Tryz.isAgg112
 z232:=Tryz.sizeOf112
 v232:=Tryz.zeroValue112
 t233:=Tryz.underlying266
 a233:=Tryz.isAgg266
 z233:=Tryz.sizeOf266
 v233:=Tryz.zeroValue266
 g17:=by kernel_rfl
 g18:=by kernel_rfl
 g19:=by kernel_rfl
 i0:=by kernel_rfl
 i2:=by kernel_rfl
 i3:=by kernel_rfl
 i4:=by kernel_rfl
 i5:=by kernel_rfl
 i9:=by kernel_rfl
 i20:=by kernel_rfl
 i37:=by kernel_rfl
 i46:=by kernel_rfl
 i51:=by kernel_rfl
 i53:=by kernel_rfl
 i171:=by kernel_rfl
 i173:=by kernel_rfl
 i212:=by kernel_rfl
 i232:=by kernel_rfl
 i233:=by kernel_rfl
 m17:=by kernel_rfl
 m18:=by kernel_rfl
 m19:=by kernel_rfl}
open Go.RowKit Go.Sort Go.Lib in
theorem Tryz.strconv_Itoa (n:Int) (h0: -9223372036854775808≤n) (h1:n≤9223372036854775807) (w:World) (htab:Lib.TabIs Tryz.prog w "internal/strconv.uint64pow10" .u64 Lib.pow10Tab):
 Calls Tryz.prog 44 #[.int .i64 n] w fun e w'=>e= .returned (.string ⟨(Lib.itoa n).toArray⟩)∧∃k os,w'=grow (w.drewN k) os:=Any.strconv_Itoa Tryz.laysM171 n h0 h1 w htab
def Tryz.lays171_ren :Go.Shelf.Ren:=⟨fun|171=>44|243=>85|246=>117|283=>138|284=>139|285=>140|286=>141|129=>169|317=>170|318=>171|319=>172|320=>173|337=>190|338=>191|n=>n,fun|3=>3|9=>9|2=>2|4=>4|171=>207|0=>0|53=>109|37=>22|5=>5|173=>210|212=>237|51=>38|20=>20|213=>238|46=>164|232=>112|233=>266|n=>n,fun|17=>1|18=>5|19=>6|n=>n⟩
theorem Tryz.lays171 :Go.Proofs.Lays.n171 Tryz.prog Tryz.lays171_ren:={
 mixed:=by kernel_rfl
 f129:=Tryz.func169.trans (congrArg some (by kernel_rfl))
 f171:=Tryz.func44.trans (congrArg some (by kernel_rfl))
 f243:=Tryz.func85.trans (congrArg some (by kernel_rfl))
 f246:=Tryz.func117.trans (congrArg some (by kernel_rfl))
 f283:=Tryz.func138.trans (congrArg some (by kernel_rfl))
 f284:=Tryz.func139.trans (congrArg some (by kernel_rfl))
 f285:=Tryz.func140.trans (congrArg some (by kernel_rfl))
 f286:=Tryz.func141.trans (congrArg some (by kernel_rfl))
 f317:=Tryz.func170.trans (congrArg some (by kernel_rfl))
 f318:=Tryz.func171.trans (congrArg some (by kernel_rfl))
 f319:=Tryz.func172.trans (congrArg some (by kernel_rfl))
 f320:=Tryz.func173.trans (congrArg some (by kernel_rfl))
 f337:=Tryz.func190.trans (congrArg some (by kernel_rfl))
 f338:=Tryz.func191.trans (congrArg some (by kernel_rfl))
 t0:=Tryz.underlying0
 a0:=Tryz.isAgg0
 z0:=Tryz.sizeOf0
 v0:=Tryz.zeroValue0
 t2:=Tryz.underlying2
 a2:=Tryz.isAgg2
 z2:=Tryz.sizeOf2
 v2:=Tryz.zeroValue2
 t3:=Tryz.underlying3
 a3:=Tryz.isAgg3
 z3:=Tryz.sizeOf3
 v3:=Tryz.zeroValue3
 t4:=Tryz.underlying4
 a4:=Tryz.isAgg4
 z4:=Tryz.sizeOf4
 v4:=Tryz.zeroValue4
 t5:=Tryz.underlying5
 a5:=Tryz.isAgg5
 z5:=Tryz.sizeOf5
 v5:=Tryz.zeroValue5
 t9:=Tryz.underlying9
 a9:=Tryz.isAgg9
 z9:=Tryz.sizeOf9
 v9:=Tryz.zeroValue9
 t20:=Tryz.underlying20
 a20:=Tryz.isAgg20
 z20:=Tryz.sizeOf20
 v20:=Tryz.zeroValue20
 t37:=Tryz.underlying22
 a37:=Tryz.isAgg22
 z37:=Tryz.sizeOf22
 v37:=Tryz.zeroValue22
 t46:=Tryz.underlying164
 a46:=Tryz.isAgg164
 z46:=Tryz.sizeOf164
 v46:=Tryz.zeroValue164
 t51:=Tryz.underlying38
 a51:=Tryz.isAgg38
 z51:=Tryz.sizeOf38
 v51:=Tryz.zeroValue38
 t53:=Tryz.underlying109
 a53:=Tryz.isAgg109
 z53:=Tryz.sizeOf109
 v53:=Tryz.zeroValue109
 t171:=Tryz.underlying207
 a171:=Tryz.isAgg207
 z171:=Tryz.sizeOf207
 v171:=Tryz.zeroValue207
 t173:=Tryz.underlying210
 a173:=Tryz.isAgg210
 z173:=Tryz.sizeOf210
 v173:=Tryz.zeroValue210
 t212:=Tryz.underlying237
 a212:=Tryz.isAgg237
 z212:=Tryz.sizeOf237
 v212:=Tryz.zeroValue237
 t213:=Tryz.underlying238
 a213:=Tryz.isAgg238
 z213:=Tryz.sizeOf238
 t232:=Tryz.underlying112
 a232:=Tryz.isAgg112
 z232:=Tryz.sizeOf112
 v232:=Tryz.zeroValue112
 t233:=Tryz.underlying266
 a233:=Tryz.isAgg266
 z233:=Tryz.sizeOf266
 v233:=Tryz.zeroValue266
 g17:=by kernel_rfl
 g18:=by kernel_rfl
 g19:=by kernel_rfl}
open Go.RowKit Go.Sort Go.Lib in
theorem Tryz.strconv_Itoa_small (i:Nat) (hi:i<100) (w:World):
 Calls Tryz.prog 44 #[.int .i64 i] w fun e w'=>e= .returned (.string ⟨(Lib.decDigits i).toArray⟩)∧w'=w:=Any.strconv_Itoa_small Tryz.lays171 i hi w
def Tryz.laysM173_ren :Go.Shelf.Ren:=⟨fun|173=>134|246=>117|283=>138|284=>139|285=>140|286=>141|129=>169|317=>170|318=>171|319=>172|320=>173|337=>190|338=>191|n=>n,fun|2=>2|3=>3|9=>9|4=>4|171=>207|0=>0|53=>109|37=>22|5=>5|173=>210|212=>237|51=>38|20=>20|213=>238|46=>164|232=>112|233=>266|n=>n,fun|17=>1|18=>5|19=>6|n=>n⟩
theorem Tryz.laysM173 :Go.Proofs.LaysM.n173 Tryz.prog Tryz.laysM173_ren:={
 mixed:=by kernel_rfl
 f129:=Tryz.func169.trans (congrArg some (by kernel_rfl))
 f173:=Tryz.func134.trans (congrArg some (by kernel_rfl))
 f246:=Tryz.func117.trans (congrArg some (by kernel_rfl))
 f283:=Tryz.func138.trans (congrArg some (by kernel_rfl))
 f284:=Tryz.func139.trans (congrArg some (by kernel_rfl))
 f285:=Tryz.func140.trans (congrArg some (by kernel_rfl))
 f286:=Tryz.func141.trans (congrArg some (by kernel_rfl))
 f317:=Tryz.func170.trans (congrArg some (by kernel_rfl))
 f318:=Tryz.func171.trans (congrArg some (by kernel_rfl))
 f319:=Tryz.func172.trans (congrArg some (by kernel_rfl))
 f320:=Tryz.func173.trans (congrArg some (by kernel_rfl))
 f337:=Tryz.func190.trans (congrArg some (by kernel_rfl))
 f338:=Tryz.func191.trans (congrArg some (by kernel_rfl))
 t0:=Tryz.underlying0
 a0:=Tryz.isAgg0
 z0:=Tryz.sizeOf0
 v0:=Tryz.zeroValue0
 t2:=Tryz.underlying2
 a2:=Tryz.isAgg2
 z2:=Tryz.sizeOf2
 v2:=Tryz.zeroValue2
 t3:=Tryz.underlying3
 a3:=Tryz.isAgg3
 z3:=Tryz.sizeOf3
 v3:=Tryz.zeroValue3
 t4:=Tryz.underlying4
 a4:=Tryz.isAgg4
 z4:=Tryz.sizeOf4
 v4:=Tryz.zeroValue4
 t5:=Tryz.underlying5
 a5:=Tryz.isAgg5
 z5:=Tryz.sizeOf5
 v5:=Tryz.zeroValue5
 t9:=Tryz.underlying9
 a9:=Tryz.isAgg9
 z9:=Tryz.sizeOf9
 v9:=Tryz.zeroValue9
 t20:=Tryz.underlying20
 a20:=Tryz.isAgg20
 z20:=Tryz.sizeOf20
 v20:=Tryz.zeroValue20
 t37:=Tryz.underlying22
 a37:=Tryz.isAgg22
 z37:=Tryz.sizeOf22
 v37:=Tryz.zeroValue22
 t46:=Tryz.underlying164
 a46:=Tryz.isAgg164
 z46:=Tryz.sizeOf164
 v46:=Tryz.zeroValue164
 t51:=Tryz.underlying38
 a51:=Tryz.isAgg38
 z51:=Tryz.sizeOf38
 v51:=Tryz.zeroValue38
 t53:=Tryz.underlying109
 a53:=Tryz.isAgg109
 z53:=Tryz.sizeOf109
 v53:=Tryz.zeroValue109
 t171:=Tryz.underlying207
 a171:=Tryz.isAgg207
 z171:=Tryz.sizeOf207
 v171:=Tryz.zeroValue207
 t173:=Tryz.underlying210
 a173:=Tryz.isAgg210
 z173:=Tryz.sizeOf210
 v173:=Tryz.zeroValue210
 t212:=Tryz.underlying237
 a212:=Tryz.isAgg237
 z212:=Tryz.sizeOf237
 v212:=Tryz.zeroValue237
 t213:=Tryz.underlying238
 a213:=Tryz.isAgg238
 z213:=Tryz.sizeOf238
 t232:=Tryz.underlying112
 a232:=Tryz.isAgg112
 z232:=Tryz.sizeOf112
 v232:=Tryz.zeroValue112
 t233:=Tryz.underlying266
 a233:=Tryz.isAgg266
 z233:=Tryz.sizeOf266
 v233:=Tryz.zeroValue266
 g17:=by kernel_rfl
 g18:=by kernel_rfl
 g19:=by kernel_rfl
 i0:=by kernel_rfl
 i2:=by kernel_rfl
 i3:=by kernel_rfl
 i4:=by kernel_rfl
 i5:=by kernel_rfl
 i9:=by kernel_rfl
 i20:=by kernel_rfl
 i37:=by kernel_rfl
 i46:=by kernel_rfl
 i51:=by kernel_rfl
 i53:=by kernel_rfl
 i171:=by kernel_rfl
 i173:=by kernel_rfl
 i212:=by kernel_rfl
 i232:=by kernel_rfl
 i233:=by kernel_rfl
 m17:=by kernel_rfl
 m18:=by kernel_rfl
 m19:=by kernel_rfl}
open Go.RowKit Go.Sort Go.Lib in
theorem Tryz.strconv_FormatInt_10 (n:Int) (h0: -9223372036854775808≤n) (h1:n≤9223372036854775807) (w:World) (htab:Lib.TabIs Tryz.prog w "internal/strconv.uint64pow10" .u64 Lib.pow10Tab):
 Calls Tryz.prog 134 #[.int .i64 n, .int .i64 10] w fun e w'=>e= .returned (.string ⟨(Lib.itoa n).toArray⟩)∧∃k os,w'=grow (w.drewN k) os:=Any.strconv_FormatInt_10 Tryz.laysM173 n h0 h1 w htab
def Tryz.lays146_ren :Go.Shelf.Ren:=⟨fun|146=>110|221=>124|268=>149|138=>150|143=>151|195=>176|197=>154|218=>177|219=>178|260=>181|217=>192|225=>193|224=>144|267=>194|266=>199|314=>200|n=>n,fun|9=>9|31=>104|3=>3|4=>4|0=>0|105=>221|21=>21|5=>5|46=>164|119=>256|139=>259|138=>258|146=>240|51=>38|n=>n,fun|1=>0|3=>3|4=>4|n=>n⟩
theorem Tryz.lays146 :Go.Proofs.Lays.n146 Tryz.prog Tryz.lays146_ren:={
 mixed:=by kernel_rfl
 f138:=Tryz.func150.trans (congrArg some (by kernel_rfl))
 f143:=Tryz.func151.trans (congrArg some (by kernel_rfl))
 f146:=Tryz.func110.trans (congrArg some (by kernel_rfl))
 f195:=Tryz.func176.trans (congrArg some (by kernel_rfl))
 f197:=Tryz.func154.trans (congrArg some (by kernel_rfl))
 f217:=Tryz.func192.trans (congrArg some (by kernel_rfl))
 f218:=Tryz.func177.trans (congrArg some (by kernel_rfl))
 f219:=Tryz.func178.trans (congrArg some (by kernel_rfl))
 f221:=Tryz.func124.trans (congrArg some (by kernel_rfl))
 f224:=Tryz.func144.trans (congrArg some (by kernel_rfl))
 f225:=Tryz.func193.trans (congrArg some (by kernel_rfl))
 f260:=Tryz.func181.trans (congrArg some (by kernel_rfl))
 f266:=Tryz.func199.trans (congrArg some (by kernel_rfl))
 f267:=Tryz.func194.trans (congrArg some (by kernel_rfl))
 f268:=Tryz.func149.trans (congrArg some (by kernel_rfl))
 f314:=Tryz.func200.trans (congrArg some (by kernel_rfl))
 t0:=Tryz.underlying0
 a0:=Tryz.isAgg0
 z0:=Tryz.sizeOf0
 v0:=Tryz.zeroValue0
 t3:=Tryz.underlying3
 a3:=Tryz.isAgg3
 z3:=Tryz.sizeOf3
 v3:=Tryz.zeroValue3
 t4:=Tryz.underlying4
 a4:=Tryz.isAgg4
 z4:=Tryz.sizeOf4
 v4:=Tryz.zeroValue4
 t5:=Tryz.underlying5
 a5:=Tryz.isAgg5
 z5:=Tryz.sizeOf5
 v5:=Tryz.zeroValue5
 t9:=Tryz.underlying9
 a9:=Tryz.isAgg9
 z9:=Tryz.sizeOf9
 v9:=Tryz.zeroValue9
 t21:=Tryz.underlying21
 a21:=Tryz.isAgg21
 z21:=Tryz.sizeOf21
 v21:=Tryz.zeroValue21
 t31:=Tryz.underlying104
 a31:=Tryz.isAgg104
 z31:=Tryz.sizeOf104
 v31:=Tryz.zeroValue104
 t46:=Tryz.underlying164
 a46:=Tryz.isAgg164
 z46:=Tryz.sizeOf164
 v46:=Tryz.zeroValue164
 t51:=Tryz.underlying38
 a51:=Tryz.isAgg38
 z51:=Tryz.sizeOf38
 v51:=Tryz.zeroValue38
 t105:=Tryz.underlying221
 a105:=Tryz.isAgg221
 z105:=Tryz.sizeOf221
 v105:=Tryz.zeroValue221
 t119:=Tryz.underlying256
 a119:=Tryz.isAgg256
 z119:=Tryz.sizeOf256
 t138:=Tryz.underlying258
 a138:=Tryz.isAgg258
 z138:=Tryz.sizeOf258
 v138:=Tryz.zeroValue258
 t139:=Tryz.underlying259
 a139:=Tryz.isAgg259
 z139:=Tryz.sizeOf259
 v139:=Tryz.zeroValue259
 t146:=Tryz.underlying240
 a146:=Tryz.isAgg240
 z146:=Tryz.sizeOf240
 v146:=Tryz.zeroValue240
 g1:=by kernel_rfl
 g3:=by kernel_rfl
 g4:=by kernel_rfl}
open Go.RowKit Go.Lib in
theorem Tryz.strings_Split (s sep:ByteArray) (m:Int) (w:World) (hs:s.size<4294967281) (hm:w.cell? ⟨0,0,none⟩=some (.int .i64 m)) (h1:1≤sep.size):
 Calls Tryz.prog 110 #[.string s, .string sep] w fun e w'=>
  e= .returned (.slice (some ⟨w.heap.size,0,none⟩) (Lib.countB s sep+1) (Lib.countB s sep+1))∧w'=w.alloc (.cells ((Lib.splitB sep 0 (Lib.countB s sep) s).map Value.string).toArray 9):=Any.strings_Split Tryz.lays146 (by kernel_rfl) s sep m w hs hm h1
def Tryz.lays185_ren :Go.Shelf.Ren:=⟨fun|185=>119|187=>142|115=>36|253=>143|224=>144|254=>145|255=>174|291=>175|n=>n,fun|37=>22|3=>3|4=>4|0=>0|5=>5|46=>164|9=>9|146=>240|51=>38|n=>n,fun|1=>0|n=>n⟩
theorem Tryz.lays185 :Go.Proofs.Lays.n185 Tryz.prog Tryz.lays185_ren:={
 mixed:=by kernel_rfl
 f115:=Tryz.func36.trans (congrArg some (by kernel_rfl))
 f185:=Tryz.func119.trans (congrArg some (by kernel_rfl))
 f187:=Tryz.func142.trans (congrArg some (by kernel_rfl))
 f224:=Tryz.func144.trans (congrArg some (by kernel_rfl))
 f253:=Tryz.func143.trans (congrArg some (by kernel_rfl))
 f254:=Tryz.func145.trans (congrArg some (by kernel_rfl))
 f255:=Tryz.func174.trans (congrArg some (by kernel_rfl))
 f291:=Tryz.func175.trans (congrArg some (by kernel_rfl))
 t0:=Tryz.underlying0
 a0:=Tryz.isAgg0
 z0:=Tryz.sizeOf0
 v0:=Tryz.zeroValue0
 t3:=Tryz.underlying3
 a3:=Tryz.isAgg3
 z3:=Tryz.sizeOf3
 v3:=Tryz.zeroValue3
 t4:=Tryz.underlying4
 a4:=Tryz.isAgg4
 z4:=Tryz.sizeOf4
 v4:=Tryz.zeroValue4
 t5:=Tryz.underlying5
 a5:=Tryz.isAgg5
 z5:=Tryz.sizeOf5
 v5:=Tryz.zeroValue5
 t9:=Tryz.underlying9
 a9:=Tryz.isAgg9
 z9:=Tryz.sizeOf9
 v9:=Tryz.zeroValue9
 t37:=Tryz.underlying22
 a37:=Tryz.isAgg22
 z37:=Tryz.sizeOf22
 v37:=Tryz.zeroValue22
 t46:=Tryz.underlying164
 a46:=Tryz.isAgg164
 z46:=Tryz.sizeOf164
 v46:=Tryz.zeroValue164
 t51:=Tryz.underlying38
 a51:=Tryz.isAgg38
 z51:=Tryz.sizeOf38
 v51:=Tryz.zeroValue38
 t146:=Tryz.underlying240
 a146:=Tryz.isAgg240
 z146:=Tryz.sizeOf240
 v146:=Tryz.zeroValue240
 g1:=by kernel_rfl}
open Go.Proofs Go.RowKit Go.Lib in
theorem Tryz.bytes_Index_at (a1 a2:Addr) (n c1 k c2:Nat) (xs ys:List Int) (m:Int) (w:World) (hx:xs.length=n) (hy:ys.length=k) (hr1:∀x∈xs,0≤x∧x<256) (hr2:∀y∈ys,0≤y∧y<256) (hc1:∀i,i<n→w.cell? (a1.add i)=some (.int .u8 (xs.getD i 0))) (hc2:∀i,i<k→w.cell? (a2.add i)=some (.int .u8 (ys.getD i 0))) (hcap:n≤c1) (hs:n<4294967281) (hk:k≤9223372036854775807) (hm:w.cell? ⟨0,0,none⟩=some (.int .i64 m)):
 Calls Tryz.prog 119 #[.slice (some a1) n c1, .slice (some a2) k c2] w fun e w'=>e= .returned (.int .i64 (Lib.index (Lib.bytesOf xs) (Lib.bytesOf ys)))∧∃q,w'=w.drewN q:=Any.bytes_Index_at Tryz.lays185 a1 a2 n c1 k c2 xs ys m w hx hy hr1 hr2 hc1 hc2 hcap hs hk hm
def Tryz.laysSlK4_ren :Go.Shelf.Ren:=⟨fun|4=>19|n=>n,fun|22=>22|4=>4|5=>5|n=>n,fun|n=>n⟩
theorem Tryz.laysSlK4 :Go.Proofs.SlLaysK.n4 Tryz.prog Tryz.laysSlK4_ren:={
 mixed:=by kernel_rfl
 f4:=Tryz.func19.trans (congrArg some (by kernel_rfl))
 t4:=Tryz.underlying4
 a4:=Tryz.isAgg4
 z4:=Tryz.sizeOf4
 v4:=Tryz.zeroValue4
 t22:=Tryz.underlying22
 a22:=Tryz.isAgg22
 z22:=Tryz.sizeOf22
 v22:=Tryz.zeroValue22
 t5:=Tryz.underlying5
 i5:=by kernel_rfl}
open Go.RowKit Go.Lib in
theorem Tryz.bytes_Clone_at (a:Addr) (n c:Nat) (xs:List Int) (w:World) (hx:xs.length=n) (hbig:n≤140737488355328) (hc:∀i,i<n→w.cell? (a.add i)=some (.int .u8 (xs.getD i 0))):
 Calls Tryz.prog 19 #[.slice (some a) n c] w fun e w'=>∃v',e= .returned v'∧w'.ownsRow w.heap.size 5 1 v' n (xs.map (Value.int .u8))∧v'≠ .slice none 0 0∧Below w.heap.size w w':=Any.bytes_Clone_at Tryz.laysSlK4 a n c xs w hx hbig hc
open Go.RowKit Go.Lib in
theorem Tryz.bytes_Clone_nil (n c:Nat) (w:World):
 Calls Tryz.prog 19 #[.slice none n c] w fun e w'=>e= .returned (.slice none 0 0)∧w'=w:=Any.bytes_Clone_nil Tryz.laysSlK4 n c w
def Tryz.laysnb115_ren :Go.Shelf.Ren:=⟨fun|115=>36|n=>n,fun|37=>22|4=>4|9=>9|5=>5|n=>n,fun|n=>n⟩
theorem Tryz.laysnb115 :Go.Proofs.Lays.nb115 Tryz.prog Tryz.laysnb115_ren:={
 mixed:=by kernel_rfl
 f115:=Tryz.func36.trans (congrArg some (by kernel_rfl))
 t4:=Tryz.underlying4
 a4:=Tryz.isAgg4
 z4:=Tryz.sizeOf4
 v4:=Tryz.zeroValue4
 t9:=Tryz.underlying9
 a9:=Tryz.isAgg9
 z9:=Tryz.sizeOf9
 v9:=Tryz.zeroValue9
 t37:=Tryz.underlying22
 a37:=Tryz.isAgg22
 z37:=Tryz.sizeOf22
 v37:=Tryz.zeroValue22
 t5:=Tryz.underlying5
 a5:=Tryz.isAgg5
 z5:=Tryz.sizeOf5
 v5:=Tryz.zeroValue5}
theorem Tryz.bytes_Equal_all (p1 p2:Option Addr) (n c m d:Nat) (xs ys:List Int) (w:World) (hx:xs.length=n) (hy:ys.length=m) (h1:Lib.BytesIn w p1 n xs) (h2:Lib.BytesIn w p2 m ys):
 Calls Tryz.prog 36 #[.slice p1 n c, .slice p2 m d] w fun e w'=>e= .returned (.bool (Lib.bytesOf xs==Lib.bytesOf ys))∧w'=w:=Any.bytes_Equal_all Tryz.laysnb115 p1 p2 n c m d xs ys w hx hy h1 h2
def Tryz.keys83_ren :Go.Shelf.Ren:=⟨fun|7=>83|10=>116|n=>n,fun|23=>49|26=>9|3=>56|28=>154|0=>0|27=>153|33=>53|4=>4|n=>n,fun|n=>n⟩
theorem Tryz.keys83 :Go.Proofs.SlLaysZ.n7 Tryz.prog Tryz.keys83_ren:={
 mixed:=by kernel_rfl
 f7:=⟨Tryz.f83.name,by decide,Tryz.func83.trans (congrArg some (by kernel_rfl))⟩
 f10:=⟨Tryz.f116.name,by decide,Tryz.func116.trans (congrArg some (by kernel_rfl))⟩
 t0:=Tryz.underlying0
 a0:=Tryz.isAgg0
 z0:=Tryz.sizeOf0
 v0:=Tryz.zeroValue0
 t4:=Tryz.underlying4
 a4:=Tryz.isAgg4
 z4:=Tryz.sizeOf4
 v4:=Tryz.zeroValue4
 t23:=Tryz.underlying49
 a23:=Tryz.isAgg49
 z23:=Tryz.sizeOf49
 v23:=Tryz.zeroValue49
 t26:=Tryz.underlying9
 a26:=Tryz.isAgg9
 z26:=Tryz.sizeOf9
 v26:=Tryz.zeroValue9
 t27:=Tryz.underlying153
 a27:=Tryz.isAgg153
 z27:=Tryz.sizeOf153
 v27:=Tryz.zeroValue153
 t28:=Tryz.underlying154
 a28:=Tryz.isAgg154
 z28:=Tryz.sizeOf154
 v28:=Tryz.zeroValue154
 t33:=Tryz.underlying53
 a33:=Tryz.isAgg53
 z33:=Tryz.sizeOf53
 v33:=Tryz.zeroValue53}
def Tryz.sorted82_ren :Go.Shelf.Ren:=⟨fun|6=>82|8=>114|9=>115|11=>135|13=>137|12=>136|23=>168|24=>169|14=>159|15=>160|16=>161|17=>162|18=>163|19=>164|20=>165|21=>166|22=>167|25=>184|26=>185|27=>186|28=>187|29=>188|30=>189|31=>198|n=>n,fun|26=>9|28=>154|24=>104|0=>0|3=>3|37=>164|48=>38|50=>109|4=>4|40=>228|39=>227|45=>233|5=>5|9=>9|51=>250|55=>254|57=>263|58=>264|33=>53|n=>n,fun|n=>n⟩
theorem Tryz.sorted82 :Go.Proofs.SlLaysZ.n6 Tryz.prog Tryz.sorted82_ren:={
 mixed:=by kernel_rfl
 f6:=⟨Tryz.f82.name,by decide,Tryz.func82.trans (congrArg some (by kernel_rfl))⟩
 f8:=⟨Tryz.f114.name,by decide,Tryz.func114.trans (congrArg some (by kernel_rfl))⟩
 f11:=⟨Tryz.f135.name,by decide,Tryz.func135.trans (congrArg some (by kernel_rfl))⟩
 t0:=Tryz.underlying0
 a0:=Tryz.isAgg0
 z0:=Tryz.sizeOf0
 v0:=Tryz.zeroValue0
 t24:=Tryz.underlying104
 a24:=Tryz.isAgg104
 z24:=Tryz.sizeOf104
 v24:=Tryz.zeroValue104
 t26:=Tryz.underlying9
 a26:=Tryz.isAgg9
 z26:=Tryz.sizeOf9
 v26:=Tryz.zeroValue9
 t28:=Tryz.underlying154
 a28:=Tryz.isAgg154
 z28:=Tryz.sizeOf154
 v28:=Tryz.zeroValue154
 i26:=by kernel_rfl}
def Tryz.sort115_ren :Go.Shelf.Ren:=⟨fun|6=>115|8=>137|9=>136|19=>168|20=>169|21=>159|22=>160|23=>161|24=>162|25=>163|26=>164|27=>165|28=>166|29=>167|36=>184|31=>185|32=>186|37=>187|38=>188|39=>189|41=>198|n=>n,fun|27=>104|29=>9|3=>3|32=>164|26=>104|0=>0|44=>38|46=>109|4=>4|36=>228|35=>227|41=>233|5=>5|9=>9|53=>250|57=>254|63=>263|64=>264|n=>n,fun|n=>n⟩
theorem Tryz.sort115 :Go.Proofs.SlLaysM.n6 Tryz.prog Tryz.sort115_ren:={
 mixed:=by kernel_rfl
 f6:=⟨Tryz.f115.name,by decide,Tryz.func115.trans (congrArg some (by kernel_rfl))⟩
 f8:=Tryz.func137.trans (congrArg some (by kernel_rfl))
 f9:=⟨Tryz.f136.name,by decide,Tryz.func136.trans (congrArg some (by kernel_rfl))⟩
 f19:=Tryz.func168.trans (congrArg some (by kernel_rfl))
 f20:=Tryz.func169.trans (congrArg some (by kernel_rfl))
 f21:=⟨Tryz.f159.name,by decide,Tryz.func159.trans (congrArg some (by kernel_rfl))⟩
 f22:=⟨Tryz.f160.name,by decide,Tryz.func160.trans (congrArg some (by kernel_rfl))⟩
 f23:=⟨Tryz.f161.name,by decide,Tryz.func161.trans (congrArg some (by kernel_rfl))⟩
 f24:=⟨Tryz.f162.name,by decide,Tryz.func162.trans (congrArg some (by kernel_rfl))⟩
 f25:=⟨Tryz.f163.name,by decide,Tryz.func163.trans (congrArg some (by kernel_rfl))⟩
 f26:=⟨Tryz.f164.name,by decide,Tryz.func164.trans (congrArg some (by kernel_rfl))⟩
 f27:=⟨Tryz.f165.name,by decide,Tryz.func165.trans (congrArg some (by kernel_rfl))⟩
 f28:=⟨Tryz.f166.name,by decide,Tryz.func166.trans (congrArg some (by kernel_rfl))⟩
 f29:=⟨Tryz.f167.name,by decide,Tryz.func167.trans (congrArg some (by kernel_rfl))⟩
 f31:=Tryz.func185.trans (congrArg some (by kernel_rfl))
 f32:=Tryz.func186.trans (congrArg some (by kernel_rfl))
 f36:=⟨Tryz.f184.name,by decide,Tryz.func184.trans (congrArg some (by kernel_rfl))⟩
 f37:=⟨Tryz.f187.name,by decide,Tryz.func187.trans (congrArg some (by kernel_rfl))⟩
 f38:=⟨Tryz.f188.name,by decide,Tryz.func188.trans (congrArg some (by kernel_rfl))⟩
 f39:=⟨Tryz.f189.name,by decide,Tryz.func189.trans (congrArg some (by kernel_rfl))⟩
 f41:=⟨Tryz.f198.name,by decide,Tryz.func198.trans (congrArg some (by kernel_rfl))⟩
 t0:=Tryz.underlying0
 a0:=Tryz.isAgg0
 z0:=Tryz.sizeOf0
 v0:=Tryz.zeroValue0
 t3:=Tryz.underlying3
 a3:=Tryz.isAgg3
 z3:=Tryz.sizeOf3
 v3:=Tryz.zeroValue3
 t4:=Tryz.underlying4
 a4:=Tryz.isAgg4
 z4:=Tryz.sizeOf4
 v4:=Tryz.zeroValue4
 t5:=Tryz.underlying5
 a5:=Tryz.isAgg5
 z5:=Tryz.sizeOf5
 v5:=Tryz.zeroValue5
 t9:=Tryz.underlying9
 a9:=Tryz.isAgg9
 z9:=Tryz.sizeOf9
 v9:=Tryz.zeroValue9
 t26:=Tryz.underlying104
 a26:=Tryz.isAgg104
 z26:=Tryz.sizeOf104
 v26:=Tryz.zeroValue104
 t27:=Tryz.underlying104
 a27:=Tryz.isAgg104
 z27:=Tryz.sizeOf104
 v27:=Tryz.zeroValue104
 t29:=Tryz.underlying9
 a29:=Tryz.isAgg9
 z29:=Tryz.sizeOf9
 v29:=Tryz.zeroValue9
 t32:=Tryz.underlying164
 a32:=Tryz.isAgg164
 z32:=Tryz.sizeOf164
 v32:=Tryz.zeroValue164
 t35:=Tryz.underlying227
 a35:=Tryz.isAgg227
 z35:=Tryz.sizeOf227
 v35:=Tryz.zeroValue227
 t36:=Tryz.underlying228
 a36:=Tryz.isAgg228
 z36:=Tryz.sizeOf228
 v36:=Tryz.zeroValue228
 t41:=Tryz.underlying233
 a41:=Tryz.isAgg233
 z41:=Tryz.sizeOf233
 v41:=Tryz.zeroValue233
 t44:=Tryz.underlying38
 a44:=Tryz.isAgg38
 z44:=Tryz.sizeOf38
 v44:=Tryz.zeroValue38
 t46:=Tryz.underlying109
 a46:=Tryz.isAgg109
 z46:=Tryz.sizeOf109
 v46:=Tryz.zeroValue109
 t53:=Tryz.underlying250
 a53:=Tryz.isAgg250
 z53:=Tryz.sizeOf250
 v53:=Tryz.zeroValue250
 t57:=Tryz.underlying254
 a57:=Tryz.isAgg254
 z57:=Tryz.sizeOf254
 v57:=Tryz.zeroValue254
 t63:=Tryz.underlying263
 a63:=Tryz.isAgg263
 z63:=Tryz.sizeOf263
 v63:=Tryz.zeroValue263
 t64:=Tryz.underlying264
 a64:=Tryz.isAgg264
 z64:=Tryz.sizeOf264
 v64:=Tryz.zeroValue264}
def Tryz.grow123_ren :Go.Shelf.Ren:=⟨fun|4=>123|n=>n,fun|22=>22|25=>5|3=>3|4=>4|9=>9|20=>20|0=>0|n=>n,fun|n=>n⟩
theorem Tryz.grow123 :Go.Proofs.Lays8.n4 Tryz.prog Tryz.grow123_ren:={
 mixed:=by kernel_rfl
 f4:=⟨Tryz.f123.name,by decide,Tryz.func123.trans (congrArg some (by kernel_rfl))⟩
 t0:=Tryz.underlying0
 a0:=Tryz.isAgg0
 z0:=Tryz.sizeOf0
 v0:=Tryz.zeroValue0
 t3:=Tryz.underlying3
 a3:=Tryz.isAgg3
 z3:=Tryz.sizeOf3
 v3:=Tryz.zeroValue3
 t4:=Tryz.underlying4
 a4:=Tryz.isAgg4
 z4:=Tryz.sizeOf4
 v4:=Tryz.zeroValue4
 t9:=Tryz.underlying9
 a9:=Tryz.isAgg9
 z9:=Tryz.sizeOf9
 v9:=Tryz.zeroValue9
 t20:=Tryz.underlying20
 a20:=Tryz.isAgg20
 z20:=Tryz.sizeOf20
 v20:=Tryz.zeroValue20
 t22:=Tryz.underlying22
 a22:=Tryz.isAgg22
 z22:=Tryz.sizeOf22
 v22:=Tryz.zeroValue22}
end Go.Proofs
namespace Go.Proofs.YtclcfkaphlopeaaGreatDoor
open Go.RowKit
def ar (l:List UInt8):List Value:=l.map fun b=>Value.int .u8 ((b.toNat:Nat):Int)
theorem bg (l:List UInt8):(ar l).length=l.length:=by simp[ar]
theorem dp (l:List UInt8) (j:Nat):(ar l)[j]?=(l[j]?).map fun b=>Value.int .u8 ((b.toNat:Nat):Int):=by simp[ar]
theorem my (l m:List UInt8):ar (l++m)=ar l++ar m:=by simp[ar]
theorem qD (l:List UInt8):∀u∈ar l,u.oneCell'=true:=by
 intro u hu
 simp only[ar,List.mem_map] at hu
 obtain⟨p,_,rfl⟩:=hu
 rfl
theorem mG :(Tryz.prog.info? 5).map (fun i=>(i.zero,i.size,i.bytes))=some (some (.int .u8 0),1,1):=by kernel_rfl
theorem eK {P:Program} {t:TypeId} {z:Value} {s b:Nat} (h:(P.info? t).map (fun i=>(i.zero,i.size,i.bytes))=some (some z,s,b)):∃i,P.info? t=some i∧i.zero=some z∧i.size=s∧i.bytes=b:=by
 cases hi:P.info? t with
 |none=>rw[hi] at h;cases h
 |some i=>rw[hi] at h;simp at h;exact⟨i,rfl,h.1,h.2.1,h.2.2⟩
theorem cQ {w:World} {base n size:Nat} {e:TypeId} {v:Value} {xs:List Value} (h:w.ownsRow base e size v n xs):∃A c,v= .slice A n c∧aE w w.heap.size size A n xs∧n≤c:=by
 rcases h.2 with⟨rfl,h0⟩|⟨g,cap,cur,rfl,h1,h2,h3,h4⟩
 ·subst h0
  exact⟨none,0,rfl,⟨h.1,fun hn=>absurd hn (by omega)⟩,Nat.le_refl _⟩
 ·exact⟨_,cap,rfl,aE.of_own h,by omega⟩
theorem eo {w:World} {base base':Nat} {e:TypeId} {size:Nat} {v:Value} {n:Nat} {xs:List Value} (h:w.ownsRow base e size v n xs) (hb:base'≤base):w.ownsRow base' e size v n xs:=by
 refine⟨h.1, ?_⟩
 rcases h.2 with h0|⟨g,cap,cur,e,hb',hr⟩
 ·exact .inl h0
 ·exact .inr ⟨g,cap,cur,e,Nat.le_trans hb hb',hr⟩
theorem fV {w w':World} {base:Nat} {v:Value} {e:TypeId} {size n:Nat} {xs:List Value} (h:w.ownsRow base e size v n xs) (hk:∀g,v.ownBlock=some g→w'.heap[g]?=w.heap[g]?):w'.ownsRow base e size v n xs:=by
 refine⟨h.1, ?_⟩
 rcases h.2 with h0|⟨g,cap,cur,rfl,hb,hg,hr⟩
 ·exact .inl h0
 ·exact .inr ⟨g,cap,cur,rfl,hb,(hk g rfl).trans hg,hr⟩
theorem dv {w w':World} {base:Nat} {v:Value} {e:TypeId} {size n:Nat} {xs:List Value} (h:w.ownsRow base e size v n xs) (hb:Below w.heap.size w w'):w'.ownsRow base e size v n xs:=
 fV h fun g hg=>hb.block g (h.lt g hg).2
theorem vp (w:World):(w.alloc (.cells #[] 5)).ownsRow w.heap.size 5 1 (.slice (some ⟨w.heap.size,0,none⟩) 0 0) 0 []:=World.ownsRow_lit w #[] 0 (Nat.le_refl _) (by unfold maxLen;omega) rfl
theorem Iq7 {w:World} {base n:Nat} {v:Value} {l:List UInt8} (h:w.ownsRow base 5 1 v n (ar l)):w.ownsRow base 5 1 v l.length (ar l):=by
 have:n=l.length:=by have:=h.1;rw[bg] at this;omega
 rw[←this];exact h
theorem aE.take8 {w:World} {B n:Nat} {A:Option Addr} {l:List UInt8} (h:aE w B 1 A n (ar l)) {k:Nat} (hk:k≤n):aE w B 1 A k (ar (l.take k)):=by
 have hl:l.length=n:=by have:=h.1;rw[bg] at this;omega
 refine⟨by rw[bg,List.length_take];omega,fun hp=> ?_⟩
 obtain⟨ad,e,hlt,hc⟩:=h.2 (by omega)
 refine⟨ad,e,hlt,fun j u hu=>hc j u ?_⟩
 rw[dp] at hu ⊢
 rw[List.getElem?_take] at hu
 split at hu
 ·exact hu
 ·cases hu
theorem FP (l:List UInt8) (k:Nat):ar (l.drop k)=(ar l).drop k:=by simp[ar]
theorem aE.drop8 {w:World} {B n c:Nat} {A:Option Addr} {l:List UInt8} (h:aE w B 1 A n (ar l)) {k:Nat} (hk:k≤n) (hc:n≤c):aE w B 1 (if c=k then A else A.map (·.add k)) (n - k) (ar (l.drop k)):=by
 have:=h.cut (k:=k) (cap:=c) hk hc
 rw[Nat.mul_one] at this
 rw[FP]
 exact this
theorem aE.none8 {w:World} {B:Nat}:aE w B 1 none 0 (ar []):=aE.none_
theorem aE.empty8 {w:World} {B n:Nat} {l:List UInt8} (h:aE w B 1 none n (ar l)):n=0∧l=[]:=by
 have hl:l.length=n:=by have:=h.1;rw[bg] at this;omega
 rcases Nat.eq_zero_or_pos n with h0|h0
 ·exact⟨h0,List.length_eq_zero_iff.1 (by omega)⟩
 ·obtain⟨ad,e,_⟩:=h.2 h0;cases e
def gQ (l:List UInt8):List Int:=l.map fun b=>((b.toNat:Nat):Int)
theorem nr {w:World} {B n:Nat} {a:Addr} {l:List UInt8} (hl:l.length=n) (hr:aE w B 1 (some a) n (ar l)):∀i,i<n→w.cell? (a.add i)=some (.int .u8 ((gQ l).getD i 0)):=by
 intro i hi
 obtain⟨ad,e,_,hc⟩:=hr.2 (by omega)
 injection e with e
 subst e
 have hil:i<l.length:=by omega
 refine hc i _ ?_
 rw[dp,List.getElem?_eq_getElem hil]
 simp[gQ,List.getD,hil]
theorem gu (l:List UInt8):Lib.bytesOf (gQ l)=l:=by
 unfold Lib.bytesOf gQ
 rw[List.map_map]
 conv=>rhs;rw[←List.map_id l]
 apply List.map_congr_left
 intro b _
 simp
theorem Ds (c:Nat) (w:World):(convert 22 9 (.slice none 0 c)).run Tryz.prog w= .ok (.string ⟨#[]⟩) w:=by kernel_rfl
theorem aY {w:World} {B n c:Nat} {A:Option Addr} {l:List UInt8} (hl:l.length=n) (hr:aE w B 1 A n (ar l)):(convert 22 9 (.slice A n c)).run Tryz.prog w= .ok (.string ⟨l.toArray⟩) w:=by
 subst hl
 cases A with
 |none=>
  obtain⟨h0,rfl⟩:=hr.empty8
  exact Ds c w
 |some a=>
  refine ox w 22 9 5 a l c Tryz.underlying22 Tryz.underlying5 Tryz.underlying9 fun j b hj=> ?_
  have hp:0<l.length:=by
   rcases Nat.lt_or_ge j l.length with h|h
   ·omega
   ·rw[List.getElem?_eq_none h] at hj;cases hj
  obtain⟨ad,e,_,hc⟩:=hr.2 hp
  injection e with e
  subst e
  exact hc j _ (by rw[dp,hj];rfl)
end Go.Proofs.YtclcfkaphlopeaaGreatDoor
namespace Go.Proofs.YtclcfkaphlopeaaGreatDoor
open Go.RowKit Go.Maps
abbrev ae :=List UInt8
theorem Fs :∀x y:ae,Op.bytesLess x y=bytesBefore x y
 |[],[]=>rfl
 |[],_::_=>rfl
 |_::_,[]=>rfl
 |a::x,b::y=>by simp only[Op.bytesLess,bytesBefore,Fs x y]
theorem EU :∀x y:ae,x<y↔bytesBefore x y=true
 |[],[]=>by simp[bytesBefore]
 |[],_::_=>by simp[bytesBefore]
 |_::_,[]=>by simp[bytesBefore]
 |a::x,b::y=>by simp[bytesBefore,List.cons_lt_cons_iff,EU x y]
theorem H5 (x y:ae):decide (x≤y)= !bytesBefore y x:=by
 have:x≤y↔¬bytesBefore y x=true:=by rw[←EU];exact Iff.rfl
 by_cases h:bytesBefore y x=true<;>simp[this,h]
theorem kE {x y z:ae} (h:bytesBefore x y=true) (k:bytesBefore y z=true):bytesBefore x z=true:=WideShapes.bytes_trans x y z h k
theorem mO (x:ae):bytesBefore x x=false:=WideAt.bytes_irrefl x
theorem jd {x y:ae} (h:bytesBefore x y=true):x≠y:=fun e=>by subst e;rw[mO] at h;cases h
theorem jF {x y:ae} (h:bytesBefore x y=true):bytesBefore y x=false:=by
 cases hb:bytesBefore y x
 ·rfl
 ·have:=kE h hb;rw[mO] at this;cases this
theorem uM {x y:ae} (h:x≠y) (k:bytesBefore x y=false):bytesBefore y x=true:=by
 rcases WideAt.bytes_total x y h with h'|h'
 ·rw[k] at h';cases h'
 ·exact h'
section
variable {V U:Type}
def Up (l:List (ae×V)):Prop:=l.Pairwise fun p q=>bytesBefore p.1 q.1=true
def aV (k:ae):List (ae×V)→Option V
 |[]=>none
 |(y,v)::r=>if y=k then some v else aV k r
def bN (k:ae) (v:V):List (ae×V)→List (ae×V)
 |[]=>[(k,v)]
 |(y,u)::r=>if y=k then(k,v)::r else if bytesBefore k y=true then(k,v)::(y,u)::r else(y,u)::bN k v r
def gO (k:ae) (l:List (ae×V)):List (ae×V):=l.filter fun p=>p.1 !=k
def ci (g:V→U) (l:List (ae×V)):List (ae×U):=l.map fun p=>(p.1,g p.2)
theorem gW (k y:ae) (v:V) (r:List (ae×V)):aV k ((y,v)::r)=if y=k then some v else aV k r:=rfl
theorem Aa :Up ([]:List (ae×V)):=List.Pairwise.nil
theorem hJ {p:ae×V} {l:List (ae×V)}:Up (p::l)↔(∀q∈l,bytesBefore p.1 q.1=true)∧Up l:=List.pairwise_cons
theorem jO {l:List (ae×V)} (h:Up l) (k:ae):Up (gO k l):=List.Pairwise.filter _ h
theorem lK {k:ae} {v:V} {q:ae×V}:∀{l:List (ae×V)},q∈bN k v l→q=(k,v)∨q∈l
 |[],h=>by simp[bN] at h;exact .inl h
 |(y,u)::r,h=>by
  unfold bN at h
  split at h
  ·rcases List.mem_cons.1 h with h|h
   ·exact .inl h
   ·exact .inr (List.mem_cons_of_mem _ h)
  ·split at h
   ·rcases List.mem_cons.1 h with h|h
    ·exact .inl h
    ·exact .inr h
   ·rcases List.mem_cons.1 h with h|h
    ·exact .inr (by rw[h];exact List.mem_cons_self)
    ·rcases lK h with h|h
     ·exact .inl h
     ·exact .inr (List.mem_cons_of_mem _ h)
theorem bp {k:ae} {v:V}:∀{l:List (ae×V)},Up l→Up (bN k v l)
 |[],_=>by unfold bN Up;simp
 |(y,u)::r,h=>by
  obtain⟨h1,h2⟩:=hJ.1 h
  unfold bN
  split
  ·rename_i e;subst e;exact hJ.2 ⟨h1,h2⟩
  ·rename_i hne
   split
   ·rename_i hb
    refine hJ.2 ⟨fun q hq=> ?_,h⟩
    rcases List.mem_cons.1 hq with rfl|hq
    ·exact hb
    ·exact kE hb (h1 q hq)
   ·rename_i hb
    refine hJ.2 ⟨fun q hq=> ?_,bp h2⟩
    rcases lK hq with rfl|hq
    ·exact uM (fun e=>hne e.symm) (by simpa using hb)
    ·exact h1 q hq
theorem gC {k:ae}:∀{l:List (ae×V)},(∀q∈l,q.1≠k)→aV k l=none
 |[],_=>rfl
 |(y,u)::r,h=>by
  unfold aV
  rw[if_neg (h (y,u) List.mem_cons_self)]
  exact gC fun q hq=>h q (List.mem_cons_of_mem _ hq)
theorem gB {k:ae} {v:V}:∀{l:List (ae×V)},aV k l=some v→(k,v)∈l
 |[],h=>by cases h
 |(y,u)::r,h=>by
  unfold aV at h
  split at h
  ·rename_i e;injection h with h;subst e h;exact List.mem_cons_self
  ·exact List.mem_cons_of_mem _ (gB h)
theorem o5 (g:V→U) (k:ae):∀l:List (ae×V),aV k (ci g l)=(aV k l).map g
 |[]=>rfl
 |(y,u)::r=>by
  show(if y=k then some (g u) else aV k (ci g r))=(if y=k then some u else aV k r).map g
  split
  ·rfl
  ·exact o5 g k r
theorem gc (g:V→U) (k:ae) (v:V):∀l:List (ae×V),ci g (bN k v l)=bN k (g v) (ci g l)
 |[]=>rfl
 |(y,u)::r=>by
  show ci g (if y=k then(k,v)::r else if bytesBefore k y=true then(k,v)::(y,u)::r else(y,u)::bN k v r)=(if y=k then(k,g v)::ci g r else if bytesBefore k y=true then(k,g v)::(y,g u)::ci g r else(y,g u)::bN k (g v) (ci g r))
  split
  ·rfl
  ·split
   ·rfl
   ·show(y,g u)::ci g (bN k v r)=_
    rw[gc g k v r]
theorem o4 (g:V→U) (k:ae) (l:List (ae×V)):ci g (gO k l)=gO k (ci g l):=by
 unfold ci gO
 rw[List.filter_map]
 rfl
theorem au {k j:ae} {v:V}:∀{l:List (ae×V)},aV j (bN k v l)=if j=k then some v else aV j l
 |[]=>by unfold bN aV aV;by_cases h:k=j<;>simp[h];intro e;exact absurd e.symm h
 |(y,u)::r=>by
  unfold bN
  by_cases h1:y=k
  ·rw[if_pos h1]
   unfold aV
   subst h1
   by_cases h:y=j
   ·subst h;simp
   ·rw[if_neg h,if_neg (fun e=>h e.symm),if_neg h]
  ·rw[if_neg h1]
   by_cases h2:bytesBefore k y=true
   ·rw[if_pos h2]
    show(if k=j then some v else aV j ((y,u)::r))=_
    by_cases h:k=j
    ·subst h;simp
    ·rw[if_neg h,if_neg (fun e=>h e.symm)]
   ·rw[if_neg h2]
    show(if y=j then some u else aV j (bN k v r))=_
    rw[au,gW]
    by_cases h:y=j
    ·subst h;rw[if_pos rfl,if_neg h1,if_pos rfl]
    ·rw[if_neg h,if_neg h]
theorem gX {k j:ae}:∀{l:List (ae×V)},aV j (gO k l)=if j=k then none else aV j l
 |[]=>by unfold gO aV;simp
 |(y,u)::r=>by
  have ih:=gX (k:=k) (j:=j) (l:=r)
  unfold gO at ih ⊢
  rw[List.filter_cons]
  by_cases h1:y=k
  ·subst h1
   simp only[bne_self_eq_false,Bool.false_eq_true,if_false,ih]
   conv=>rhs;unfold aV
   by_cases h:j=y
   ·rw[if_pos h,if_pos h]
   ·rw[if_neg h,if_neg h,if_neg (fun e=>h e.symm)]
  ·have:(y !=k)=true:=by simpa using h1
   simp only[this,if_true]
   unfold aV
   rw[ih]
   by_cases h:y=j
   ·subst h;rw[if_pos rfl,if_neg h1,if_pos rfl]
   ·rw[if_neg h,if_neg h]
theorem vG :∀{l m:List (ae×V)},Up l→Up m→(∀k,aV k l=aV k m)→l=m
 |[],[],_,_,_=>rfl
 |[],(y,u)::r,_,_,h=>by have:=h y;simp[aV] at this
 |(y,u)::r,[],_,_,h=>by have:=h y;simp[aV] at this
 |(y,u)::r,(z,v)::s,hl,hm,h=>by
  obtain⟨l1,l2⟩:=hJ.1 hl
  obtain⟨m1,m2⟩:=hJ.1 hm
  have hyz:y=z:=by
   by_cases e:y=z
   ·exact e
   ·exfalso
    have a1:aV y ((z,v)::s)=some u:=by rw[←h y];simp[aV]
    have a2:aV z ((y,u)::r)=some v:=by rw[h z];simp[aV]
    have b1:(y,u)∈s:=by
     rcases List.mem_cons.1 (gB a1) with h'|h'
     ·injection h' with h' _;exact absurd h' e
     ·exact h'
    have b2:(z,v)∈r:=by
     rcases List.mem_cons.1 (gB a2) with h'|h'
     ·injection h' with h' _;exact absurd h'.symm e
     ·exact h'
    have c1:=m1 _ b1
    have c2:=l1 _ b2
    simp only at c1 c2
    rw[jF c1] at c2
    cases c2
  subst hyz
  have huv:u=v:=by have:=h y;simpa[aV] using this
  subst huv
  congr 1
  refine vG l2 m2 fun k=> ?_
  by_cases hk:y=k
  ·subst hk
   rw[gC (fun q hq e=>jd (l1 q hq) e.symm),gC (fun q hq e=>jd (m1 q hq) e.symm)]
  ·have:=h k
   unfold aV at this
   rwa [if_neg hk,if_neg hk] at this
theorem jJ {k:ae} {v:V}:∀{l:List (ae×V)},Up l→(bN k v l).length=l.length+(if(aV k l).isSome=true then 0 else 1)
 |[],_=>by simp[bN,aV]
 |(y,u)::r,h=>by
  obtain⟨h1,h2⟩:=hJ.1 h
  unfold bN aV
  by_cases e:y=k
  ·rw[if_pos e,if_pos e];simp
  ·rw[if_neg e,if_neg e]
   by_cases hb:bytesBefore k y=true
   ·rw[if_pos hb,gC (fun q hq e'=>by have:=h1 q hq;rw[e'] at this;rw[jF this] at hb;cases hb)]
    simp
   ·rw[if_neg hb,List.length_cons,jJ h2,List.length_cons]
    omega
theorem gF (k:ae) (l:List (ae×V)):(gO k l).length≤l.length:=List.length_filter_le _ _
variable {H:Type}
def dX (g:V→DataW H) (l:List (ae×V)):DataW H:= .map (l.map fun p=>(Lit.string p.1,g p.2))
theorem fH (a b:ae):(Lit.string a).sameKey (.string b)=decide (a=b):=by
 simp[Lit.sameKey]
 by_cases h:a=b<;>simp[h]
theorem uU (g:V→DataW H) (l:List (ae×V)) (k:ae) (z:DataW H):(dX g l).atKey (.string k) z=match aV k l with|some v=>g v|none=>z:=by
 unfold dX DataW.atKey
 simp only
 induction l with
 |nil=>rfl
 |cons p r ih=>
  obtain⟨y,u⟩:=p
  simp only[List.map_cons,List.find?_cons,fH]
  unfold aV
  by_cases h:y=k
  ·simp[h]
  ·simp only[h,decide_false,if_false]
   exact ih
theorem vy (g:V→DataW H) (l:List (ae×V)) (k:ae):Maps.has (dX g l) (.string k)=(aV k l).isSome:=by
 unfold dX Maps.has
 simp only
 induction l with
 |nil=>rfl
 |cons p r ih=>
  obtain⟨y,u⟩:=p
  simp only[List.map_cons,List.any_cons,fH]
  unfold aV
  by_cases h:y=k
  ·simp[h]
  ·simp only[h,decide_false,if_false,Bool.false_or]
   exact ih
theorem o0 (g:V→DataW H) (l:List (ae×V)):Maps.size (dX g l)=l.length:=by simp[dX,Maps.size]
theorem Bz (g:V→DataW H) (l:List (ae×V)):strKeys (dX g l)=l.map (·.1):=by
 simp[dX,strKeys,strOf,List.map_map,Function.comp_def]
theorem wW (g:V→DataW H) (k:ae) (d:DataW H) {r:List (ae×V)} (h:∀q∈r,bytesBefore k q.1=true):
 DataW.insert (Lit.string k,d) ((r.map fun p=>(Lit.string p.1,g p.2)).filter fun p=> !p.1.sameKey (.string k))=(Lit.string k,d)::r.map fun p=>(Lit.string p.1,g p.2):=by
 rw[List.filter_eq_self.2 (fun p hp=>by
  obtain⟨q,hq,rfl⟩:=List.mem_map.1 hp
  have:=jd (h q hq)
  simp only[fH,Bool.not_eq_true',decide_eq_false_iff_not]
  exact fun e=>this e.symm)]
 cases r with
 |nil=>rfl
 |cons q r=>
  show(if bytesBefore k q.1=true then _ else _)=_
  rw[if_pos (h q List.mem_cons_self)]
  rfl
theorem Dw (g:V→DataW H) {l:List (ae×V)} (hup:Up l) (k:ae) (v:V):(dX g l).put (.string k) (g v)=dX g (bN k v l):=by
 unfold dX DataW.put
 simp only
 congr 1
 induction l with
 |nil=>rfl
 |cons p r ih=>
  obtain⟨y,u⟩:=p
  obtain⟨h1,h2⟩:=hJ.1 hup
  simp only[List.map_cons,List.filter_cons,fH]
  unfold bN
  by_cases e:y=k
  ·subst e
   simp only[decide_true,Bool.not_true,Bool.false_eq_true,if_false,if_true,List.map_cons]
   exact wW g y (g v) h1
  ·simp only[e,decide_false,Bool.not_false,if_true,if_false]
   by_cases hb:bytesBefore k y=true
   ·rw[if_pos hb]
    show(if bytesBefore k y=true then _ else _)=_
    rw[if_pos hb,List.filter_eq_self.2 (fun p hp=>by
     obtain⟨q,hq,rfl⟩:=List.mem_map.1 hp
     have:=jd (kE hb (h1 q hq))
     simp only[fH,Bool.not_eq_true',decide_eq_false_iff_not]
     exact fun e=>this e.symm)]
    rfl
   ·rw[if_neg hb]
    show(if bytesBefore k y=true then _ else _)=_
    rw[if_neg hb,ih h2]
    rfl
theorem Dv (g:V→DataW H) (l:List (ae×V)) (k:ae):(dX g l).del (.string k)=dX g (gO k l):=by
 unfold dX DataW.del gO
 simp only
 congr 1
 rw[List.filter_map]
 congr 1
theorem vC {l:List (ae×V)} (hup:Up l) {ss:List ae} (h:ss.Perm (l.map (·.1))):ss.mergeSort leB=l.map (·.1):=by
 rw[mergeSort_of_perm h]
 refine List.mergeSort_of_pairwise ?_
 rw[List.pairwise_map]
 refine List.Pairwise.imp (fun{p q} hpq=> ?_) hup
 show decide (p.1≤q.1)=true
 rw[H5,jF hpq]
 rfl
end
end Go.Proofs.YtclcfkaphlopeaaGreatDoor
namespace Go.Proofs.YtclcfkaphlopeaaGreatDoor
structure aa where
 b:List UInt8
 safe:Nat
 ever:Bool
structure aN where
 cap:Nat
 files:List (ae×aa)
 fuse:Int
 lost:Bool
def aa.whole (f:aa):Bool:=f.ever&&decide (f.safe=f.b.length)
def aa.none_ :aa:=⟨[],0,false⟩
def used :List (ae×aa)→Nat
 |[]=>0
 |q::r=>q.2.b.length+used r
def gK (c:UInt8):Bool:=(decide (97≤c.toNat)&&decide (c.toNat≤122))||(decide (48≤c.toNat)&&decide (c.toNat≤57))||decide (c.toNat=46)
def right (s:ae):Bool:=s.all gK&&decide (1≤s.length)&&decide (s.length≤40)
def aN.room (d:aN):Nat:=d.cap - used d.files
def aN.burn (d:aN):aN:={d with lost:=decide (d.fuse=0),fuse:=if 0<d.fuse then d.fuse - 1 else d.fuse}
def aN.len (d:aN) (k:ae):Nat:=match aV k d.files with|some f=>f.b.length|none=>0
def aN.gone (d:aN):Int:=if d.lost=true then 6 else 0
def iK (d:aN) (b:List UInt8):List UInt8:=if d.fuse=0 then b.take (b.length/2) else b
def d7 (d:aN) (k:ae) (b:List UInt8):Int×aN:=
 if d.lost=true then(6,d) else if right k=false then(1,d) else if d.room<b.length then(4,d)
 else if d.fuse=0∧aV k d.files=none∧(iK d b).length=0 then(6,d.burn)
 else(d.burn.gone,{d.burn with files:=bN k {(aV k d.files).getD aa.none_ with b:=((aV k d.files).getD aa.none_).b++iK d b} d.files})
def fg (d:aN) (k:ae):Int×aN:=
 if d.lost=true then(6,d) else match aV k d.files with
 |none=>(7,d)
 |some f=>if d.fuse=0 then(6,d.burn) else(0,{d.burn with files:=bN k {f with safe:=f.b.length,ever:=true} d.files})
def cY (d:aN) (a b:ae):Int×aN:=
 if d.lost=true then(6,d) else if right b=false∨a=b then(1,d) else match aV a d.files with
 |none=>(7,d)
 |some f=>if f.whole=false then(10,d) else if d.fuse=0 then(6,d.burn) else(0,{d.burn with files:=gO a (bN b f d.files)})
def bo (d:aN) (k:ae):Int×aN:=
 if d.lost=true then(6,d) else match aV k d.files with
 |none=>(7,d)
 |some _=>if d.fuse=0 then(6,d.burn) else(0,{d.burn with files:=gO k d.files})
def kY (d:aN) (k:ae) (b:List UInt8):Int×aN:=
 if d.lost=true then(6,d) else if right k=false then(1,d) else if d.room+d.len k<b.length then(4,d)
 else(0,{d with files:=bN k ⟨b,b.length,true⟩ d.files})
def mP (d:aN) (k:ae):Int×aN:=
 if d.lost=true then(6,d) else match aV k d.files with
 |none=>(7,d)
 |some _=>(0,{d with files:=gO k d.files})
def keepN (keep:List Int) (i n:Nat):Nat:=match keep[i%keep.length]? with
 |none=>0
 |some v=>((v.tmod n+n).tmod n).toNat
structure i7 (d:aN):Prop where
 up:Up d.files
 room:used d.files≤d.cap
 cap:d.cap≤4194304
 fuse0: -1≤d.fuse
 fuse1:d.fuse≤9223372036854775807
 each:∀q∈d.files,q.2.safe≤q.2.b.length∧q.1.length≤40
theorem kB {k:ae} {f:aa}:∀{l:List (ae×aa)},aV k l=some f→f.b.length≤used l
 |(y,u)::r,h=>by
  unfold aV at h
  split at h
  ·injection h with h;subst h;show _≤_+used r;simp
  ·have:=kB h;show _≤_+used r;omega
theorem eB {k:ae} {v:aa}:∀{l:List (ae×aa)},Up l→used (bN k v l)+((aV k l).getD aa.none_).b.length=used l+v.b.length
 |[],_=>by simp[bN,aV,used,aa.none_]
 |(y,u)::r,h=>by
  obtain⟨h1,h2⟩:=hJ.1 h
  unfold bN aV
  by_cases e:y=k
  ·rw[if_pos e,if_pos e];simp only[used,Option.getD_some];omega
  ·rw[if_neg e,if_neg e]
   by_cases hb:bytesBefore k y=true
   ·rw[if_pos hb,gC (fun q hq e'=>by have:=h1 q hq;rw[e'] at this;rw[jF this] at hb;cases hb)]
    simp only[used,Option.getD_none,aa.none_,List.length_nil];omega
   ·rw[if_neg hb]
    have:=eB (v:=v) (k:=k) h2
    simp only[used]
    omega
theorem kW (k:ae):∀l:List (ae×aa),used (gO k l)≤used l
 |[]=>Nat.le_refl _
 |(y,u)::r=>by
  have ih:=kW k r
  unfold gO at ih ⊢
  rw[List.filter_cons]
  split
  ·show _+used _≤_+used r;omega
  ·show _≤_+used r;omega
theorem lZ {a b:ae} {f:aa} {l:List (ae×aa)} (h:Up l) (ha:aV a l=some f) (hne:a≠b):used (gO a (bN b f l))≤used l:=by
 have e1:bN a aa.none_ (gO a (bN b f l))=bN a aa.none_ (bN b f l):=by
  refine vG (bp (jO (bp h) a)) (bp (bp h)) fun k=> ?_
  rw[au,au,gX]
  by_cases hk:k=a<;>simp[hk]
 have u1:=eB (v:=aa.none_) (k:=a) (jO (bp (v:=f) (k:=b) h) a)
 have u2:=eB (v:=aa.none_) (k:=a) (bp (v:=f) (k:=b) h)
 have u3:=eB (v:=f) (k:=b) h
 rw[e1] at u1
 rw[gX,if_pos rfl] at u1
 rw[au,if_neg hne,ha] at u2
 simp only[aa.none_,Option.getD_none,Option.getD_some,List.length_nil] at u1 u2
 omega
theorem qN (d:aN):d.burn.files=d.files:=rfl
theorem vm (d:aN):d.burn.cap=d.cap:=rfl
theorem i7.burn {d:aN} (h:i7 d):i7 d.burn:=by
 refine⟨h.up,h.room,h.cap, ?_, ?_,h.each⟩<;>(have:=h.fuse0;have:=h.fuse1;unfold aN.burn;simp only;split<;>omega)
theorem ow {k:ae} (h:right k=true):k.length≤40:=by
 unfold right at h;simp at h;exact h.2
theorem CM (d:aN) (b:List UInt8):(iK d b).length≤b.length:=by
 unfold iK;split
 ·rw[List.length_take];omega
 ·exact Nat.le_refl _
theorem i7.put {d:aN} (h:i7 d) {k:ae} {f:aa} (hk:k.length≤40) (hs:f.safe≤f.b.length) (hr:used d.files+f.b.length≤d.cap+((aV k d.files).getD aa.none_).b.length):i7 {d with files:=bN k f d.files}:=by
 refine⟨bp h.up, ?_,h.cap,h.fuse0,h.fuse1,fun q hq=> ?_⟩
 ·have:=eB (v:=f) (k:=k) h.up
  show used (bN k f d.files)≤d.cap
  omega
 ·rcases lK hq with rfl|hq
  ·exact⟨hs,hk⟩
  ·exact h.each q hq
theorem i7.get {d:aN} (h:i7 d) {k:ae} {f:aa} (hk:aV k d.files=some f):f.safe≤f.b.length∧k.length≤40:=h.each (k,f) (gB hk)
theorem i7.append {d:aN} (h:i7 d) (k:ae) (b:List UInt8):i7 (d7 d k b).2:=by
 unfold d7
 split
 ·exact h
 ·split
  ·exact h
  ·rename_i hr
   split
   ·exact h
   ·rename_i hroom
    split
    ·exact h.burn
    ·have hle:=CM d b
     have hrm:=h.room
     unfold aN.room at hroom
     refine i7.put h.burn (ow (by simpa using hr)) ?_ ?_
     ·cases hg:aV k d.files with
      |none=>simp[aa.none_]
      |some f=>simp only[Option.getD_some,List.length_append];have:=(h.get hg).1;omega
     ·simp only[qN,vm,List.length_append]
      omega
theorem i7.sync {d:aN} (h:i7 d) (k:ae):i7 (fg d k).2:=by
 unfold fg
 split
 ·exact h
 ·split
  ·exact h
  ·rename_i f hg
   split
   ·exact h.burn
   ·refine i7.put h.burn (h.get hg).2 (Nat.le_refl _) ?_
    have hrm:=h.room
    simp only[qN,vm,hg,Option.getD_some]
    omega
theorem i7.rename {d:aN} (h:i7 d) (a b:ae):i7 (cY d a b).2:=by
 unfold cY
 split
 ·exact h
 ·split
  ·exact h
  ·rename_i hab
   simp only[not_or] at hab
   split
   ·exact h
   ·rename_i f hg
    split
    ·exact h
    ·split
     ·exact h.burn
     ·have hb:=h.burn
      refine⟨jO (bp h.up) a,Nat.le_trans (lZ h.up hg hab.2) h.room,h.cap,hb.fuse0,hb.fuse1,fun q hq=> ?_⟩
      rcases lK (List.mem_filter.1 hq).1 with rfl|hq
      ·exact⟨(h.get hg).1,ow (by simpa using hab.1)⟩
      ·exact h.each q hq
theorem i7.del {d:aN} (h:i7 d) (k:ae):i7 {d with files:=gO k d.files}:=
 ⟨jO h.up k,Nat.le_trans (kW k _) h.room,h.cap,h.fuse0,h.fuse1,fun q hq=>h.each q (List.mem_filter.1 hq).1⟩
theorem i7.remove {d:aN} (h:i7 d) (k:ae):i7 (bo d k).2:=by
 unfold bo
 split
 ·exact h
 ·split
  ·exact h
  ·split
   ·exact h.burn
   ·exact i7.del h.burn k
theorem i7.harm {d:aN} (h:i7 d) (k:ae) (b:List UInt8):i7 (kY d k b).2:=by
 unfold kY
 split
 ·exact h
 ·split
  ·exact h
  ·rename_i hr
   split
   ·exact h
   ·rename_i hroom
    refine h.put (ow (by simpa using hr)) (Nat.le_refl _) ?_
    have hrm:=h.room
    unfold aN.room aN.len at hroom
    cases hg:aV k d.files with
    |none=>rw[hg] at hroom;simp only[Option.getD_none,aa.none_,List.length_nil];simp only at hroom;omega
    |some f=>rw[hg] at hroom;simp only[Option.getD_some];simp only at hroom;omega
theorem i7.lose {d:aN} (h:i7 d) (k:ae):i7 (mP d k).2:=by
 unfold mP
 split
 ·exact h
 ·split
  ·exact h
  ·exact h.del k
end Go.Proofs.YtclcfkaphlopeaaGreatDoor
namespace Go.Proofs.YtclcfkaphlopeaaGreatDoor
open Go.RowKit Go.Maps
structure FV where
 m:aa
 a:Option Addr
 c:Nat
def FV.val (v:FV):Value:= .agg #[.slice v.a v.m.b.length v.c, .int .i64 (v.m.safe:Nat), .bool v.m.ever]
def Bg :Value:= .agg #[.slice none 0 0, .int .i64 0, .bool false]
def GI :Option FV→Value
 |some v=>v.val
 |none=>Bg
def cZ (v:Value):Option (DataW Value×List MemPlace):=some (.held v,[])
def cR (v:FV):DataW Value:= .held v.val
structure bb (p m:Nat) (w w':World):Prop where
 os:w'.os=w.os
 tape:w'.tape=w.tape
 output:w'.output=w.output
 size:w.heap.size≤w'.heap.size
 block:∀i,i<w.heap.size→i≠p→i≠m→w'.heap[i]?=w.heap[i]?
section
variable {p m:Nat} {w w' w'':World}
theorem bb.refl (p m:Nat) (w:World):bb p m w w:=⟨rfl,rfl,rfl,Nat.le_refl _,fun _ _ _ _=>rfl⟩
theorem bb.trans (h:bb p m w w') (k:bb p m w' w''):bb p m w w'':=
 ⟨k.os.trans h.os,k.tape.trans h.tape,k.output.trans h.output,Nat.le_trans h.size k.size,fun i hi h1 h2=>(k.block i (Nat.lt_of_lt_of_le hi h.size) h1 h2).trans (h.block i hi h1 h2)⟩
theorem bb.drew (h:bb p m w w'):bb p m w w'.drew:=⟨h.os,h.tape,h.output,h.size,h.block⟩
theorem bb.below (h:bb p m w w') (k:Below w'.heap.size w' w''):bb p m w w'':=
 h.trans ⟨k.os,k.tape,k.output,k.size,fun i hi _ _=>k.block i hi⟩
theorem bb.of_below (k:Below w.heap.size w w'):bb p m w w':=(bb.refl p m w).below k
theorem bb.alloc (h:bb p m w w') (o:Obj):bb p m w (w'.alloc o):=h.below ((Below.refl _ _).alloc (Nat.le_refl _) o)
theorem bb.set_ (h:bb p m w w') (i:Nat) (u:Value):bb p m w (w'.setCell ⟨p,i,none⟩ u):=
 h.trans ⟨rfl,rfl,rfl,by simp[World.setCell],fun j _ h1 _=>Below.heap_setCell _ _ _ _ h1⟩
theorem bb.setNew (h:bb p m w w') {q:Addr} (hq:w.heap.size≤q.block) (u:Value):bb p m w (w'.setCell q u):=
 ⟨h.os,h.tape,h.output,by simpa[World.setCell] using h.size,fun j hj h1 h2=>(Below.heap_setCell _ _ _ _ (by omega)).trans (h.block j hj h1 h2)⟩
theorem bb.turned (h:bb p m w w') (k:w'.mapTurned w'' m):bb p m w w'':=by
 have g:=k.grown
 exact h.trans ⟨g.os,g.tape,g.output,g.size,fun i hi _ h2=>g.block i hi (fun e=>h2 (by injection e))⟩
theorem bb.toBelow (h:bb p m w w') {B:Nat} (hB:B≤w.heap.size) (hp:B≤p) (hm:B≤m):Below B w w':=
 ⟨h.os,h.tape,h.output,h.size,fun i hi=>h.block i (by omega) (by omega) (by omega)⟩
end
def iJ (mb cap:Nat) (fuse:Int) (lost:Bool):Array Value:=#[.int .i64 (cap:Nat), .map (some mb), .int .i64 fuse, .bool lost]
structure bL (w:World) (p mb:Nat) (es:List (ae×FV)) (cap:Nat) (fuse:Int) (lost:Bool):Prop where
 cells:aI w p 51 (iJ mb cap fuse lost)
 map:w.ownsMap Tryz.prog 9 cZ mb es.length (dX cR es)
 up:Up es
 bytes:∀q∈es,aE w w.heap.size 1 q.2.a q.2.m.b.length (ar q.2.m.b)∧q.2.m.b.length≤q.2.c
def fT (w:World) (p mb:Nat) (d:aN):Prop:=∃es,d.files=ci FV.m es∧bL w p mb es d.cap d.fuse d.lost
theorem gm :Keyed Tryz.prog 9:=string_keyed Tryz.underlying9
theorem uD (w:World):(zeroValue 56).run Tryz.prog w= .ok Bg w:=by kernel_rfl
theorem ua (s:ByteArray) (hs:s.size≤maxLen):keyOf Tryz.prog 9 (.string s)=some (.string s.data.toList):=Go.WideMaps.keyOf_string_mk Tryz.underlying9 hs
theorem G0 {w:World} {p mb cap:Nat} {fuse:Int} {lost:Bool} {t:TypeId} (h:aI w p t (iJ mb cap fuse lost)) {ad:Addr} {x:Int} (hc:w.cell? ad=some (.int .u8 x)):ad.block≠p:=by
 intro e
 unfold aI at h
 unfold World.cell? at hc
 rw[e,h] at hc
 simp only[iJ] at hc
 split at hc
 ·cases hc
 ·rcases ho:ad.off with _|_|_|_|n<;>rw[ho] at hc<;>simp at hc
theorem wj {w:World} {mb n:Nat} {D:DataW Value} {P:Program} {k:TypeId} {R:Value→Option (DataW Value×List MemPlace)} (h:w.ownsMap P k R mb n D) {ad:Addr} {x:Value} (hc:w.cell? ad=some x):ad.block≠mb:=by
 intro e
 obtain⟨es,clock,hb,_⟩:=h
 unfold World.cell? at hc
 rw[e,hb] at hc
 cases hc
theorem Dl {w:World} {mb n p:Nat} {D:DataW Value} {P:Program} {k t:TypeId} {R:Value→Option (DataW Value×List MemPlace)} (h:w.ownsMap P k R mb n D) {cs:Array Value} (hc:aI w p t cs):p≠mb:=by
 intro e
 obtain⟨es,clock,hb,_⟩:=h
 unfold aI at hc
 rw[e,hb] at hc
 cases hc
section
variable {w w':World} {p mb cap:Nat} {es:List (ae×FV)} {fuse:Int} {lost:Bool}
theorem bL.ne (h:bL w p mb es cap fuse lost):p≠mb:=Dl h.map h.cells
theorem bL.reads_but (hd:bL w p mb es cap fuse lost) (hb:bb p mb w w') {A:Option Addr} {n:Nat} {l:List UInt8} (h:aE w w.heap.size 1 A n (ar l)):aE w' w'.heap.size 1 A n (ar l):=by
 refine⟨h.1,fun hn=> ?_⟩
 obtain⟨ad,rfl,hlt,hc⟩:=h.2 hn
 have hl:0<l.length:=by have:=h.1;rw[bg] at this;omega
 have h0:=hc 0 _ (by rw[dp,List.getElem?_eq_getElem hl];rfl)
 have a1:=G0 hd.cells h0
 have a2:=wj hd.map h0
 rw[aD] at a1 a2
 refine⟨ad,rfl,Nat.lt_of_lt_of_le hlt hb.size,fun j u hu=> ?_⟩
 have hk:=hb.block ad.block hlt a1 a2
 exact(World.cell?_of_block (by rw[aD];exact hk)).trans (hc j u hu)
theorem bL.below (h:bL w p mb es cap fuse lost) (hb:Below w.heap.size w w'):bL w' p mb es cap fuse lost:=by
 refine⟨h.cells.below hb h.cells.lt, ?_,h.up,fun x hx=>⟨((h.bytes x hx).1.below hb).more hb.size,(h.bytes x hx).2⟩⟩
 have hlt:=h.map.lt
 obtain⟨a,c,hh,r⟩:=h.map
 exact⟨a,c,(hb.block mb hlt).trans hh,r⟩
theorem bL.turn {es':List (ae×FV)} {cap':Nat} {fuse':Int} {lost':Bool} {n:Nat} (hd:bL w p mb es cap fuse lost) (hb:bb p mb w w') (hc:aI w' p 51 (iJ mb cap' fuse' lost'))
 (hm:w'.ownsMap Tryz.prog 9 cZ mb n (dX cR es')) (hup:Up es') (hnew:∀q∈es',q∈es∨aE w' w'.heap.size 1 q.2.a q.2.m.b.length (ar q.2.m.b)∧q.2.m.b.length≤q.2.c):bL w' p mb es' cap' fuse' lost':=by
 refine⟨hc, ?_,hup,fun q hq=> ?_⟩
 ·obtain⟨a,c,hh,F,hs,hD⟩:=hm
  refine⟨a,c,hh,F, ?_,hD⟩
  have e1:Maps.size (dX cR es')=a.size:=by rw[hD];simp[Maps.size,length_sorted]
  rw[o0] at e1
  omega
 ·rcases hnew q hq with h|h
  ·exact⟨hd.reads_but hb (hd.bytes q h).1,(hd.bytes q h).2⟩
  ·exact h
end
section
variable {w:World} {mb n:Nat} {es:List (ae×FV)}
theorem qw (h:w.ownsMap Tryz.prog 9 cZ mb n (dX cR es)) (s:ByteArray) (hs:s.size≤maxLen):
 (Instr.lookup 49 (.map (some mb)) (.string s) true).run Tryz.prog w= .ok (.tuple #[GI (aV s.data.toList es), .bool (aV s.data.toList es).isSome]) w:=by
 obtain⟨v,ps,hrun,hv⟩:=h.look_ok gm Tryz.underlying49 (uD w) (zd:= .held Bg) (zp:=[]) rfl (ua s hs)
 rw[hrun,vy]
 rw[uU] at hv
 have:v=GI (aV s.data.toList es):=by
  cases hg:aV s.data.toList es with
  |none=>rw[hg] at hv;simp[cZ] at hv;rw[hv.1];rfl
  |some f=>rw[hg] at hv;simp[cZ,cR] at hv;rw[hv.1];rfl
 rw[this]
theorem oe (h:w.ownsMap Tryz.prog 9 cZ mb n (dX cR es)) (s:ByteArray) (hs:s.size≤maxLen):
 (Instr.lookup 49 (.map (some mb)) (.string s) false).run Tryz.prog w= .ok (GI (aV s.data.toList es)) w:=by
 obtain⟨v,ps,hrun,hv⟩:=h.lookup gm Tryz.underlying49 (uD w) (zd:= .held Bg) (zp:=[]) rfl (ua s hs)
 rw[hrun]
 rw[uU] at hv
 have:v=GI (aV s.data.toList es):=by
  cases hg:aV s.data.toList es with
  |none=>rw[hg] at hv;simp[cZ] at hv;rw[hv.1];rfl
  |some f=>rw[hg] at hv;simp[cZ,cR] at hv;rw[hv.1];rfl
 rw[this]
theorem DK (h:w.ownsMap Tryz.prog 9 cZ mb n (dX cR es)) (hup:Up es) (hn:n<maxLen) (s:ByteArray) (hs:s.size≤maxLen) (v:FV):
 ∃w',(Instr.mapUpdate 49 (.map (some mb)) (.string s) v.val).run Tryz.prog w= .ok () w'∧w'.ownsMap Tryz.prog 9 cZ mb (n+1) (dX cR (bN s.data.toList v es))∧w.mapTurned w' mb:=by
 obtain⟨w',h1,h2,h3⟩:=h.store gm Tryz.underlying49 hn (ua s hs) (val:=v.val) (d:=cR v) (ps:=[]) rfl
 rw[Dw cR hup] at h2
 exact⟨w',h1,h2,h3⟩
theorem qY (h:w.ownsMap Tryz.prog 9 cZ mb n (dX cR es)) (s:ByteArray) (hs:s.size≤maxLen) (ty:TypeId):
 ∃w',(Builtin.delete_ #[49,9] ty #[.map (some mb), .string s]).run Tryz.prog w= .ok (.tuple #[]) w'∧w'.ownsMap Tryz.prog 9 cZ mb n (dX cR (gO s.data.toList es))∧w.mapTurned w' mb:=by
 obtain⟨w',h1,h2,h3⟩:=h.drop gm Tryz.underlying49 (ua s hs) ty
 rw[Dv cR] at h2
 exact⟨w',h1,h2,h3⟩
end
theorem kC (A:Option Addr) (n c:Nat) (s:Nat) (ev:Bool) (w:World):
 Calls Tryz.prog 86 #[.agg #[.slice A n c, .int .i64 (s:Nat), .bool ev]] w fun e w'=>e= .returned (.bool (ev&&decide (s=n)))∧Below w.heap.size w w':=by
 cases ev with
 |false=>
  go_enter Tryz.func86,Tryz.ntmps86
  go_wp2
  go_ret
  exact⟨rfl,(Below.refl _ _).alloc (Nat.le_refl _) _⟩
 |true=>
  by_cases h:s=n
  ·subst h
   go_enter Tryz.func86,Tryz.ntmps86
   go_wp2
   go_ret
   exact⟨by simp,(Below.refl _ _).alloc (Nat.le_refl _) _⟩
  ·have h1:((s:Int)==(n:Int))=false:=by simp;omega
   go_enter Tryz.func86,Tryz.ntmps86
   go_wp2
   go_ret
   exact⟨by simp[h],(Below.refl _ _).alloc (Nat.le_refl _) _⟩
theorem EH (w:World):Calls Tryz.prog 16 #[.pointer none] w fun e w'=>e= .returned (.int .i64 1)∧w'=w:=by
 go_enter Tryz.func16,Tryz.ntmps16
 go_wp2
 go_ret
 exact⟨rfl,rfl⟩
section
variable {w:World} {p mb cap:Nat} {es:List (ae×FV)} {fuse:Int} {lost:Bool}
theorem bL.c0 (h:bL w p mb es cap fuse lost):w.cell? ⟨p,0,none⟩=some (.int .i64 (cap:Nat)):=by rw[h.cells.cell];rfl
theorem bL.c1 (h:bL w p mb es cap fuse lost):w.cell? ⟨p,1,none⟩=some (.map (some mb)):=by rw[h.cells.cell];rfl
theorem bL.c2 (h:bL w p mb es cap fuse lost):w.cell? ⟨p,2,none⟩=some (.int .i64 fuse):=by rw[h.cells.cell];rfl
theorem bL.c3 (h:bL w p mb es cap fuse lost):w.cell? ⟨p,3,none⟩=some (.bool lost):=by rw[h.cells.cell];rfl
end
theorem kI (p:Nat) (lost:Bool) (w:World) (c3:w.cell? ⟨p,3,none⟩=some (.bool lost)):
 Calls Tryz.prog 16 #[.pointer (some ⟨p,0,none⟩)] w fun e w'=>e= .returned (.int .i64 (if lost=true then 6 else 0))∧w'=w:=by
 cases lost
 all_goals
  go_enter Tryz.func16,Tryz.ntmps16
  go_wp2
  go_ret
  exact⟨rfl,rfl⟩
theorem hU {w:World} {p mb cap:Nat} {es:List (ae×FV)} {fuse:Int} {lost:Bool} (h:bL w p mb es cap fuse lost) (h0: -1≤fuse) (h1:fuse≤9223372036854775807):
 Calls Tryz.prog 87 #[.pointer (some ⟨p,0,none⟩)] w fun e w'=>e= .returned (.bool (decide (fuse=0)))∧bL w' p mb es cap (if 0<fuse then fuse - 1 else fuse) (decide (fuse=0))∧bb p mb w w':=by
 have c0:=h.c0
 have c2:=h.c2
 have c3:=h.c3
 have f0:=h.cells.frozen 2
 have f1:=h.cells.frozen 3
 have H:=Lib.hid h
 have fin:∀(fu:Int) (l:Bool) (w':World),aI w' p 51 (iJ mb cap fu l)→bb p mb w w'→w'.ownsMap Tryz.prog 9 cZ mb es.length (dX cR es)→bL w' p mb es cap fu l:=fun fu l w' hc hb hm=>H.out.turn hb hc hm H.out.up fun q hq=> .inl hq
 have hne:=h.ne
 have FIN:=Lib.hid fin
 clear fin h
 by_cases hz:fuse=0
 ·subst hz
  go_enter Tryz.func87,Tryz.ntmps87
  go_wp2
  go_ret
  have hb:=(bb.refl p mb w).set_ 3 (.bool true)
  exact⟨rfl,FIN.out _ _ _ (H.out.cells.set_ 3 (.bool true)) hb (H.out.map.setCell (fun e=>hne e.symm) _),hb⟩
 ·have z1:(fuse==0)=false:=by simp[hz]
  have z2:(decide (fuse=0))=false:=by simp[hz]
  rw[z2]
  by_cases hp:0<fuse
  ·rw[if_pos hp]
   go_enter Tryz.func87,Tryz.ntmps87
   go_wp2
   go_ret
   have hb:=((bb.refl p mb w).set_ 3 (.bool false)).set_ 2 (.int .i64 (fuse - 1))
   exact⟨rfl,FIN.out _ _ _ ((H.out.cells.set_ 3 (.bool false)).set_ 2 (.int .i64 (fuse - 1))) hb ((H.out.map.setCell (fun e=>hne e.symm) _).setCell (fun e=>hne e.symm) _),hb⟩
  ·rw[if_neg hp]
   have hp':decide (0<fuse)=false:=by simp;omega
   go_enter Tryz.func87,Tryz.ntmps87
   go_wp2
   go_ret
   have hb:=(bb.refl p mb w).set_ 3 (.bool false)
   exact⟨rfl,FIN.out _ _ _ (H.out.cells.set_ 3 (.bool false)) hb (H.out.map.setCell (fun e=>hne e.symm) _),hb⟩
theorem C3 {w:World} {mb n:Nat} {es:List (ae×FV)} (h:w.ownsMap Tryz.prog 9 cZ mb n (dX cR es)) (s:ByteArray) (hs:s.size≤maxLen) (hg:aV s.data.toList es=none):
 (Instr.lookup 49 (.map (some mb)) (.string s) true).run Tryz.prog w= .ok (.tuple #[.agg #[.slice none 0 0, .int .i64 0, .bool false], .bool false]) w:=by
 rw[qw h s hs,hg];rfl
theorem C4 {w:World} {mb n:Nat} {es:List (ae×FV)} (h:w.ownsMap Tryz.prog 9 cZ mb n (dX cR es)) (s:ByteArray) (hs:s.size≤maxLen) {b:List UInt8} {sf:Nat} {ev:Bool} {A:Option Addr} {c:Nat} (hg:aV s.data.toList es=some ⟨⟨b,sf,ev⟩,A,c⟩):
 (Instr.lookup 49 (.map (some mb)) (.string s) true).run Tryz.prog w= .ok (.tuple #[.agg #[.slice A b.length c, .int .i64 (sf:Nat), .bool ev], .bool true]) w:=by
 rw[qw h s hs,hg];rfl
theorem zc {w:World} {mb n:Nat} {es:List (ae×FV)} (h:w.ownsMap Tryz.prog 9 cZ mb n (dX cR es)) (s:ByteArray) (hs:s.size≤maxLen) (hg:aV s.data.toList es=none):
 (Instr.lookup 49 (.map (some mb)) (.string s) false).run Tryz.prog w= .ok (.agg #[.slice none 0 0, .int .i64 0, .bool false]) w:=by
 rw[oe h s hs,hg];rfl
theorem ej {w:World} {mb n:Nat} {es:List (ae×FV)} (h:w.ownsMap Tryz.prog 9 cZ mb n (dX cR es)) (s:ByteArray) (hs:s.size≤maxLen) {b:List UInt8} {sf:Nat} {ev:Bool} {A:Option Addr} {c:Nat} (hg:aV s.data.toList es=some ⟨⟨b,sf,ev⟩,A,c⟩):
 (Instr.lookup 49 (.map (some mb)) (.string s) false).run Tryz.prog w= .ok (.agg #[.slice A b.length c, .int .i64 (sf:Nat), .bool ev]) w:=by
 rw[oe h s hs,hg];rfl
theorem jz {w:World} {p mb cap:Nat} {es:List (ae×FV)} {fuse:Int} {lost:Bool} (h:bL w p mb es cap fuse lost) (s:ByteArray) (hs:s.size≤maxLen):
 Calls Tryz.prog 48 #[.pointer (some ⟨p,0,none⟩), .string s] w fun e w'=>e= .returned (.int .i64 (if lost=true then 6 else if(aV s.data.toList es).isSome=true then 0 else 7))∧Below w.heap.size w w':=by
 have c1:=h.c1
 have Hg:=Lib.hid (kI p lost w h.c3)
 cases lost with
 |true=>
  clear h
  go_enter Tryz.func48,Tryz.ntmps48
  go_wp2_with fail
  refine Hg.out.mono ?_
  rintro e w1 ⟨rfl,rfl⟩
  go_wp2
  go_ret
  exact⟨rfl,Below.refl _ _⟩
 |false=>
  cases hg:aV s.data.toList es with
  |none=>
   have hl:=C3 h.map s hs hg
   clear h hg
   go_enter Tryz.func48,Tryz.ntmps48
   go_wp2_with fail
   refine Hg.out.mono ?_
   rintro e w1 ⟨rfl,rfl⟩
   go_wp2
   go_ret
   exact⟨rfl,by repeat (first|exact Below.refl _ _|refine Below.setCell ?_ (by simp) _|refine Below.alloc ?_ (by simp) _)⟩
  |some f=>
   obtain⟨⟨b,sf,ev⟩,A,c⟩:=f
   have hl:=C4 h.map s hs hg
   clear h hg
   go_enter Tryz.func48,Tryz.ntmps48
   go_wp2_with fail
   refine Hg.out.mono ?_
   rintro e w1 ⟨rfl,rfl⟩
   go_wp2
   go_ret
   exact⟨rfl,by repeat (first|exact Below.refl _ _|refine Below.setCell ?_ (by simp) _|refine Below.alloc ?_ (by simp) _)⟩
def Ev (k:ae) (es:List (ae×FV)):Bool:=match aV k es with|some v=>v.m.whole|none=>false
theorem GP {w:World} {p mb cap:Nat} {es:List (ae×FV)} {fuse:Int} {lost:Bool} (h:bL w p mb es cap fuse lost) (s:ByteArray) (hs:s.size≤maxLen):
 Calls Tryz.prog 45 #[.pointer (some ⟨p,0,none⟩), .string s] w fun e w'=>e= .returned (.bool (Ev s.data.toList es))∧Below w.heap.size w w':=by
 have c1:=h.c1
 unfold Ev
 cases hg:aV s.data.toList es with
 |none=>
  have hl:=zc h.map s hs hg
  have Hw:=Lib.hid (kC none 0 0 0 false w)
  clear h hg
  go_enter Tryz.func45,Tryz.ntmps45
  go_wp2_with fail
  refine Hw.out.mono ?_
  rintro e w1 ⟨rfl,hb⟩
  go_wp2
  go_ret
  exact⟨rfl,hb⟩
 |some f=>
  obtain⟨⟨b,sf,ev⟩,A,c⟩:=f
  have hl:=ej h.map s hs hg
  have Hw:=Lib.hid (kC A b.length c sf ev w)
  clear h hg
  go_enter Tryz.func45,Tryz.ntmps45
  go_wp2_with fail
  refine Hw.out.mono ?_
  rintro e w1 ⟨rfl,hb⟩
  go_wp2
  go_ret
  exact⟨rfl,hb⟩
theorem E6 (n:Nat) (hn:n≤4194304) (w:World):Calls Tryz.prog 6 #[.int .i64 (n:Nat)] w fun e w'=>∃p mb,e= .returned (.tuple #[.pointer (some ⟨p,0,none⟩), .int .i64 0])∧bL w' p mb [] n (-1) false∧w.heap.size≤p∧w.heap.size≤mb∧Below w.heap.size w w':=by
 have hmm:=@run_makeMap Tryz.prog
 have h1:decide ((n:Int)<0)=false:=by simp
 have h2:decide ((n:Int)>4194304)=false:=by simp;omega
 go_enter Tryz.func6,Tryz.ntmps6
 go_wp2
 go_ret2
 refine⟨w.heap.size+1,w.heap.size,by simp,  ⟨?_, ?_,Aa,fun q hq=>by cases hq⟩,by omega,by omega,((Below.refl _ _).alloc (by simp) _).alloc (by simp) _⟩
 ·have hk:=aI.new (w.alloc (.map #[] 0)) 51 (iJ w.heap.size n (-1) false)
  rw[World.size_alloc] at hk
  exact hk
 ·exact(World.ownsMap_made w _ _ _).alloc _
theorem gY (k:ae) (es:List (ae×FV)):aV k (ci FV.m es)=(aV k es).map FV.m:=o5 FV.m k es
theorem bL.drop {w w':World} {p mb cap:Nat} {es:List (ae×FV)} {fuse:Int} {lost:Bool} (h:bL w p mb es cap fuse lost) (k:ae) {n:Nat} (hm:w'.ownsMap Tryz.prog 9 cZ mb n (dX cR (gO k es))) (ht:w.mapTurned w' mb):
 bL w' p mb (gO k es) cap fuse lost∧bb p mb w w':=by
 have hb:=(bb.refl p mb w).turned ht
 refine⟨h.turn hb ?_ hm (jO h.up k) fun q hq=> .inl (List.mem_filter.1 hq).1,hb⟩
 exact h.cells.grown ht.grown (fun e=>h.ne (by injection e))
theorem Fv {w:World} {p mb:Nat} {d:aN} (h:fT w p mb d) (s:ByteArray) (hs:s.size≤maxLen):
 Calls Tryz.prog 20 #[.pointer (some ⟨p,0,none⟩), .string s] w fun e w'=>e= .returned (.int .i64 (mP d s.data.toList).1)∧fT w' p mb (mP d s.data.toList).2∧bb p mb w w':=by
 obtain⟨cap,files,fuse,lost⟩:=d
 obtain⟨es,hf,h⟩:=h
 obtain rfl:files=ci FV.m es:=hf
 have Ht:=Lib.hid (jz h s hs)
 have H:=Lib.hid h
 unfold mP
 simp only[gY]
 cases lost with
 |true=>
  clear h
  go_enter Tryz.func20,Tryz.ntmps20
  go_wp2_with fail
  refine Ht.out.mono ?_
  rintro e w1 ⟨rfl,hb⟩
  go_wp2
  go_ret
  exact⟨rfl,⟨es,rfl,H.out.below hb⟩,bb.of_below hb⟩
 |false=>
  cases hg:aV s.data.toList es with
  |none=>
   rw[hg] at Ht
   clear h hg
   go_enter Tryz.func20,Tryz.ntmps20
   go_wp2_with fail
   refine Ht.out.mono ?_
   rintro e w1 ⟨rfl,hb⟩
   go_wp2
   go_ret
   exact⟨rfl,⟨es,rfl,H.out.below hb⟩,bb.of_below hb⟩
  |some f=>
   rw[hg] at Ht
   clear h hg
   go_enter Tryz.func20,Tryz.ntmps20
   go_wp2_with fail
   refine Ht.out.mono ?_
   rintro e w1 ⟨rfl,hb⟩
   have h1:=H.out.below hb
   have c1:=h1.c1
   obtain⟨w2,hrun,hm,ht⟩:=qY h1.map s hs 0
   obtain⟨hd,hb2⟩:=h1.drop s.data.toList hm ht
   have Hd:=Lib.hid hd
   have Hb:=Lib.hid ((bb.of_below hb).trans hb2)
   clear h1 hm ht hd hb2 hb
   go_wp2
   go_ret
   exact⟨rfl,⟨_,(o4 FV.m _ es).symm,Hd.out⟩,Hb.out⟩
theorem Cv {w:World} {p mb:Nat} {d:aN} (h:fT w p mb d) (hf:i7 d) (s:ByteArray) (hs:s.size≤maxLen):
 Calls Tryz.prog 67 #[.pointer (some ⟨p,0,none⟩), .string s] w fun e w'=>e= .returned (.int .i64 (bo d s.data.toList).1)∧fT w' p mb (bo d s.data.toList).2∧bb p mb w w':=by
 have hf0:=hf.fuse0
 have hf1:=hf.fuse1
 clear hf
 obtain⟨cap,files,fuse,lost⟩:=d
 obtain⟨es,hf,h⟩:=h
 obtain rfl:files=ci FV.m es:=hf
 have Ht:=Lib.hid (jz h s hs)
 have H:=Lib.hid h
 unfold bo
 simp only[gY] at hf0 hf1 ⊢
 cases lost with
 |true=>
  clear h
  go_enter Tryz.func67,Tryz.ntmps67
  go_wp2_with fail
  refine Ht.out.mono ?_
  rintro e w1 ⟨rfl,hb⟩
  go_wp2
  go_ret
  exact⟨rfl,⟨es,rfl,H.out.below hb⟩,bb.of_below hb⟩
 |false=>
  cases hg:aV s.data.toList es with
  |none=>
   rw[hg] at Ht
   clear h hg
   go_enter Tryz.func67,Tryz.ntmps67
   go_wp2_with fail
   refine Ht.out.mono ?_
   rintro e w1 ⟨rfl,hb⟩
   go_wp2
   go_ret
   exact⟨rfl,⟨es,rfl,H.out.below hb⟩,bb.of_below hb⟩
  |some f=>
   rw[hg] at Ht
   clear h hg
   go_enter Tryz.func67,Tryz.ntmps67
   go_wp2_with fail
   refine Ht.out.mono ?_
   rintro e w1 ⟨rfl,hb⟩
   have HB:=Lib.hid hb
   have Hu:=Lib.hid (hU (H.out.below hb) hf0 hf1)
   clear hb
   go_wp2_with fail
   refine Hu.out.mono ?_
   rintro e w2 ⟨rfl,h2,hb2⟩
   have HB2:=Lib.hid ((bb.of_below HB.out).trans hb2)
   by_cases hz:fuse=0
   ·have H2:=Lib.hid h2
    have hd:decide (fuse=0)=true:=by simp[hz]
    rw[hd] at H2 ⊢
    clear h2 hb2 HB
    go_wp2
    go_ret
    subst hz
    exact⟨rfl,⟨es,rfl,H2.out⟩,HB2.out⟩
   ·have hd:decide (fuse=0)=false:=by simp[hz]
    have c1:=h2.c1
    obtain⟨w3,hrun,hm,ht⟩:=qY h2.map s hs 0
    obtain⟨hdr,hb3⟩:=h2.drop s.data.toList hm ht
    have Hd:=Lib.hid hdr
    have Hb:=Lib.hid (HB2.out.trans hb3)
    rw[hd] at Hd ⊢
    clear h2 hb2 HB hm ht hdr hb3
    go_wp2
    go_ret
    exact⟨rfl,⟨_,(o4 FV.m _ es).symm,by show bL _ _ _ _ _ _ (decide (fuse=0));rw[hd];exact Hd.out⟩,Hb.out⟩
theorem bL.store {w w1 w':World} {p mb cap cap0:Nat} {es:List (ae×FV)} {fuse fuse0:Int} {lost lost0:Bool} (h:bL w p mb es cap0 fuse0 lost0) (hw:bb p mb w w1) (hc:aI w1 p 51 (iJ mb cap fuse lost)) (k:ae) (v:FV) {n:Nat} (hm:w'.ownsMap Tryz.prog 9 cZ mb n (dX cR (bN k v es))) (ht:w1.mapTurned w' mb)
 (hv:aE w' w'.heap.size 1 v.a v.m.b.length (ar v.m.b)∧v.m.b.length≤v.c):
 bL w' p mb (bN k v es) cap fuse lost∧bb p mb w w':=by
 have hb:=hw.turned ht
 refine⟨h.turn hb ?_ hm (bp h.up) fun q hq=> ?_,hb⟩
 ·exact hc.grown ht.grown (fun e=>h.ne (by injection e))
 ·rcases lK hq with rfl|hq
  ·exact .inr hv
  ·exact .inl hq
theorem gk {w:World} {mb n:Nat} {es:List (ae×FV)} (h:w.ownsMap Tryz.prog 9 cZ mb n (dX cR es)) (hup:Up es) (hn:n<maxLen) (s:ByteArray) (hs:s.size≤maxLen) (b:List UInt8) (sf:Nat) (ev:Bool) (A:Option Addr) (c:Nat):
 ∃w',(Instr.mapUpdate 49 (.map (some mb)) (.string s) (.agg #[.slice A b.length c, .int .i64 (sf:Nat), .bool ev])).run Tryz.prog w= .ok () w'∧w'.ownsMap Tryz.prog 9 cZ mb (n+1) (dX cR (bN s.data.toList ⟨⟨b,sf,ev⟩,A,c⟩ es))∧w.mapTurned w' mb:=
 DK h hup hn s hs ⟨⟨b,sf,ev⟩,A,c⟩
theorem GY {w:World} {p mb:Nat} {d:aN} (h:fT w p mb d) (hf:i7 d) (hN:d.files.length<1000000) (s:ByteArray) (hs:s.size≤maxLen):
 Calls Tryz.prog 46 #[.pointer (some ⟨p,0,none⟩), .string s] w fun e w'=>e= .returned (.int .i64 (fg d s.data.toList).1)∧fT w' p mb (fg d s.data.toList).2∧bb p mb w w':=by
 have hf0:=hf.fuse0
 have hf1:=hf.fuse1
 clear hf
 obtain⟨cap,files,fuse,lost⟩:=d
 obtain⟨es,hf,h⟩:=h
 obtain rfl:files=ci FV.m es:=hf
 have hN':es.length<1000000:=by simpa[ci] using hN
 clear hN
 have Ht:=Lib.hid (jz h s hs)
 have H:=Lib.hid h
 unfold fg
 simp only[gY] at hf0 hf1 ⊢
 cases lost with
 |true=>
  clear h
  go_enter Tryz.func46,Tryz.ntmps46
  go_wp2_with fail
  refine Ht.out.mono ?_
  rintro e w1 ⟨rfl,hb⟩
  go_wp2
  go_ret
  exact⟨rfl,⟨es,rfl,H.out.below hb⟩,bb.of_below hb⟩
 |false=>
  cases hg:aV s.data.toList es with
  |none=>
   rw[hg] at Ht
   clear h hg
   go_enter Tryz.func46,Tryz.ntmps46
   go_wp2_with fail
   refine Ht.out.mono ?_
   rintro e w1 ⟨rfl,hb⟩
   go_wp2
   go_ret
   exact⟨rfl,⟨es,rfl,H.out.below hb⟩,bb.of_below hb⟩
  |some f=>
   obtain⟨⟨b,sf,ev⟩,A,c⟩:=f
   rw[hg] at Ht
   have Hg:=Lib.hid hg
   clear h hg
   go_enter Tryz.func46,Tryz.ntmps46
   go_wp2_with fail
   refine Ht.out.mono ?_
   rintro e w1 ⟨rfl,hb⟩
   have HB:=Lib.hid hb
   have Hu:=Lib.hid (hU (H.out.below hb) hf0 hf1)
   clear hb
   go_wp2_with fail
   refine Hu.out.mono ?_
   rintro e w2 ⟨rfl,h2,hb2⟩
   have HB2:=Lib.hid ((bb.of_below HB.out).trans hb2)
   by_cases hz:fuse=0
   ·have H2:=Lib.hid h2
    have hd:decide (fuse=0)=true:=by simp[hz]
    rw[hd] at H2 ⊢
    clear h2 hb2 HB
    go_wp2
    go_ret
    subst hz
    exact⟨rfl,⟨es,rfl,H2.out⟩,HB2.out⟩
   ·have hd:decide (fuse=0)=false:=by simp[hz]
    have c1:=h2.c1
    have H2:=Lib.hid h2
    have hl:=ej h2.map s hs Hg.out
    rw[hd] at H2 ⊢
    clear h2 hb2 HB
    obtain⟨w3,hrun,hm,ht⟩:=gk (((H2.out.map.alloc (.cells #[.slice A b.length c, .int .i64 (b.length:Nat), .bool true] 56)).drew)) H2.out.up (by unfold maxLen;omega) s hs b b.length true A c
    have c1':=Lib.cell?_alloc_some (.cells #[.slice A b.length c, .int .i64 (b.length:Nat), .bool true] 56) c1
    have hb3:bb p mb w2 (w2.alloc (.cells #[.slice A b.length c, .int .i64 (b.length:Nat), .bool true] 56)).drew:=((bb.refl _ _ _).alloc _).drew
    have hk:=H2.out.bytes _ (gB Hg.out)
    obtain⟨hst,hbt⟩:=H2.out.store hb3 ((H2.out.cells.alloc _).drew) s.data.toList ⟨⟨b,b.length,true⟩,A,c⟩ hm ht ⟨H2.out.reads_but (hb3.turned ht) hk.1,hk.2⟩
    have HS:=Lib.hid hst
    have HT:=Lib.hid (HB2.out.trans hbt)
    clear hm ht hst hbt hb3 hk
    go_wp2
    go_region
    go_wp2
    go_ret
    exact⟨rfl,⟨_,(gc FV.m _ ⟨⟨b,b.length,true⟩,A,c⟩ es).symm,by show bL _ _ _ _ _ _ (decide (fuse=0));rw[hd];exact HS.out⟩,HT.out⟩
theorem oQ {w:World} {ops:Array Oper} {rest:List Oper} {o:Oper} {a:Act} {Q:Exit→Act→World→Prop} (hg:o.guard=none) (it:Operand) (hop:o.op=Op.next it false) (mb r n:Nat) (es:List (ae×FV)) (left:Lit→Bool) (cnt:Nat)
 (hit:a.eval it= .pointer (some ⟨r,0,none⟩)) (h:w.ranges Tryz.prog 9 cZ mb r n (dX cR es) left cnt)
 (hDone:cnt=0→(∀kl,left kl=false)→wpList Tryz.prog ops Q rest (a.put o.dst (.tuple #[.bool false])) w)
 (hMore:∀(x:ae) (v:FV) (w':World) (cnt':Nat),x.length≤maxLen→left (.string x)=true→aV x es=some v→w'.ranges Tryz.prog 9 cZ mb r n (dX cR es) (fun z=>left z&& !z.sameKey (.string x)) cnt'→cnt'<cnt→
  w.grownBy w' (some r)→w'.heap.size=w.heap.size→(Instr.entry (.pointer (some ⟨r,0,none⟩))).run Tryz.prog w'= .ok (.tuple #[.string ⟨x.toArray⟩, .agg #[.slice v.a v.m.b.length v.c, .int .i64 (v.m.safe:Nat), .bool v.m.ever]]) w'→
  wpList Tryz.prog ops Q rest (a.put o.dst (.tuple #[.bool true, .string ⟨x.toArray⟩, .agg #[.slice v.a v.m.b.length v.c, .int .i64 (v.m.safe:Nat), .bool v.m.ever]])) w'):
 wpList Tryz.prog ops Q (o::rest) a w:=by
 refine wpList_next_ranges w hg it hop 9 gm cZ encStr id (fun key kl hk=> ?_) (fun v y _=>⟨v,rfl⟩) mb r n _ left cnt hit h hDone ?_
 ·obtain⟨x,hx,_⟩:=Maps.keyOf_str Tryz.underlying9 hk
  exact⟨x,hx⟩
 ·intro x v kl y w' cnt' hkey hlk hv hat hrg hlt hgr hsz hen
  obtain⟨x',ex,rfl,hxl⟩:=Maps.keyOf_str Tryz.underlying9 hkey
  obtain rfl:x=x':=encStr_inj ex
  obtain⟨yd,yp⟩:=y
  have hv':v=v∧yd= .held v:=by
   simp only[cZ,id] at hv
   injection hv with hv
   injection hv with h1 h2
   exact⟨rfl,h1.symm⟩
  have h1:=hat .nil
  rw[uU] at h1
  cases hg:aV x es with
  |none=>rw[hg] at h1;rw[hv'.2] at h1;cases h1
  |some fv=>
   rw[hg] at h1
   have e:v=FV.val fv:=by rw[hv'.2] at h1;injection h1 with h1;exact h1.symm
   subst e
   exact hMore x fv w' cnt' hxl hlk hg hrg hlt hgr hsz hen
def fS (left:Lit→Bool):List (ae×FV)→Nat
 |[]=>0
 |q::r=>(if left (.string q.1)=true then 0 else q.2.m.b.length)+fS left r
theorem pr :∀{es all:List (ae×FV)},(∀q∈es,q∈all)→fS (Maps.has (dX cR all)) es=0
 |[],_,_=>rfl
 |q::r,all,h=>by
  have h1:Maps.has (dX cR all) (.string q.1)=true:=by
   rw[vy]
   cases hg:aV q.1 all with
   |some v=>rfl
   |none=>
    exfalso
    have hq:=h q List.mem_cons_self
    clear h
    induction all with
    |nil=>cases hq
    |cons z t ih=>
     rw[gW] at hg
     split at hg
     ·cases hg
     ·rename_i hne
      rcases List.mem_cons.1 hq with e|hq
      ·subst e;exact hne rfl
      ·exact ih hg hq
  show(if Maps.has (dX cR all) (.string q.1)=true then 0 else q.2.m.b.length)+fS _ r=0
  rw[if_pos h1,pr (fun z hz=>h z (List.mem_cons_of_mem _ hz))]
theorem uA {left:Lit→Bool} (h:∀kl,left kl=false):∀es:List (ae×FV),fS left es=used (ci FV.m es)
 |[]=>rfl
 |q::r=>by
  show(if left (.string q.1)=true then 0 else q.2.m.b.length)+fS left r=q.2.m.b.length+used (ci FV.m r)
  rw[h,if_neg (by simp),uA h r]
theorem yc (left:Lit→Bool):∀es:List (ae×FV),fS left es≤used (ci FV.m es)
 |[]=>Nat.le_refl _
 |q::r=>by
  show(if left (.string q.1)=true then 0 else q.2.m.b.length)+fS left r≤q.2.m.b.length+used (ci FV.m r)
  have:=yc left r
  split<;>omega
theorem uB {left:Lit→Bool} {x:ae}:∀{es:List (ae×FV)},(∀q∈es,q.1≠x)→fS (fun z=>left z&& !z.sameKey (.string x)) es=fS left es
 |[],_=>rfl
 |q::r,h=>by
  have h1:(left (.string q.1)&& !(Lit.string q.1).sameKey (.string x))=left (.string q.1):=by
   rw[fH];simp[h q List.mem_cons_self]
  show(if(left (.string q.1)&& !(Lit.string q.1).sameKey (.string x))=true then 0 else q.2.m.b.length)+fS _ r=(if left (.string q.1)=true then 0 else q.2.m.b.length)+fS left r
  rw[h1,uB (fun z hz=>h z (List.mem_cons_of_mem _ hz))]
theorem rq {left:Lit→Bool} {x:ae} {v:FV}:∀{es:List (ae×FV)},Up es→aV x es=some v→left (.string x)=true→fS (fun z=>left z&& !z.sameKey (.string x)) es=fS left es+v.m.b.length
 |q::r,hup,hg,hl=>by
  obtain⟨h1,h2⟩:=hJ.1 hup
  obtain⟨y,u⟩:=q
  rw[gW] at hg
  show(if(left (.string y)&& !(Lit.string y).sameKey (.string x))=true then 0 else u.m.b.length)+fS _ r=(if left (.string y)=true then 0 else u.m.b.length)+fS left r+v.m.b.length
  rw[fH]
  by_cases e:y=x
  ·rw[if_pos e] at hg
   injection hg with hg
   subst e hg
   rw[uB (fun z hz e=>jd (h1 z hz) e.symm)]
   simp[hl];omega
  ·rw[if_neg e] at hg
   rw[rq h2 hg hl]
   simp[e];omega
theorem B4 {w:World} {p mb:Nat} {d:aN} (h:fT w p mb d) (hf:i7 d):
 Calls Tryz.prog 18 #[.pointer (some ⟨p,0,none⟩)] w fun e w'=>e= .returned (.int .i64 (d.room:Nat))∧Below w.heap.size w w':=by
 obtain⟨cap,files,fuse,lost⟩:=d
 obtain⟨es,hfi,h⟩:=h
 obtain rfl:files=ci FV.m es:=hfi
 have hr:used (ci FV.m es)≤cap:=hf.room
 have hc:cap≤4194304:=hf.cap
 have hup:=h.up
 have c0:=h.c0
 have c1:=h.c1
 have hm:=h.map
 have H:=Lib.hid h
 have HU:=Lib.hid hup
 clear h hf hup
 unfold aN.room
 go_enter Tryz.func18,Tryz.ntmps18
 go_wp2_with (first|(at_range;refine wpList_range_own _ rfl _ 49 rfl 9 56 gm Tryz.underlying49 _ mb es.length (dX cR es) rfl hm ?_;intro w0 hrg0 hg0 hs0)|go_in)
 try go_frame
 have hb0:Below w.heap.size w w0:=(Below.refl _ _).grown hg0 (Nat.le_refl _) (fun k hk=>by cases hk)
 have HG:=Lib.hid hrg0
 have HB:=Lib.hid hb0
 clear hg0 hs0 hrg0 hb0
 go_loopw [3] (fun v wr=>∃(left:Lit→Bool) (cnt:Nat),v= .int .i64 ((cap - fS left es:Nat):Int)∧Hid (wr.ranges Tryz.prog 9 cZ mb w.heap.size es.length (dX cR es) left cnt)∧Hid (Below w.heap.size w wr)) (fun _ wr=>wr.rangeLeft mb w.heap.size)
 case atStart=>exact⟨_,_,by rw[pr (fun _ h=>h)];rfl,HG,HB⟩
 case round=>
  obtain⟨left,cnt,rfl,hrg,hb⟩:=hrel
  go_wp2_with (first|(at_next;refine oQ rfl _ rfl mb w.heap.size es.length es _ _ rfl hrg.out ?_ ?_)|go_in)
  ·intro _ hl0
   have e:=uA hl0 es
   rw[e]
   have HB1:=Lib.hid hb
   clear e hl0
   go_wp2
   go_ret
   exact⟨rfl,hb.out⟩
  ·intro x ⟨⟨b,sf,ev⟩,A,c⟩ w1 cnt1 hxl hlx hget hrg1 hlt hg1 hs1 hen
   have hst:=rq HU.out hget hlx
   have hle:=yc (fun z=>left z&& !z.sameKey (.string x)) es
   have hbl:=hb.out.size
   have hb1:=hb.out.grown hg1 hbl (fun k hk=>by cases hk;exact Nat.le_refl _)
   have HB1:=Lib.hid hb1
   have HR1:=Lib.hid hrg1
   have HL:=Lib.hid hlt
   have hn:(cap - fS left es:Nat)=(cap - fS left es:Nat):=rfl
   have hne:((cap - fS left es:Nat):Int) - (b.length:Nat)=((cap - fS (fun z=>left z&& !z.sameKey (.string x)) es:Nat):Int):=by simp only at hst;omega
   have hbd:(cap - fS left es:Nat)≤4194304:=by omega
   have hbd2:b.length≤4194304:=by simp only at hst;omega
   have HNE:=Lib.hid hne
   clear hst hle hb1 hrg1 hlt hg1 hs1 hne hlx hget hn
   generalize (cap - fS left es:Nat)=u at*
   go_wp2
   go_roundw
   case rel=>
    refine⟨_,cnt1,by rw[HNE.out],HR1.out.alloc _,HB1.out.alloc ?_ _⟩
    exact HB1.out.size
   case measure=>
    rw[(HR1.out.alloc _).left_eq,hrg.out.left_eq]
    exact HL.out
theorem uv (c:UInt8):(gK c=true∧((97≤(c.toNat:Int)∧(c.toNat:Int)≤122)∨(48≤(c.toNat:Int)∧(c.toNat:Int)≤57)∨(c.toNat:Int)=46))∨
 (gK c=false∧((c.toNat:Int)<46∨(c.toNat:Int)=47∨(58≤(c.toNat:Int)∧(c.toNat:Int)<97)∨122<(c.toNat:Int))):=by
 unfold gK
 by_cases h1:97≤c.toNat∧c.toNat≤122
 ·left;exact⟨by simp[h1], .inl (by omega)⟩
 ·by_cases h2:48≤c.toNat∧c.toNat≤57
  ·left;exact⟨by simp[h2], .inr (.inl (by omega))⟩
  ·by_cases h3:c.toNat=46
   ·left;exact⟨by simp[h3], .inr (.inr (by omega))⟩
   ·right
    refine⟨?_,by omega⟩
    have e1:(decide (97≤c.toNat)&&decide (c.toNat≤122))=false:=by simp;omega
    have e2:(decide (48≤c.toNat)&&decide (c.toNat≤57))=false:=by simp;omega
    rw[e1,e2];simp[h3]
theorem Cz (s:ByteArray) (k:Nat) (h:k<s.size) (hc:gK s[k]=false):right s.data.toList=false:=by
 unfold right
 have:s.data.toList.all gK=false:=by
  rw[List.all_eq_false]
  exact⟨s[k],by rw[show s[k]=s.data.toList[k]'(by simpa using h) from rfl];exact List.getElem_mem _,by simp[hc]⟩
 rw[this];rfl
theorem AF (s:ByteArray) (h:(s.data.toList.take s.size).all gK=true):right s.data.toList=(decide (1≤s.size)&&decide (s.size≤40)):=by
 have e:s.data.toList.length=s.size:=by simp
 rw[List.take_of_length_le (by omega)] at h
 unfold right
 rw[h,e];rfl
theorem mc (s:ByteArray) (hs:s.size≤1000000000) (w:World):Calls Tryz.prog 17 #[.string s] w fun e w'=>e= .returned (.bool (right s.data.toList))∧w'=w:=by
 go_enter Tryz.func17,Tryz.ntmps17
 go_wp2
 go_loop [7] (fun i=>∃k:Nat,i= .int .i64 k∧k≤s.size∧Hid ((s.data.toList.take k).all gK=true)) (fun i=>s.size - (intOf i).toNat)
 case atStart=>exact⟨0,rfl,by omega,rfl⟩
 case round=>
  obtain⟨k,rfl,hk,hall⟩:=hrel
  by_cases hlt:k<s.size
  ·rcases uv s[k] with⟨hc,hn⟩|⟨hc,hn⟩
   ·have Hc:=Lib.hid hc
    clear hc
    rcases hn with⟨hn,hn2⟩|⟨hn,hn2⟩|hn
    all_goals
     go_wp2
     all_goals
      go_round
      case rel=>
       refine⟨k+1,by go_num,by omega, ?_⟩
       have h1:=hall.out
       show(s.data.toList.take (k+1)).all gK=true
       rw[tw s k hlt];simp only[List.all_append,h1,Bool.true_and,List.all_cons,List.all_nil,Bool.and_true];exact Hc.out
      case measure=>simp[intOf]<;>omega
   ·have Hv:=Lib.hid (Cz s k hlt hc)
    clear hc
    have hm1:((s[k].toNat:Int)==46)=false:=by simp;omega
    have hm2:((s[k].toNat:Int) !=46)=true:=by simp;omega
    rcases hn with hn|hn|⟨hn,hn2⟩|hn
    all_goals
     go_wp2
     all_goals
      go_ret
      exact⟨by rw[Hv.out];rfl,rfl⟩
  ·obtain rfl:k=s.size:=by omega
   have Hv:=Lib.hid (AF s hall.out)
   by_cases h1:1≤s.size
   ·by_cases h2:s.size≤40
    ·go_wp2
     go_ret
     exact⟨by rw[Hv.out];simp[h1,h2]<;>omega,rfl⟩
    ·go_wp2
     go_ret
     exact⟨by rw[Hv.out];simp[h1,h2]<;>omega,rfl⟩
   ·go_wp2
    go_ret
    exact⟨by rw[Hv.out];simp[h1],rfl⟩
theorem gA (A:Option Addr) (n c:Nat) (l:List UInt8) (w:World) (hl:l.length=n) (hn:n≤1000000000) (hr:aE w w.heap.size 1 A n (ar l)):
 Calls Tryz.prog 19 #[.slice A n c] w fun e w'=>∃A' c',e= .returned (.slice A' n c')∧aE w' w'.heap.size 1 A' n (ar l)∧n≤c'∧Below w.heap.size w w':=by
 cases A with
 |none=>
  have h0:n=0:=by
   rcases Nat.eq_zero_or_pos n with h|h
   ·exact h
   ·obtain⟨ad,h,_⟩:=hr.2 h;cases h
  subst h0
  refine(Tryz.bytes_Clone_nil 0 c w).mono ?_
  rintro e w' ⟨rfl,rfl⟩
  exact⟨none,0,rfl,hr,Nat.le_refl _,Below.refl _ _⟩
 |some a=>
  have hx:∀i,i<n→w.cell? (a.add i)=some (.int .u8 ((l.map fun b=>((b.toNat:Nat):Int)).getD i 0)):=by
   intro i hi
   obtain⟨ad,e,_,hc⟩:=hr.2 (by omega)
   injection e with e
   subst e
   have hil:i<l.length:=by omega
   refine hc i _ ?_
   rw[dp,List.getElem?_eq_getElem hil]
   simp[List.getD,hil]
  refine(Tryz.bytes_Clone_at a n c (l.map fun b=>((b.toNat:Nat):Int)) w (by simpa using hl) (by omega) hx).mono ?_
  rintro e w' ⟨v,rfl,ho,_,hb⟩
  obtain⟨A',c',rfl,h1,h2⟩:=cQ ho
  refine⟨A',c',rfl, ?_,h2,hb⟩
  rw[List.map_map] at h1
  exact h1
theorem EI (n:Nat) (hn:n≤1000000000) (w:World):Calls Tryz.prog 123 #[.slice none 0 0, .int .i64 (n:Nat)] w fun e w'=>∃v,e= .returned v∧w'.ownsRow w.heap.size 5 1 v 0 []∧Below w.heap.size w w':=by
 obtain⟨i0,hi0,hz0,hz1,hz2⟩:=eK mG
 rcases Nat.eq_zero_or_pos n with h|h
 ·subst h
  refine(Any8.slices_Grow_room Tryz.grow123 none 0 0 0 w (Nat.le_refl _) (by omega) (by omega) (Nat.le_refl _)).mono ?_
  rintro e w' ⟨rfl,rfl⟩
  exact⟨_,rfl,World.ownsRow_nil _ _ _ _,Below.refl _ _⟩
 ·refine(Any8.slices_Grow_grow Tryz.grow123 i0 (.int .u8 0) hi0 hz0 (by omega) none 0 0 n [] w (Nat.le_refl _) (by omega) (by rw[hz2];omega) (by omega) (by simp) (fun _=>rfl) (fun a ha=>by cases ha)).mono ?_
  rintro e w' ⟨rfl,rfl⟩
  rw[show Tryz.grow123_ren.t 25=5 from rfl]
  have hle:=grownCap_le_maxLen w (0+n) 0 5 (by unfold maxLen;omega)
  have hge:=grownCap_ge w (0+n) 0 5
  refine⟨_,rfl, ?_,(Below.refl _ _).drew.alloc (Nat.le_refl _) _⟩
  refine World.ownsRow_made w.drew _ _ (Nat.le_refl _) hle ?_
  show(([].toArray++Builtin.zeroCells (Value.int IntKind.u8 0).cells (0+n - 0))++Builtin.zeroCells (Value.int IntKind.u8 0).cells (grownCap w (0+n) 0 5 - (0+n))).size=_
  simp only[Array.size_append,size_zeroCells]
  simp only[Value.cells,List.size_toArray,List.length_nil,List.length_cons]
  omega
theorem qR (g:Nat) (A1 A2:Option Addr) (c1 c2:Nat) (l1 l2:List UInt8) (h1:l1.length≤100000000) (h2:l2.length≤100000000) (w:World) (hg:aI w g 22 #[.slice A1 l1.length c1, .slice A2 l2.length c2])
 (r1:aE w w.heap.size 1 A1 l1.length (ar l1)) (r2:aE w w.heap.size 1 A2 l2.length (ar l2)):
 Calls Tryz.prog 104 #[.slice (some ⟨g,0,none⟩) 2 2] w fun e w'=>∃A c,e= .returned (.slice A (l1++l2).length c)∧aE w' w'.heap.size 1 A (l1++l2).length (ar (l1++l2))∧(l1++l2).length≤c∧Below w.heap.size w w':=by
 obtain⟨i0,hi0,hz0,hz1,hz2⟩:=eK mG
 have k0:w.cell? ⟨g,0,none⟩=some (.slice A1 l1.length c1):=by rw[hg.cell];rfl
 have k1:w.cell? ⟨g,1,none⟩=some (.slice A2 l2.length c2):=by rw[hg.cell];rfl
 have HG:=Lib.hid hg
 have R1:=Lib.hid r1
 have R2:=Lib.hid r2
 have HW:=Lib.hid (EI (l1.length+l2.length) (by omega) w)
 rw[Int.natCast_add] at HW
 rw[List.length_append]
 have hll:(l1++l2).length=l1.length+l2.length:=List.length_append
 have HLL:=Lib.hid hll
 clear hg r1 r2 hll
 generalize l1.length=n1 at*
 generalize l2.length=n2 at*
 go_enter Tryz.func104,Tryz.ntmps104
 go_wp2
 refine wp_loop_rounds 3 ?_
 rw[rounds_succ]
 go_wp2
 rw[rounds_succ]
 go_wp2
 rw[rounds_succ]
 go_wp2_with fail
 refine HW.out.mono ?_
 rintro e w1 ⟨v,rfl,ho,hb⟩
 have hs1:=hb.size
 have HB:=Lib.hid hb
 have k0':w1.cell? ⟨g,0,none⟩=some (.slice A1 n1 c1):=(hb.cell HG.out.lt).trans k0
 have k1':w1.cell? ⟨g,1,none⟩=some (.slice A2 n2 c2):=(hb.cell HG.out.lt).trans k1
 clear hb k0 k1
 go_wp2
 refine wp_loop_rounds 3 ?_
 rw[rounds_succ]
 go_wp2_with (first|(at_builtin;refine jQ _ rfl _ _ 22 rfl w.heap.size 5 i0 _ 1 1 Tryz.underlying22 hi0 hz0 hz1 hz2 rfl (by omega) _ _ _ rfl ho A1 n1 c1 (ar l1) rfl (n8.of_reads (R1.out.below HB.out) (qD l1)) ?c1 ?c2 hs1 ?_))
 case c1=>unfold maxLen;omega
 case c2=>omega
 intro v2 w2 ho2 hg2
 have hb2:=HB.out.grown hg2 hs1 (fun k hk=>(ho.lt k hk).1)
 have HB2:=Lib.hid hb2
 have hs2:=hb2.size
 have k1'':w2.cell? ⟨g,1,none⟩=some (.slice A2 n2 c2):=(hb2.cell HG.out.lt).trans ((HB.out.cell HG.out.lt).symm.trans k1')
 clear hb2 hg2 ho k0' k1'
 go_wp2
 rw[rounds_succ]
 go_wp2_with (first|(at_builtin;refine jQ _ rfl _ _ 22 rfl w.heap.size 5 i0 _ 1 1 Tryz.underlying22 hi0 hz0 hz1 hz2 rfl (by omega) _ _ _ rfl ho2 A2 n2 c2 (ar l2) rfl (n8.of_reads (R2.out.below HB2.out) (qD l2)) ?c1 ?c2 hs2 ?_))
 case c1=>unfold maxLen;omega
 case c2=>omega
 intro v3 w3 ho3 hg3
 have hb3:=HB2.out.grown hg3 hs2 (fun k hk=>(ho2.lt k hk).1)
 have HB3:=Lib.hid hb3
 clear hb3 hg3 ho2 k1''
 have HO:=Lib.hid ho3
 clear ho3
 go_wp2
 rw[rounds_succ]
 go_wp2
 go_ret
 have ho3:=HO.out
 rw[←my] at ho3
 obtain⟨A,c,rfl,hr,hc⟩:=cQ ho3
 exact⟨A,c,rfl,hr,hc,HB3.out⟩
theorem o6 (A:Option Addr) (n c:Nat) (s:Int) (ev:Bool) (w:World):(Instr.field 56 (.agg #[.slice A n c, .int .i64 s, .bool ev]) 0).run Tryz.prog w= .ok (.slice A n c) w:=by kernel_rfl
def nW :FV:=⟨aa.none_,none,0⟩
theorem nv {w:World} {mb n:Nat} {es:List (ae×FV)} (h:w.ownsMap Tryz.prog 9 cZ mb n (dX cR es)) (s:ByteArray) (hs:s.size≤maxLen) (fv:FV) (has:Bool) (hv:(aV s.data.toList es).getD nW=fv) (hb:(aV s.data.toList es).isSome=has):
 (Instr.lookup 49 (.map (some mb)) (.string s) true).run Tryz.prog w= .ok (.tuple #[.agg #[.slice fv.a fv.m.b.length fv.c, .int .i64 (fv.m.safe:Nat), .bool fv.m.ever], .bool has]) w:=by
 rw[qw h s hs,hb,←hv]
 cases aV s.data.toList es<;>rfl
theorem C2 {w:World} {mb n:Nat} {es:List (ae×FV)} (h:w.ownsMap Tryz.prog 9 cZ mb n (dX cR es)) (s:ByteArray) (hs:s.size≤maxLen) (fv:FV) (hv:(aV s.data.toList es).getD nW=fv):
 (Instr.lookup 49 (.map (some mb)) (.string s) false).run Tryz.prog w= .ok (.agg #[.slice fv.a fv.m.b.length fv.c, .int .i64 (fv.m.safe:Nat), .bool fv.m.ever]) w:=by
 rw[oe h s hs,←hv]
 cases aV s.data.toList es<;>rfl
theorem bL.get_reads {w:World} {p mb cap:Nat} {es:List (ae×FV)} {fuse:Int} {lost:Bool} (h:bL w p mb es cap fuse lost) {k:ae} {fv:FV} (hv:(aV k es).getD nW=fv):aE w w.heap.size 1 fv.a fv.m.b.length (ar fv.m.b)∧fv.m.b.length≤fv.c:=by
 cases hg:aV k es with
 |none=>rw[hg] at hv;subst hv;exact⟨aE.none_,Nat.le_refl _⟩
 |some f=>rw[hg] at hv;obtain rfl:f=fv:=hv;exact h.bytes _ (gB hg)
theorem aE.take {w:World} {B n:Nat} {A:Option Addr} {l:List UInt8} (h:aE w B 1 A n (ar l)) {k:Nat} (hk:k≤n):aE w B 1 A k (ar (l.take k)):=by
 refine⟨?_,fun hk0=> ?_⟩
 ·have:=h.1;rw[bg] at this;rw[bg,List.length_take];omega
 ·obtain⟨ad,e,hb,hc⟩:=h.2 (by omega)
  refine⟨ad,e,hb,fun j u hu=>hc j u ?_⟩
  rw[dp] at hu ⊢
  rw[←hu]
  rw[List.getElem?_take]
  split
  ·rfl
  ·rename_i hj
   rw[List.getElem?_take,if_neg hj] at hu
   cases hu
theorem o7 {w:World} {g n c:Nat} {A:Option Addr} {s:Int} {ev:Bool} {t:TypeId} (h:aI w g t #[.slice A n c, .int .i64 s, .bool ev]) {ad:Addr} {x:Int} (hc:w.cell? ad=some (.int .u8 x)):ad.block≠g:=by
 intro e
 unfold aI at h
 unfold World.cell? at hc
 rw[e,h] at hc
 simp only at hc
 split at hc
 ·cases hc
 ·rcases ho:ad.off with _|_|_|n<;>rw[ho] at hc<;>simp at hc
theorem oo {w:World} {B g n:Nat} {A:Option Addr} {l:List UInt8} (h:aE w B 1 A n (ar l)) (haw:∀(ad:Addr) (x:Int),w.cell? ad=some (.int .u8 x)→ad.block≠g) (i:Nat) (u:Value):aE (w.setCell ⟨g,i,none⟩ u) B 1 A n (ar l):=by
 refine⟨h.1,fun hn=> ?_⟩
 obtain⟨ad,rfl,hlt,hc⟩:=h.2 hn
 refine⟨ad,rfl,hlt,fun j v hj=> ?_⟩
 have h0:=hc j v hj
 have hv:∃x,v= .int .u8 x:=by
  rw[dp] at hj
  cases hl:l[j]? with
  |none=>rw[hl] at hj;cases hj
  |some b=>rw[hl] at hj;injection hj with hj;exact⟨_,hj.symm⟩
 obtain⟨x,rfl⟩:=hv
 have:=haw _ _ h0
 rw[←h0]
 exact World.cell?_of_block (Below.heap_setCell _ _ _ _ this)
theorem pR (g:Nat) (A1 A2:Option Addr) (c1 c2:Nat) (l1 l2:List UInt8) (k:Nat) (hk:l2.length=k) (h1:l1.length≤100000000) (h2:k≤100000000) (w:World) (hg:aI w g 22 #[.slice A1 l1.length c1, .slice A2 k c2])
 (r1:aE w w.heap.size 1 A1 l1.length (ar l1)) (r2:aE w w.heap.size 1 A2 k (ar l2)):
 Calls Tryz.prog 104 #[.slice (some ⟨g,0,none⟩) 2 2] w fun e w'=>∃A c,e= .returned (.slice A (l1++l2).length c)∧aE w' w'.heap.size 1 A (l1++l2).length (ar (l1++l2))∧(l1++l2).length≤c∧Below w.heap.size w w':=by
 subst hk
 exact qR g A1 A2 c1 c2 l1 l2 h1 h2 w hg r1 r2
theorem vT {w:World} {p mb:Nat} {d:aN} (h:fT w p mb d) (hf:i7 d) (hN:d.files.length<1000000) (s:ByteArray) (hsm:s.size≤maxLen) (A:Option Addr) (n c:Nat) (l:List UInt8) (hl:l.length=n) (hn:n≤10000000) (hnc:n≤c) (hr:aE w w.heap.size 1 A n (ar l))
 (hlo:d.lost=false) (hroom:¬d.room<n) (hg:Calls Tryz.prog 16 #[.pointer (some ⟨p,0,none⟩)] w fun e w'=>e= .returned (.int .i64 (if false=true then 6 else 0))∧w'=w)
 (hrt:Calls Tryz.prog 17 #[.string s] w fun e w'=>e= .returned (.bool true)∧w'=w)
 (hro:Calls Tryz.prog 18 #[.pointer (some ⟨p,0,none⟩)] w fun e w'=>e= .returned (.int .i64 (d.room:Nat))∧Below w.heap.size w w'):
 Calls Tryz.prog 68 #[.pointer (some ⟨p,0,none⟩), .string s, .slice A n c] w fun e w'=>
  e= .returned (.int .i64 (if d.fuse=0∧aV s.data.toList d.files=none∧(iK d l).length=0 then(6,d.burn) else(d.burn.gone,{d.burn with files:=bN s.data.toList {(aV s.data.toList d.files).getD aa.none_ with b:=((aV s.data.toList d.files).getD aa.none_).b++iK d l} d.files})).1)∧
  fT w' p mb (if d.fuse=0∧aV s.data.toList d.files=none∧(iK d l).length=0 then(6,d.burn) else(d.burn.gone,{d.burn with files:=bN s.data.toList {(aV s.data.toList d.files).getD aa.none_ with b:=((aV s.data.toList d.files).getD aa.none_).b++iK d l} d.files})).2∧bb p mb w w':=by
 have hf0:=hf.fuse0
 have hf1:=hf.fuse1
 have hrm:=hf.room
 have hcp:=hf.cap
 generalize hro':d.room=ro at*
 obtain⟨cap,files,fuse,lost⟩:=d
 obtain rfl:lost=false:=hlo
 obtain⟨es,hfi,h⟩:=h
 obtain rfl:files=ci FV.m es:=hfi
 have hN':es.length<1000000:=by simpa[ci] using hN
 obtain⟨fv,hv⟩:∃fv,(aV s.data.toList es).getD nW=fv:=⟨_,rfl⟩
 obtain⟨has,hb⟩:∃has,(aV s.data.toList es).isSome=has:=⟨_,rfl⟩
 have e1:(aV s.data.toList (ci FV.m es)).getD aa.none_=fv.m:=by rw[gY,←hv];cases aV s.data.toList es<;>rfl
 have e2:(aV s.data.toList (ci FV.m es)=none)↔has=false:=by rw[gY,←hb];cases aV s.data.toList es<;>simp
 have hfl:fv.m.b.length≤4194304:=by
  cases hq:aV s.data.toList es with
  |none=>rw[hq] at hv;subst hv;simp[nW,aa.none_]
  |some g=>rw[hq] at hv;obtain rfl:g=fv:=hv;have:=kB (k:=s.data.toList) (f:=g.m) (l:=ci FV.m es) (by rw[gY,hq];rfl);simp only at hrm hcp;omega
 simp only[e1,e2]
 have Hg:=Lib.hid hg
 have Hr:=Lib.hid hrt
 have Hro:=Lib.hid hro
 have HR:=Lib.hid hr
 have H:=Lib.hid h
 have HV:=Lib.hid hv
 have HB:=Lib.hid hb
 clear hf hrm hcp hro' hN hv hb e1 e2 hg hrt hro hr h
 simp only at hf0 hf1
 subst hl
 by_cases hz:fuse=0
 ·obtain⟨k,hk⟩:∃k,l.length/2=k:=⟨_,rfl⟩
  obtain⟨lk,hlk⟩:∃lk,l.take k=lk:=⟨_,rfl⟩
  have hlkl:lk.length=k:=by rw[←hlk,List.length_take];omega
  have hrk:Hid (aE w w.heap.size 1 A k (ar lk)):=by rw[←hlk];exact HR.out.take (by omega)
  have HLK:=Lib.hid hlkl
  have e3:iK ⟨cap,ci FV.m es,fuse,false⟩ l=lk:=by unfold iK;rw[if_pos hz,hk,hlk]
  have hkn:k≤l.length:=by omega
  have hki:((l.length:Nat):Int).tdiv 2=(k:Nat):=by rw[←hk];exact Int.ofNat_tdiv _ _
  rw[e3,hlkl]
  have hd:decide (fuse=0)=true:=by simp[hz]
  have HZ:=Lib.hid hz
  clear e3 hlkl hlk hz
  cases has with
  |true=>
   rw[if_neg (by simp)]
   go_enter Tryz.func68,Tryz.ntmps68
   go_wp2_with fail
   refine Hg.out.mono ?_
   rintro e w1 ⟨rfl,rfl⟩
   go_wp2_with fail
   refine Hr.out.mono ?_
   rintro e w1 ⟨rfl,rfl⟩
   go_wp2_with fail
   refine Hro.out.mono ?_
   rintro e w2 ⟨rfl,hb⟩
   have h2:=H.out.below hb
   have HB2:=Lib.hid hb
   have H2:=Lib.hid h2
   have c1:=h2.c1
   have hlk:=nv h2.map s hsm fv true HV.out HB.out
   clear h2 hb
   go_wp2_with fail
   have hA0:bb p mb w1 (w2.alloc (.cells #[.slice fv.a fv.m.b.length fv.c, .int .i64 (fv.m.safe:Nat), .bool fv.m.ever] 56)):=(bb.of_below HB2.out).alloc _
   have h2a:=H2.out.below ((Below.refl _ _).alloc (Nat.le_refl _) (.cells #[.slice fv.a fv.m.b.length fv.c, .int .i64 (fv.m.safe:Nat), .bool fv.m.ever] 56))
   have hF:=aI.new w2 56 #[.slice fv.a fv.m.b.length fv.c, .int .i64 (fv.m.safe:Nat), .bool fv.m.ever]
   have hpg:p≠w2.heap.size:=Nat.ne_of_lt H2.out.cells.lt
   have hmg:mb≠w2.heap.size:=Nat.ne_of_lt H2.out.map.lt
   have Hu:=Lib.hid (hU h2a hf0 hf1)
   have hwg:w1.heap.size≤w2.heap.size:=HB2.out.size
   refine Hu.out.mono ?_
   rintro e w3 ⟨rfl,h3,hb3⟩
   rw[hd] at h3 ⊢
   have hF3:aI w3 w2.heap.size 56 #[.slice fv.a fv.m.b.length fv.c, .int .i64 (fv.m.safe:Nat), .bool fv.m.ever]:=(hb3.block _ (by simp) (fun e=>hpg e.symm) (fun e=>hmg e.symm)).trans hF
   have hA1:=hA0.trans hb3
   generalize w2.heap.size=gf at*
   have H3:=Lib.hid h3
   have HF3:=Lib.hid hF3
   have HA1:=Lib.hid hA1
   have HPG:Hid (p≠gf):=hpg
   have HMG:Hid (mb≠gf):=hmg
   have x0:w3.cell? ⟨gf,0,none⟩=some (.slice fv.a fv.m.b.length fv.c):=by rw[hF3.cell];rfl
   have FR:=HR.out
   have HR3:Hid (aE w3 w3.heap.size 1 A k (ar lk)):=H.out.reads_but hA1 hrk.out
   have HV3:=Lib.hid (h3.get_reads HV.out)
   clear hF3 h3 hb3 hF h2a hA0 hA1 hlk c1 Hu hpg hmg FR
   go_wp2_with fail
   have Hcat:=Lib.hid (pR w3.heap.size fv.a A fv.c c fv.m.b lk k HLK.out (by omega) (by omega) (w3.alloc (.cells #[.slice fv.a fv.m.b.length fv.c, .slice A k c] 22)) (aI.new _ _ _) ((HV3.out.1.alloc (Nat.le_refl _) _).more (by simp)) ((HR3.out.alloc (Nat.le_refl _) _).more (by simp)))
   refine Hcat.out.mono ?_
   rintro e w4 ⟨A',c',rfl,hr4,hc4,hb4⟩
   obtain⟨nl,hnl⟩:∃nl,(fv.m.b++lk).length=nl:=⟨_,rfl⟩
   have hnl2:nl=fv.m.b.length+k:=by rw[←hnl,List.length_append,HLK.out]
   rw[hnl] at hr4 hc4 ⊢
   have hb4':Below w3.heap.size w3 w4:=((Below.refl _ _).alloc (Nat.le_refl _) _).trans (hb4.mono (by simp))
   have hF4:=HF3.out.below hb4' HF3.out.lt
   have hA4:=HA1.out.below hb4'
   have h4:=H3.out.below hb4'
   have y0:(w4.cell? ⟨gf,0,none⟩).isSome=true:=by rw[hF4.cell];rfl
   have x0':w4.cell? ⟨gf,0,none⟩=some (.slice fv.a fv.m.b.length fv.c):=by rw[hF4.cell];rfl
   have f0:=hF4.frozen 0
   obtain⟨w5,hw5⟩:∃w5,w5=w4.setCell ⟨gf,0,none⟩ (.slice A' nl c'):=⟨_,rfl⟩
   have hA5:bb p mb w1 w5:=by rw[hw5];exact hA4.setNew hwg _
   have hF5:aI w5 gf 56 #[.slice A' nl c', .int .i64 (fv.m.safe:Nat), .bool fv.m.ever]:=by rw[hw5];exact hF4.set_ 0 _
   have h5c:aI w5 p 51 (iJ mb cap (if 0<fuse then fuse - 1 else fuse) true):=by rw[hw5];exact h4.cells.far HPG.out _
   have h5m:w5.ownsMap Tryz.prog 9 cZ mb es.length (dX cR es):=by rw[hw5];exact h4.map.setCell HMG.out _
   have hr5:aE w5 w5.heap.size 1 A' nl (ar (fv.m.b++lk)):=by
    have:=oo hr4 (fun ad x hc=>o7 hF4 hc) 0 (.slice A' nl c')
    rw[←hw5] at this
    exact this.more (by rw[hw5];simp[World.setCell])
   have h5:=H.out.turn hA5 h5c h5m H.out.up (fun q hq=> .inl hq)
   obtain⟨w6,hrun,hm6,ht6⟩:=gk (w:=w5.drew) h5m.drew H.out.up (by unfold maxLen;omega) s hsm (fv.m.b++lk) fv.m.safe fv.m.ever A' c'
   rw[hnl] at hrun
   obtain⟨h6,hA6⟩:=H.out.store hA5.drew h5c.drew s.data.toList ⟨⟨fv.m.b++lk,fv.m.safe,fv.m.ever⟩,A',c'⟩ hm6 ht6 ⟨by rw[hnl];exact h5.reads_but (((bb.refl _ _ _).drew).turned ht6) hr5,by rw[hnl];exact hc4⟩
   have z0:w5.cell? ⟨gf,0,none⟩=some (.slice A' nl c'):=by rw[hF5.cell];rfl
   have z1:w5.cell? ⟨gf,1,none⟩=some (.int .i64 (fv.m.safe:Nat)):=by rw[hF5.cell];rfl
   have z2:w5.cell? ⟨gf,2,none⟩=some (.bool fv.m.ever):=by rw[hF5.cell];rfl
   have z3:w5.cell? ⟨p,1,none⟩=some (.map (some mb)):=h5.c1
   have Hgo:=Lib.hid (kI p _ w6 h6.c3)
   have H6:=Lib.hid h6
   have HA6:=Lib.hid hA6
   have HW5:=Lib.hid hw5
   have HNL:=Lib.hid hnl
   clear h6 hA6 hm6 ht6 h5 h5m h5c hF5 hA5 hr5 hr4 hc4 hb4 hb4' hF4 hA4 h4 y0 hw5 hnl hnl2
   go_upto_region 15 with(first|fail)
   rw[←HW5.out]
   go_region
   go_wp2_with fail
   refine Hgo.out.mono ?_
   rintro e w7 ⟨rfl,rfl⟩
   go_wp2
   go_ret
   refine⟨?_,⟨bN s.data.toList ⟨⟨fv.m.b++lk,fv.m.safe,fv.m.ever⟩,A',c'⟩ es, ?_, ?_⟩,HA6.out⟩
   ·show _=Ending.returned (.int .i64 (if(decide (fuse=0))=true then 6 else 0))
    rw[hd]
    rfl
   ·show _=ci FV.m (bN _ ⟨⟨fv.m.b++lk,fv.m.safe,fv.m.ever⟩,A',c'⟩ es)
    rw[gc]
   ·show bL _ _ _ _ _ _ (decide (fuse=0))
    rw[hd]
    exact H6.out
  |false=>
   by_cases hk0:k=0
   ·rw[if_pos ⟨HZ.out,rfl,hk0⟩]
    have hk1:((k:Nat):Int)=0:=by omega
    go_enter Tryz.func68,Tryz.ntmps68
    go_wp2_with fail
    refine Hg.out.mono ?_
    rintro e w1 ⟨rfl,rfl⟩
    go_wp2_with fail
    refine Hr.out.mono ?_
    rintro e w1 ⟨rfl,rfl⟩
    go_wp2_with fail
    refine Hro.out.mono ?_
    rintro e w2 ⟨rfl,hb⟩
    have h2:=H.out.below hb
    have HB2:=Lib.hid hb
    have H2:=Lib.hid h2
    have c1:=h2.c1
    have hlk:=nv h2.map s hsm fv false HV.out HB.out
    clear h2 hb
    go_wp2_with fail
    have hA0:bb p mb w1 (w2.alloc (.cells #[.slice fv.a fv.m.b.length fv.c, .int .i64 (fv.m.safe:Nat), .bool fv.m.ever] 56)):=(bb.of_below HB2.out).alloc _
    have h2a:=H2.out.below ((Below.refl _ _).alloc (Nat.le_refl _) (.cells #[.slice fv.a fv.m.b.length fv.c, .int .i64 (fv.m.safe:Nat), .bool fv.m.ever] 56))
    have hF:=aI.new w2 56 #[.slice fv.a fv.m.b.length fv.c, .int .i64 (fv.m.safe:Nat), .bool fv.m.ever]
    have hpg:p≠w2.heap.size:=Nat.ne_of_lt H2.out.cells.lt
    have hmg:mb≠w2.heap.size:=Nat.ne_of_lt H2.out.map.lt
    have Hu:=Lib.hid (hU h2a hf0 hf1)
    have hwg:w1.heap.size≤w2.heap.size:=HB2.out.size
    refine Hu.out.mono ?_
    rintro e w3 ⟨rfl,h3,hb3⟩
    rw[hd] at h3 ⊢
    have hF3:aI w3 w2.heap.size 56 #[.slice fv.a fv.m.b.length fv.c, .int .i64 (fv.m.safe:Nat), .bool fv.m.ever]:=(hb3.block _ (by simp) (fun e=>hpg e.symm) (fun e=>hmg e.symm)).trans hF
    have hA1:=hA0.trans hb3
    generalize w2.heap.size=gf at*
    have H3:=Lib.hid h3
    have HF3:=Lib.hid hF3
    have HA1:=Lib.hid hA1
    have HPG:Hid (p≠gf):=hpg
    have HMG:Hid (mb≠gf):=hmg
    have x0:w3.cell? ⟨gf,0,none⟩=some (.slice fv.a fv.m.b.length fv.c):=by rw[hF3.cell];rfl
    have FR:=HR.out
    have HR3:Hid (aE w3 w3.heap.size 1 A k (ar lk)):=H.out.reads_but hA1 hrk.out
    have HV3:=Lib.hid (h3.get_reads HV.out)
    clear hF3 h3 hb3 hF h2a hA0 hA1 hlk c1 Hu hpg hmg FR
    go_wp2
    go_ret
    exact⟨rfl,⟨es,rfl,by show bL _ _ _ _ _ _ (decide (fuse=0));rw[hd];exact H3.out⟩,HA1.out⟩
   ·rw[if_neg (fun h=>hk0 h.2.2)]
    have hk1:(((k:Nat):Int)==0)=false:=by simp;omega
    go_enter Tryz.func68,Tryz.ntmps68
    go_wp2_with fail
    refine Hg.out.mono ?_
    rintro e w1 ⟨rfl,rfl⟩
    go_wp2_with fail
    refine Hr.out.mono ?_
    rintro e w1 ⟨rfl,rfl⟩
    go_wp2_with fail
    refine Hro.out.mono ?_
    rintro e w2 ⟨rfl,hb⟩
    have h2:=H.out.below hb
    have HB2:=Lib.hid hb
    have H2:=Lib.hid h2
    have c1:=h2.c1
    have hlk:=nv h2.map s hsm fv false HV.out HB.out
    clear h2 hb
    go_wp2_with fail
    have hA0:bb p mb w1 (w2.alloc (.cells #[.slice fv.a fv.m.b.length fv.c, .int .i64 (fv.m.safe:Nat), .bool fv.m.ever] 56)):=(bb.of_below HB2.out).alloc _
    have h2a:=H2.out.below ((Below.refl _ _).alloc (Nat.le_refl _) (.cells #[.slice fv.a fv.m.b.length fv.c, .int .i64 (fv.m.safe:Nat), .bool fv.m.ever] 56))
    have hF:=aI.new w2 56 #[.slice fv.a fv.m.b.length fv.c, .int .i64 (fv.m.safe:Nat), .bool fv.m.ever]
    have hpg:p≠w2.heap.size:=Nat.ne_of_lt H2.out.cells.lt
    have hmg:mb≠w2.heap.size:=Nat.ne_of_lt H2.out.map.lt
    have Hu:=Lib.hid (hU h2a hf0 hf1)
    have hwg:w1.heap.size≤w2.heap.size:=HB2.out.size
    refine Hu.out.mono ?_
    rintro e w3 ⟨rfl,h3,hb3⟩
    rw[hd] at h3 ⊢
    have hF3:aI w3 w2.heap.size 56 #[.slice fv.a fv.m.b.length fv.c, .int .i64 (fv.m.safe:Nat), .bool fv.m.ever]:=(hb3.block _ (by simp) (fun e=>hpg e.symm) (fun e=>hmg e.symm)).trans hF
    have hA1:=hA0.trans hb3
    generalize w2.heap.size=gf at*
    have H3:=Lib.hid h3
    have HF3:=Lib.hid hF3
    have HA1:=Lib.hid hA1
    have HPG:Hid (p≠gf):=hpg
    have HMG:Hid (mb≠gf):=hmg
    have x0:w3.cell? ⟨gf,0,none⟩=some (.slice fv.a fv.m.b.length fv.c):=by rw[hF3.cell];rfl
    have FR:=HR.out
    have HR3:Hid (aE w3 w3.heap.size 1 A k (ar lk)):=H.out.reads_but hA1 hrk.out
    have HV3:=Lib.hid (h3.get_reads HV.out)
    clear hF3 h3 hb3 hF h2a hA0 hA1 hlk c1 Hu hpg hmg FR
    go_wp2_with fail
    have Hcat:=Lib.hid (pR w3.heap.size fv.a A fv.c c fv.m.b lk k HLK.out (by omega) (by omega) (w3.alloc (.cells #[.slice fv.a fv.m.b.length fv.c, .slice A k c] 22)) (aI.new _ _ _) ((HV3.out.1.alloc (Nat.le_refl _) _).more (by simp)) ((HR3.out.alloc (Nat.le_refl _) _).more (by simp)))
    refine Hcat.out.mono ?_
    rintro e w4 ⟨A',c',rfl,hr4,hc4,hb4⟩
    obtain⟨nl,hnl⟩:∃nl,(fv.m.b++lk).length=nl:=⟨_,rfl⟩
    have hnl2:nl=fv.m.b.length+k:=by rw[←hnl,List.length_append,HLK.out]
    rw[hnl] at hr4 hc4 ⊢
    have hb4':Below w3.heap.size w3 w4:=((Below.refl _ _).alloc (Nat.le_refl _) _).trans (hb4.mono (by simp))
    have hF4:=HF3.out.below hb4' HF3.out.lt
    have hA4:=HA1.out.below hb4'
    have h4:=H3.out.below hb4'
    have y0:(w4.cell? ⟨gf,0,none⟩).isSome=true:=by rw[hF4.cell];rfl
    have x0':w4.cell? ⟨gf,0,none⟩=some (.slice fv.a fv.m.b.length fv.c):=by rw[hF4.cell];rfl
    have f0:=hF4.frozen 0
    obtain⟨w5,hw5⟩:∃w5,w5=w4.setCell ⟨gf,0,none⟩ (.slice A' nl c'):=⟨_,rfl⟩
    have hA5:bb p mb w1 w5:=by rw[hw5];exact hA4.setNew hwg _
    have hF5:aI w5 gf 56 #[.slice A' nl c', .int .i64 (fv.m.safe:Nat), .bool fv.m.ever]:=by rw[hw5];exact hF4.set_ 0 _
    have h5c:aI w5 p 51 (iJ mb cap (if 0<fuse then fuse - 1 else fuse) true):=by rw[hw5];exact h4.cells.far HPG.out _
    have h5m:w5.ownsMap Tryz.prog 9 cZ mb es.length (dX cR es):=by rw[hw5];exact h4.map.setCell HMG.out _
    have hr5:aE w5 w5.heap.size 1 A' nl (ar (fv.m.b++lk)):=by
     have:=oo hr4 (fun ad x hc=>o7 hF4 hc) 0 (.slice A' nl c')
     rw[←hw5] at this
     exact this.more (by rw[hw5];simp[World.setCell])
    have h5:=H.out.turn hA5 h5c h5m H.out.up (fun q hq=> .inl hq)
    obtain⟨w6,hrun,hm6,ht6⟩:=gk (w:=w5.drew) h5m.drew H.out.up (by unfold maxLen;omega) s hsm (fv.m.b++lk) fv.m.safe fv.m.ever A' c'
    rw[hnl] at hrun
    obtain⟨h6,hA6⟩:=H.out.store hA5.drew h5c.drew s.data.toList ⟨⟨fv.m.b++lk,fv.m.safe,fv.m.ever⟩,A',c'⟩ hm6 ht6 ⟨by rw[hnl];exact h5.reads_but (((bb.refl _ _ _).drew).turned ht6) hr5,by rw[hnl];exact hc4⟩
    have z0:w5.cell? ⟨gf,0,none⟩=some (.slice A' nl c'):=by rw[hF5.cell];rfl
    have z1:w5.cell? ⟨gf,1,none⟩=some (.int .i64 (fv.m.safe:Nat)):=by rw[hF5.cell];rfl
    have z2:w5.cell? ⟨gf,2,none⟩=some (.bool fv.m.ever):=by rw[hF5.cell];rfl
    have z3:w5.cell? ⟨p,1,none⟩=some (.map (some mb)):=h5.c1
    have Hgo:=Lib.hid (kI p _ w6 h6.c3)
    have H6:=Lib.hid h6
    have HA6:=Lib.hid hA6
    have HW5:=Lib.hid hw5
    have HNL:=Lib.hid hnl
    clear h6 hA6 hm6 ht6 h5 h5m h5c hF5 hA5 hr5 hr4 hc4 hb4 hb4' hF4 hA4 h4 y0 hw5 hnl hnl2
    go_upto_region 15 with(first|fail)
    rw[←HW5.out]
    go_region
    go_wp2_with fail
    refine Hgo.out.mono ?_
    rintro e w7 ⟨rfl,rfl⟩
    go_wp2
    go_ret
    refine⟨?_,⟨bN s.data.toList ⟨⟨fv.m.b++lk,fv.m.safe,fv.m.ever⟩,A',c'⟩ es, ?_, ?_⟩,HA6.out⟩
    ·show _=Ending.returned (.int .i64 (if(decide (fuse=0))=true then 6 else 0))
     rw[hd]
     rfl
    ·show _=ci FV.m (bN _ ⟨⟨fv.m.b++lk,fv.m.safe,fv.m.ever⟩,A',c'⟩ es)
     rw[gc]
    ·show bL _ _ _ _ _ _ (decide (fuse=0))
     rw[hd]
     exact H6.out
 ·have e3:iK ⟨cap,ci FV.m es,fuse,false⟩ l=l:=by unfold iK;rw[if_neg hz]
  rw[e3,if_neg (fun h=>hz h.1)]
  clear e3
  have hd:decide (fuse=0)=false:=by simp[hz]
  go_enter Tryz.func68,Tryz.ntmps68
  go_wp2_with fail
  refine Hg.out.mono ?_
  rintro e w1 ⟨rfl,rfl⟩
  go_wp2_with fail
  refine Hr.out.mono ?_
  rintro e w1 ⟨rfl,rfl⟩
  go_wp2_with fail
  refine Hro.out.mono ?_
  rintro e w2 ⟨rfl,hb⟩
  have h2:=H.out.below hb
  have HB2:=Lib.hid hb
  have H2:=Lib.hid h2
  have c1:=h2.c1
  have hlk:=nv h2.map s hsm fv has HV.out HB.out
  clear h2 hb
  go_wp2_with fail
  have hA0:bb p mb w1 (w2.alloc (.cells #[.slice fv.a fv.m.b.length fv.c, .int .i64 (fv.m.safe:Nat), .bool fv.m.ever] 56)):=(bb.of_below HB2.out).alloc _
  have h2a:=H2.out.below ((Below.refl _ _).alloc (Nat.le_refl _) (.cells #[.slice fv.a fv.m.b.length fv.c, .int .i64 (fv.m.safe:Nat), .bool fv.m.ever] 56))
  have hF:=aI.new w2 56 #[.slice fv.a fv.m.b.length fv.c, .int .i64 (fv.m.safe:Nat), .bool fv.m.ever]
  have hpg:p≠w2.heap.size:=Nat.ne_of_lt H2.out.cells.lt
  have hmg:mb≠w2.heap.size:=Nat.ne_of_lt H2.out.map.lt
  have Hu:=Lib.hid (hU h2a hf0 hf1)
  have hwg:w1.heap.size≤w2.heap.size:=HB2.out.size
  refine Hu.out.mono ?_
  rintro e w3 ⟨rfl,h3,hb3⟩
  rw[hd] at h3 ⊢
  have hF3:aI w3 w2.heap.size 56 #[.slice fv.a fv.m.b.length fv.c, .int .i64 (fv.m.safe:Nat), .bool fv.m.ever]:=(hb3.block _ (by simp) (fun e=>hpg e.symm) (fun e=>hmg e.symm)).trans hF
  have hA1:=hA0.trans hb3
  generalize w2.heap.size=gf at*
  have H3:=Lib.hid h3
  have HF3:=Lib.hid hF3
  have HA1:=Lib.hid hA1
  have HPG:Hid (p≠gf):=hpg
  have HMG:Hid (mb≠gf):=hmg
  have x0:w3.cell? ⟨gf,0,none⟩=some (.slice fv.a fv.m.b.length fv.c):=by rw[hF3.cell];rfl
  have FR:=HR.out
  have HR3:Hid (aE w3 w3.heap.size 1 A l.length (ar l)):=H.out.reads_but hA1 HR.out
  have HV3:=Lib.hid (h3.get_reads HV.out)
  clear hF3 h3 hb3 hF h2a hA0 hA1 hlk c1 Hu hpg hmg FR
  go_wp2_with fail
  have Hcat:=Lib.hid (qR w3.heap.size fv.a A fv.c c fv.m.b l (by omega) (by omega) (w3.alloc (.cells #[.slice fv.a fv.m.b.length fv.c, .slice A l.length c] 22)) (aI.new _ _ _) ((HV3.out.1.alloc (Nat.le_refl _) _).more (by simp)) ((HR3.out.alloc (Nat.le_refl _) _).more (by simp)))
  refine Hcat.out.mono ?_
  rintro e w4 ⟨A',c',rfl,hr4,hc4,hb4⟩
  obtain⟨nl,hnl⟩:∃nl,(fv.m.b++l).length=nl:=⟨_,rfl⟩
  have hnl2:nl=fv.m.b.length+l.length:=by rw[←hnl,List.length_append]
  rw[hnl] at hr4 hc4 ⊢
  have hb4':Below w3.heap.size w3 w4:=((Below.refl _ _).alloc (Nat.le_refl _) _).trans (hb4.mono (by simp))
  have hF4:=HF3.out.below hb4' HF3.out.lt
  have hA4:=HA1.out.below hb4'
  have h4:=H3.out.below hb4'
  have y0:(w4.cell? ⟨gf,0,none⟩).isSome=true:=by rw[hF4.cell];rfl
  have x0':w4.cell? ⟨gf,0,none⟩=some (.slice fv.a fv.m.b.length fv.c):=by rw[hF4.cell];rfl
  have f0:=hF4.frozen 0
  obtain⟨w5,hw5⟩:∃w5,w5=w4.setCell ⟨gf,0,none⟩ (.slice A' nl c'):=⟨_,rfl⟩
  have hA5:bb p mb w1 w5:=by rw[hw5];exact hA4.setNew hwg _
  have hF5:aI w5 gf 56 #[.slice A' nl c', .int .i64 (fv.m.safe:Nat), .bool fv.m.ever]:=by rw[hw5];exact hF4.set_ 0 _
  have h5c:aI w5 p 51 (iJ mb cap (if 0<fuse then fuse - 1 else fuse) false):=by rw[hw5];exact h4.cells.far HPG.out _
  have h5m:w5.ownsMap Tryz.prog 9 cZ mb es.length (dX cR es):=by rw[hw5];exact h4.map.setCell HMG.out _
  have hr5:aE w5 w5.heap.size 1 A' nl (ar (fv.m.b++l)):=by
   have:=oo hr4 (fun ad x hc=>o7 hF4 hc) 0 (.slice A' nl c')
   rw[←hw5] at this
   exact this.more (by rw[hw5];simp[World.setCell])
  have h5:=H.out.turn hA5 h5c h5m H.out.up (fun q hq=> .inl hq)
  obtain⟨w6,hrun,hm6,ht6⟩:=gk (w:=w5.drew) h5m.drew H.out.up (by unfold maxLen;omega) s hsm (fv.m.b++l) fv.m.safe fv.m.ever A' c'
  rw[hnl] at hrun
  obtain⟨h6,hA6⟩:=H.out.store hA5.drew h5c.drew s.data.toList ⟨⟨fv.m.b++l,fv.m.safe,fv.m.ever⟩,A',c'⟩ hm6 ht6 ⟨by rw[hnl];exact h5.reads_but (((bb.refl _ _ _).drew).turned ht6) hr5,by rw[hnl];exact hc4⟩
  have z0:w5.cell? ⟨gf,0,none⟩=some (.slice A' nl c'):=by rw[hF5.cell];rfl
  have z1:w5.cell? ⟨gf,1,none⟩=some (.int .i64 (fv.m.safe:Nat)):=by rw[hF5.cell];rfl
  have z2:w5.cell? ⟨gf,2,none⟩=some (.bool fv.m.ever):=by rw[hF5.cell];rfl
  have z3:w5.cell? ⟨p,1,none⟩=some (.map (some mb)):=h5.c1
  have Hgo:=Lib.hid (kI p _ w6 h6.c3)
  have H6:=Lib.hid h6
  have HA6:=Lib.hid hA6
  have HW5:=Lib.hid hw5
  have HNL:=Lib.hid hnl
  clear h6 hA6 hm6 ht6 h5 h5m h5c hF5 hA5 hr5 hr4 hc4 hb4 hb4' hF4 hA4 h4 y0 hw5 hnl hnl2
  go_upto_region 15 with(first|fail)
  rw[←HW5.out]
  go_region
  go_wp2_with fail
  refine Hgo.out.mono ?_
  rintro e w7 ⟨rfl,rfl⟩
  go_wp2
  go_ret
  refine⟨?_,⟨bN s.data.toList ⟨⟨fv.m.b++l,fv.m.safe,fv.m.ever⟩,A',c'⟩ es, ?_, ?_⟩,HA6.out⟩
  ·show _=Ending.returned (.int .i64 (if(decide (fuse=0))=true then 6 else 0))
   rw[hd]
   rfl
  ·show _=ci FV.m (bN _ ⟨⟨fv.m.b++l,fv.m.safe,fv.m.ever⟩,A',c'⟩ es)
   rw[gc]
  ·show bL _ _ _ _ _ _ (decide (fuse=0))
   rw[hd]
   exact H6.out
theorem Bh {w:World} {p mb:Nat} {d:aN} (h:fT w p mb d) (hf:i7 d) (hN:d.files.length<1000000) (s:ByteArray) (hs:s.size≤1000000000) (A:Option Addr) (n c:Nat) (l:List UInt8) (hl:l.length=n) (hn:n≤10000000) (hnc:n≤c) (hr:aE w w.heap.size 1 A n (ar l)):
 Calls Tryz.prog 68 #[.pointer (some ⟨p,0,none⟩), .string s, .slice A n c] w fun e w'=>e= .returned (.int .i64 (d7 d s.data.toList l).1)∧fT w' p mb (d7 d s.data.toList l).2∧bb p mb w w':=by
 have hsm:s.size≤maxLen:=by unfold maxLen;omega
 have hf0:=hf.fuse0
 have hf1:=hf.fuse1
 have Hro:=Lib.hid (B4 h hf)
 have HF:=Lib.hid hf
 clear hf
 unfold d7
 have Hgo:=fun(lo:Bool) (e:d.lost=lo)=>kI p lo w (by rw[←e];exact h.choose_spec.2.c3)
 have HD:=Lib.hid h
 have HR:=Lib.hid hr
 clear h hr
 cases hlo:d.lost with
 |true=>
  have Hg:=Lib.hid (Hgo true hlo)
  clear Hgo hlo
  rw[if_pos rfl]
  go_enter Tryz.func68,Tryz.ntmps68
  go_wp2_with fail
  refine Hg.out.mono ?_
  rintro e w1 ⟨rfl,rfl⟩
  go_wp2
  go_ret
  exact⟨rfl,HD.out,bb.refl _ _ _⟩
 |false=>
  have Hg:=Lib.hid (Hgo false hlo)
  have Hr:=Lib.hid (mc s hs w)
  have HLO:=Lib.hid hlo
  clear Hgo hlo
  rw[if_neg (by simp)]
  cases hrt:right s.data.toList with
  |false=>
   rw[hrt] at Hr
   rw[if_pos rfl]
   clear hrt
   go_enter Tryz.func68,Tryz.ntmps68
   go_wp2_with fail
   refine Hg.out.mono ?_
   rintro e w1 ⟨rfl,rfl⟩
   go_wp2_with fail
   refine Hr.out.mono ?_
   rintro e w1 ⟨rfl,rfl⟩
   go_wp2
   go_ret
   exact⟨rfl,HD.out,bb.refl _ _ _⟩
  |true=>
   rw[hrt] at Hr
   rw[if_neg (by simp)]
   clear hrt
   by_cases hroom:d.room<l.length
   ·rw[if_pos hroom]
    rw[hl] at hroom
    generalize d.room=ro at*
    go_enter Tryz.func68,Tryz.ntmps68
    go_wp2_with fail
    refine Hg.out.mono ?_
    rintro e w1 ⟨rfl,rfl⟩
    go_wp2_with fail
    refine Hr.out.mono ?_
    rintro e w1 ⟨rfl,rfl⟩
    go_wp2_with fail
    refine Hro.out.mono ?_
    rintro e w2 ⟨rfl,hb⟩
    go_wp2
    go_ret
    obtain⟨es,hes,hd⟩:=HD.out
    exact⟨rfl,⟨es,hes,hd.below hb⟩,bb.of_below hb⟩
   ·rw[if_neg hroom]
    rw[hl] at hroom
    exact vT HD.out HF.out hN s hsm A n c l hl hn hnc HR.out HLO.out hroom Hg.out Hr.out Hro.out
def bv (d:aN) (k:ae):List UInt8×Int:=
 if d.lost=true then([],6) else match aV k d.files with
 |none=>([],7)
 |some f=>(f.b,0)
theorem GO {w:World} {p mb:Nat} {d:aN} (h:fT w p mb d) (hf:i7 d) (s:ByteArray) (hs:s.size≤maxLen):
 Calls Tryz.prog 24 #[.pointer (some ⟨p,0,none⟩), .string s] w fun e w'=>∃A c,e= .returned (.tuple #[.slice A (bv d s.data.toList).1.length c, .int .i64 (bv d s.data.toList).2])∧aE w' w'.heap.size 1 A (bv d s.data.toList).1.length (ar (bv d s.data.toList).1)∧Below w.heap.size w w':=by
 have hrm:=hf.room
 have hcp:=hf.cap
 clear hf
 obtain⟨cap,files,fuse,lost⟩:=d
 obtain⟨es,hf,h⟩:=h
 obtain rfl:files=ci FV.m es:=hf
 have Ht:=Lib.hid (jz h s hs)
 have H:=Lib.hid h
 unfold bv
 simp only[gY] at hrm hcp ⊢
 cases lost with
 |true=>
  rw[if_pos rfl]
  clear h
  go_enter Tryz.func24,Tryz.ntmps24
  go_wp2_with fail
  refine Ht.out.mono ?_
  rintro e w1 ⟨rfl,hb⟩
  go_wp2
  go_ret2
  exact⟨none,0,rfl,aE.none_,hb⟩
 |false=>
  rw[if_neg (by simp)]
  cases hg:aV s.data.toList es with
  |none=>
   rw[hg] at Ht
   dsimp only[Option.map_none]
   clear h hg
   go_enter Tryz.func24,Tryz.ntmps24
   go_wp2_with fail
   refine Ht.out.mono ?_
   rintro e w1 ⟨rfl,hb⟩
   go_wp2
   go_ret2
   exact⟨none,0,rfl,aE.none_,hb⟩
  |some f=>
   have hle:f.m.b.length≤4194304:=by
    have:=kB (k:=s.data.toList) (f:=f.m) (l:=ci FV.m es) (by rw[gY,hg];rfl)
    omega
   obtain⟨⟨b,sf,ev⟩,A,c⟩:=f
   rw[hg] at Ht
   dsimp only[Option.map_some] at hle ⊢
   have HG:=Lib.hid hg
   clear h hg
   go_enter Tryz.func24,Tryz.ntmps24
   go_wp2_with fail
   refine Ht.out.mono ?_
   rintro e w1 ⟨rfl,hb⟩
   have h1:=H.out.below hb
   have HB:=Lib.hid hb
   have c1:=h1.c1
   have hl:=ej h1.map s hs HG.out
   have hr1:=(h1.bytes _ (gB HG.out)).1
   have Hc:=Lib.hid (gA A b.length c b w1 rfl (by omega) hr1)
   have hfr:=o6 A b.length c (sf:Nat) ev w1
   clear h1 hb hr1
   go_wp2_with fail
   refine Hc.out.mono ?_
   rintro e w2 ⟨A',c',rfl,hr2,_,hb2⟩
   have HB2:=Lib.hid (HB.out.trans (hb2.mono HB.out.size))
   have HR:=Lib.hid hr2
   clear hr2 hb2
   go_wp2
   go_ret2
   exact⟨A',c',rfl,HR.out,HB2.out⟩
end Go.Proofs.YtclcfkaphlopeaaGreatDoor
namespace Go.Proofs.YtclcfkaphlopeaaGreatDoor
open Go Go.RowKit
inductive eQ where
 |det (v:Value)
 |held (p:Value→World→Prop)
 |used (p:Value→World→Prop)
def eQ.says :eQ→Value→World→Prop
 | .det v,x,_=>x=v
 | .held p,x,w=>p x w
 | .used p,x,w=>p x w
def eQ.keeps :eQ→Bool
 | .used _=>false
 |_=>true
structure ff where
 start:Option Nat
 upto:Option Nat
 looks:List Nat
 p:(Nat→Value)→World→Prop
 ext:∀σ σ' w,(∀t∈looks,σ t=σ' t)→p σ w→p σ' w
def n5 (ev:Operand→Value):Nat→Value:=fun t=>ev (.tmp t)
def DW (o:Oper) (j:Nat):Bool:=o.after.any fun e=>Region.binds .any e&&e.on==j
def mS (l:List Oper) (j t:Nat):Bool:=match l[j]? with|some o=>o.dst==some t|none=>false
def blk (l:List Oper) (i:Nat):Nat→Nat→Bool
 |0,_=>false
 |f+1,k=>k==i||(match l[k]? with|some o=>o.after.any fun e=>Region.binds .any e&&blk l i f e.on|none=>false)
def yf (l:List Oper) (o:Oper) (j:Nat):Bool:=DW o j&&(match l[j]? with|some oj=>(match oj.dst with|some t=>(o.looksAt l.toArray).contains t|none=>false)|none=>false)
def pc (l:List Oper) (F:List eQ) (i j:Nat):Bool:=
 !blk l i l.length j&&((F.getD j (.det undef)).keeps||(List.range l.length).any fun k=>(k !=i&& !blk l k l.length i)&&(match l[k]? with|some o=>yf l o j|none=>false))
def kg (l:List Oper) (o:Oper) (t:Nat):Option Nat:=(List.range l.length).find? fun j=>DW o j&&mS l j t
def fI (l:List Oper) (F:List eQ) (a0:Array Value) (o:Oper) (t:Nat) (x:Value) (w:World):Prop:=
 match kg l o t with
 |some j=>(F.getD j (.det undef)).says x w
 |none=>x=a0.getD t undef
def Ge (l:List Oper) (i:Nat) (s u:Option Nat):Bool:=
 (match s with|some a=>a !=i&&blk l a l.length i|none=>true)&&(match u with|some b=>blk l i l.length b|none=>true)
def p8 (l:List Oper) (i:Nat) (s u:Option Nat):Bool:=
 (match s with|some a=> !blk l i l.length a|none=>true)&&(match u with|some b=> !blk l b l.length i|none=>true)
def IK (l:List Oper) (i:Nat) (o:Oper) (t:Nat):Bool:=
 (List.range l.length).all fun j=> !mS l j t||DW o j||blk l i l.length j
def ku (l:List Oper) (n:Nat):Bool:=
 (List.range l.length).all fun i=>match l[i]? with
  |none=>true
  |some o=>(match o.dst with|some t=>decide (t<n)&&(List.range l.length).all fun j=>j==i|| !mS l j t|none=>true)&&(o.after.all fun e=> !Region.binds .any e||decide (e.on<i))&&
   (o.looksAt l.toArray).all fun t=>IK l i o t
def IJ (l:List Oper) (ps:List (Option Nat×List Nat)):Bool:=
 (List.range l.length).all fun i=>match l[i]? with
  |some o=>(match o.dst with
   |some d=>ps.all fun q=> !q.2.contains d||(match q.1 with|some s=>s !=i&&blk l i l.length s|none=>false)
   |none=>true)
  |none=>true
structure Gg (ev:Operand→Value):Prop where
 const:∀v,ev (.const v)=v
 global:∀g,ev (.global g)= .pointer (some ⟨g,0,none⟩)
 func:∀f,ev (.func f)= .func (.func f) #[] #[]
def km (P:Program) (ev:Operand→Value) (o:Oper) (w:World) (K:Value→World→Prop):Prop:=
 match (execOp ev o).run P w with
 | .ok (.value v) w'=>K v w'
 | .ok .skip w'=>K undef w'
 | .ok (.enter f args) w'=>Calls P f args w' fun e w''=>∃v,e= .returned v∧K v w''
 |_=>False
def bV (l:List Oper) (o:Oper) (ev:Operand→Value):Bool:=
 match o.guard with
 |none=>true
 |some (g,b)=>match (l[g]?).bind (·.dst) with
  |some t=>(match ev (.tmp t) with| .bool q=>q==b|_=>false)
  |none=>false
section
variable {P:Program} {l:List Oper} {F:List eQ} {Ph:List ff} {C:World→Prop} {T:Nat→World→World→Prop} {a0:Array Value}
def Ob (P:Program) (l:List Oper) (F:List eQ) (Ph:List ff) (C:World→Prop) (T:Nat→World→World→Prop) (a0:Array Value) (i:Nat) (o:Oper):Prop:=
 ∀(ev:Operand→Value) (w:World),Gg ev→C w→(∀t∈o.looksAt l.toArray,fI l F a0 o t (ev (.tmp t)) w)→(∀ph∈Ph,Ge l i ph.start ph.upto=true→ph.p (n5 ev) w)→
  if bV l o ev=true then km P ev o w (fun v w'=>C w'∧T i w w'∧(F.getD i (.det undef)).says v w'∧∀ph∈Ph,ph.start=some i→ph.p (n5 ev) w') else T i w w∧(F.getD i (.det undef)).says undef w∧∀ph∈Ph,ph.start=some i→ph.p (n5 ev) w
theorem bI {P:Program} {ev:Operand→Value} {o:Oper} {w w':World} {v:Value} {K:Value→World→Prop} (h:(execOp ev o).run P w= .ok (.value v) w') (hK:K v w'):km P ev o w K:=by
 unfold km;rw[h];exact hK
theorem sn {P:Program} {ev:Operand→Value} {o:Oper} {w w':World} {K:Value→World→Prop} (h:(execOp ev o).run P w= .ok .skip w') (hK:K undef w'):km P ev o w K:=by
 unfold km;rw[h];exact hK
theorem dP {P:Program} {ev:Operand→Value} {o:Oper} {w w':World} {f:FuncId} {args:Array Value} {K:Value→World→Prop} (h:(execOp ev o).run P w= .ok (.enter f args) w') (hK:Calls P f args w' fun e w''=>∃v,e= .returned v∧K v w''):km P ev o w K:=by
 unfold km;rw[h];exact hK
theorem bf {i:Nat} {o:Oper} {ev:Operand→Value} {w:World} (hw:bV l o ev=true) (h:km P ev o w (fun v w'=>C w'∧T i w w'∧(F.getD i (.det undef)).says v w'∧∀ph∈Ph,ph.start=some i→ph.p (n5 ev) w')):
 if bV l o ev=true then km P ev o w (fun v w'=>C w'∧T i w w'∧(F.getD i (.det undef)).says v w'∧∀ph∈Ph,ph.start=some i→ph.p (n5 ev) w') else T i w w∧(F.getD i (.det undef)).says undef w∧∀ph∈Ph,ph.start=some i→ph.p (n5 ev) w:=by
 rw[if_pos hw];exact h
theorem Ed {i:Nat} {o:Oper} {ev:Operand→Value} {w:World} (hw:bV l o ev=false) (hT:T i w w) (h:(F.getD i (.det undef)).says undef w) (hs:∀ph∈Ph,ph.start=some i→ph.p (n5 ev) w):
 if bV l o ev=true then km P ev o w (fun v w'=>C w'∧T i w w'∧(F.getD i (.det undef)).says v w'∧∀ph∈Ph,ph.start=some i→ph.p (n5 ev) w') else T i w w∧(F.getD i (.det undef)).says undef w∧∀ph∈Ph,ph.start=some i→ph.p (n5 ev) w:=by
 rw[if_neg (by simp[hw])];exact⟨hT,h,hs⟩
def vP (σ:Nat→Value) (K:Array Value→Prop) (w:World):List (Oper×eQ)→Array Value→Prop
 |[],arr=>K arr
 |(⟨some t,_,_,_,_,_⟩, .det v)::r,arr=>vP σ K w r (arr.setIfInBounds t v)
 |(⟨some t,_,_,_,_,_⟩, .held p)::r,arr=>∀x,x=σ t→p x w→vP σ K w r (arr.setIfInBounds t x)
 |(⟨some t,_,_,_,_,_⟩, .used _)::r,arr=>∀x,x=σ t→vP σ K w r (arr.setIfInBounds t x)
 |(⟨none,_,_,_,_,_⟩,_)::r,arr=>vP σ K w r arr
structure ID (l:List Oper) (F:List eQ) (Ph:List ff) (C:World→Prop) (a0:Array Value) (ds:List Deferred) (listed:Array Bool) (a:Act) (w:World):Prop where
 world:C w
 lsize:listed.size=l.length
 size:a.tmps.size=a0.size
 defers:a.defers=ds
 closed:∀j oj,l[j]?=some oj→listed.getD j false=true→∀e∈oj.after,Region.binds .any e=true→listed.getD e.on false=true
 same:∀t,(∀j o,l[j]?=some o→listed.getD j false=true→o.dst≠some t)→a.tmps[t]?=a0[t]?
 fact:∀j o t,l[j]?=some o→listed.getD j false=true→o.dst=some t→
  ((F.getD j (.det undef)).keeps=true∨∃(k:Nat) (ok:Oper),l[k]?=some ok∧listed.getD k false=false∧yf l ok j=true)→(F.getD j (.det undef)).says (a.tmps.getD t undef) w
 phase:∀ph∈Ph,(∀a,ph.start=some a→listed.getD a false=true)→(∀b,ph.upto=some b→listed.getD b false=false)→ph.p (n5 a.eval) w
theorem ei {listed:Array Bool} {i:Nat} (h:listed.getD i true=false):listed.getD i false=false:=by
 rcases Nat.lt_or_ge i listed.size with h'|h'
 ·simp[h'] at h ⊢;exact h
 ·simp[Array.getElem?_eq_none h'] at h
theorem lD {listed:Array Bool} {i:Nat} (hi:i<listed.size) (h:listed.getD i false=false):listed.getD i true=false:=by
 simp[hi] at h ⊢;exact h
theorem lS {o:Oper} {j:Nat} (h:DW o j=true):∃e∈o.after,Region.binds .any e=true∧e.on=j:=by
 unfold DW at h
 obtain⟨e,he,hb⟩:=Array.any_eq_true'.1 h
 simp only[Bool.and_eq_true,beq_iff_eq] at hb
 exact⟨e,he,hb.1,hb.2⟩
theorem dO {listed:Array Bool} (hc:∀j oj,l[j]?=some oj→listed.getD j false=true→∀e∈oj.after,Region.binds .any e=true→listed.getD e.on false=true) (i:Nat):
 ∀(f k:Nat),blk l i f k=true→listed.getD k false=true→listed.getD i false=true
 |0,_,h,_=>by simp[blk] at h
 |f+1,k,h,hk=>by
  unfold blk at h
  rw[Bool.or_eq_true,beq_iff_eq] at h
  rcases h with rfl|h
  ·exact hk
  ·cases ho:l[k]? with
   |none=>rw[ho] at h;cases h
   |some o=>
    rw[ho] at h
    obtain⟨e,he,hb⟩:=Array.any_eq_true'.1 h
    simp only[Bool.and_eq_true] at hb
    exact dO hc i f e.on hb.2 (hc k o ho hk e he hb.1)
theorem AW {o:Oper} {t j:Nat} (h:kg l o t=some j):DW o j=true∧∃oj,l[j]?=some oj∧oj.dst=some t:=by
 have:=List.find?_some h
 rw[Bool.and_eq_true] at this
 refine⟨this.1, ?_⟩
 have h2:=this.2
 unfold mS at h2
 cases ho:l[j]? with
 |none=>rw[ho] at h2;cases h2
 |some oj=>rw[ho] at h2;exact⟨oj,rfl,by simpa using h2⟩
theorem AV {o:Oper} {t:Nat} (h:kg l o t=none) {j:Nat} {oj:Oper} (hj:l[j]?=some oj) (hd:oj.dst=some t):DW o j=false:=by
 have h2:=(List.find?_eq_none.1 h) j (List.mem_range.2 (List.getElem?_eq_some_iff.1 hj).1)
 have h3:mS l j t=true:=by unfold mS;rw[hj];simp[hd]
 rw[h3,Bool.and_true] at h2
 simpa using h2
theorem vv {n i:Nat} {o:Oper} (h:ku l n=true) (hi:l[i]?=some o):∀t∈o.looksAt l.toArray,∀j oj,l[j]?=some oj→oj.dst=some t→DW o j=true∨blk l i l.length j=true:=by
 intro t ht j oj hj hd
 have h1:=List.all_eq_true.1 h i (List.mem_range.2 (List.getElem?_eq_some_iff.1 hi).1)
 rw[hi] at h1
 simp only[Bool.and_eq_true] at h1
 have h2:=List.all_eq_true.1 h1.2 t ht
 have h3:=List.all_eq_true.1 h2 j (List.mem_range.2 (List.getElem?_eq_some_iff.1 hj).1)
 have h4:mS l j t=true:=by unfold mS;rw[hj];simp[hd]
 rw[h4] at h3
 simpa using h3
theorem m9 {n i:Nat} {o:Oper} {t:Nat} (h:ku l n=true) (hi:l[i]?=some o) (hd:o.dst=some t):t<n∧∀j oj,l[j]?=some oj→oj.dst=some t→j=i:=by
 have h1:=List.all_eq_true.1 h i (List.mem_range.2 (List.getElem?_eq_some_iff.1 hi).1)
 rw[hi] at h1
 simp only[Bool.and_eq_true,hd,decide_eq_true_eq] at h1
 refine⟨h1.1.1.1,fun j oj hj hdj=> ?_⟩
 have h3:=List.all_eq_true.1 h1.1.1.2 j (List.mem_range.2 (List.getElem?_eq_some_iff.1 hj).1)
 have h4:mS l j t=true:=by unfold mS;rw[hj];simp[hdj]
 rw[h4] at h3
 simpa using h3
theorem vu {n i:Nat} {o:Oper} (h:ku l n=true) (hi:l[i]?=some o):∀e∈o.after,Region.binds .any e=true→e.on<i:=by
 intro e he hb
 have h1:=List.all_eq_true.1 h i (List.mem_range.2 (List.getElem?_eq_some_iff.1 hi).1)
 rw[hi] at h1
 simp only[Bool.and_eq_true] at h1
 have h2:=Array.all_eq_true'.1 h1.1.2 e he
 rw[hb] at h2
 simpa using h2
theorem fO {o:Oper} {a:Act}:Region.wanted o (yielded l.toArray a.tmps)=bV l o a.eval:=by
 unfold Region.wanted bV
 cases o.guard with
 |none=>rfl
 |some g=>
  obtain⟨g,b⟩:=g
  simp only[yielded,List.getElem?_toArray]
  cases hd:(l[g]?).bind (·.dst) with
  |none=>simp
  |some t=>
   simp only[Option.bind_some,Act.eval]
   cases ht:a.tmps[t]? with
   |none=>simp[ht,undef]
   |some v=>cases v<;>simp[ht]
theorem IE (a:Act):Gg a.eval:=⟨fun _=>rfl,fun _=>rfl,fun _=>rfl⟩
theorem Ff {Q:Exit→Act→World→Prop} {a:Act} {o:Oper} {w:World} {K:Value→World→Prop} {next:Act→World→Prop} (h:km P a.eval o w K) (hn:∀v w',K v w'→next (a.put o.dst v) w'):o.wp P a w next Q:=by
 unfold km at h
 unfold Oper.wp
 generalize (execOp a.eval o).run P w=r at*
 cases r with
 |ok nx w'=>
  cases nx<;>first
   |exact hn _ _ h
   |exact h.elim
   |exact Calls.mono h fun e w'' ⟨v,he,hk⟩=>by subst he;exact hn _ _ hk
 |halt x w'=>exact h.elim
theorem GM {a:Act} {t:Nat} {v:Value} (h:t<a.tmps.size):(a.put (some t) v).tmps.getD t undef=v:=by
 simp[Act.put,h]
theorem mB {a:Act} {d:Option Tmp} {t:Nat} {v:Value} (h:d≠some t):(a.put d v).tmps[t]?=a.tmps[t]?:=by
 cases d with
 |none=>rfl
 |some d=>
  have:d≠t:=fun e=>h (by rw[e])
  simp[Act.put,Array.getElem?_setIfInBounds_ne this]
theorem lE {x y:Array Value} {t:Nat} (h:x[t]?=y[t]?):x.getD t undef=y.getD t undef:=by
 rw[Array.getD_eq_getD_getElem?,Array.getD_eq_getD_getElem?,h]
theorem xU (a:Act) (d:Option Tmp) (v:Value):(a.put d v).tmps.size=a.tmps.size:=by cases d<;>simp[Act.put]
theorem BW (a:Act) (d:Option Tmp) (v:Value):(a.put d v).defers=a.defers:=by cases d<;>rfl
theorem i8 {listed:Array Bool} {i j:Nat} (hij:i≠j):(listed.setIfInBounds i true).getD j false=listed.getD j false:=getD_set_ne false hij
theorem ri (a:Act):n5 a.eval=fun t=>a.tmps.getD t undef:=rfl
theorem Bb {a:Act} {d:Option Tmp} {t:Nat} {v:Value} (h:d≠some t):n5 a.eval t=n5 (a.put d v).eval t:=by
 rw[ri,ri]
 exact(lE (mB h)).symm
theorem ID.step {n:Nat} {ds:List Deferred} {listed:Array Bool} {a:Act} {w w':World} {i:Nat} {o:Oper} {v:Value} (h:ID l F Ph C a0 ds listed a w) (hB:ku l n=true) (hn:a0.size=n) (hi:l[i]?=some o) (hr:i∈Region.ready .any l.toArray listed)
 (hstab:∀i j x w w',pc l F i j=true→i≠j→C w→(F.getD j (.det undef)).says x w→T i w w'→(F.getD j (.det undef)).says x w')
 (hph:∀i (ph:ff) σ w w',ph∈Ph→ph.start≠some i→ph.upto≠some i→p8 l i ph.start ph.upto=true→C w→ph.p σ w→T i w w'→ph.p σ w')
 (hC:C w') (hT:T i w w') (hF:(F.getD i (.det undef)).says v w') (hS:∀ph∈Ph,ph.start=some i→ph.p (n5 a.eval) w') (hlk:IJ l (Ph.map fun ph=>(ph.start,ph.looks))=true):ID l F Ph C a0 ds (listed.setIfInBounds i true) (a.put o.dst v) w':=by
 obtain⟨hun,o',ho',hall⟩:=mem_ready.1 hr
 have hoo:o'=o:=by
  rw[List.getElem?_toArray,hi] at ho'
  exact(Option.some.inj ho').symm
 subst hoo
 have hil:i<listed.size:=by rw[h.lsize];exact(List.getElem?_eq_some_iff.1 hi).1
 have hun2:=ei hun
 refine⟨hC,by simp[h.lsize],by rw[xU,h.size],by rw[BW,h.defers], ?_, ?_, ?_, ?_⟩
 ·intro j oj hj hl e he hb
  by_cases hij:i=j
  ·subst hij
   have:oj=o':=Option.some.inj (hj.symm.trans hi)
   subst this
   exact getD_set_true (hall e he hb)
  ·rw[i8 hij] at hl
   exact getD_set_true (h.closed j oj hj hl e he hb)
 ·intro t ht
  have hd:o'.dst≠some t:=ht i o' hi (by simp[hil])
  rw[mB hd]
  exact h.same t fun j oj hj hl=>ht j oj hj (getD_set_true hl)
 ·intro j oj t hj hl hd hne
  by_cases hij:i=j
  ·subst hij
   have:oj=o':=Option.some.inj (hj.symm.trans hi)
   subst this
   have hlt:=(m9 hB hi hd).1
   rw[hd,GM (by rw[h.size,hn];exact hlt)]
   exact hF
  ·rw[i8 hij] at hl
   have hd2:o'.dst≠some t:=fun e=>hij ((m9 hB hj hd).2 i o' hi e)
   rw[lE (mB hd2)]
   have hne2:(F.getD j (.det undef)).keeps=true∨∃(k:Nat) (ok:Oper),l[k]?=some ok∧listed.getD k false=false∧yf l ok j=true:=by
    rcases hne with hk|⟨k,ok,hk,hkl,hon⟩
    ·exact .inl hk
    ·refine .inr ⟨k,ok,hk, ?_,hon⟩
     by_cases hik:i=k
     ·subst hik;exact hun2
     ·rw[i8 hik] at hkl;exact hkl
   refine hstab i j _ w w' ?_ hij h.world (h.fact j oj t hj hl hd hne2) hT
   unfold pc
   have hnb:blk l i l.length j=false:=by
    cases hb:blk l i l.length j with
    |false=>rfl
    |true=>
     have:=dO h.closed i l.length j hb hl
     rw[hun2] at this
     cases this
   rw[hnb,Bool.not_false,Bool.true_and,Bool.or_eq_true]
   rcases hne with hk|⟨k,ok,hk,hkl,hon⟩
   ·exact .inl hk
   ·refine .inr (List.any_eq_true.2 ⟨k,List.mem_range.2 (List.getElem?_eq_some_iff.1 hk).1, ?_⟩)
    rw[hk]
    have hik:k≠i:=fun e=>by
     subst e
     simp[hil] at hkl
    rw[i8 (fun e=>hik e.symm)] at hkl
    have hbk:blk l k l.length i=false:=by
     cases hbb:blk l k l.length i with
     |false=>rfl
     |true=>
      exfalso
      obtain⟨f,hf⟩:∃f,l.length=f+1:=⟨l.length - 1,by have:=(List.getElem?_eq_some_iff.1 hi).1;omega⟩
      rw[hf] at hbb
      unfold blk at hbb
      rw[Bool.or_eq_true,beq_iff_eq] at hbb
      rcases hbb with e|hbb
      ·exact hik e.symm
      ·rw[hi] at hbb
       obtain⟨e,he,hb2⟩:=Array.any_eq_true'.1 hbb
       simp only[Bool.and_eq_true] at hb2
       have:=dO h.closed k f e.on hb2.2 (hall e he hb2.1)
       rw[hkl] at this
       cases this
    simp[hik,hon,hbk]
 ·intro ph hp hfrom hupto
  have hlook:∀d,o'.dst=some d→d∈ph.looks→∃s,ph.start=some s∧s≠i∧blk l i l.length s=true:=fun d hd hdl=>by
   have h1:=List.all_eq_true.1 hlk i (List.mem_range.2 (List.getElem?_eq_some_iff.1 hi).1)
   rw[hi] at h1
   simp only[hd] at h1
   have h2:=List.all_eq_true.1 h1 _ (List.mem_map.2 ⟨ph,hp,rfl⟩)
   simp only[Bool.or_eq_true,Bool.not_eq_true'] at h2
   rcases h2 with h2|h2
   ·simp[hdl] at h2
   ·cases hst:ph.start with
    |none=>rw[hst] at h2;cases h2
    |some s=>
     rw[hst] at h2
     simp only[Bool.and_eq_true,bne_iff_ne] at h2
     exact⟨s,rfl,h2.1,h2.2⟩
  by_cases hs:ph.start=some i
  ·refine ph.ext _ _ w' (fun t ht=>Bb fun hd=> ?_) (hS ph hp hs)
   obtain⟨s,h1,h2,_⟩:=hlook t hd ht
   rw[hs] at h1
   exact h2 (Option.some.inj h1).symm
  ·have hu:ph.upto≠some i:=fun e=>by
    have:=hupto i e
    simp[hil] at this
   have hf2:∀a,ph.start=some a→listed.getD a false=true:=fun a ha=>by
    have h1:=hfrom a ha
    rwa [i8 (fun e=>hs (by rw[e];exact ha))] at h1
   have hu2:∀b,ph.upto=some b→listed.getD b false=false:=fun b hb=>by
    have h1:=hupto b hb
    rwa [i8 (fun e=>hu (by rw[e];exact hb))] at h1
   refine ph.ext _ _ w' (fun t ht=>Bb fun hd=> ?_) (hph i ph _ w w' hp hs hu ?_ h.world (h.phase ph hp hf2 hu2) hT)
   ·obtain⟨s,h1,_,h3⟩:=hlook t hd ht
    have:=dO h.closed i l.length s h3 (hf2 s h1)
    rw[hun2] at this
    cases this
   unfold p8
   rw[Bool.and_eq_true]
   constructor
   ·cases ha:ph.start with
    |none=>rfl
    |some a=>
     cases hb:blk l i l.length a with
     |false=>simp[hb]
     |true=>
      have:=dO h.closed i l.length a hb (hf2 a ha)
      rw[hun2] at this
      cases this
   ·cases hb:ph.upto with
    |none=>rfl
    |some b=>
     cases hc:blk l b l.length i with
     |false=>simp[hc]
     |true=>
      exfalso
      have hbl:=hu2 b hb
      have hpos:0<l.length:=Nat.lt_of_le_of_lt (Nat.zero_le _) (List.getElem?_eq_some_iff.1 hi).1
      obtain⟨f,hf⟩:∃f,l.length=f+1:=⟨l.length - 1,by omega⟩
      rw[hf] at hc
      unfold blk at hc
      rw[Bool.or_eq_true,beq_iff_eq] at hc
      rcases hc with e|hc
      ·exact hu (by rw[hb,e])
      ·rw[hi] at hc
       obtain⟨e,he,hbb⟩:=Array.any_eq_true'.1 hc
       simp only[Bool.and_eq_true] at hbb
       have:=dO h.closed b f e.on hbb.2 (hall e he hbb.1)
       rw[hbl] at this
       cases this
theorem qg (K:Array Value→Prop) (w:World) (g:Nat→Value):∀(m:List (Oper×eQ)) (arr:Array Value),vP g K w m arr→(∀p∈m,∀t,p.1.dst=some t→p.2.keeps=true→p.2.says (g t) w)→
 K (m.foldl (fun arr p=>match p.1.dst with|some t=>arr.setIfInBounds t (g t)|none=>arr) arr)
 |[],arr,h,_=>h
 |(⟨d,_,_,_,_,_⟩,f)::r,arr,h,hs=>by
  cases d with
  |none=>exact qg K w g r arr h fun p hp=>hs p (List.mem_cons_of_mem _ hp)
  |some t=>
   have h0:=hs _ (List.mem_cons_self) t rfl
   have hr:=fun p hp=>hs p (List.mem_cons_of_mem _ hp)
   cases f with
   |det v=>
    have hv:g t=v:=h0 rfl
    subst hv
    exact qg K w g r _ h hr
   |held p=>exact qg K w g r _ (h (g t) rfl (h0 rfl)) hr
   |used p=>exact qg K w g r _ (h (g t) rfl) hr
theorem wH (g:Nat→Value):∀(m:List (Oper×eQ)) (arr:Array Value) (t:Nat),
 (m.foldl (fun arr p=>match p.1.dst with|some t=>arr.setIfInBounds t (g t)|none=>arr) arr)[t]?=if(∃p∈m,p.1.dst=some t)∧t<arr.size then some (g t) else arr[t]?
 |[],arr,t=>by simp
 |(o,f)::r,arr,t=>by
  rw[List.foldl_cons,wH g r]
  cases hd:o.dst with
  |none=>
   have e:(∃p,p∈(o,f)::r∧p.1.dst=some t)↔∃p,p∈r∧p.1.dst=some t:=by simp[hd]
   simp only[e]
  |some d=>
   simp only[Array.size_setIfInBounds,List.mem_cons,exists_eq_or_imp]
   by_cases hr:∃p∈r,p.1.dst=some t
   ·by_cases hlt:t<arr.size
    ·rw[if_pos ⟨hr,hlt⟩,if_pos ⟨.inr hr,hlt⟩]
    ·rw[if_neg (fun h=>hlt h.2),if_neg (fun h=>hlt h.2),Array.getElem?_eq_none (by simp;omega),Array.getElem?_eq_none (by omega)]
   ·rw[if_neg (fun h=>hr h.1)]
    by_cases hdt:d=t
    ·subst hdt
     by_cases hlt:d<arr.size
     ·rw[if_pos ⟨.inl hd,hlt⟩]
      simp[hlt]
     ·have e:arr.setIfInBounds d (g d)=arr:=by simp[Array.setIfInBounds,hlt]
      rw[if_neg (fun h=>hlt h.2),e]
    ·rw[Array.getElem?_setIfInBounds_ne hdt,if_neg]
     rintro⟨h|h,_⟩
     ·rw[hd] at h;exact hdt (Option.some.inj h)
     ·exact hr h
theorem pt {Q:Exit→Act→World→Prop} {a:Act} {w:World} (n:Nat) (F:List eQ) (Ph:List ff) (C:World→Prop) (T:Nat→World→World→Prop) (hn:a.tmps.size=n) (hB:ku l n=true) (hFl:F.length=l.length) (hC:C {w with drawn:=w.drawn+1})
 (hstab:∀i j x w w',pc l F i j=true→i≠j→C w→(F.getD j (.det undef)).says x w→T i w w'→(F.getD j (.det undef)).says x w')
 (hph0:∀ph∈Ph,ph.start=none→ph.p (n5 a.eval) {w with drawn:=w.drawn+1})
 (hph:∀i (ph:ff) σ w w',ph∈Ph→ph.start≠some i→ph.upto≠some i→p8 l i ph.start ph.upto=true→C w→ph.p σ w→T i w w'→ph.p σ w')
 (hpl:∀ph∈Ph,∀a,ph.start=some a→a<l.length)
 (hob:∀i o,l[i]?=some o→Ob P l F Ph C T a.tmps i o)
 (hlk:IJ l (Ph.map fun ph=>(ph.start,ph.looks))=true)
 (hfin:∀σ w',C w'→(∀ph∈Ph,ph.upto=none→ph.p σ w')→vP σ (fun arr=>Q .normal ⟨arr,a.defers⟩ w') w' (l.zip F) a.tmps):wpAny P .any l.toArray Q l.toArray.size (Array.replicate l.toArray.size false) a {w with drawn:=w.drawn+1}:=by
 have main:∀(fuel:Nat) (listed:Array Bool) (a':Act) (w':World),ID l F Ph C a.tmps a.defers listed a' w'→listed.toList.countP (fun b=> !b)≤fuel→wpAny P .any l.toArray Q fuel listed a' w':=by
  have done:∀(listed:Array Bool) (a':Act) (w':World),ID l F Ph C a.tmps a.defers listed a' w'→Region.ready .any l.toArray listed=[]→(∀j,j<l.length→listed.getD j false=true)→Q .normal a' w':=by
   intro listed a' w' hI _ hall
   have h1:=qg (fun arr=>Q .normal ⟨arr,a.defers⟩ w') w' (fun t=>a'.tmps.getD t undef) (l.zip F) a.tmps (hfin (fun t=>a'.tmps.getD t undef) w' hI.world fun ph hp hu=>ri a'▸hI.phase ph hp (fun a ha=>hall a (hpl ph hp a ha)) (fun b hb=>by rw[hu] at hb;cases hb)) (by
    intro p hp t hd hk
    obtain⟨j,hj,e⟩:=List.getElem_of_mem hp
    have hjl:j<l.length:=by rw[List.length_zip] at hj;omega
    have hjF:j<F.length:=by omega
    rw[List.getElem_zip] at e
    have e1:l[j]?=some p.1:=by rw[List.getElem?_eq_getElem hjl,←e]
    have e2:F.getD j (.det undef)=p.2:=by rw[List.getD_eq_getElem?_getD,List.getElem?_eq_getElem hjF,←e];rfl
    have:=hI.fact j p.1 t e1 (hall j hjl) hd (.inl (by rw[e2];exact hk))
    rw[e2] at this
    exact this)
   have h2:((l.zip F).foldl (fun arr p=>match p.1.dst with|some t=>arr.setIfInBounds t (a'.tmps.getD t undef)|none=>arr) a.tmps)=a'.tmps:=by
    apply Array.ext_getElem?
    intro t
    rw[wH]
    by_cases hex:∃p∈l.zip F,p.1.dst=some t
    ·obtain⟨p,hp,hd⟩:=hex
     obtain⟨j,hj,e⟩:=List.getElem_of_mem hp
     have hjl:j<l.length:=by rw[List.length_zip] at hj;omega
     rw[List.getElem_zip] at e
     have e1:l[j]?=some p.1:=by rw[List.getElem?_eq_getElem hjl,←e]
     have hlt:=(m9 hB e1 hd).1
     rw[if_pos ⟨⟨p,hp,hd⟩,by omega⟩,Array.getD_eq_getD_getElem?,Array.getElem?_eq_getElem (by rw[hI.size];omega)]
     rfl
    ·rw[if_neg (fun h=>hex h.1)]
     refine(hI.same t fun j o hj _ hd=>hex ?_).symm
     have hjl:=(List.getElem?_eq_some_iff.1 hj).1
     have hjF:j<F.length:=by omega
     refine⟨(l[j],F[j]), ?_, ?_⟩
     ·have hz:j<(l.zip F).length:=by rw[List.length_zip];omega
      have:(l.zip F)[j]=(l[j],F[j]):=List.getElem_zip
      rw[←this]
      exact List.getElem_mem hz
     ·have:l[j]=o:=(List.getElem?_eq_some_iff.1 hj).2
      rw[this];exact hd
   rw[h2,←hI.defers] at h1
   exact h1
  have allOf:∀(listed:Array Bool),listed.size=l.length→listed.toList.countP (fun b=> !b)=0→∀j,j<l.length→listed.getD j false=true:=by
   intro listed hs hc j hj
   rw[List.countP_eq_zero] at hc
   have h1:j<listed.size:=by omega
   have h2:=hc listed[j] (by simp)
   simpa[h1] using h2
  intro fuel
  induction fuel with
  |zero=>
   intro listed a' w' hI hf
   have hall:=allOf listed hI.lsize (by omega)
   have hr:Region.ready .any l.toArray listed=[]:=by
    rw[List.eq_nil_iff_forall_not_mem]
    intro i hi
    obtain⟨hun,o,ho,_⟩:=mem_ready.1 hi
    have hlt:i<l.length:=by
     rw[List.getElem?_toArray] at ho
     exact(List.getElem?_eq_some_iff.1 ho).1
    have:=hall i hlt
    rw[ei hun] at this
    cases this
   exact⟨hr,done listed a' w' hI hr hall⟩
  |succ fuel ih=>
   intro listed a' w' hI hf
   have stepd:∀i∈Region.ready .any l.toArray listed,wpOp P l.toArray Q i (wpAny P .any l.toArray Q fuel (listed.setIfInBounds i true)) a' w':=by
    intro i hi
    obtain⟨hun,o,ho,hall⟩:=mem_ready.1 hi
    rw[List.getElem?_toArray] at ho
    have hlt:=(List.getElem?_eq_some_iff.1 ho).1
    have hcount:(listed.setIfInBounds i true).toList.countP (fun b=> !b)≤fuel:=by
     have hls:i<listed.size:=by rw[hI.lsize];exact hlt
     have hget:listed[i]=false:=by simpa[hls] using hun
     have:=List.countP_set (p:=fun b=> !b) (l:=listed.toList) (i:=i) (a:=true) (by simpa using hls)
     have hpos:0<listed.toList.countP (fun b=> !b):=List.countP_pos_iff.2 ⟨listed[i],by simp,by simp[hget]⟩
     rw[Array.toList_setIfInBounds,this,if_pos (by simp[hget]),if_neg (by simp)]
     omega
    have hob1:=hob i o ho a'.eval w' (IE a') hI.world (by
     intro t ht
     unfold fI
     cases hs:kg l o t with
     |some j=>
      obtain⟨hon,oj,hj,hd⟩:=AW hs
      obtain⟨e,he,hb,rfl⟩:=lS hon
      exact hI.fact e.on oj t hj (hall e he hb) hd (.inr ⟨i,o,ho,ei hun,by unfold yf;rw[hon,hj];simp only[hd,Bool.true_and];simpa using ht⟩)
     |none=>
      refine lE (hI.same t fun j oj hj hl hd=> ?_)
      rcases vv hB ho t ht j oj hj hd with h|h
      ·rw[AV hs hj hd] at h;cases h
      ·have:=dO hI.closed i l.length j h hl
       rw[ei hun] at this
       cases this) (by
     intro ph hp hs
     unfold Ge at hs
     rw[Bool.and_eq_true] at hs
     refine hI.phase ph hp (fun a ha=> ?_) (fun b hb=> ?_)
     ·have h1:=hs.1
      rw[ha] at h1
      simp only[Bool.and_eq_true,bne_iff_ne] at h1
      obtain⟨f,hf⟩:∃f,l.length=f+1:=⟨l.length - 1,by omega⟩
      have h2:=h1.2
      rw[hf] at h2
      unfold blk at h2
      rw[Bool.or_eq_true,beq_iff_eq] at h2
      rcases h2 with e|h2
      ·exact absurd e.symm h1.1
      ·rw[ho] at h2
       obtain⟨e,he,hbb⟩:=Array.any_eq_true'.1 h2
       simp only[Bool.and_eq_true] at hbb
       exact dO hI.closed a f e.on hbb.2 (hall e he hbb.1)
     ·have h1:=hs.2
      rw[hb] at h1
      cases hl:listed.getD b false with
      |false=>rfl
      |true=>
       have:=dO hI.closed i l.length b h1 hl
       rw[ei hun] at this
       cases this)
    unfold wpOp
    simp only[List.getElem?_toArray,ho]
    rw[fO]
    by_cases hw:bV l o a'.eval=true
    ·rw[if_pos hw] at hob1 ⊢
     exact .inl (Ff hob1 fun v w'' ⟨hC2,hT2,hF2,hS2⟩=>ih _ _ _ (hI.step hB hn ho hi hstab hph hC2 hT2 hF2 hS2 hlk) hcount)
    ·rw[if_neg hw] at hob1 ⊢
     exact ih _ _ _ (hI.step hB hn ho hi hstab hph hI.world hob1.1 hob1.2.1 hob1.2.2 hlk) hcount
   refine⟨fun hr=> ?_,stepd⟩
   refine done listed a' w' hI hr ?_
   intro j
   induction j using Nat.strongRecOn with
   |_ j jh=>
    intro hj
    cases hl:listed.getD j false with
    |true=>rfl
    |false=>
     exfalso
     have hnr:j∉Region.ready .any l.toArray listed:=by rw[hr];simp
     refine hnr (mem_ready.2 ⟨lD (by rw[hI.lsize];exact hj) hl,l[j],by rw[List.getElem?_toArray,List.getElem?_eq_getElem hj],fun e he hb=> ?_⟩)
     have hlt:=vu hB (List.getElem?_eq_getElem hj) e he hb
     exact jh e.on hlt (by omega)
 have hrep:∀j,(Array.replicate l.toArray.size false).getD j false=false:=fun j=>by
  rw[Array.getD_eq_getD_getElem?]
  by_cases h:j<l.toArray.size
  ·rw[Array.getElem?_replicate,if_pos h];rfl
  ·rw[Array.getElem?_replicate,if_neg h];rfl
 refine main _ _ _ _ ⟨hC,by simp,rfl,rfl, ?_,fun _ _=>rfl, ?_, ?_⟩ ?_
 ·intro j oj hj hl
  rw[hrep j] at hl
  cases hl
 ·intro j o t hj hl
  rw[hrep j] at hl
  cases hl
 ·intro ph hp hs _
  cases ha:ph.start with
  |none=>exact hph0 ph hp ha
  |some a=>
   have:=hs a ha
   rw[hrep a] at this
   cases this
 ·rw[Array.toList_replicate]
  exact Nat.le_trans List.countP_le_length (by simp)
theorem pz {id:Nat} {Q:Exit→Act→World→Prop} {a:Act} {w:World} (n:Nat) (F:List eQ) (Ph:List ff) (C:World→Prop) (T:Nat→World→World→Prop) (hm:P.follows .mixedOrders=true) (hn:a.tmps.size=n) (hB:ku l n=true) (hFl:F.length=l.length) (hC:C {w with drawn:=w.drawn+1})
 (hstab:∀i j x w w',pc l F i j=true→i≠j→C w→(F.getD j (.det undef)).says x w→T i w w'→(F.getD j (.det undef)).says x w')
 (hph0:∀ph∈Ph,ph.start=none→ph.p (n5 a.eval) {w with drawn:=w.drawn+1})
 (hph:∀i (ph:ff) σ w w',ph∈Ph→ph.start≠some i→ph.upto≠some i→p8 l i ph.start ph.upto=true→C w→ph.p σ w→T i w w'→ph.p σ w')
 (hpl:∀ph∈Ph,∀a,ph.start=some a→a<l.length)
 (hob:∀i o,l[i]?=some o→Ob P l F Ph C T a.tmps i o)
 (hlk:IJ l (Ph.map fun ph=>(ph.start,ph.looks))=true)
 (hfin:∀σ w',C w'→(∀ph∈Ph,ph.upto=none→ph.p σ w')→vP σ (fun arr=>Q .normal ⟨arr,a.defers⟩ w') w' (l.zip F) a.tmps):(Code.region id l.toArray true).wp P Q a w:=
 wp_region_any hm (pt n F Ph C T hn hB hFl hC hstab hph0 hph hpl hob hlk hfin)
def vR (P:Program) (l:List Oper) (F:List eQ) (Ph:List ff) (C:World→Prop) (T:Nat→World→World→Prop) (a0:Array Value):Nat→List Oper→Prop
 |_,[]=>True
 |i,o::r=>Ob P l F Ph C T a0 i o∧vR P l F Ph C T a0 (i+1) r
theorem xE :∀(r:List Oper) (k:Nat),vR P l F Ph C T a0 k r→∀i o,r[i]?=some o→Ob P l F Ph C T a0 (k+i) o
 |[],_,_,i,o,h=>by simp at h
 |o::r,k,h,0,o',ho=>by
  have:o=o':=by simpa using ho
  subst this
  exact h.1
 |o::r,k,h,i+1,o',ho=>by
  have:=xE r (k+1) h.2 i o' (by simpa using ho)
  rw[show k+(i+1)=k+1+i by omega]
  exact this
theorem Ec (h:vR P l F Ph C T a0 0 l):∀i o,l[i]?=some o→Ob P l F Ph C T a0 i o:=fun i o ho=>by
 have:=xE l 0 h i o ho
 rwa [Nat.zero_add] at this
theorem GR {o:Oper} {ev:Operand→Value} {w:World} {v:Value} (hs:∀t∈o.looksAt l.toArray,fI l F a0 o t (ev (.tmp t)) w) (t:Nat) (h1:(o.looksAt l.toArray).contains t=true) (h2:kg l o t=none) (h3:a0[t]?=some v):ev (.tmp t)=v:=by
 have:=hs t (by simpa using h1)
 unfold fI at this
 rw[h2] at this
 simp only at this
 rw[this,Array.getD_eq_getD_getElem?,h3];rfl
theorem GQ {o:Oper} {ev:Operand→Value} {w:World} {v:Value} (hs:∀t∈o.looksAt l.toArray,fI l F a0 o t (ev (.tmp t)) w) (t j:Nat) (h1:(o.looksAt l.toArray).contains t=true) (h2:kg l o t=some j) (h3:F.getD j (.det undef)= .det v):ev (.tmp t)=v:=by
 have:=hs t (by simpa using h1)
 unfold fI at this
 rw[h2] at this
 simp only at this
 rw[h3] at this
 exact this
theorem FD {o:Oper} {ev:Operand→Value} {w:World} {p:Value→World→Prop} (hs:∀t∈o.looksAt l.toArray,fI l F a0 o t (ev (.tmp t)) w) (t j:Nat) (h1:(o.looksAt l.toArray).contains t=true) (h2:kg l o t=some j) (h3:F.getD j (.det undef)= .held p):p (ev (.tmp t)) w:=by
 have:=hs t (by simpa using h1)
 unfold fI at this
 rw[h2] at this
 simp only at this
 rw[h3] at this
 exact this
theorem FE {o:Oper} {ev:Operand→Value} {w:World} {p:Value→World→Prop} (hs:∀t∈o.looksAt l.toArray,fI l F a0 o t (ev (.tmp t)) w) (t j:Nat) (h1:(o.looksAt l.toArray).contains t=true) (h2:kg l o t=some j) (h3:F.getD j (.det undef)= .used p):p (ev (.tmp t)) w:=by
 have:=hs t (by simpa using h1)
 unfold fI at this
 rw[h2] at this
 simp only at this
 rw[h3] at this
 exact this
theorem aJ {o:Oper} {ev:Operand→Value} (h:o.guard=none):bV l o ev=true:=by unfold bV;rw[h]
theorem fm {o:Oper} {ev:Operand→Value} {g:Nat} {b q r:Bool} {t:Nat} (h:o.guard=some (g,b)) (hd:(l[g]?).bind (·.dst)=some t) (hv:ev (.tmp t)= .bool q) (hr:(q==b)=r):bV l o ev=r:=by
 unfold bV
 rw[h]
 simp only[hd,hv]
 exact hr
theorem av {i:Nat} (hp:Ph.all (fun ph=>ph.start !=some i)=true) {w:World} {σ:Nat→Value}:∀ph∈Ph,ph.start=some i→ph.p σ w:=fun ph h1 h2=>by
 have:=List.all_eq_true.1 hp ph h1
 rw[h2] at this
 simp at this
theorem rL {i:Nat} {o:Oper} {ev:Operand→Value} {w:World} {v:Value} (hw:bV l o ev=true) (hF:F.getD i (.det undef)= .det v) (hp:Ph.all (fun ph=>ph.start !=some i)=true) (hC:C w) (hT:T i w w) (h:(execOp ev o).run P w= .ok (.value v) w):
 if bV l o ev=true then km P ev o w (fun v w'=>C w'∧T i w w'∧(F.getD i (.det undef)).says v w'∧∀ph∈Ph,ph.start=some i→ph.p (n5 ev) w') else T i w w∧(F.getD i (.det undef)).says undef w∧∀ph∈Ph,ph.start=some i→ph.p (n5 ev) w:=
 bf hw (bI h ⟨hC,hT,by rw[hF];rfl,av hp⟩)
def pL (C:World→Prop) (R:World→World→Prop):eQ→Prop
 | .det _=>True
 | .held p=>∀x w w',C w→p x w→R w w'→p x w'
 | .used p=>∀x w w',C w→p x w→R w w'→p x w'
def uF (C:World→Prop) (R:World→World→Prop):List eQ→Prop
 |[]=>True
 |f::r=>pL C R f∧uF C R r
theorem pL.use {R:World→World→Prop} {f:eQ} (h:pL C R f) {x:Value} {w w':World} (hC:C w) (hx:f.says x w) (hR:R w w'):f.says x w':=by
 cases f with
 |det v=>exact hx
 |held p=>exact h x w w' hC hx hR
 |used p=>exact h x w w' hC hx hR
theorem rl {R:World→World→Prop}:∀{F:List eQ},uF C R F→∀j,pL C R (F.getD j (.det undef))
 |[],_,j=>by simp[pL]
 |f::r,h,0=>h.1
 |f::r,h,j+1=>by
  have:=rl h.2 j
  simpa using this
def eQ.isDet :eQ→Bool
 | .det _=>true
 |_=>false
def aG (sp:List (Nat×(World→World→Prop))) (R:World→World→Prop) (i:Nat) (w w':World):Prop:=match sp.find? (fun p=>p.1==i) with|some p=>p.2 w w'|none=>R w w'
theorem aG.of {sp:List (Nat×(World→World→Prop))} {R:World→World→Prop} {i:Nat} {w w':World} (hn:sp.find? (fun p=>p.1==i)=none) (h:R w w'):aG sp R i w w':=by unfold aG;rw[hn];exact h
theorem aG.sp {sp:List (Nat×(World→World→Prop))} {R:World→World→Prop} {i:Nat} {p:Nat×(World→World→Prop)} {w w':World} (hn:sp.find? (fun p=>p.1==i)=some p) (h:p.2 w w'):aG sp R i w w':=by unfold aG;rw[hn];exact h
def GW (l:List Oper) (ds ks:List Bool) (js:List (Nat×Nat)) (apps:List Nat):Bool:=
 apps.all fun i=>(List.range l.length).all fun j=>ds.getD j true||j==i||blk l i l.length j||
  !(ks.getD j true||(List.range l.length).any fun k=>(k !=i&& !blk l k l.length i)&&(match l[k]? with|some o=>yf l o j|none=>false))||js.contains (i,j)
def IP (l:List Oper) (ps:List (Option Nat×Option Nat)) (jp:List (Nat×Nat)) (apps:List Nat):Bool:=
 apps.all fun i=>(List.range ps.length).all fun k=>match ps[k]? with
  |some q=>q.1==some i||q.2==some i|| !p8 l i q.1 q.2||jp.contains (i,k)
  |none=>true
theorem wk {B:Type} (f:eQ→B) (d:eQ) {db:B} (hd:f d=db) (j:Nat):(F.map f).getD j db=f (F.getD j d):=by
 rw[List.getD_eq_getElem?_getD,List.getD_eq_getElem?_getD,List.getElem?_map]
 cases F[j]? with
 |none=>exact hd.symm
 |some x=>rfl
def D7 (F:List eQ) (C:World→Prop) (sp:List (Nat×(World→World→Prop))):List (Nat×Nat)→Prop
 |[]=>True
 |p::r=>(match sp.find? (fun q=>q.1==p.1) with|some q=>pL C q.2 (F.getD p.2 (.det undef))|none=>False)∧D7 F C sp r
theorem wY {sp:List (Nat×(World→World→Prop))}:∀{js:List (Nat×Nat)},D7 F C sp js→∀i j,(i,j)∈js→(match sp.find? (fun q=>q.1==i) with|some q=>pL C q.2 (F.getD j (.det undef))|none=>False)
 |[],_,_,_,h=>by cases h
 |p::r,h,i,j,hm=>by
  rcases List.mem_cons.1 hm with e|e
  ·subst e;exact h.1
  ·exact wY h.2 i j e
theorem bF {R:World→World→Prop} (sp:List (Nat×(World→World→Prop))) (ds ks:List Bool) (js:List (Nat×Nat)) (hds:F.map eQ.isDet=ds) (hks:F.map eQ.keeps=ks) (hFl:F.length=l.length) (hchk:GW l ds ks js (sp.map (·.1))=true) (h:uF C R F) (hjs:D7 F C sp js):
 ∀i j x w w',pc l F i j=true→i≠j→C w→(F.getD j (.det undef)).says x w→aG sp R i w w'→(F.getD j (.det undef)).says x w':=by
 intro i j x w w' hn hij hC hx hT
 unfold aG at hT
 cases ha:sp.find? (fun p=>p.1==i) with
 |none=>rw[ha] at hT;exact(rl h j).use hC hx hT
 |some p=>
  rw[ha] at hT
  have hpm:=List.mem_of_find?_eq_some ha
  have hpi:p.1=i:=by simpa using List.find?_some ha
  cases hd:(F.getD j (.det undef)).isDet with
  |true=>
   generalize F.getD j (.det undef)=f at*
   cases f with
   |det v=>exact hx
   |held p=>cases hd
   |used p=>cases hd
  |false=>
   have hj:j<l.length:=by
    rcases Nat.lt_or_ge j l.length with h|h
    ·exact h
    ·rw[List.getD_eq_getElem?_getD,List.getElem?_eq_none (by omega)] at hd;cases hd
   have h1:=List.all_eq_true.1 (List.all_eq_true.1 hchk i (List.mem_map.2 ⟨p,hpm,hpi⟩)) j (List.mem_range.2 hj)
   have e1:ds.getD j true=(F.getD j (.det undef)).isDet:=by rw[←hds];exact wk eQ.isDet (.det undef) rfl j
   have e2:ks.getD j true=(F.getD j (.det undef)).keeps:=by rw[←hks];exact wk eQ.keeps (.det undef) rfl j
   rw[e1,e2,hd] at h1
   unfold pc at hn
   rw[Bool.and_eq_true,Bool.not_eq_true'] at hn
   rw[hn.1,hn.2,show(j==i)=false from by simpa using fun e=>hij e.symm] at h1
   have hm:(i,j)∈js:=by simpa using h1
   have h2:=wY hjs i j hm
   rw[ha] at h2
   exact pL.use h2 hC hx hT
def DZ (Ph:List ff) (C:World→Prop) (sp:List (Nat×(World→World→Prop))):List (Nat×Nat)→Prop
 |[]=>True
 |p::r=>(match sp.find? (fun q=>q.1==p.1),Ph[p.2]? with|some q,some ph=>∀σ w w',C w→ph.p σ w→q.2 w w'→ph.p σ w'|_,_=>False)∧DZ Ph C sp r
theorem wX {sp:List (Nat×(World→World→Prop))}:∀{jp:List (Nat×Nat)},DZ Ph C sp jp→∀i k,(i,k)∈jp→(match sp.find? (fun q=>q.1==i),Ph[k]? with|some q,some ph=>∀σ w w',C w→ph.p σ w→q.2 w w'→ph.p σ w'|_,_=>False)
 |[],_,_,_,h=>by cases h
 |p::r,h,i,k,hm=>by
  rcases List.mem_cons.1 hm with e|e
  ·subst e;exact h.1
  ·exact wX h.2 i k e
theorem rO {R:World→World→Prop} (sp:List (Nat×(World→World→Prop))) (ps:List (Option Nat×Option Nat)) (jp:List (Nat×Nat)) (hps:Ph.map (fun ph=>(ph.start,ph.upto))=ps) (hchk:IP l ps jp (sp.map (·.1))=true) (h:∀ph∈Ph,∀σ w w',C w→ph.p σ w→R w w'→ph.p σ w') (hjp:DZ Ph C sp jp):
 ∀i (ph:ff) σ w w',ph∈Ph→ph.start≠some i→ph.upto≠some i→p8 l i ph.start ph.upto=true→C w→ph.p σ w→aG sp R i w w'→ph.p σ w':=by
 intro i ph σ w w' hp hs hu hl hC hx hT
 unfold aG at hT
 cases ha:sp.find? (fun p=>p.1==i) with
 |none=>rw[ha] at hT;exact h ph hp σ w w' hC hx hT
 |some p=>
  rw[ha] at hT
  have hpm:=List.mem_of_find?_eq_some ha
  have hpi:p.1=i:=by simpa using List.find?_some ha
  obtain⟨k,hk,hke⟩:=List.getElem_of_mem hp
  have hkp:ps[k]?=some (ph.start,ph.upto):=by
   rw[←hps,List.getElem?_map,List.getElem?_eq_getElem hk,hke];rfl
  have h1:=List.all_eq_true.1 (List.all_eq_true.1 hchk i (List.mem_map.2 ⟨p,hpm,hpi⟩)) k (List.mem_range.2 (List.getElem?_eq_some_iff.1 hkp).1)
  rw[hkp] at h1
  simp only[Bool.or_eq_true,beq_iff_eq,hl,Bool.not_true] at h1
  rcases h1 with((h1|h1)|h1)|h1
  ·exact absurd h1 hs
  ·exact absurd h1 hu
  ·cases h1
  ·have h2:=wX hjp i k (by simpa using h1)
   rw[ha,List.getElem?_eq_getElem hk,hke] at h2
   exact h2 σ w w' hC hx hT
def aA (w w':World):Prop:=Below w.heap.size w w'
theorem aA.refl (w:World):aA w w:=Below.refl _ _
end
abbrev oR :=List (Nat×Value)
def eX :oR→Nat→Option Value
 |[],_=>none
 |(s,v)::r,t=>bif Nat.beq s t then some v else eX r t
def qv :oR→Nat→Option Value
 |[],_=>none
 |(s,v)::r,t=>bif s==t then some v else qv r t
theorem uN (s t:Nat):(s==t)=Nat.beq s t:=by
 rw[Bool.eq_iff_iff,beq_iff_eq]
 exact⟨fun h=>h▸Nat.beq_refl s,Nat.eq_of_beq_eq_true⟩
theorem we (t:Nat):∀Γ:oR,qv Γ t=eX Γ t
 |[]=>rfl
 |(s,v)::r=>by
  unfold qv eX
  rw[we t r,uN]
theorem oa (t:Nat) (v:Value) (s:Nat) (Γ:oR):eX ((t,v)::Γ) s=bif t==s then some v else eX Γ s:=by rw[uN];rfl
def p7 :List Nat→oR→oR
 |[],_=>[]
 |t::ks,Γ=>match qv Γ t with|some v=>(t,v)::p7 ks Γ|none=>p7 ks Γ
theorem oc {t:Nat} {v:Value} {Γ:oR}:∀{ks:List Nat},eX (p7 ks Γ) t=some v→eX Γ t=some v
 |[],h=>by cases h
 |k::ks,h=>by
  unfold p7 at h
  cases hk:qv Γ k with
  |none=>rw[hk] at h;exact oc h
  |some u=>
   rw[hk] at h
   rw[oa] at h
   by_cases e:k=t
   ·subst e
    simp only[beq_self_eq_true,cond_true] at h
    rw[←we,hk,h]
   ·have h2:(k==t)=false:=by simpa using e
    rw[h2,cond_false] at h
    exact oc h
def sW :Nat→List Value→oR
 |_,[]=>[]
 |i,v::r=>(i,v)::sW (i+1) r
theorem tS {t:Nat} {v:Value}:∀{i:Nat} {l:List Value},eX (sW i l) t=some v→i≤t∧l[t - i]?=some v
 |_,[],h=>by cases h
 |i,x::r,h=>by
  unfold sW at h
  rw[oa] at h
  by_cases e:i=t
  ·subst e
   simp only[beq_self_eq_true,cond_true] at h
   simpa using h
  ·have h2:(i==t)=false:=by simpa using e
   rw[h2,cond_false] at h
   obtain⟨h3,h4⟩:=tS h
   refine⟨by omega, ?_⟩
   rw[show t - i=(t - (i+1))+1 by omega]
   simpa using h4
structure At (n:Nat) (Γ:oR) (a:Act):Prop where
 size:a.tmps.size=n
 defers:a.defers=[]
 env:∀t v,eX Γ t=some v→a.tmps[t]?=some v
structure gT (Γ:oR) (ev:Operand→Value):Prop where
 ok:Gg ev
 env:∀t v,eX Γ t=some v→ev (.tmp t)=v
def nu (e:Nat→Value) (t:Nat):oR→Value
 |[]=>e t
 |(s,v)::r=>bif Nat.beq s t then v else nu e t r
@[go_sem ↓] theorem Hz (e:Nat→Value) (t:Nat) (v:Value) (Γ:oR):nu e t ((t,v)::Γ)=v:=by unfold nu;rw[Nat.beq_refl];rfl
@[go_sem ↓] theorem H9 (e:Nat→Value) {s t:Nat} (v:Value) (Γ:oR) (h:(s==t)=false):nu e t ((s,v)::Γ)=nu e t Γ:=by
 rw[uN] at h
 show(bif Nat.beq s t then v else nu e t Γ)=_
 rw[h];rfl
theorem wc (e:Nat→Value) (t:Nat):∀Γ:oR,(∀v,eX Γ t=some v→e t=v)→nu e t Γ=e t
 |[],_=>rfl
 |(s,v)::r,h=>by
  unfold nu
  unfold eX at h
  cases hb:Nat.beq s t with
  |true=>rw[hb] at h;rw[cond_true];exact(h v rfl).symm
  |false=>rw[hb] at h;rw[cond_false];exact wc e t r h
abbrev Hx (Γ:oR) (e:Nat→Value) (ev:Operand→Value):Prop:=(∀v,ev (.const v)=v)∧(∀g,ev (.global g)= .pointer (some ⟨g,0,none⟩))∧(∀f,ev (.func f)= .func (.func f) #[] #[])∧∀t,ev (.tmp t)=nu e t Γ
theorem gT.evt {Γ:oR} {ev:Operand→Value} (h:gT Γ ev):Hx Γ (fun t=>ev (.tmp t)) ev:=
 ⟨h.ok.const,h.ok.global,h.ok.func,fun t=>(wc (fun t=>ev (.tmp t)) t Γ fun v e=>h.env t v e).symm⟩
def Dq (fn:Func):Bool:= !(fn.name== "runtime.NumGoroutine")&&fn.body.isSome
theorem aB {P:Program} {ev:Operand→Value} {o:Oper} {f:FuncId} {fn:Func} {ops:Array Operand} {tys:Array TypeId} {vals:Array Value} {w:World} (hf:P.funcs[f]?=some fn) (hc:Dq fn=true)
 (ho:o.op= .call {callee:= .value (.func f),args:=ops,argTypes:=tys}) (hF:ev (.func f)= .func (.func f) #[] #[]) (hv:ops.map ev=vals):(execOp ev o).run P w= .ok (.enter f vals) w:=by
 unfold Dq at hc
 rw[Bool.and_eq_true,Bool.not_eq_true'] at hc
 have hn:¬fn.name= "runtime.NumGoroutine" :=by simpa using hc.1
 have hb:¬fn.body=none:=by
  have:=hc.2
  cases h:fn.body with
  |none=>rw[h] at this;cases this
  |some c=>simp
 unfold execOp
 simp only[ho]
 simp[resolve,Deferred.ofValue,hF,hv,invoke,callFunc,hf,hn,hb]
section
variable {P:Program} {Q Q0:Exit→Act→World→Prop} {a:Act} {w w':World} {n:Nat} {Γ Γ':oR} {l rest:List Oper} {o:Oper} {t:Nat} {v:Value} {ev:Operand→Value} {q b:Bool} {next:Act→World→Prop} {id:Nat}
theorem gT.get (h:gT Γ ev) (t:Nat) {v:Value} (e:eX Γ t=some v):ev (.tmp t)=v:=h.env t v e
theorem gT.c (h:gT Γ ev) (v:Value):ev (.const v)=v:=h.ok.const v
theorem gT.f (h:gT Γ ev) (f:FuncId):ev (.func f)= .func (.func f) #[] #[]:=h.ok.func f
theorem At.evin (h:At n Γ a):gT Γ a.eval:=⟨IE a,fun t v e=>by
 have:=h.env t v e
 simp[Act.eval,this]⟩
theorem At.getD (h:At n Γ a) (t:Nat) {v:Value} (e:eX Γ t=some v):a.tmps.getD t undef=v:=by
 rw[Array.getD_eq_getD_getElem?,h.env t v e];rfl
theorem At.put (h:At n Γ a) (ht:t<n) (v:Value):At n ((t,v)::Γ) (a.put (some t) v):=by
 refine⟨by rw[xU,h.size],by rw[BW,h.defers],fun s u e=> ?_⟩
 rw[oa] at e
 by_cases hts:t=s
 ·subst hts
  simp only[beq_self_eq_true,cond_true,Option.some.injEq] at e
  subst e
  have:t<a.tmps.size:=by rw[h.size];exact ht
  simp[Act.put,this]
 ·have h2:(t==s)=false:=by simpa using hts
  rw[h2,cond_false] at e
  rw[mB (fun e=>hts (Option.some.inj e))]
  exact h.env s u e
theorem At.keep (h:At n Γ a) (ks:List Nat):At n (p7 ks Γ) a:=⟨h.size,h.defers,fun t v e=>h.env t v (oc e)⟩
theorem aK {f:FuncId} {fn:Func} {c:Code} {args:Array Value} {R:Ending→World→Prop} (n:Nat) (hf:P.funcs[f]?=some fn) (hb:fn.body=some c) (hn:fn.ntmps=n) (ha:args.size≤n)
 (h:∀a,At n (sW 0 args.toList) a→c.wp P (bodyPost P fn R) a w):Calls P f args w R:=by
 refine calls_of_wp hf hb (h _ ⟨?_,rfl,fun t v e=> ?_⟩)
 ·simp[hn];omega
 ·have h2:=(tS e).2
  rw[Nat.sub_zero,Array.getElem?_toList] at h2
  show(args++Array.replicate (fn.ntmps - args.size) undef)[t]?=some v
  have hlt:=(Array.getElem?_eq_some_iff.1 h2).1
  rw[Array.getElem?_append_left hlt]
  exact h2
theorem G6 (h:Q .normal a w):Exit.inBlock id Q (.exit id) a w:=by
 show(if id=id then Q .normal a w else Q (.exit id) a w)
 rw[if_pos rfl];exact h
theorem aH {x y:Code} (hA:At n Γ a) (t:Nat) (q:Bool) (hl:eX Γ t=some (.bool q)) (ht:q=true→x.wp P Q a w) (hf:q=false→y.wp P Q a w):(Code.cond (.tmp t) x y).wp P Q a w:=
 wp_cond_split (hA.evin.get t hl) ht hf
theorem cd {x y:Code} (R:Act→World→Prop) (h:x.wp P (Exit.then R Q) a w) (hy:∀a w,R a w→y.wp P Q a w):x.wp P (Exit.then (y.wp P Q) Q) a w:=
 wp_mono h fun e a w q=>by cases e<;>first|exact hy _ _ q|exact q
theorem aQ {c:Code} (I:Nat→Act→World→Prop) (k:Nat) (h0:I k a w) (round:∀k a w,I k a w→c.wp P (Exit.then (fun a' w'=>∃k',k'<k∧I k' a' w') Q) a w):(Code.loop c).wp P Q a w:=
 wp_loop_ghost I k h0 round
theorem a7 {v:Value} (hA:At n Γ a) (hg:o.guard=none) (hd:o.dst=some t) (ht:t<n) (hrun:∀ev,gT Γ ev→(execOp ev o).run P w= .ok (.value v) w')
 (hk:∀a',At n ((t,v)::Γ) a'→wpList P l.toArray Q rest a' w'):wpList P l.toArray Q (o::rest) a w:=by
 refine wpList_plain hg fun K hK=> ?_
 unfold Oper.wp
 rw[hrun _ hA.evin,Oper.upon_value,hd]
 exact hK _ _ (hk _ (hA.put ht v))
theorem aP {v:Value} {x:Obj} (hA:At n Γ a) (hg:o.guard=none) (hd:o.dst=some t) (ht:t<n) (hrun:∀ev,gT Γ ev→(execOp ev o).run P w= .ok (.value v) (w.alloc x))
 (hk:∀w1 a',w1.heap[w.heap.size]?=some x→w1.heap.size=w.heap.size+1→Below w.heap.size w w1→At n ((t,v)::Γ) a'→wpList P l.toArray Q rest a' w1):wpList P l.toArray Q (o::rest) a w:=
 a7 hA hg hd ht hrun fun a' hA'=>hk _ a' (heap_alloc_new w x) (by simp) ((Below.refl _ _).alloc (Nat.le_refl _) x) hA'
def setAll (w:World) (g:Nat):Nat→List Value→World
 |_,[]=>w
 |i,c::r=>setAll (w.setCell ⟨g,i,none⟩ c) g (i+1) r
theorem ij {g:Nat} {T:TypeId}:∀(cs:List Value) (i:Nat) (w:World) (z:List Value),aI w g T z.toArray→i+cs.length=z.length→aI (setAll w g i cs) g T (z.take i++cs).toArray
 |[],i,w,z,h,hl=>by
  have e:z.take i=z:=List.take_of_length_le (by simp at hl;omega)
  rw[e,List.append_nil]
  exact h
 |c::r,i,w,z,h,hl=>by
  rw[List.length_cons] at hl
  have h2:=h.set_ i c
  rw[List.setIfInBounds_toArray] at h2
  have h3:=ij r (i+1) _ _ h2 (by rw[List.length_set];omega)
  have e:(z.set i c).take (i+1)++r=z.take i++c::r:=by
   have hi:i<(z.set i c).length:=by rw[List.length_set];omega
   rw[List.take_succ_eq_append_getElem hi,List.getElem_set_self,List.take_set_of_le (Nat.le_refl i),List.append_assoc]
   rfl
  rw[e] at h3
  exact h3
theorem n9 {B g:Nat} {W:World} (hg:B≤g):∀(cs:List Value) (i:Nat) (w:World),Below B W w→Below B W (setAll w g i cs)
 |[],_,_,h=>h
 |c::r,i,w,h=>n9 hg r (i+1) _ (Below.setCell h (by exact hg) c)
theorem po {g:Nat}:∀(cs:List Value) (i:Nat) (w:World),(setAll w g i cs).heap.size=w.heap.size
 |[],_,_=>rfl
 |c::r,i,w=>by
  show(setAll _ g (i+1) r).heap.size=_
  rw[po r]
  simp
theorem ap {o2:Oper} {T:TypeId} {z:List Value} (cs:List Value) (hA:At n Γ a) (hg:o.guard=none) (hd:o.dst=some t) (ht:t<n) (hrun:∀ev,gT Γ ev→(execOp ev o).run P w= .ok (.value (.pointer (some ⟨w.heap.size,0,none⟩))) (w.alloc (.cells z.toArray T)))
 (hg2:o2.guard=none) (hd2:o2.dst=none) (hz:cs.length=z.length) (hrun2:∀w1 g ev,aI w1 g T z.toArray→gT ((t, .pointer (some ⟨g,0,none⟩))::Γ) ev→(execOp ev o2).run P w1= .ok .skip (setAll w1 g 0 cs))
 (hk:∀w1 a',aI w1 w.heap.size T cs.toArray→w1.heap.size=w.heap.size+1→Below w.heap.size w w1→At n ((t, .pointer (some ⟨w.heap.size,0,none⟩))::Γ) a'→wpList P l.toArray Q rest a' w1):wpList P l.toArray Q (o::o2::rest) a w:=by
 refine a7 hA hg hd ht hrun fun a' hA'=> ?_
 have hb:aI (w.alloc (.cells z.toArray T)) w.heap.size T z.toArray:=heap_alloc_new w _
 refine wpList_plain hg2 fun K hK=> ?_
 unfold Oper.wp
 rw[hrun2 _ w.heap.size _ hb hA'.evin,Oper.upon_skip,hd2]
 refine hK _ _ (hk _ a' ?_ ?_ ?_ hA')
 ·have:=ij cs 0 _ _ hb (by omega)
  simpa using this
 ·rw[po];simp
 ·exact n9 (Nat.le_refl _) cs 0 _ ((Below.refl _ _).alloc (Nat.le_refl _) _)
structure dZ (g:Nat) (w w':World):Prop where
 os:w'.os=w.os
 tape:w'.tape=w.tape
 output:w'.output=w.output
 size:w'.heap.size=w.heap.size
 block:∀i,i≠g→w'.heap[i]?=w.heap[i]?
theorem dZ.refl (g:Nat) (w:World):dZ g w w:=⟨rfl,rfl,rfl,rfl,fun _ _=>rfl⟩
theorem dZ.trans {g:Nat} {w w' w'':World} (h:dZ g w w') (k:dZ g w' w''):dZ g w w'':=⟨k.os.trans h.os,k.tape.trans h.tape,k.output.trans h.output,k.size.trans h.size,fun i hi=>(k.block i hi).trans (h.block i hi)⟩
theorem dZ.set {g i:Nat} {w:World} {u:Value}:dZ g w (w.setCell ⟨g,i,none⟩ u):=⟨rfl,rfl,rfl,by simp,fun j hj=>Below.heap_setCell _ _ _ _ hj⟩
theorem dZ.setAll {g:Nat}:∀(cs:List Value) (i:Nat) (w:World),dZ g w (setAll w g i cs)
 |[],_,w=>dZ.refl g w
 |_::r,i,_=>dZ.set.trans (dZ.setAll r (i+1) _)
theorem dZ.below {g B:Nat} {W w w':World} (h:dZ g w w') (hb:Below B W w) (hg:B≤g):Below B W w':=
 ⟨h.os.trans hb.os,h.tape.trans hb.tape,h.output.trans hb.output,by rw[h.size];exact hb.size,fun i hi=>(h.block i (by omega)).trans (hb.block i hi)⟩
theorem dZ.blk {g k:Nat} {T:TypeId} {cs:Array Value} {w w':World} (h:dZ g w w') (hb:aI w k T cs) (hk:k≠g):aI w' k T cs:=(h.block k hk).trans hb
theorem bX {g:Nat} {T:TypeId} {z:List Value} (cs:List Value) (hA:At n Γ a) (hg:o.guard=none) (hd:o.dst=none) (hK:aI w g T z.toArray) (hz:cs.length=z.length) (hrun:∀ev,gT Γ ev→(execOp ev o).run P w= .ok .skip (setAll w g 0 cs))
 (hk:∀w1,aI w1 g T cs.toArray→dZ g w w1→wpList P l.toArray Q rest a w1):wpList P l.toArray Q (o::rest) a w:=by
 refine wpList_plain hg fun K hK'=> ?_
 unfold Oper.wp
 rw[hrun _ hA.evin,Oper.upon_skip,hd]
 refine hK' _ _ (hk _ ?_ (dZ.setAll cs 0 w))
 have:=ij cs 0 _ _ hK (by omega)
 simpa using this
theorem jP (hA:At n Γ a) (hg:o.guard=none) (hd:o.dst=none) (hrun:∀ev,gT Γ ev→(execOp ev o).run P w= .ok .skip w')
 (hk:wpList P l.toArray Q rest a w'):wpList P l.toArray Q (o::rest) a w:=by
 refine wpList_plain hg fun K hK=> ?_
 unfold Oper.wp
 rw[hrun _ hA.evin,Oper.upon_skip,hd]
 exact hK _ _ hk
theorem aC {f:FuncId} {args:Array Value} {R:Ending→World→Prop} (hA:At n Γ a) (hg:o.guard=none) (hd:o.dst=some t) (ht:t<n) (hrun:∀ev,gT Γ ev→(execOp ev o).run P w= .ok (.enter f args) w)
 (hc:Calls P f args w R) (hk:∀e w',R e w'→∃v,e= .returned v∧∀a',At n ((t,v)::Γ) a'→wpList P l.toArray Q rest a' w'):wpList P l.toArray Q (o::rest) a w:=by
 refine wpList_plain hg fun K hK=> ?_
 unfold Oper.wp
 rw[hrun _ hA.evin,Oper.upon_enter]
 refine Calls.mono hc fun e w' hR=> ?_
 obtain⟨v,rfl,h⟩:=hk e w' hR
 rw[hd]
 exact hK _ _ (h _ (hA.put ht v))
def gw (c:Bool) (v:Value):Value:=bif c then v else undef
abbrev gv (q b:Bool) (v:Value):Value:=gw (q==b) v
theorem aL {c:Bool} {v:Value} (h:c=true):gw c v=v:=by rw[h];rfl
theorem wM {c d:Bool} {v:Value} (h:c=true):gw (c&&d) v=gw d v:=by rw[h];rfl
theorem aF {q b:Bool} (h:q=b):(q==b)=true:=by rw[h];cases b<;>rfl
theorem ax {c r b:Bool} (h:c=true) (k:r=b):(c&&(r==b))=true:=by rw[h,k];cases b<;>rfl
theorem G9 (v:Value):gw (true==true) v=v:=rfl
theorem G8 (v:Value):gw (false==false) v=v:=rfl
theorem lF (q r:Bool):(if q=true then Value.bool true else gw (q==false) (.bool r))= .bool (q||r):=by cases q<;>rfl
theorem iq (q r:Bool):(if q=true then gw (q==true) (.bool r) else Value.bool false)= .bool (q&&r):=by cases q<;>rfl
theorem iz {c x y:Operand} {r:Bool} (ho:o.op= .pick c x y) (hc:ev c= .bool q) (hx:ev x=gv q true (.bool r)) (hy:ev y= .bool false):(execOp ev o).run P w= .ok (.value (.bool (q&&r))) w:=by
 unfold execOp
 rw[ho]
 cases q<;>simp[go_sem,hc,hx,hy,gw]
theorem gz {c x y:Operand} {r:Bool} (ho:o.op= .pick c x y) (hc:ev c= .bool q) (hx:ev x= .bool true) (hy:ev y=gv q false (.bool r)):(execOp ev o).run P w= .ok (.value (.bool (q||r))) w:=by
 unfold execOp
 rw[ho]
 cases q<;>simp[go_sem,hc,hx,hy,gw]
theorem az {gi gt:Nat} {v:Value} (q:Bool) (hA:At n Γ a) (hg:o.guard=some (gi,b)) (hgd:(l[gi]?).bind (·.dst)=some gt) (hl:eX Γ gt=some (.bool q)) (hd:o.dst=some t) (ht:t<n)
 (hrun:q=b→∀ev,gT Γ ev→(execOp ev o).run P w= .ok (.value v) w) (hk:∀a',At n ((t,gv q b v)::Γ) a'→wpList P l.toArray Q rest a' w):wpList P l.toArray Q (o::rest) a w:=by
 have hw:Region.wanted o (yielded l.toArray a.tmps)=(q==b):=by
  rw[fO]
  exact fm hg hgd (hA.evin.get gt hl) rfl
 refine wpList_step fun K hK=> ?_
 rw[hw]
 cases hqb:q==b with
 |true=>
  rw[if_pos rfl]
  unfold Oper.wp
  rw[hrun (by simpa using hqb) _ hA.evin,Oper.upon_value,hd]
  have:=hk _ (hA.put ht (gv q b v))
  unfold gv gw at this
  rw[hqb] at this
  exact hK _ _ this
 |false=>
  rw[if_neg (by simp),hd]
  have:=hk _ (hA.put ht (gv q b v))
  unfold gv gw at this
  rw[hqb] at this
  exact hK _ _ this
theorem DR {gi gt:Nat} {v:Value} (c r:Bool) (hA:At n Γ a) (hg:o.guard=some (gi,b)) (hgd:(l[gi]?).bind (·.dst)=some gt) (hl:eX Γ gt=some (gw c (.bool r))) (hd:o.dst=some t) (ht:t<n)
 (hrun:c=true→r=b→∀ev,gT Γ ev→(execOp ev o).run P w= .ok (.value v) w) (hk:∀a',At n ((t,gw (c&&(r==b)) v)::Γ) a'→wpList P l.toArray Q rest a' w):wpList P l.toArray Q (o::rest) a w:=by
 have hev:=hA.evin.get gt hl
 have hw:Region.wanted o (yielded l.toArray a.tmps)=(c&&(r==b)):=by
  rw[fO]
  unfold bV
  rw[hg]
  simp only[hgd,hev]
  unfold gw
  cases c<;>rfl
 refine wpList_step fun K hK=> ?_
 rw[hw]
 have h3:=hk _ (hA.put ht (gw (c&&(r==b)) v))
 unfold gw at h3
 cases hcb:c&&(r==b) with
 |true=>
  rw[hcb] at h3
  rw[if_pos rfl]
  rw[Bool.and_eq_true,beq_iff_eq] at hcb
  unfold Oper.wp
  rw[hrun hcb.1 hcb.2 _ hA.evin,Oper.upon_value,hd]
  exact hK _ _ h3
 |false=>
  rw[hcb] at h3
  rw[if_neg (by simp),hd]
  exact hK _ _ h3
theorem FW {gi gt:Nat} {f:FuncId} {args:Array Value} {R:Ending→World→Prop} (q:Bool) (hA:At n Γ a) (hg:o.guard=some (gi,b)) (hgd:(l[gi]?).bind (·.dst)=some gt) (hl:eX Γ gt=some (.bool q)) (hd:o.dst=some t) (ht:t<n)
 (hrun:q=b→∀ev,gT Γ ev→(execOp ev o).run P w= .ok (.enter f args) w) (hc:q=b→Calls P f args w R) (K:Value→World→Prop)
 (hR:q=b→∀e w',R e w'→∃v,e= .returned v∧K v w') (hn:q≠b→K undef w) (hk:∀v a' w',K v w'→At n ((t,gv q b v)::Γ) a'→wpList P l.toArray Q rest a' w'):wpList P l.toArray Q (o::rest) a w:=by
 have hw:Region.wanted o (yielded l.toArray a.tmps)=(q==b):=by
  rw[fO]
  exact fm hg hgd (hA.evin.get gt hl) rfl
 refine wpList_step fun K' hK=> ?_
 rw[hw]
 cases hqb:q==b with
 |true=>
  have e:q=b:=by simpa using hqb
  rw[if_pos rfl]
  unfold Oper.wp
  rw[hrun e _ hA.evin,Oper.upon_enter]
  refine Calls.mono (hc e) fun e' w' hR'=> ?_
  obtain⟨v,rfl,h⟩:=hR e e' w' hR'
  rw[hd]
  have:=hk v _ w' h (hA.put ht (gv q b v))
  unfold gv gw at this
  rw[hqb] at this
  exact hK _ _ this
 |false=>
  rw[if_neg (by simp),hd]
  have:=hk undef _ w (hn (by simpa using hqb)) (hA.put ht (gv q b undef))
  unfold gv gw at this
  rw[hqb] at this
  exact hK _ _ this
theorem dK {gi gt:Nat} {f:FuncId} {args:Array Value} {v:Value} (q:Bool) (hA:At n Γ a) (hg:o.guard=some (gi,b)) (hgd:(l[gi]?).bind (·.dst)=some gt) (hl:eX Γ gt=some (.bool q)) (hd:o.dst=some t) (ht:t<n)
 (hrun:q=b→∀ev,gT Γ ev→(execOp ev o).run P w= .ok (.enter f args) w) (hc:q=b→Calls P f args w fun e w'=>e= .returned v∧Below w.heap.size w w')
 (hk:∀a' w',Below w.heap.size w w'→At n ((t,gv q b v)::Γ) a'→wpList P l.toArray Q rest a' w'):wpList P l.toArray Q (o::rest) a w:=by
 have hw:Region.wanted o (yielded l.toArray a.tmps)=(q==b):=by
  rw[fO]
  exact fm hg hgd (hA.evin.get gt hl) rfl
 refine wpList_step fun K' hK=> ?_
 rw[hw]
 cases hqb:q==b with
 |true=>
  have e:q=b:=by simpa using hqb
  rw[if_pos rfl]
  unfold Oper.wp
  rw[hrun e _ hA.evin,Oper.upon_enter]
  refine Calls.mono (hc e) fun e' w' ⟨he,hb⟩=> ?_
  subst he
  rw[hd]
  have:=hk _ w' hb (hA.put ht (gv q b v))
  unfold gv gw at this
  rw[hqb] at this
  exact hK _ _ this
 |false=>
  rw[if_neg (by simp),hd]
  have:=hk _ w (Below.refl _ _) (hA.put ht (gv q b v))
  unfold gv gw at this
  rw[hqb] at this
  exact hK _ _ this
theorem Af {gi gt:Nat} {f:FuncId} {args:Array Value} {v:Value} (c r:Bool) (hA:At n Γ a) (hg:o.guard=some (gi,b)) (hgd:(l[gi]?).bind (·.dst)=some gt) (hl:eX Γ gt=some (gw c (.bool r))) (hd:o.dst=some t) (ht:t<n)
 (hrun:c=true→r=b→∀ev,gT Γ ev→(execOp ev o).run P w= .ok (.enter f args) w) (hc:c=true→r=b→Calls P f args w fun e w'=>e= .returned v∧Below w.heap.size w w')
 (hk:∀a' w',Below w.heap.size w w'→At n ((t,gw (c&&(r==b)) v)::Γ) a'→wpList P l.toArray Q rest a' w'):wpList P l.toArray Q (o::rest) a w:=by
 have hev:=hA.evin.get gt hl
 have hw:Region.wanted o (yielded l.toArray a.tmps)=(c&&(r==b)):=by
  rw[fO]
  unfold bV
  rw[hg]
  simp only[hgd,hev]
  unfold gw
  cases c<;>rfl
 refine wpList_step fun K' hK=> ?_
 rw[hw]
 cases hqb:c&&(r==b) with
 |true=>
  have e:=hqb
  rw[Bool.and_eq_true,beq_iff_eq] at e
  rw[if_pos rfl]
  unfold Oper.wp
  rw[hrun e.1 e.2 _ hA.evin,Oper.upon_enter]
  refine Calls.mono (hc e.1 e.2) fun e' w' ⟨he,hb⟩=> ?_
  subst he
  rw[hd]
  have:=hk _ w' hb (hA.put ht (gw (c&&(r==b)) v))
  unfold gw at this
  rw[hqb] at this
  exact hK _ _ this
 |false=>
  rw[if_neg (by simp),hd]
  have:=hk _ w (Below.refl _ _) (hA.put ht (gw (c&&(r==b)) v))
  unfold gw at this
  rw[hqb] at this
  exact hK _ _ this
def yq (σ:Nat→Value) (K:oR→Prop) (w:World):List (Oper×eQ)→oR→Prop
 |[],Γ=>K Γ
 |(⟨some t,_,_,_,_,_⟩, .det v)::r,Γ=>yq σ K w r ((t,v)::Γ)
 |(⟨some t,_,_,_,_,_⟩, .held p)::r,Γ=>∀x,x=σ t→p x w→yq σ K w r ((t,x)::Γ)
 |(⟨some t,_,_,_,_,_⟩, .used _)::r,Γ=>∀x,x=σ t→yq σ K w r ((t,x)::Γ)
 |(⟨none,_,_,_,_,_⟩,_)::r,Γ=>yq σ K w r Γ
theorem lm {σ:Nat→Value} {w:World} {ds:List Deferred} (hds:ds=[]):∀(m:List (Oper×eQ)) (arr:Array Value) (Γ:oR),(∀p∈m,∀t,p.1.dst=some t→t<n)→At n Γ ⟨arr,ds⟩→yq σ (fun Γ=>∀a',At n Γ a'→Q .normal a' w) w m Γ→vP σ (fun arr=>Q .normal ⟨arr,ds⟩ w) w m arr
 |[],arr,Γ,_,hA,h=>h _ hA
 |(⟨d,_,_,_,_,_⟩,f)::r,arr,Γ,hm,hA,h=>by
  have hr:=fun p hp=>hm p (List.mem_cons_of_mem _ hp)
  cases d with
  |none=>exact lm hds r arr Γ hr hA h
  |some t=>
   have ht:t<n:=hm _ List.mem_cons_self t rfl
   cases f with
   |det v=>exact lm hds r _ _ hr (hA.put ht v) h
   |held p=>exact fun x he hx=>lm hds r _ _ hr (hA.put ht x) (h x he hx)
   |used p=>exact fun x he=>lm hds r _ _ hr (hA.put ht x) (h x he)
def BH (l:List Oper) (n:Nat):Bool:=l.all fun o=>match o.dst with|some t=>decide (t<n)|none=>true
theorem bi {id:Nat} {d:Bool} (hA:At n Γ a) (F:List eQ) (Ph:List ff) (C:World→Prop) (T:Nat→World→World→Prop) (hm:P.follows .mixedOrders=true) (hdr:d=true) (hB:ku l n=true) (hdB:BH l n=true) (hFl:F.length=l.length) (hC:C {w with drawn:=w.drawn+1})
 (hstab:∀i j x w w',pc l F i j=true→i≠j→C w→(F.getD j (.det undef)).says x w→T i w w'→(F.getD j (.det undef)).says x w')
 (hph0:∀ph∈Ph,ph.start=none→ph.p (n5 a.eval) {w with drawn:=w.drawn+1})
 (hph:∀i (ph:ff) σ w w',ph∈Ph→ph.start≠some i→ph.upto≠some i→p8 l i ph.start ph.upto=true→C w→ph.p σ w→T i w w'→ph.p σ w')
 (hpl:∀ph∈Ph,∀a,ph.start=some a→a<l.length)
 (hob:vR P l F Ph C T a.tmps 0 l)
 (hlk:IJ l (Ph.map fun ph=>(ph.start,ph.looks))=true)
 (hfin:∀σ w',C w'→(∀ph∈Ph,ph.upto=none→ph.p σ w')→yq σ (fun Γ=>∀a',At n Γ a'→Q .normal a' w') w' (l.zip F) Γ):(Code.region id l.toArray d).wp P Q a w:=by
 subst hdr
 refine pz n F Ph C T hm hA.size hB hFl hC hstab hph0 hph hpl (Ec hob) hlk fun σ w' hC' hp'=> ?_
 refine lm hA.defers _ _ Γ (fun p hp t ht=> ?_) hA (hfin σ w' hC' hp')
 have hpl:=(List.of_mem_zip (a:=p.1) (b:=p.2) hp).1
 unfold BH at hdB
 have:=List.all_eq_true.1 hdB p.1 hpl
 rw[ht] at this
 simpa using this
theorem bq {F:List eQ} {Ph:List ff} {C:World→Prop} {T:Nat→World→World→Prop} {i gi gt:Nat} {o:Oper} {ev:Operand→Value} {w:World} {v u:Value} {b:Bool} (q:Bool) (hg:o.guard=some (gi,b)) (hgd:(l[gi]?).bind (·.dst)=some gt) (hv:ev (.tmp gt)= .bool q) (hF:F.getD i (.det undef)= .det u) (hp:Ph.all (fun ph=>ph.start !=some i)=true) (hC:C w) (hT:T i w w) (h:q=b→(execOp ev o).run P w= .ok (.value v) w) (hu:u=gv q b v):
 if bV l o ev=true then km P ev o w (fun v w'=>C w'∧T i w w'∧(F.getD i (.det undef)).says v w'∧∀ph∈Ph,ph.start=some i→ph.p (n5 ev) w') else T i w w∧(F.getD i (.det undef)).says undef w∧∀ph∈Ph,ph.start=some i→ph.p (n5 ev) w:=by
 subst hu
 have hw:=fm (l:=l) (r:=(q==b)) hg hgd hv rfl
 cases hqb:q==b with
 |true=>
  rw[hqb] at hw
  refine bf hw (bI (h (by simpa using hqb)) ⟨hC,hT, ?_,av hp⟩)
  rw[hF];unfold gv gw;rw[hqb];rfl
 |false=>
  rw[hqb] at hw
  refine Ed hw hT ?_ (av hp)
  rw[hF];unfold gv gw;rw[hqb];rfl
theorem dG {F:List eQ} {Ph:List ff} {C:World→Prop} {T:Nat→World→World→Prop} {i gi gt:Nat} {o:Oper} {ev:Operand→Value} {w:World} {v u:Value} {b:Bool} (c r:Bool) (hg:o.guard=some (gi,b)) (hgd:(l[gi]?).bind (·.dst)=some gt) (hv:ev (.tmp gt)=gw c (.bool r)) (hF:F.getD i (.det undef)= .det u) (hp:Ph.all (fun ph=>ph.start !=some i)=true) (hC:C w) (hT:T i w w) (h:c=true→r=b→(execOp ev o).run P w= .ok (.value v) w) (hu:u=gw (c&&(r==b)) v):
 if bV l o ev=true then km P ev o w (fun v w'=>C w'∧T i w w'∧(F.getD i (.det undef)).says v w'∧∀ph∈Ph,ph.start=some i→ph.p (n5 ev) w') else T i w w∧(F.getD i (.det undef)).says undef w∧∀ph∈Ph,ph.start=some i→ph.p (n5 ev) w:=by
 subst hu
 have hw:bV l o ev=(c&&(r==b)):=by
  unfold bV
  rw[hg]
  simp only[hgd,hv]
  unfold gw
  cases c<;>rfl
 cases hqb:c&&(r==b) with
 |true=>
  rw[hqb] at hw
  rw[Bool.and_eq_true,beq_iff_eq] at hqb
  refine bf hw (bI (h hqb.1 hqb.2) ⟨hC,hT, ?_,av hp⟩)
  rw[hF];unfold gw;rw[hqb.1,hqb.2];cases b<;>rfl
 |false=>
  rw[hqb] at hw
  refine Ed hw hT ?_ (av hp)
  rw[hF];unfold gw;rw[hqb];rfl
theorem xF {F:List eQ} {Ph:List ff} {C:World→Prop} {T:Nat→World→World→Prop} {i gi gt:Nat} {f:FuncId} {args:Array Value} {o:Oper} {ev:Operand→Value} {w:World} {v u:Value} {b:Bool} (q:Bool) (hg:o.guard=some (gi,b)) (hgd:(l[gi]?).bind (·.dst)=some gt) (hv:ev (.tmp gt)= .bool q) (hF:F.getD i (.det undef)= .det u) (hp:Ph.all (fun ph=>ph.start !=some i)=true) (hu:u=gv q b v)
 (h:q=b→(execOp ev o).run P w= .ok (.enter f args) w) (hc:q=b→Calls P f args w fun e w'=>e= .returned v∧Below w.heap.size w w') (hk:∀w',Below w.heap.size w w'→C w'∧T i w w'):
 if bV l o ev=true then km P ev o w (fun v w'=>C w'∧T i w w'∧(F.getD i (.det undef)).says v w'∧∀ph∈Ph,ph.start=some i→ph.p (n5 ev) w') else T i w w∧(F.getD i (.det undef)).says undef w∧∀ph∈Ph,ph.start=some i→ph.p (n5 ev) w:=by
 subst hu
 have hw:=fm (l:=l) (r:=(q==b)) hg hgd hv rfl
 cases hqb:q==b with
 |true=>
  rw[hqb] at hw
  have e:q=b:=by simpa using hqb
  refine bf hw (dP (h e) (Calls.mono (hc e) fun e' w' ⟨he,hb⟩=>⟨_,he,(hk w' hb).1,(hk w' hb).2, ?_,av hp⟩))
  rw[hF];unfold gv gw;rw[hqb];rfl
 |false=>
  rw[hqb] at hw
  refine Ed hw (hk w (Below.refl _ _)).2 ?_ (av hp)
  rw[hF];unfold gv gw;rw[hqb];rfl
theorem bm {F:List eQ} {Ph:List ff} {C:World→Prop} {T:Nat→World→World→Prop} {i:Nat} {f:FuncId} {args:Array Value} {o:Oper} {ev:Operand→Value} {w:World} {u v:Value} (hw:bV l o ev=true) (hF:F.getD i (.det undef)= .det u) (hp:Ph.all (fun ph=>ph.start !=some i)=true)
 (hc:Calls P f args w fun e w'=>e= .returned v∧Below w.heap.size w w') (h:(execOp ev o).run P w= .ok (.enter f args) w) (hu:u=v) (hk:∀w',Below w.heap.size w w'→C w'∧T i w w'):
 if bV l o ev=true then km P ev o w (fun v w'=>C w'∧T i w w'∧(F.getD i (.det undef)).says v w'∧∀ph∈Ph,ph.start=some i→ph.p (n5 ev) w') else T i w w∧(F.getD i (.det undef)).says undef w∧∀ph∈Ph,ph.start=some i→ph.p (n5 ev) w:=
 bf hw (dP h (Calls.mono hc fun _ w' ⟨he,hb⟩=>⟨_,he,(hk w' hb).1,(hk w' hb).2,by rw[hF,hu];rfl,av hp⟩))
theorem Ea {i:Nat} (h:(none:Option Nat)=some i):False:=by cases h
theorem At.keepN (h:At n Γ a) (ks:List Nat) (e:p7 ks Γ=Γ':=by simp only[sW,p7,qv,Nat.reduceBEq,cond_true,cond_false,Nat.reduceAdd,G9,G8,Bool.true_and,Bool.false_and,Bool.true_or,Bool.false_or]<;>rfl):At n Γ' a:=e▸h.keep ks
theorem At.norm (h:At n Γ a) (e:Γ=Γ':=by simp only[sW,p7,qv,Nat.reduceBEq,cond_true,cond_false,Nat.reduceAdd,G9,G8,Bool.true_and,Bool.false_and,Bool.true_or,Bool.false_or]<;>rfl):At n Γ' a:=e▸h
theorem nT (h:next a w):Exit.then next Q .normal a w:=h
theorem nB (h:Q .normal a w):Exit.inBlock id Q .normal a w:=h
theorem xT {k:Nat} (h:Q (.exit k) a w):Exit.then next Q (.exit k) a w:=h
theorem xB (h:Q .normal a w):Exit.inBlock id Q (.exit id) a w:=G6 h
theorem rT (h:Q .ret a w):Exit.then next Q .ret a w:=h
theorem rB (h:Q .ret a w):Exit.inBlock id Q .ret a w:=h
theorem wN {ops:Array Oper} (h:Q .normal a w):wpList P ops Q [] a w:=h
theorem wS {x y:Code} (h:x.wp P (Exit.then (y.wp P Q) Q) a w):(Code.seq x y).wp P Q a w:=wp_seq h
theorem wB {c:Code} (h:c.wp P (Exit.inBlock id Q) a w):(Code.block id c).wp P Q a w:=wp_block h
theorem wR {ops:List Oper} (h:wpList P ops.toArray Q ops a w):(Code.region id ops.toArray false).wp P Q a w:=wp_region_lit h
theorem wo {v:Value} (hg:o.guard=none) (hd:o.dst=some t) (ht:t<n) (hrun:∀ev e,Hx Γ e ev→(execOp ev o).run P w= .ok (.value v) w)
 (hk:∀a',At n ((t,v)::Γ) a'→wpList P l.toArray Q rest a' w):∀a,At n Γ a→wpList P l.toArray Q (o::rest) a w:=
 fun _ hA=>a7 hA hg hd ht (fun ev h=>hrun ev _ h.evt) hk
theorem w1 {v:Value} (hk:∀a',At n ((t,v)::Γ) a'→wpList P l.toArray Q rest a' w) (hrun:∀ev e,Hx Γ e ev→(execOp ev o).run P w= .ok (.value v) w:=by intro ev e h;simp[go_sem,h]<;>rfl) (hg:o.guard=none:=by rfl) (hd:o.dst=some t:=by rfl) (ht:t<n:=by decide):∀a,At n Γ a→wpList P l.toArray Q (o::rest) a w:=wo hg hd ht hrun hk
theorem w2 {v:Value} (hrun:∀ev e,Hx Γ e ev→(execOp ev o).run P w= .ok (.value v) w) (hk:∀a',At n ((t,v)::Γ) a'→wpList P l.toArray Q rest a' w) (hg:o.guard=none:=by rfl) (hd:o.dst=some t:=by rfl) (ht:t<n:=by decide):∀a,At n Γ a→wpList P l.toArray Q (o::rest) a w:=wo hg hd ht hrun hk
theorem wg {gi gt:Nat} {v:Value} (q:Bool) (hg:o.guard=some (gi,b)) (hgd:(l[gi]?).bind (·.dst)=some gt) (hl:eX Γ gt=some (.bool q)) (hd:o.dst=some t) (ht:t<n)
 (hrun:q=b→∀ev e,Hx Γ e ev→(execOp ev o).run P w= .ok (.value v) w) (hk:∀a',At n ((t,gv q b v)::Γ) a'→wpList P l.toArray Q rest a' w):∀a,At n Γ a→wpList P l.toArray Q (o::rest) a w:=
 fun _ hA=>az q hA hg hgd hl hd ht (fun hq ev h=>hrun hq ev _ h.evt) hk
theorem IC {gi gt:Nat} {v:Value} (c r:Bool) (hg:o.guard=some (gi,b)) (hgd:(l[gi]?).bind (·.dst)=some gt) (hl:eX Γ gt=some (gw c (.bool r))) (hd:o.dst=some t) (ht:t<n)
 (hrun:c=true→r=b→∀ev e,Hx Γ e ev→(execOp ev o).run P w= .ok (.value v) w) (hk:∀a',At n ((t,gw (c&&(r==b)) v)::Γ) a'→wpList P l.toArray Q rest a' w):∀a,At n Γ a→wpList P l.toArray Q (o::rest) a w:=
 fun _ hA=>DR c r hA hg hgd hl hd ht (fun hc hq ev h=>hrun hc hq ev _ h.evt) hk
theorem j9 {tc tx:Nat} {r:Bool} (hg:o.guard=none) (hd:o.dst=some t) (ht:t<n) (ho:o.op= .pick (.tmp tc) (.tmp tx) (.const (.bool false))) (hc:eX Γ tc=some (.bool q)) (hx:eX Γ tx=some (gv q true (.bool r)))
 (hk:∀a',At n ((t, .bool (q&&r))::Γ) a'→wpList P l.toArray Q rest a' w):∀a,At n Γ a→wpList P l.toArray Q (o::rest) a w:=
 fun _ hA=>a7 hA hg hd ht (fun _ h=>iz ho (h.env _ _ hc) (h.env _ _ hx) (h.c _)) hk
theorem kj {tc tx:Nat} {r:Bool} (hg:o.guard=none) (hd:o.dst=some t) (ht:t<n) (ho:o.op= .pick (.tmp tc) (.const (.bool true)) (.tmp tx)) (hc:eX Γ tc=some (.bool q)) (hx:eX Γ tx=some (gv q false (.bool r)))
 (hk:∀a',At n ((t, .bool (q||r))::Γ) a'→wpList P l.toArray Q rest a' w):∀a,At n Γ a→wpList P l.toArray Q (o::rest) a w:=
 fun _ hA=>a7 hA hg hd ht (fun _ h=>gz ho (h.env _ _ hc) (h.c _) (h.env _ _ hx)) hk
theorem mL :(∀(f:Operand→Value) (l:List Operand),l.toArray.map f=(l.map f).toArray)∧(∀(f:Operand→Value) (x:Operand) (l:List Operand),(x::l).map f=f x::l.map f)∧∀(f:Operand→Value),([]:List Operand).map f=[]:=⟨fun f l=>by simp,fun _ _ _=>rfl,fun _=>rfl⟩
section
variable {F:List eQ} {Ph:List ff} {C:World→Prop} {T:Nat→World→World→Prop} {i:Nat} {a0:Array Value}
abbrev Ak (l:List Oper) (F:List eQ) (a0:Array Value) (o:Oper) (ev:Operand→Value) (w:World):Prop:=∀t∈o.looksAt l.toArray,fI l F a0 o t (ev (.tmp t)) w
theorem sd (hs:Ak l F a0 o ev w) (t j:Nat) {v:Value} (h1:(o.looksAt l.toArray).contains t=true:=by kernel_rfl) (h2:kg l o t=some j:=by kernel_rfl) (h3:F.getD j (.det undef)= .det v:=by rfl):ev (.tmp t)=v:=GQ hs t j h1 h2 h3
theorem se (hA:At n Γ a) (hs:Ak l F a.tmps o ev w) (t:Nat) {v:Value} (h1:(o.looksAt l.toArray).contains t=true:=by kernel_rfl) (h2:kg l o t=none:=by kernel_rfl) (h3:eX Γ t=some v:=by rfl):ev (.tmp t)=v:=GR hs t h1 h2 (hA.env t v h3)
theorem sh {p:Value→World→Prop} (hs:Ak l F a0 o ev w) (t j:Nat) (h1:(o.looksAt l.toArray).contains t=true:=by kernel_rfl) (h2:kg l o t=some j:=by kernel_rfl) (h3:F.getD j (.det undef)= .held p:=by rfl):p (ev (.tmp t)) w:=FD hs t j h1 h2 h3
theorem su {p:Value→World→Prop} (hs:Ak l F a0 o ev w) (t j:Nat) (h1:(o.looksAt l.toArray).contains t=true:=by kernel_rfl) (h2:kg l o t=some j:=by kernel_rfl) (h3:F.getD j (.det undef)= .used p:=by rfl):p (ev (.tmp t)) w:=FE hs t j h1 h2 h3
theorem od {v:Value} (hg:o.guard=none) (hF:F.getD i (.det undef)= .det v) (hp:Ph.all (fun ph=>ph.start !=some i)=true) (hC:C w) (hT:T i w w) (h:(execOp ev o).run P w= .ok (.value v) w):
 if bV l o ev=true then km P ev o w (fun v w'=>C w'∧T i w w'∧(F.getD i (.det undef)).says v w'∧∀ph∈Ph,ph.start=some i→ph.p (n5 ev) w') else T i w w∧(F.getD i (.det undef)).says undef w∧∀ph∈Ph,ph.start=some i→ph.p (n5 ev) w:=
 rL (aJ hg) hF hp hC hT h
end
theorem ab {fn:Func} {R:Ending→World→Prop} (hA:At n Γ a) (t:Nat) {v:Value} (hr:fn.results=#[.tmp t]) (hl:eX Γ t=some v) (hR:R (.returned v) w):bodyPost P fn R .ret a w:=
 ⟨hA.defers,v,by rw[←hA.getD t hl];simp[results,hr],hR⟩
theorem gJ {fn:Func} {R:Ending→World→Prop} (hA:At n Γ a) (t u:Nat) {x y:Value} (hr:fn.results=#[.tmp t, .tmp u]) (hl:eX Γ t=some x) (hl2:eX Γ u=some y) (hR:R (.returned (.tuple #[x,y])) w):bodyPost P fn R .ret a w:=
 ⟨hA.defers,_,by rw[←hA.getD t hl,←hA.getD u hl2];simp[results,hr],hR⟩
theorem mW {fn:Func} {R:Ending→World→Prop} (hA:At n Γ a) (t u s:Nat) {x y z:Value} (hr:fn.results=#[.tmp t, .tmp u, .tmp s]) (hl:eX Γ t=some x) (hl2:eX Γ u=some y) (hl3:eX Γ s=some z) (hR:R (.returned (.tuple #[x,y,z])) w):bodyPost P fn R .ret a w:=
 ⟨hA.defers,_,by rw[←hA.getD t hl,←hA.getD u hl2,←hA.getD s hl3];simp[results,hr],hR⟩
theorem wA {fn:Func} {R:Ending→World→Prop} (hA:At n Γ a) (hr:fn.results=#[]) (hR:R (.returned (.tuple #[])) w):bodyPost P fn R .normal a w:=
 ⟨hA.defers,_,by simp[results,hr],hR⟩
end
end Go.Proofs.YtclcfkaphlopeaaGreatDoor
namespace Go.Proofs.YtclcfkaphlopeaaGreatDoor
open Go.RowKit
theorem Fu (w:World) (c:UInt8):aE (w.alloc (.cells #[.int .u8 ((c.toNat:Nat):Int)] 5)) (w.heap.size+1) 1 (some ⟨w.heap.size,0,none⟩) 1 (ar [c]):=by
 refine⟨rfl,fun _=>⟨⟨w.heap.size,0,none⟩,rfl,Nat.lt_succ_self _,fun j u hu=> ?_⟩⟩
 have hb:aI (w.alloc (.cells #[.int .u8 ((c.toNat:Nat):Int)] 5)) w.heap.size 5 #[.int .u8 ((c.toNat:Nat):Int)]:=aI.new w _ _
 rcases j with _|j
 ·have ha:(⟨w.heap.size,0,none⟩:Addr).add 0=⟨w.heap.size,0,none⟩:=by unfold Addr.add;simp
  rw[ha,hb.cell]
  exact hu
 ·cases hu
theorem en {w:World} {B n:Nat} {v:Value} {l:List UInt8} (h:w.ownsRow B 5 1 v n (ar l)):∃A c,v= .slice A l.length c∧aE w w.heap.size 1 A l.length (ar l):=by
 obtain⟨A,c,rfl,hr,_⟩:=cQ (Iq7 h)
 have hn:n=l.length:=by have:=h.1;rw[bg] at this;omega
 subst hn
 obtain⟨A,c,e,hr,_⟩:=cQ h
 injection e with e1 e2 e3
 subst e1 e3
 exact⟨_,_,rfl,hr⟩
def qF (w:World) (r:Value) (l:List UInt8):Prop:=∃A c,r= .slice A l.length c∧aE w w.heap.size 1 A l.length (ar l)
theorem qF.nil (w:World):qF w (.slice none 0 0) []:=⟨none,0,rfl,aE.none8⟩
def ce (B:Nat) (w:World) (v:Value) (l:List UInt8):Prop:=w.ownsRow B 5 1 v l.length (ar l)
section
variable {w w':World} {B B':Nat} {v:Value} {l m:List UInt8} {P:Program} {ev:Operand→Value} {o:Oper}
theorem ce.below (h:ce B w v l) (hb:Below w.heap.size w w'):ce B w' v l:=dv h hb
theorem ce.mono (h:ce B w v l) (hb:B'≤B):ce B' w v l:=eo h hb
theorem ce.keep (h:ce B w v l) (hk:∀g,v.ownBlock=some g→w'.heap[g]?=w.heap[g]?):ce B w' v l:=fV h hk
theorem ce.took (h:ce B w v l):qF w v l:=en h
theorem ce.of {n:Nat} (h:w.ownsRow B 5 1 v n (ar l)):ce B w v l:=Iq7 h
theorem ce.nil (w:World):ce B w (.slice none 0 0) []:=World.ownsRow_nil _ _ _ _
theorem ao {s x:Operand} {T T':TypeId} {u r:Value} (ho:o.op= .call {callee:= .builtin .append,args:=#[s,x],argTypes:=#[T,T']}) (hs:ev s=v) (hx:ev x=u)
 (hr:(Builtin.append_ #[T,T'] o.type #[v,u]).run P w= .ok r w'):(execOp ev o).run P w= .ok (.value r) w':=by
 unfold execOp
 simp only[ho,resolve,invoke,builtin,Sem.run_bind,Sem.run_pure,Result.andThen_ok,List.map_toArray,List.map_cons,List.map_nil,hs,hx,hr]
theorem ez {u:Value} (h:ce B w v l) (hu:qF w u m) (hlen:l.length+m.length≤1000000000) (hB:B≤w.heap.size):
 ∃r w',(Builtin.append_ #[22,22] 22 #[v,u]).run Tryz.prog w= .ok r w'∧ce B w' r (l++m)∧w.grownBy w' v.ownBlock:=by
 obtain⟨A,c,rfl,hr⟩:=hu
 obtain⟨i0,hi0,hz0,hz1,hz2⟩:=eK mG
 obtain⟨v',w',hrun,ho,hg⟩:=gL (P:=Tryz.prog) w B 22 22 5 i0 _ 1 1 Tryz.underlying22 hi0 hz0 hz1 hz2 rfl (by omega) v l.length (ar l) h A m.length c (ar m) (n8.of_reads hr (qD m)) (by unfold maxLen;omega) (by omega) hB
 rw[←my] at ho
 exact⟨v',w',hrun, .of ho,hg⟩
theorem dM {W:World} {B0:Nat} (hb:Below B0 W w) (h:ce B w v l) (hg:w.grownBy w' v.ownBlock) (h0:B0≤B) (hB:B0≤w.heap.size):Below B0 W w':=
 hb.grown hg hB fun k hk=>Nat.le_trans h0 (World.ownsRow.lt h k hk).1
theorem lY {g:Nat} {c:UInt8} (h:aI w g 5 #[.int .u8 ((c.toNat:Nat):Int)]):qF w (.slice (some ⟨g,0,none⟩) 1 1) [c]:=by
 refine⟨_,_,rfl,rfl,fun _=>⟨⟨g,0,none⟩,rfl,h.lt,fun j u hu=> ?_⟩⟩
 rcases j with _|j
 ·have ha:(⟨g,0,none⟩:Addr).add 0=⟨g,0,none⟩:=by unfold Addr.add;simp
  rw[ha,h.cell]
  exact hu
 ·cases hu
end
section
variable {M:Type} {f:M→List Value} {k:Nat}
theorem lr (hf:∀x,(f x).length=k):∀l:List M,(l.flatMap f).length=l.length*k
 |[]=>by simp
 |x::r=>by rw[List.flatMap_cons,List.length_append,hf,lr hf r,List.length_cons,Nat.succ_mul];omega
theorem je (hf:∀x,(f x).length=k):∀(l:List M) (i j:Nat) (x:M),l[i]?=some x→j<k→(l.flatMap f)[i*k+j]?=(f x)[j]?
 |y::r,0,j,x,h,hj=>by
  have e:y=x:=by simpa using h
  subst e
  rw[List.flatMap_cons,Nat.zero_mul,Nat.zero_add,List.getElem?_append_left (by rw[hf];exact hj)]
 |y::r,i+1,j,x,h,hj=>by
  have ih:=je hf r i j x (by simpa using h) hj
  rw[List.flatMap_cons,List.getElem?_append_right (by rw[hf,Nat.succ_mul];omega)]
  have e:(i+1)*k+j - (f y).length=i*k+j:=by rw[hf,Nat.succ_mul];omega
  rw[e];exact ih
theorem qj (hf:∀x,(f x).length=k) (l:List M) (i:Nat):(l.take i).flatMap f=(l.flatMap f).take (i*k):=by
 induction l generalizing i with
 |nil=>simp
 |cons y r ih=>
  cases i with
  |zero=>simp
  |succ i=>
   have h1:(f y).take ((i+1)*k)=f y:=List.take_of_length_le (by rw[hf,Nat.succ_mul];omega)
   have h2:(i+1)*k - (f y).length=i*k:=by rw[hf,Nat.succ_mul];omega
   rw[List.take_succ_cons,List.flatMap_cons,List.flatMap_cons,List.take_append,h1,h2,ih i]
theorem Gn (ad:Addr) (i j:Nat) (hj:0<j):ad.add (i+j)=⟨(ad.add i).block,(ad.add i).off+j,none⟩:=by
 unfold Addr.add;by_cases h:i=0<;>simp[h]<;>omega
theorem oL {w:World} {B n i:Nat} {A:Option Addr} {l:List M} {x:M} (hf:∀x,(f x).length=k) (h:aE w B k A n (l.flatMap f)) (hn:0<n) (hx:l[i]?=some x):
 ∃ad,A=some ad∧ad.block<B∧(∀u,(f x)[0]?=some u→w.cell? (ad.add (i*k))=some u)∧∀j u,0<j→(f x)[j]?=some u→w.cell? ⟨(ad.add (i*k)).block,(ad.add (i*k)).off+j,none⟩=some u:=by
 obtain⟨ad,rfl,hb,hc⟩:=h.2 hn
 have hk:∀j u,(f x)[j]?=some u→j<k:=fun j u hu=>by
  have:=(List.getElem?_eq_some_iff.1 hu).1
  rw[hf] at this;exact this
 refine⟨ad,rfl,hb,fun u hu=> ?_,fun j u hj hu=> ?_⟩
 ·have:=hc (i*k+0) u (by rw[je hf l i 0 x hx (hk 0 u hu)];exact hu)
  simpa using this
 ·have:=hc (i*k+j) u (by rw[je hf l i j x hx (hk j u hu)];exact hu)
  rwa [Gn _ _ _ hj] at this
end
end Go.Proofs.YtclcfkaphlopeaaGreatDoor
namespace Go.Proofs.YtclcfkaphlopeaaGreatDoor
open Go Go.RowKit
theorem oC {w:World} {base n size g:Nat} {v:Value} {e:TypeId} {xs:List Value} (h:w.ownsRow base e size v n xs) (hg:v.ownBlock=some g):∃cs,w.heap[g]?=some (.cells cs e (0,0)):=by
 rcases h.2 with⟨rfl,_⟩|⟨g',cap,cur,rfl,_,hc,_⟩
 ·cases hg
 ·have:g'=g:=by simpa[Value.ownBlock] using hg
  subst this
  exact⟨cur,hc⟩
theorem eu {w:World} {base n size i:Nat} {v:Value} {e t:TypeId} {xs:List Value} {cs:Array Value} (h:w.ownsRow base e size v n xs) (hi:aI w i t cs) (ht:t≠e):∀g,v.ownBlock=some g→g≠i:=fun g hg he=>by
 obtain⟨cs',hc⟩:=oC h hg
 unfold aI at hi
 rw[he,hi] at hc
 injection hc with hc
 injection hc with _ hc
 exact ht hc
theorem aS (g k:Nat):(⟨g,0,none⟩:Addr).add k=⟨g,k,none⟩:=by
 unfold Addr.add
 by_cases h:k=0<;>simp[h]
theorem gy {w:World} {B g size:Nat} {T:TypeId} (K:aI w g T #[]) (hb:B≤g):w.ownsRow B T size (.slice (some ⟨g,0,none⟩) 0 0) 0 []:=
 ⟨by simp, .inr ⟨g,0,#[],rfl,hb,K,Nat.le_refl _,by unfold maxLen;omega,by simp,by simp⟩⟩
theorem Hf {P:Program} {t e:TypeId} (ht:P.underlying t=some (.slice e)) (a:Option Addr) (l c:Nat) (w:World):(binOp .eql t (.slice a l c) (.slice none 0 0)).run P w= .ok (.bool a.isNone) w:=Lib.run_eql_slice_nil w t e a l c 0 0 ht
section
variable {P:Program} {Q:Exit→Act→World→Prop} {a:Act} {w w':World} {n:Nat} {Γ:oR} {l rest:List Oper} {o:Oper} {t:Nat} {v:Value}
theorem aq {g j:Nat} {T:TypeId} {z:List Value} (zs:List Value) (c:Value) (hA:At n Γ a) (hg:o.guard=none) (hd:o.dst=none) (hK:aI w g T z.toArray) (hz:z.set j c=zs) (hrun:∀ev,gT Γ ev→(execOp ev o).run P w= .ok .skip (w.setCell ⟨g,j,none⟩ c))
 (hk:∀w1,aI w1 g T zs.toArray→dZ g w w1→wpList P l.toArray Q rest a w1):wpList P l.toArray Q (o::rest) a w:=by
 refine jP hA hg hd hrun (hk _ ?_ dZ.set)
 have:=hK.set_ j c
 rw[List.setIfInBounds_toArray,hz] at this
 exact this
theorem G3 {v:Value} (hA:At n Γ a) (hg:o.guard=none) (hd:o.dst=none) (hrun:∀ev,gT Γ ev→(execOp ev o).run P w= .ok (.value v) w')
 (hk:wpList P l.toArray Q rest a w'):wpList P l.toArray Q (o::rest) a w:=by
 refine wpList_plain hg fun K hK=> ?_
 unfold Oper.wp
 rw[hrun _ hA.evin,Oper.upon_value,hd]
 exact hK _ _ hk
end
end Go.Proofs.YtclcfkaphlopeaaGreatDoor
namespace Go.Proofs.YtclcfkaphlopeaaGreatDoor
open Go.RowKit
structure Sh (M:Type) where
 T:TypeId
 S:TypeId
 k:Nat
 by_:Nat
 z:Value
 f:M→List Value
 parts:M→List (Option Addr×List UInt8)
 len:∀x,(f x).length=k
 one:∀x,∀u∈f x,u.oneCell'=true
 und:Tryz.prog.underlying S=some (.slice T)
 info:(Tryz.prog.info? T).map (fun i=>(i.zero,i.size,i.bytes))=some (some z,k,by_)
 zk:z.cells.size=k
 pos:0<k
 small:by_≤1000
def jR (g:Nat) (p:Option Addr×List UInt8):Prop:=0<p.2.length→∀ad,p.1=some ad→ad.block≠g
abbrev bj (w:World) (p:Option Addr×List UInt8):Prop:=aE w w.heap.size 1 p.1 p.2.length (ar p.2)
structure bu {M:Type} (s:Sh M) (w:World) (A:Option Addr) (l:List M):Prop where
 row:aE w w.heap.size s.k A l.length (l.flatMap s.f)
 octs:∀m∈l,∀p∈s.parts m,bj w p
structure ac {M:Type} (s:Sh M) (B:Nat) (w:World) (v:Value) (l:List M):Prop where
 row:w.ownsRow B s.T s.k v l.length (l.flatMap s.f)
 octs:∀m∈l,∀p∈s.parts m,bj w p
 off:∀g,v.ownBlock=some g→∀m∈l,∀p∈s.parts m,jR g p
theorem bj.below {w w':World} {p:Option Addr×List UInt8} (h:bj w p) (hb:Below w.heap.size w w'):bj w' p:=(aE.below h hb).more hb.size
theorem cT {w w':World} {g:Nat} {p:Option Addr×List UInt8} (h:bj w p) (hg:jR g p) (hb:∀k,k<w.heap.size→k≠g→w'.heap[k]?=w.heap[k]?) (hs:w.heap.size≤w'.heap.size):bj w' p:=by
 refine⟨h.1,fun hn=> ?_⟩
 obtain⟨ad,e,hlt,hc⟩:=h.2 hn
 refine⟨ad,e,by omega,fun j u hu=> ?_⟩
 have:=hc j u hu
 rwa [←World.cell?_of_block (w':=w') (hb _ (by rw[aD];exact hlt) (by rw[aD];exact hg hn ad e))] at this
theorem mr {w:World} {p:Option Addr×List UInt8} (h:bj w p) {g:Nat} (hg:w.heap.size≤g):jR g p:=fun hn ad ha=>by
 obtain⟨ad',e,hlt,_⟩:=h.2 hn
 rw[ha] at e
 injection e with e
 subst e
 omega
def px :Value→Bool
 | .int .u8 _=>false
 |_=>true
theorem jA {w:World} {p:Option Addr×List UInt8} {g:Nat} {T:TypeId} {cs:Array Value} (h:bj w p) (K:aI w g T cs) (hno:cs.toList.all px=true):jR g p:=fun hn ad ha he=>by
 obtain⟨ad',e,_,hc⟩:=h.2 hn
 rw[ha] at e
 injection e with e
 subst e
 have h0:(ar p.2)[0]?=some (.int .u8 (((p.2[0]'hn).toNat:Nat):Int)):=by rw[dp,List.getElem?_eq_getElem hn];rfl
 have h1:=hc 0 _ h0
 have h2:ad.add 0=ad:=by unfold Addr.add;simp
 rw[h2] at h1
 unfold World.cell? at h1
 unfold aI at K
 rw[he,K] at h1
 simp only at h1
 split at h1
 ·cases h1
 ·have hm:Value.int .u8 (((p.2[0]'hn).toNat:Nat):Int)∈cs.toList:=by
   have:=Array.mem_of_getElem? h1
   simpa using this
  have:=List.all_eq_true.1 hno _ hm
  cases this
theorem cG {w w':World} {A:Option Addr} {n g:Nat} {l:List UInt8} {T:TypeId} {cs:Array Value} (h:aE w w.heap.size 1 A n (ar l)) (hs:dZ g w w') (K:aI w g T cs) (hno:cs.toList.all px=true):aE w' w'.heap.size 1 A n (ar l):=by
 have hl:l.length=n:=by have:=h.1;rw[bg] at this;omega
 subst hl
 exact cT (p:=(A,l)) h (jA (p:=(A,l)) h K hno) (fun j _ hj=>hs.block j hj) (by rw[hs.size];exact Nat.le_refl _)
section
variable {M:Type} {s:Sh M} {B:Nat} {w w':World} {v:Value} {l:List M}
theorem bu.below {A:Option Addr} (h:bu s w A l) (hb:Below w.heap.size w w'):bu s w' A l:=⟨(h.row.below hb).more hb.size,fun m hm p hp=>(h.octs m hm p hp).below hb⟩
theorem bu.nil (A:Option Addr):bu s w A []:=⟨⟨by simp,fun h=>absurd h (by simp)⟩,fun _ h=>(by cases h)⟩
theorem ac.below (h:ac s B w v l) (hb:Below w.heap.size w w'):ac s B w' v l:=⟨dv h.row hb,fun m hm p hp=>(h.octs m hm p hp).below hb,h.off⟩
theorem ac.mono {B':Nat} (h:ac s B w v l) (hb:B'≤B):ac s B' w v l:=⟨eo h.row hb,h.octs,h.off⟩
theorem ac.reads (h:ac s B w v l):∃A c,v= .slice A l.length c∧bu s w A l∧l.length≤c:=by
 obtain⟨A,c,e,hr,hc⟩:=cQ h.row
 exact⟨A,c,e,⟨hr,h.octs⟩,hc⟩
theorem ac.nil (B:Nat) (w:World):ac s B w (.slice none 0 0) []:=⟨World.ownsRow_nil _ _ _ _,fun _ h=>(by cases h),fun _ _ _ h=>(by cases h)⟩
theorem ac.empty {g:Nat} (K:aI w g s.T #[]) (hb:B≤g):ac s B w (.slice (some ⟨g,0,none⟩) 0 0) []:=⟨gy K hb,fun _ h=>(by cases h),fun _ _ _ h=>(by cases h)⟩
theorem bu.parts_off {A:Option Addr} {g:Nat} (h:bu s w A l) (hg:w.heap.size≤g):∀m∈l,∀p∈s.parts m,jR g p:=fun m hm p hp=>mr (h.octs m hm p hp) hg
theorem bu.cell {A:Option Addr} {i:Nat} {x:M} (h:bu s w A l) (hx:l[i]?=some x):∃ad,A=some ad∧ad.block<w.heap.size∧(∀u,(s.f x)[0]?=some u→w.cell? (ad.add (i*s.k))=some u)∧∀j u,0<j→(s.f x)[j]?=some u→w.cell? ⟨(ad.add (i*s.k)).block,(ad.add (i*s.k)).off+j,none⟩=some u:=
 oL s.len h.row (by have:=(List.getElem?_eq_some_iff.1 hx).1;omega) hx
theorem ac.at_ (h:ac s B w v l) (hl:0<l.length):∃g c,v= .slice (some ⟨g,0,none⟩) l.length c∧B≤g∧g<w.heap.size:=by
 obtain⟨g,cap,hv,hg,hlt⟩:=h.row.form hl
 exact⟨g,cap,hv,hg,hlt⟩
theorem ac.only {k:Nat} (h:ac s B w v l) (hs:dZ k w w') (hne:∀g,v.ownBlock=some g→g≠k) (hoff:∀m∈l,∀p∈s.parts m,jR k p):ac s B w' v l:=
 ⟨fV h.row fun g hg=>hs.block g (hne g hg),fun m hm p hp=>cT (h.octs m hm p hp) (hoff m hm p hp) (fun j _ hj=>hs.block j hj) (by rw[hs.size];exact Nat.le_refl _),h.off⟩
theorem ac.onlyK {k:Nat} {T:TypeId} {cs:Array Value} (h:ac s B w v l) (hs:dZ k w w') (K:aI w k T cs) (hT:T≠s.T) (hno:cs.toList.all px=true):ac s B w' v l:=
 h.only hs (eu h.row K hT) fun m hm p hp=>jA (h.octs m hm p hp) K hno
theorem Eu {P:Program} {t ty e:TypeId} {i:TypeInfo} {base size n:Nat} {xs:List Value} (ht:P.underlying t=some (.slice e)) (hi:P.info? e=some i) (hown:w.ownsRow base e size v n xs) (c:Nat):
 (Builtin.append_ #[t,t] ty #[v, .slice none 0 c]).run P w= .ok v w:=by
 rcases hown.2 with⟨rfl,rfl⟩|⟨g,cap,cur,rfl,_,_,hnc,_⟩
 ·simp[Builtin.append_,run_underlying ht,sizeOf,typeInfo,hi,Builtin.lenOf,Builtin.firstCells,Result.andThen]
 ·have:=run_append_room_src (P:=P) w t t ty e i ht hi g 0 n cap (.slice none 0 c) 0 [] (Src.ofNil w ht c) (by omega) (fun j hj=>by simp at hj) (fun j hj=>by simp at hj)
  rw[oM] at this
  exact this
theorem CI (l:List M):∀u∈l.flatMap s.f,u.oneCell'=true:=by
 intro u hu
 obtain⟨m,_,hm⟩:=List.mem_flatMap.1 hu
 exact s.one m u hm
theorem eT {k:List M} {A:Option Addr} {c:Nat} (h:ac s B w v l) (hk:bu s w A k) (hoff:∀g,v.ownBlock=some g→∀m∈k,∀p∈s.parts m,jR g p) (hlen:l.length+k.length≤100000000) (hB:B≤w.heap.size):
 ∃r w',(Builtin.append_ #[s.S,s.S] s.S #[v, .slice A k.length c]).run Tryz.prog w= .ok r w'∧ac s B w' r (l++k)∧w.grownBy w' v.ownBlock∧(r.ownBlock=v.ownBlock∨r.ownBlock=some w.heap.size):=by
 obtain⟨i0,hi0,hz0,hz1,hz2⟩:=eK s.info
 have hmul:(l.length+k.length)*s.by_≤140737488355328:=Nat.le_trans (Nat.mul_le_mul hlen s.small) (by omega)
 have key:∃r w',(Builtin.append_ #[s.S,s.S] s.S #[v, .slice A k.length c]).run Tryz.prog w= .ok r w'∧w'.ownsRow B s.T s.k r (l.length+k.length) (l.flatMap s.f++k.flatMap s.f)∧w.grownBy w' v.ownBlock∧(r.ownBlock=v.ownBlock∨r.ownBlock=some w.heap.size):=by
  cases A with
  |some ad=>
   have hc:∀j u,(k.flatMap s.f)[j]?=some u→w.cell? (ad.add j)=some u:=by
    rcases Nat.eq_zero_or_pos k.length with h0|h0
    ·intro j u hj
     rw[List.length_eq_zero_iff.1 h0] at hj
     cases hj
    ·obtain⟨ad',e,_,hc⟩:=hk.row.2 h0
     injection e with e;subst e;exact hc
   obtain⟨v',w',hr,h2,h3,_,h5⟩:=run_append_own_at (P:=Tryz.prog) w B s.S s.S s.T i0 s.z s.k s.by_ s.und hi0 hz0 hz1 hz2 s.zk s.pos v l.length _ h.row ad k.length c _ hk.row.1 hc (CI k) (by unfold maxLen;omega) hmul hB
   exact⟨v',w',hr,h2,h3,h5⟩
  |none=>
   have h0:k.length=0:=by
    rcases Nat.eq_zero_or_pos k.length with h0|h0
    ·exact h0
    ·obtain⟨ad,e,_⟩:=hk.row.2 h0;cases e
   have hk0:k=[]:=List.length_eq_zero_iff.1 h0
   subst hk0
   exact⟨v,w,Eu s.und hi0 h.row c,by simpa using h.row,⟨rfl,rfl,rfl,Nat.le_refl _,fun _ _ _=>rfl⟩, .inl rfl⟩
 obtain⟨r,w',hr,h2,h3,h4⟩:=key
 have hoffB:∀{p:Option Addr×List UInt8},bj w p→(∀g,v.ownBlock=some g→jR g p)→∀g,r.ownBlock=some g→jR g p:=fun{p} hm ho g hg=>by
  rcases h4 with e|e
  ·exact ho g (e▸hg)
  ·rw[e] at hg
   injection hg with hg
   subst hg
   exact mr hm (Nat.le_refl _)
 have hkeep:∀{p:Option Addr×List UInt8},bj w p→(∀g,v.ownBlock=some g→jR g p)→bj w' p:=fun{p} hm ho=>by
  cases hb:v.ownBlock with
  |none=>exact(aE.grown hm h3 (Nat.le_refl _) fun g hg=>by rw[hb] at hg;cases hg).more h3.size
  |some g=>exact cT hm (ho g hb) (fun j hj hne=>h3.block j hj (fun e=>by rw[hb] at e;exact hne (Option.some.inj e))) h3.size
 refine⟨r,w',hr,⟨?_,fun m hm p hp=> ?_,fun g hg m hm p hp=> ?_⟩,h3,h4⟩
 ·rw[List.length_append,List.flatMap_append];exact h2
 ·rcases List.mem_append.1 hm with hm|hm
  ·exact hkeep (h.octs m hm p hp) fun g hg=>h.off g hg m hm p hp
  ·exact hkeep (hk.octs m hm p hp) fun g hg=>hoff g hg m hm p hp
 ·rcases List.mem_append.1 hm with hm|hm
  ·exact hoffB (h.octs m hm p hp) (fun g hg=>h.off g hg m hm p hp) g hg
  ·exact hoffB (hk.octs m hm p hp) (fun g hg=>hoff g hg m hm p hp) g hg
theorem ey {g:Nat} {x:M} (K:aI w g s.T (s.f x).toArray) (hp:∀p∈s.parts x,bj w p):bu s w (some ⟨g,0,none⟩) [x]:=by
 refine⟨⟨by simp[s.len],fun _=>⟨⟨g,0,none⟩,rfl,K.lt,fun j u hu=> ?_⟩⟩,fun m hm=> ?_⟩
 ·rw[List.flatMap_cons,List.flatMap_nil,List.append_nil] at hu
  rw[aS]
  unfold World.cell?
  unfold aI at K
  rw[K]
  simpa using hu
 ·rw[List.mem_singleton.1 hm];exact hp
theorem dN {W:World} {B0:Nat} (hb:Below B0 W w) (h:ac s B w v l) (hg:w.grownBy w' v.ownBlock) (h0:B0≤B) (hB:B0≤w.heap.size):Below B0 W w':=
 hb.grown hg hB fun k hk=>Nat.le_trans h0 (World.ownsRow.lt h.row k hk).1
end
section
variable {w w' w'':World} {B B':Nat}
structure fc (S:Nat→Prop) (w w':World):Prop where
 os:w'.os=w.os
 tape:w'.tape=w.tape
 output:w'.output=w.output
 size:w.heap.size≤w'.heap.size
 block:∀i,i<w.heap.size→¬S i→w'.heap[i]?=w.heap[i]?
variable {S S':Nat→Prop}
theorem fc.refl (S:Nat→Prop) (w:World):fc S w w:=⟨rfl,rfl,rfl,Nat.le_refl _,fun _ _ _=>rfl⟩
theorem fc.mono' (h:fc S w w') (hs:∀i,S i→S' i):fc S' w w':=⟨h.os,h.tape,h.output,h.size,fun i hi hn=>h.block i hi fun h'=>hn (hs i h')⟩
theorem fc.below (h:fc S w w') (k:Below w'.heap.size w' w''):fc S w w'':=
 ⟨k.os.trans h.os,k.tape.trans h.tape,k.output.trans h.output,Nat.le_trans h.size k.size,fun i hi hn=>(k.block i (Nat.lt_of_lt_of_le hi h.size)).trans (h.block i hi hn)⟩
theorem fc.grown {row:Option Nat} (h:fc S w w') (k:w'.grownBy w'' row) (hs:∀g,row=some g→w.heap.size≤g∨S g):fc S w w'':=
 ⟨k.os.trans h.os,k.tape.trans h.tape,k.output.trans h.output,Nat.le_trans h.size k.size,fun i hi hn=>(k.block i (Nat.lt_of_lt_of_le hi h.size) fun e=>by
  rcases hs i e.symm with h1|h1
  ·omega
  ·exact hn h1).trans (h.block i hi hn)⟩
theorem fc.toBelow (h:fc S w w') (hs:∀i,S i→B≤i) (hB:B≤w.heap.size):Below B w w':=
 ⟨h.os,h.tape,h.output,h.size,fun i hi=>h.block i (by omega) fun hS=>by have:=hs i hS;omega⟩
theorem fc.blk {g:Nat} {T:TypeId} {cs:Array Value} (h:fc S w w') (K:aI w g T cs) (hg:¬S g):aI w' g T cs:=(h.block g K.lt hg).trans K
theorem wL {row:Option Nat} (h:w.grownBy w' row) (k:w'.grownBy w'' row):w.grownBy w'' row:=
 ⟨k.os.trans h.os,k.tape.trans h.tape,k.output.trans h.output,Nat.le_trans h.size k.size,fun i hi hn=>(k.block i (Nat.lt_of_lt_of_le hi h.size) hn).trans (h.block i hi hn)⟩
theorem oE {g n c size:Nat} {e:TypeId} {xs:List Value}:∀(vs:List Value) (o:Nat) (w:World),w.ownsRow B e size (.slice (some ⟨g,0,none⟩) n c) n xs→n*size≤o→(w.setCells g o vs).ownsRow B e size (.slice (some ⟨g,0,none⟩) n c) n xs∧w.grownBy (w.setCells g o vs) (some g)
 |[],_,w,h,_=>⟨h,⟨rfl,rfl,rfl,Nat.le_refl _,fun _ _ _=>rfl⟩⟩
 |u::r,o,w,h,ho=>by
  obtain⟨h1,h2⟩:=h.stored o u
  rw[List.set_eq_of_length_le (by rw[h.1];exact ho)] at h1
  obtain⟨h3,h4⟩:=oE r (o+1) _ h1 (by omega)
  exact⟨h3,wL h2 h4⟩
theorem oD {g n c N size:Nat} {e:TypeId}:∀(vs:List Value) (o:Nat) (w:World) (xs:List Value),w.ownsRow B e size (.slice (some ⟨g,0,none⟩) n c) n xs→o+vs.length≤xs.length→(w.setCells g o vs).ownsRow B e size (.slice (some ⟨g,0,none⟩) n c) n (xs.take o++vs++xs.drop (o+vs.length))∧w.grownBy (w.setCells g o vs) (some g)
 |[],o,w,xs,h,_=>⟨(show xs.take o++[]++xs.drop (o+([]:List Value).length)=xs by simp).symm▸h,⟨rfl,rfl,rfl,Nat.le_refl _,fun _ _ _=>rfl⟩⟩
 |u::r,o,w,xs,h,ho=>by
  rw[List.length_cons] at ho
  obtain⟨h1,h2⟩:=h.stored o u
  obtain⟨h3,h4⟩:=oD (N:=N) r (o+1) _ _ h1 (by rw[List.length_set];omega)
  refine⟨?_,wL h2 h4⟩
  have e1:(xs.set o u).take (o+1)=xs.take o++[u]:=by
   rw[List.take_add_one,List.take_set_of_le (Nat.le_refl o),List.getElem?_set_self (by omega)]
   rfl
  have e2:(xs.set o u).drop (o+1+r.length)=xs.drop (o+(u::r).length):=by
   rw[List.drop_set_of_lt (by omega),List.length_cons]
   congr 1
   omega
  rw[e1,e2,List.append_assoc (xs.take o)] at h3
  exact h3
end
section
variable {M:Type} {s:Sh M} {B:Nat} {w w':World} {l:List M} {g n c i:Nat}
theorem CH {x y:M} (hy:l[i]?=some y):(l.set i x).flatMap s.f=(l.flatMap s.f).take (i*s.k)++s.f x++(l.flatMap s.f).drop (i*s.k+s.k):=by
 have hi:=(List.getElem?_eq_some_iff.1 hy).1
 have e0:l=l.take i++y::l.drop (i+1):=by
  have h1:l[i]=y:=(List.getElem?_eq_some_iff.1 hy).2
  rw[←h1,←List.drop_eq_getElem_cons hi,List.take_append_drop]
 have hlt:(l.take i).length=i:=by rw[List.length_take];omega
 have hf:((l.take i).flatMap s.f).length=i*s.k:=by rw[lr s.len,hlt]
 rw[List.set_eq_take_append_cons_drop,if_pos hi,List.flatMap_append,List.flatMap_cons,qj s.len,List.append_assoc]
 congr 1
 congr 1
 conv=>rhs;rw[e0,List.flatMap_append,List.flatMap_cons]
 rw[←List.append_assoc,List.drop_left' (by rw[List.length_append,hf,s.len])]
theorem ac.len (h:ac s B w (.slice (some ⟨g,0,none⟩) n c) l):l.length=n:=by
 obtain⟨A,c',e,_⟩:=h.reads
 injection e with _ e _
 exact e.symm
theorem ac.put {x y:M} (h:ac s B w (.slice (some ⟨g,0,none⟩) n c) l) (hy:l[i]?=some y) (ho:∀p∈s.parts x,bj w p) (hoff:∀p∈s.parts x,jR g p):
 ac s B (w.setCells g (i*s.k) (s.f x)) (.slice (some ⟨g,0,none⟩) n c) (l.set i x)∧w.grownBy (w.setCells g (i*s.k) (s.f x)) (some g):=by
 have hi:=(List.getElem?_eq_some_iff.1 hy).1
 have hn:=h.len
 have hr:=h.row
 rw[hn] at hr
 have hle:i*s.k+s.k≤(l.flatMap s.f).length:=by
  rw[lr s.len,←Nat.succ_mul]
  exact Nat.mul_le_mul_right _ hi
 obtain⟨h1,h2⟩:=oD (N:=0) (s.f x) (i*s.k) w _ hr (by rw[s.len];exact hle)
 rw[s.len,←CH hy] at h1
 have keep:∀{p},bj w p→jR g p→bj (w.setCells g (i*s.k) (s.f x)) p:=fun{p} hp hg=>cT hp hg (fun j hj hne=>h2.block j hj (fun e=>hne (Option.some.inj e))) h2.size
 refine⟨⟨by rw[List.length_set,hn];exact h1,fun m hm p hp=> ?_,fun g' hg' m hm p hp=> ?_⟩,h2⟩
 ·rcases List.mem_or_eq_of_mem_set hm with hm|hm
  ·exact keep (h.octs m hm p hp) (h.off g rfl m hm p hp)
  ·subst hm;exact keep (ho p hp) (hoff p hp)
 ·rcases List.mem_or_eq_of_mem_set hm with hm|hm
  ·exact h.off g' hg' m hm p hp
  ·subst hm;rw[←Option.some.inj hg'];exact hoff p hp
theorem ac.cut (h:ac s B w (.slice (some ⟨g,0,none⟩) n c) l) (hi:i≤n):ac s B w (.slice (some ⟨g,0,none⟩) i c) (l.take i):=by
 have hn:=h.len
 have hm:∀{m},m∈l.take i→m∈l:=fun{m} hm=>List.mem_of_mem_take hm
 have hl:(l.take i).length=i:=by rw[List.length_take];omega
 refine⟨?_,fun m h'=>h.octs m (hm h'),fun g' hg' m h'=>h.off g' hg' m (hm h')⟩
 rw[hl]
 rcases h.row.2 with⟨e,_⟩|⟨g',cap,cur,e,h1,h2,h3,h4,h5,h6⟩
 ·cases e
 ·injection e with e1 e2 e3
  injection e1 with e1
  injection e1 with e1 _
  subst e1 e3
  refine⟨by rw[lr s.len,hl], .inr ⟨g,c,cur,rfl,h1,h2,by omega,h4,h5, ?_⟩⟩
  rw[qj s.len,←h6,List.take_take,Nat.min_eq_left (Nat.mul_le_mul_right s.k (by omega))]
theorem AI {d:Nat} (h:ac s B w (.slice (some ⟨g,0,none⟩) n c) l) (hi:i<n) (hz1:s.z.cells.toList.all (·.oneCell')=true):
 ∃w',(∀ty,(Builtin.clear_ #[s.S] ty #[.slice (some ⟨g,i*s.k,none⟩) (n - i) d]).run Tryz.prog w= .ok (.tuple #[]) w')∧ac s B w' (.slice (some ⟨g,0,none⟩) i c) (l.take i)∧w.grownBy w' (some g):=by
 obtain⟨i0,hi0,hz0,_,_⟩:=eK s.info
 have hn:=h.len
 have hr:=h.row
 rw[hn] at hr
 have hz:∀k,((Builtin.zeroCells s.z.cells k).toList).length=k*s.k:=fun k=>by simp[Builtin.zeroCells,s.zk]
 have h1z:∀k,∀u∈(Builtin.zeroCells s.z.cells k).toList,u.oneCell'=true:=fun k u hu=>by
  simp only[Builtin.zeroCells,Array.toList_map,List.mem_map] at hu
  obtain⟨j,_,rfl⟩:=hu
  have hlt:j%s.z.cells.size<s.z.cells.size:=Nat.mod_lt _ (by rw[s.zk];exact s.pos)
  rw[getElem!_pos s.z.cells _ hlt]
  exact List.all_eq_true.1 hz1 _ (by simp)
 have hst:=run_storeCells_cells (P:=Tryz.prog) g (i*s.k) (Builtin.zeroCells s.z.cells (n - i)).toList 0 w (fun j hj=>by
  rw[hz] at hj
  have hb:i*s.k+(n - i)*s.k=n*s.k:=by rw[←Nat.add_mul,Nat.add_sub_cancel' (Nat.le_of_lt hi)]
  rw[Nat.add_zero,hr.cellAt _ (by omega),List.getElem?_eq_getElem (by rw[hr.1];omega)]
  rfl) (fun j _=>hr.frozenAt _) (h1z _)
 rw[Nat.add_zero] at hst
 have hcut:=h.cut (Nat.le_of_lt hi)
 have hl:(l.take i).length=i:=by rw[List.length_take];omega
 have hcr:=hcut.row
 rw[hl] at hcr
 obtain⟨q1,q2⟩:=oE (Builtin.zeroCells s.z.cells (n - i)).toList (i*s.k) w hcr (Nat.le_refl _)
 refine⟨_, ?_,⟨by rw[hl];exact q1,fun m hm p hp=> ?_,hcut.off⟩,q2⟩
 ·intro ty
  obtain⟨m,hm⟩:∃m,n - i=m+1:=⟨n - i - 1,by omega⟩
  rw[hm] at hst ⊢
  simp[Builtin.clear_,run_underlying s.und,zeroValue,typeInfo,hi0,hz0,hst]
 ·exact cT (hcut.octs m hm p hp) (hcut.off g rfl m hm p hp) (fun k hk hne=>q2.block k hk (fun e=>hne (Option.some.inj e))) q2.size
end
end Go.Proofs.YtclcfkaphlopeaaGreatDoor
namespace Go.Proofs.YtclcfkaphlopeaaGreatDoor
def eP (c:UInt8):List UInt8→List (List UInt8)
 |[]=>[[]]
 |b::l=>if b=c then[]::eP c l else match eP c l with
  |[]=>[[b]]
  |p::ps=>(b::p)::ps
theorem Bv (c:UInt8):Lib.count [] [c]=0:=by rw[Lib.count_one];rfl
theorem rj (c:UInt8):∀l:List UInt8,Lib.splitK [c] 0 (Lib.count l [c]) l=eP c l
 |[]=>by rw[Bv];rfl
 |b::l=>by
  have ih:=rj c l
  unfold eP
  by_cases hb:b=c
  ·subst hb
   rw[if_pos rfl,Lib.count_cons_eq,Nat.add_comm]
   have hi:Lib.index (b::l) [b]=0:=by unfold Lib.index;simp
   unfold Lib.splitK
   rw[hi]
   simp[ih]
  ·rw[if_neg hb,Lib.count_cons_ne _ _ _ hb]
   cases hk:Lib.count l [c] with
   |zero=>
    rw[hk] at ih
    rw[←ih];rfl
   |succ k=>
    rw[hk] at ih
    have hne:¬Lib.index l [c]= -1:=fun h=>by rw[Lib.count_miss h] at hk;cases hk
    have hge:=Lib.index_ge l [c]
    obtain⟨i,hi⟩:∃i:Nat,Lib.index l [c]=i:=⟨(Lib.index l [c]).toNat,by omega⟩
    have hib:Lib.index (b::l) [c]=((i+1:Nat):Int):=by
     unfold Lib.index
     rw[if_neg (by simp[Ne.symm hb]),hi,if_neg (by simp)];rfl
    have hn1:¬(((i:Nat):Int)== -1)=true:=by simp
    have hn2:¬(((i+1:Nat):Int)== -1)=true:=by simp;omega
    rw[←ih]
    unfold Lib.splitK
    rw[hi,hib,if_neg hn1,if_neg hn2]
    simp only[Int.toNat_natCast,List.length_cons,List.length_nil,Nat.add_zero,Nat.zero_add]
    rfl
def fN (c:UInt8) (s:ByteArray):List ByteArray:=Lib.splitB ⟨#[c]⟩ 0 (Lib.countB s ⟨#[c]⟩) s
theorem vD (c:UInt8) (s:ByteArray):(fN c s).map (·.data.toList)=eP c s.data.toList:=by
 unfold fN
 rw[Lib.splitB_data]
 exact rj c _
theorem rk (c:UInt8) (s:ByteArray):(fN c s).length=Lib.countB s ⟨#[c]⟩+1:=Lib.splitB_all ⟨#[c]⟩ (by simp[ByteArray.size]) 0 _ s rfl
theorem pp (sep:ByteArray) (save:Nat):∀(k:Nat) (s q:ByteArray),q∈Lib.splitB sep save k s→q.size≤s.size
 |0,s,q,h=>by simp[Lib.splitB] at h;subst h;exact Nat.le_refl _
 |k+1,s,q,h=>by
  unfold Lib.splitB at h
  split at h
  ·simp at h;subst h;exact Nat.le_refl _
  ·rcases List.mem_cons.1 h with rfl|h
   ·simp;omega
   ·have:=pp sep save k _ q h
    simp at this;omega
theorem vE (c:UInt8) (s q:ByteArray) (h:q∈fN c s):q.size≤s.size:=pp _ _ _ s q h
theorem mj (c b:UInt8):∀l:List UInt8,b∈l→b=c∨∃p∈eP c l,b∈p
 |[],h=>by simp at h
 |a::l,h=>by
  unfold eP
  by_cases ha:a=c
  ·rw[if_pos ha]
   rcases List.mem_cons.1 h with rfl|h
   ·exact .inl ha
   ·rcases mj c b l h with h|⟨p,hp,hb⟩
    ·exact .inl h
    ·exact .inr ⟨p,List.mem_cons_of_mem _ hp,hb⟩
  ·rw[if_neg ha]
   rcases List.mem_cons.1 h with rfl|h
   ·right
    cases eP c l with
    |nil=>exact⟨[b],by simp,by simp⟩
    |cons p ps=>exact⟨b::p,by simp,by simp⟩
   ·rcases mj c b l h with h|⟨p,hp,hb⟩
    ·exact .inl h
    ·right
     cases hs:eP c l with
     |nil=>rw[hs] at hp;cases hp
     |cons q qs=>
      rw[hs] at hp
      rcases List.mem_cons.1 hp with rfl|hp
      ·exact⟨a::p,by simp,by simp[hb]⟩
      ·exact⟨p,by simp[hp],hb⟩
theorem ya (s:ByteArray) (k:Nat) (h:k=s.size):s.data.toList.take k=s.data.toList:=List.take_of_length_le (by simp[h])
theorem uH {α:Type} (l:List α) (p:α→Bool) (k:Nat) (q:α) (h:l[k]?=some q) (ha:(l.take k).all p=true) (hq:p q=true):(l.take (k+1)).all p=true:=by
 rw[List.take_add_one,h];simp[ha,hq]
end Go.Proofs.YtclcfkaphlopeaaGreatDoor
