/- Own lemmas and contracts that the claim's proof needs, laid together. The conditions stand in each. -/
import Derived.Test.YthljnnjpmdgkoaaN00
import Derived.Lib.Strings
import Derived.Sort.Walk0
import Derived.Test.YthljnnjpmdgkoaaProg
import Derived.Outline
import Derived.StillTailTactics
namespace Go.Proofs.Ythljnnjpmdgkoaa
open Go Go.RowKit
def klt (a b:ByteArray):Bool:=Op.bytesLess a.toList b.toList
def keq (a b:ByteArray):Bool:=a.toList == b.toList
theorem zai {a b:ByteArray}:keq a b=true ↔ a=b:=by
 unfold keq;rw [beq_iff_eq,Lib.toList_data,Lib.toList_data]
 constructor
 · intro h
   cases a;cases b
   simp at h;simp [h]
 rintro rfl;rfl
theorem zct {a b:ByteArray}:klt a b=true ↔ a.data.toList < b.data.toList:=by
 unfold klt;rw [Go.Proofs.bytesLess_eq,decide_eq_true_eq,Lib.toList_data,Lib.toList_data]
theorem zbc (a:ByteArray):klt a a=false:=by
 rw [Bool.eq_false_iff];intro h;exact List.lt_irrefl _ (zct.1 h)
theorem zbu {a b c:ByteArray} (h:klt a b=true) (h':klt b c=true):klt a c=true:=zct.2 (List.lt_trans (zct.1 h) (zct.1 h'))
theorem zcx {a b:ByteArray} (h:klt a b=true):klt b a=false:=by
 rw [Bool.eq_false_iff];intro h';have:=zbu h h';rw [zbc] at this;cases this
theorem klt_ne {a b:ByteArray} (h:klt a b=true):keq a b=false:=by
 rw [Bool.eq_false_iff];intro h';obtain rfl:=zai.1 h';rw [zbc] at h;cases h
theorem zhq (a b:ByteArray):klt a b=true\/a=b\/klt b a=true:=by
 by_cases h:a.data.toList < b.data.toList
 · exact .inl (zct.2 h)
 by_cases h':b.data.toList < a.data.toList
 · exact .inr (.inr (zct.2 h'))
 right;left
 have:=List.le_antisymm (List.not_lt.1 h') (List.not_lt.1 h);cases a;cases b
 simp at this;simp [this]
theorem zqq {a b:ByteArray} (h:klt a b=false) (h':keq a b=false):klt b a=true:=by
 rcases zhq a b with h1 | h1 | h1
 · rw [h] at h1;cases h1
 · rw [zai.2 h1] at h';cases h'
 exact h1
theorem zef (a b:ByteArray):keq a b=keq b a:=by
 rw [Bool.eq_iff_iff,zai,zai];exact eq_comm
theorem zga {a b c:ByteArray} (h:klt b a=false) (h':klt b c=true):klt a c=true:=by
 rcases zhq a b with h1 | rfl | h1
 · exact zbu h1 h'
 · exact h'
 rw [h] at h1;cases h1
abbrev Pairs:=List (ByteArray × Int)
def Sorted (T:Pairs):Prop:=T.Pairwise fun p q=>klt p.1 q.1=true
def spotOf (T:Pairs) (key:ByteArray):Nat:=T.findIdx fun p=>!klt p.1 key
def hitOf (T:Pairs) (key:ByteArray):Bool:=match T[spotOf T key]? with
 | some p=>keq p.1 key
 | none=>false
def getT (T:Pairs) (key:ByteArray):Int × Bool:=match T.find? fun p=>keq p.1 key with
 | some p=>(p.2,true)
 | none=>(0,false)
def insT (T:Pairs) (key:ByteArray) (n:Int):Pairs:=match T with
 | []=>[(key,n)]
 | p :: T=>if klt p.1 key then p :: insT T key n else if keq p.1 key then (key,n) :: T else (key,n) :: p :: T
def rangeT (T:Pairs) (frm tO:ByteArray):Pairs:=T.filter fun p=>!klt p.1 frm && (tO.toList.isEmpty || klt p.1 tO)
theorem zbm (T:Pairs) (key:ByteArray):spotOf T key<=T.length:=List.findIdx_le_length
theorem zqw (T:Pairs) (hT:Sorted T) (key:ByteArray) (n:Int) :
 insT T key n=if hitOf T key then T.set (spotOf T key) (key,n) else T.take (spotOf T key)++(key,n) :: T.drop (spotOf T key):=by
 induction T with
 | nil=>simp [insT,hitOf,spotOf]
 | cons p T ih =>
   have hT':Sorted T:=(List.pairwise_cons.1 hT).2;by_cases h:klt p.1 key=true
   · have e1:spotOf (p :: T) key=spotOf T key+1:=by simp [spotOf,List.findIdx_cons,h]
     have e2:hitOf (p :: T) key=hitOf T key:=(by simp [hitOf,e1]);rw [e1,e2];simp only [insT,h,if_true,ih hT'];by_cases h2:hitOf T key=true <;> simp [h2]
   simp only [Bool.not_eq_true] at h
   have e1:spotOf (p :: T) key=0:=(by simp [spotOf,List.findIdx_cons,h]);have e2:hitOf (p :: T) key=keq p.1 key:=(by simp [hitOf,e1]);rw [e1,e2];simp only [insT,h,Bool.false_eq_true,if_false];by_cases h2:keq p.1 key=true <;> simp [h2]
theorem zmk (T:Pairs) (hT:Sorted T) (key:ByteArray):getT T key=if hitOf T key then ((T[spotOf T key]?.getD default).2,true) else (0,false):=by
 induction T with
 | nil=>simp [getT,hitOf,spotOf]
 | cons p T ih =>
   have hT':Sorted T:=(List.pairwise_cons.1 hT).2;by_cases h:klt p.1 key=true
   · have e1:spotOf (p :: T) key=spotOf T key+1:=by simp [spotOf,List.findIdx_cons,h]
     have e2:hitOf (p :: T) key=hitOf T key:=(by simp [hitOf,e1]);have e3:getT (p :: T) key=getT T key:=(by simp [getT,klt_ne h]);rw [e1,e2,e3,ih hT'];simp
   simp only [Bool.not_eq_true] at h
   have e1:spotOf (p :: T) key=0:=(by simp [spotOf,List.findIdx_cons,h]);have e2:hitOf (p :: T) key=keq p.1 key:=(by simp [hitOf,e1]);rw [e1,e2];by_cases h2:keq p.1 key=true
   · simp [getT,h2]
   simp only [Bool.not_eq_true] at h2
   have hn:(T.find? fun p=>keq p.1 key)=none:=by
    rw [List.find?_eq_none];intro q hq;have:=(List.pairwise_cons.1 hT).1 q hq;have h3:=zbu (zqq h h2) this;rw [zef,klt_ne h3];simp
   simp [getT,h2,hn]
theorem zhu (T:Pairs) (hT:Sorted T) (key:ByteArray) (n:Int):Sorted (insT T key n)/\∀ q∈insT T key n,q∈T\/q.1=key:=by
 induction T with
 | nil=>simp [insT,Sorted]
 | cons p T ih =>
   obtain ⟨hp,hT'⟩:=List.pairwise_cons.1 hT;obtain ⟨ih1,ih2⟩:=ih hT';by_cases h:klt p.1 key=true
   · simp only [insT,h,if_true]
     refine ⟨List.pairwise_cons.2 ⟨fun q hq=>?_,ih1⟩,fun q hq=>?_⟩
     · rcases ih2 q hq with h1 | h1
       · exact hp q h1
       rw [h1];exact h
     rcases List.mem_cons.1 hq with rfl | h1
     · simp
     rcases ih2 q h1 with h2 | h2 <;> simp [h2]
   simp only [Bool.not_eq_true] at h
   by_cases h2:keq p.1 key=true
   · simp only [insT,h,h2,Bool.false_eq_true,if_false,if_true]
     have e:=zai.1 h2;refine ⟨List.pairwise_cons.2 ⟨fun q hq=>?_,hT'⟩,fun q hq=>?_⟩
     · have:=hp q hq;rw [e] at this;exact this
     rcases List.mem_cons.1 hq with rfl | h1
     · simp
     simp [h1]
   simp only [Bool.not_eq_true] at h2
   simp only [insT,h,h2,Bool.false_eq_true,if_false];have e:=zqq h h2;refine ⟨List.pairwise_cons.2 ⟨fun q hq=>?_,hT⟩,fun q hq=>?_⟩
   · rcases List.mem_cons.1 hq with rfl | h1
     · exact e
     exact zbu e (hp q h1)
   rcases List.mem_cons.1 hq with rfl | h1
   · simp
   left;exact h1
theorem zcy (T:Pairs) (hT:Sorted T) (frm:ByteArray):T.drop (spotOf T frm)=T.filter fun p=>!klt p.1 frm:=by
 induction T with
 | nil=>simp
 | cons p T ih =>
   obtain ⟨hp,hT'⟩:=List.pairwise_cons.1 hT;by_cases h:klt p.1 frm=true
   · have e1:spotOf (p :: T) frm=spotOf T frm+1:=by simp [spotOf,List.findIdx_cons,h]
     rw [e1,List.drop_succ_cons,ih hT',List.filter_cons];simp [h]
   simp only [Bool.not_eq_true] at h
   have e1:spotOf (p :: T) frm=0:=(by simp [spotOf,List.findIdx_cons,h]);rw [e1,List.drop_zero]
   symm
   rw [List.filter_eq_self];intro q hq;rcases List.mem_cons.1 hq with rfl | hq
   · simp [h]
   have h1:=hp q hq
   have:klt q.1 frm=false:=by
    rw [Bool.eq_false_iff];intro h2;rw [zbu h1 h2] at h;cases h
   simp [this]
theorem Sorted.filter {T:Pairs} (hT:Sorted T) (f:ByteArray × Int->Bool):Sorted (T.filter f):=List.Pairwise.filter f hT
def ahead (tO:ByteArray) (p:ByteArray × Int):Bool:=tO.toList.isEmpty || klt p.1 tO
theorem zlf (D:Pairs) (hD:Sorted D) (tO:ByteArray):D.filter (ahead tO)=D.takeWhile (ahead tO):=by
 induction D with
 | nil=>simp
 | cons p D ih =>
   obtain ⟨hp,hD'⟩:=List.pairwise_cons.1 hD;rw [List.filter_cons,List.takeWhile_cons];by_cases h:ahead tO p=true
   · simp [h,ih hD']
   simp only [h]
   simp only [Bool.not_eq_true] at h;simp only [Bool.false_eq_true,if_false];rw [List.filter_eq_nil_iff];intro q hq;have h1:=hp q hq;unfold ahead at *;simp only [Bool.or_eq_false_iff] at h;simp only [h.1,Bool.false_or,Bool.not_eq_true];rw [Bool.eq_false_iff];intro h2;rw [zbu h1 h2] at h;cases h.2
theorem zkn (T:Pairs) (hT:Sorted T) (frm tO:ByteArray):rangeT T frm tO=(T.drop (spotOf T frm)).takeWhile (ahead tO):=by
 rw [zcy T hT,<-zlf _ (hT.filter _),List.filter_filter];unfold rangeT ahead
 congr 1
 funext p
 rw [Bool.and_comm]
theorem zim {α:Type} {p:α->Bool} {l a r:List α} {x:α} (h:l=a++x :: r) (ha:∀ y∈a,p y=true) (hx:p x=false):l.takeWhile p=a:=by
 subst h
 induction a with
 | nil=>simp [hx]
 | cons y a ih =>
   rw [List.cons_append,List.takeWhile_cons,ha y (by simp)];simp only [if_true];rw [ih fun z hz=>ha z (by simp [hz])]
theorem zey {α:Type} {p:α->Bool} {l:List α} (h:∀ y∈l,p y=true):l.takeWhile p=l:=by
 induction l with
 | nil=>rfl
 | cons y l ih=>rw [List.takeWhile_cons,h y (by simp)];simp only [if_true];rw [ih fun z hz=>h z (by simp [hz])]
open Go Go.Proofs Go.RowKit
set_option maxRecDepth 100000
def pairC (p:ByteArray × Int):List Value:=[.string p.1,.int .i64 p.2]
theorem zaf (p:ByteArray × Int):(pairC p).length=2:=rfl
def nodeC (p:Value × Value):List Value:=[p.1,p.2]
theorem zkv (p:Value × Value):(nodeC p).length=2:=rfl
def Before (T:Pairs) (key:ByteArray) (i:Nat):Prop:=∀ j:Nat,j < i->∀ p,T[j]? = some p->klt p.1 key=true
theorem zkg {T:Pairs} {key:ByteArray} {i:Nat} (h:Before T key i) (hi:i=T.length\/∃ p,T[i]? = some p/\klt p.1 key=false):spotOf T key=i:=by
 unfold spotOf
 have hlen:∀ j,j < i->j < T.length->(!klt (T[j]?.getD default).1 key)=false:=by
  intro j hj hjl;have:=h j hj _ (List.getElem?_eq_getElem hjl);simp [hjl,this]
 rcases hi with rfl | ⟨p,hp,hk⟩
 · rw [List.findIdx_eq_length]
   intro x hx;obtain ⟨j,hj,rfl⟩:=List.getElem_of_mem hx;have:=h j hj _ (List.getElem?_eq_getElem hj);simp [this]
 have hil:=(List.getElem?_eq_some_iff.1 hp).1
 rw [List.findIdx_eq hil];have hp':=(List.getElem?_eq_some_iff.1 hp).2;refine ⟨by rw [hp'];simp [hk],fun j hj=>?_⟩;have:=h j hj _ (List.getElem?_eq_getElem (by omega));simp [this]
def zbt (T:Pairs) (key:ByteArray):Value:=.tuple #[.int .i64 (spotOf T key),.bool (hitOf T key)]
theorem zog (w:World) (t at_:Nat) (nv:Value) (pv kv:Value) (N:List (Value × Value)) (T:Pairs) (key:ByteArray)
 (ht:w.cell? ⟨t,0,none⟩=some nv) (hN:SlF w 198 2 nodeC nv N) (hat:N[at_]? = some (pv,kv)) (hn:N.length<=1099511627776)
 (hT:SlF w 127 2 pairC pv T) (hl:T.length<=1099511627776) :
 Calls Try.prog 130 #[.pointer (some ⟨t,0,none⟩),.int .i64 at_,.string key] w fun e w'=>e = .returned (zbt T key)/\w=w':=by
 have hlt:=(List.getElem?_eq_some_iff.1 hat).1;obtain ⟨na,ncap,rfl,hc1,hc2,hna⟩:=hN.shape;obtain ⟨nb,no,rfl⟩:=hna (by omega);obtain ⟨pa,pcap,rfl,hc3,hc4,hpa⟩:=hT.shape;have hnode:=hN.cell0 zkv at_ hat rfl;have hlt':(at_:Int) < (N.length:Int):=by omega
 have HT:=H_ hT;have HA:=H_ hpa;clear hN hat hna hT hpa;go_enter Try.func130,Try.ntmps130;go_wp2
 go_step3
 go_wp2
 go_step3
 go_wp2
 go_loopg [8,9] T.length (fun g s8 _ wr=>∃ i:Nat,s8 = .int .i64 i/\i+g=T.length/\Hid (Before T key i)/\w=wr)
 case atStart=>exact ⟨0,rfl,by simp,H_ (fun j hj=>by omega),rfl⟩
 case round =>
  obtain ⟨i,rfl,hi,HB,rfl⟩:=hrel
  cases gk with
  | zero =>
    have hil:((i:Int) == (T.length:Int))=true:=(by simp;omega);have hsp:spotOf T key=i:=zkg HB.out (.inl (by omega));have hht:hitOf T key=false:=(by unfold hitOf;rw [hsp,List.getElem?_eq_none (by omega)]);have HS:=H_ hsp;have HH:=H_ hht;clear hsp hht;go_wp2;rw [Exit.noGoto_ret]
    go_ret2
    exact ⟨by unfold zbt;rw [HS.out,HH.out];rfl,rfl⟩
  | succ g =>
    obtain ⟨pb,po,rfl⟩:=HA.out (by omega);obtain ⟨p,hp⟩:∃ p,T[i]? = some p:=⟨_,List.getElem?_eq_getElem (by omega)⟩;have hcell:=HT.out.cell0 zaf i hp rfl;have hil:((i:Int) == (T.length:Int))=false:=(by simp;omega);have hil2:(i:Int) < (T.length:Int):=(by omega);have HP:=H_ hp;clear hp;by_cases h1:klt p.1 key=true
    · have h2:=klt_ne h1
      have HK:=H_ h1;unfold klt at h1;unfold keq at h2;go_wp2;go_roundg g
      case rel=>exact ⟨i+1,by go_num,by omega,H_ (fun j hj q hq=>by
       by_cases hji:j=i
       · subst hji;rw [HP.out] at hq;cases hq;exact HK.out
       exact HB.out j (by omega) q hq),rfl⟩
      case measure=>omega
    simp only [Bool.not_eq_true] at h1
    have hsp:spotOf T key=i:=zkg HB.out (.inr ⟨p,HP.out,h1⟩);have hht:hitOf T key=keq p.1 key:=(by unfold hitOf;rw [hsp,HP.out]);have HS:=H_ hsp;clear hsp;by_cases h2:keq p.1 key=true
    · rw [h2] at hht
      have HH:=H_ hht;clear hht;unfold klt at h1;unfold keq at h2;go_wp2;rw [Exit.noGoto_ret]
      go_ret2
      exact ⟨by unfold zbt;rw [HS.out,HH.out];rfl,rfl⟩
    simp only [Bool.not_eq_true] at h2
    rw [h2] at hht;have HH:=H_ hht;clear hht;unfold klt at h1;unfold keq at h2;go_wp2;rw [Exit.noGoto_ret]
    go_ret2
    exact ⟨by unfold zbt;rw [HS.out,HH.out];rfl,rfl⟩
def zeg (r:Int × Bool):Value:=.tuple #[.int .i64 r.1,.bool r.2]
theorem zlw {P:Program} (w:World) (dT sT ty elem:TypeId) (i:TypeInfo) (dp sp:Option Addr) (dLen dCap sLen sCap g o:Nat) (cur:Array Value) (t:TypeId) (cs:List Value)
 (hu:P.underlying dT=some (.slice elem)) (hi:P.info? elem=some i) (hg:w.heap[g]? = some (.cells cur t (0,0))) (hn:cs.length=Nat.min sLen dLen * i.size)
 (hpos:0 < cs.length->dp=some ⟨g,o,none⟩/\∃ ad,sp=some ad/\∀ j v,cs[j]? = some v->w.cell? (ad.add j)=some v) (hfit:o+cs.length<=cur.size) (h1:∀ v∈cs,v.oneCell'=true) :
 ∃ w',(Builtin.copy_ #[dT,sT] ty #[.slice dp dLen dCap,.slice sp sLen sCap]).run P w = .ok (goInt (Nat.min sLen dLen)) w' ∧
  w'.heap[g]? = some (.cells (cur.toList.take o++cs++cur.toList.drop (o+cs.length)).toArray t (0,0))/\w.grownBy w' (some g):=by
 by_cases h0:cs.length=0
 · obtain rfl:cs = []:=List.eq_nil_of_length_eq_zero h0
   refine ⟨w,?_,by simpa using hg,⟨rfl,rfl,rfl,Nat.le_refl _,fun _ _ _=>rfl⟩⟩;have hz:Nat.min sLen dLen * i.size=0:=(by simpa using hn.symm);cases sp <;> cases dp <;> simp [Builtin.copy_,run_underlying hu,Builtin.lenOf,Builtin.firstCells,sizeOf,typeInfo,hi,hz,storeCells,loadCells,loadCellsFrom]
 obtain ⟨rfl,ad,rfl,hsrc⟩:=hpos (by omega)
 have hl:=run_loadCells_list (P:=P) w ad cs hsrc;have hst:=run_storeCells_at P g o t cs 0 cur w hg (by simpa using hfit) h1;refine ⟨w.setRow g (cur.toList.take o++cs++cur.toList.drop (o+cs.length)).toArray,?_,setRow_heap w g cur _ t _ hg,⟨rfl,rfl,rfl,by simp,fun k _ hk=>setRow_other w g k _ (fun e=>hk (by rw [e]))⟩⟩;simp [Builtin.copy_,run_underlying hu,Builtin.lenOf,Builtin.firstCells,sizeOf,typeInfo,hi,<-hn,hl,hst]
theorem zca {P:Program} {w:World} {ops:Array Oper} {rest:List Oper} {op:Oper} {a:Act} {Q:Exit->Act->World->Prop} (hgd:op.guard=none) (d s:Operand) (dT sT elem:TypeId) (i:TypeInfo)
 (ho:op.op = .call { callee:=.builtin .copy,args:=#[d,s],argTypes:=#[dT,sT] }) (hu:P.underlying dT=some (.slice elem)) (hi:P.info? elem=some i)
 (dp sp:Option Addr) (dLen dCap sLen sCap g o:Nat) (cur:Array Value) (t:TypeId) (cs:List Value) (hd:a.eval d = .slice dp dLen dCap) (hs:a.eval s = .slice sp sLen sCap)
 (hg:w.heap[g]? = some (.cells cur t (0,0))) (hn:cs.length=Nat.min sLen dLen * i.size)
 (hpos:0 < cs.length->dp=some ⟨g,o,none⟩/\∃ ad,sp=some ad/\∀ j v,cs[j]? = some v->w.cell? (ad.add j)=some v) (hfit:o+cs.length<=cur.size) (h1:∀ v∈cs,v.oneCell'=true)
 (h:∀ w',w'.heap[g]? = some (.cells (cur.toList.take o++cs++cur.toList.drop (o+cs.length)).toArray t (0,0))->w.grownBy w' (some g)->wpList P ops Q rest (a.put op.dst (goInt (Nat.min sLen dLen))) w'):wpList P ops Q (op :: rest) a w:=by
 refine wpList_plain hgd fun _ hK=>?_;obtain ⟨w',hr,h2,h3⟩:=zlw (P:=P) w dT sT op.type elem i dp sp dLen dCap sLen sCap g o cur t cs hu hi hg hn hpos hfit h1;unfold Oper.wp execOp;simp only [ho,resolve,invoke,builtin,Sem.run_bind,Sem.run_pure,Result.andThen_ok,List.map_toArray,List.map_cons,List.map_nil,hd,hs,hr];exact hK _ _ (h w' h2 h3)
theorem SlF.copied {α:Type} {f:α->List Value} {w w':World} {e sz g o cap:Nat} {L:List α} (hf:∀ x,(f x).length=sz) (h:SlF w e sz f (.slice (some ⟨g,o,none⟩) L.length cap) L) (j k m:Nat) (hj:j+m<=L.length) (hk:k+m<=L.length)
 (cur:Array Value) (hg:w.heap[g]? = some (.cells cur e (0,0)))
 (hg':w'.heap[g]? = some (.cells (cur.toList.take (o+k * sz)++(((L.drop j).take m).flatMap f)++cur.toList.drop (o+k * sz+m * sz)).toArray e (0,0))) :
 SlF w' e sz f (.slice (some ⟨g,o,none⟩) L.length cap) (L.take k++(L.drop j).take m++L.drop (k+m)):=by
 have hlen:(L.take k++(L.drop j).take m++L.drop (k+m)).length=L.length:=by simp;omega
 unfold SlF;rw [hlen];refine ⟨by rw [zal hf,hlen],?_⟩;rcases h.2 with ⟨h0,_⟩ | ⟨g',o',cap',cur',hv,hc,h1,h2,h3,h4⟩
 · cases h0
 cases hv
 rw [hg] at hc;cases hc
 have hL:L.length * sz<=cap * sz:=Nat.mul_le_mul_right _ h1;have hkm:k * sz+m * sz<=L.length * sz:=(by rw [<-Nat.add_mul];exact Nat.mul_le_mul_right _ hk);have hml:(((L.drop j).take m).flatMap f).length=m * sz:=(by rw [zal hf];congr 1;simp;omega);have hcl:cur.toList.length=cur.size:=(by simp);refine .inr ⟨g,o,cap,_,rfl,hg',h1,h2,?_,?_⟩
 · simp only [List.size_toArray,List.length_append,List.length_take,List.length_drop,hml,hcl]
   omega
 have e1:(cur.toList.take (o+k * sz)).drop o=(L.take k).flatMap f:=by
  rw [<-zdy hf,<-h4,List.drop_take,List.take_take]
  congr 1
  omega
 have e2:(cur.toList.drop (o+k * sz+m * sz)).take (L.length * sz - (k * sz+m * sz))=(L.drop (k+m)).flatMap f:=by
  have:(L.flatMap f).drop ((k+m) * sz)=(L.drop (k+m)).flatMap f:=by
   have h5:=congrArg (fun l=>List.flatMap f l) (List.take_append_drop (k+m) L);simp only [List.flatMap_append] at h5;rw [<-h5,<-zdy hf,List.drop_append_of_le_length (by rw [List.length_take,zal hf,Nat.add_mul];omega),List.drop_eq_nil_of_le (by rw [List.length_take];omega),List.nil_append]
  rw [<-this,<-h4,List.drop_take,List.drop_drop,Nat.add_mul]
  congr 2
  omega
 show (((cur.toList.take (o+k * sz)++(((L.drop j).take m).flatMap f)++cur.toList.drop (o+k * sz+m * sz)).drop o).take (L.length * sz))=_
 rw [List.append_assoc,List.drop_append_of_le_length (by simp;omega),e1];rw [List.flatMap_append,List.flatMap_append,List.append_assoc];have e3:((L.take k).flatMap f).length=k * sz:=(by rw [zal hf];congr 1;simp;omega);have e4:L.length * sz=((L.take k).flatMap f).length+((((L.drop j).take m).flatMap f).length+(L.length * sz - (k * sz+m * sz))):=(by rw [e3,hml];omega);rw [e4,List.take_length_add_append,List.take_length_add_append,e2]
theorem info127:(Try.prog.info? 127).map (fun i=>(i.zero,i.size,i.bytes))=some (some (.agg #[.string ByteArray.empty,.int .i64 0]),2,24):=by kernel_rfl
theorem zlc {α:Type} (L:List α) (x:α) (i:Nat) (hi:i<=L.length) :
 (((L++[x]).take (i+1)++((L++[x]).drop i).take (L.length - i)++(L++[x]).drop (i+1+(L.length - i))).set i x)=L.take i++x :: L.drop i:=by
 have h1:(L++[x]).drop (i+1+(L.length - i)) = []:=List.drop_eq_nil_of_le (by simp;omega)
 have h2:((L++[x]).drop i).take (L.length - i)=L.drop i:=by
  rw [List.drop_append_of_le_length hi,List.take_append_of_le_length (by simp),List.take_of_length_le (by simp)]
 rw [h1,h2,List.append_nil];by_cases h:i < L.length
 · have h3:(L++[x]).take (i+1)=L.take i++[L[i]]:=by
    rw [List.take_append_of_le_length (by omega),List.take_succ_eq_append_getElem h]
   rw [h3,List.append_assoc,List.set_append_right _ _ (by simp;omega)];simp [show i - min i L.length=0 from by omega]
 obtain rfl:i=L.length:=by omega
 rw [List.take_of_length_le (by simp)];simp
set_option maxHeartbeats 1000000 in
theorem zfb (w:World) (v:Value) (L:Pairs) (i:Nat) (x:ByteArray × Int) (hv:SlF w 127 2 pairC v L) (hi:i<=L.length) (hl:L.length<=1099511627) :
 Calls Try.prog 144 #[v,.int .i64 i,.agg #[.string x.1,.int .i64 x.2]] w fun e w'=>∃ g o cap,e = .returned (.slice (some ⟨g,o,none⟩) (L.length+1) cap) ∧
  SlF w' 127 2 pairC (.slice (some ⟨g,o,none⟩) (L.length+1) cap) (L.take i++x :: L.drop i)/\Fr (fun b=>v.ownBlock=some b) w w'/\(v.ownBlock=some g\/w.heap.size<=g):=by
 obtain ⟨i0,hi0,hz0,hz1,hz2⟩:=info_parts info127;have hnew:=zas (w.alloc (.cells #[.string x.1,.int .i64 x.2] 127)) [.string x.1,.int .i64 x.2] 127 (0,0);have HV:=H_ hv;clear hv;have hil:(0:Int)<=(i:Int):=by omega
 go_enter Try.func144,Try.ntmps144;go_wp2_with (at_builtin;refine zap rfl _ _ 124 rfl 127 i0 _ 2 24 Try.underlying124 hi0 hz0 hz1 hz2 rfl (by decide) v L rfl ((HV.out.alloc _).alloc _) (w.heap.size+1) 1 x rfl (by simpa [pairC] using hnew) rfl ?c1 ?c2 ?c3 ?_)
 case c1=>intro u hu;simp [pairC] at hu;rcases hu with rfl | rfl <;> rfl
 case c2=>unfold maxLen;omega
 case c3=>omega
 intro g o cap w1 hs1 hg1 hb1 hlt1;have hgl:=HV.out.lt;have hF1:Fr (fun b=>v.ownBlock=some b) w w1:=((((Fr.refl _ w).alloc _).alloc _).grown hg1 fun k hk=>.inl hk)
 have hgne:g≠w.heap.size:=by
  rintro rfl;rcases hb1 with e | e
  · have:=hgl _ e;omega
  omega
 have hgnew:v.ownBlock=some g\/w.heap.size<=g:=by
  rcases hb1 with e | e
  · exact .inl e
  right;omega
 -- the box of x
 have hx1:w1.heap[w.heap.size]? = some (.cells #[.string x.1,.int .i64 x.2] 127 (0,0)):=by
  rw [hg1.block w.heap.size (by simp;omega) (fun e=>by have:=hgl _ e.symm;omega)];exact zae (zac _ _ _ rfl) _
 obtain ⟨cur,hcur,hncap,hfit⟩:∃ cur,w1.heap[g]? = some (.cells cur 127 (0,0))/\L.length+1<=cap/\o+cap * 2<=cur.size:=by
  rcases hs1.2 with ⟨h0,_⟩ | ⟨_,_,_,cur,hv,hc,h2,h3,h4,h5⟩
  · cases h0
  simp only [Value.slice.injEq,Option.some.injEq,Addr.mk.injEq,and_true] at hv
  obtain ⟨⟨rfl,rfl⟩,_,rfl⟩:=hv;exact ⟨cur,hc,by simpa using h2,h4⟩
 have hL1:(L++[x]).length=L.length+1:=by simp
 have H1:=H_ hs1;clear hs1;have HG1:=H_ hg1;clear hg1;have HL:=H_ hL1;clear hL1;clear hnew;have hi1:(i:Int)+1<=(L.length:Int)+1:=by omega
 have hi5:(0:Int)<=(i:Int)+1:=by omega
 have hi2:(i:Int)<=(L.length:Int)+1:=by omega
 have hi3:i+1<=L.length+1:=by omega
 have hi4:i<=L.length+1:=by omega
 go_wp2_with fail;refine wp_region_still_tail 7 (by kernel_rfl) (by kernel_rfl) ?_;simp only [List.take_succ_cons,List.take_zero,List.drop_succ_cons,List.drop_zero];change wpStill _ _ w1.drew _ _ _
 repeat (refine wpStill_step (fun K hK=>?_);go_simp;(try go_bits);refine hK _ ?_;clear hK K)
 refine wpStill_nil ?_;change wpList _ _ _ _ _ w1.drew
 have hlen2:((((L++[x]).drop i).take (L.length - i)).flatMap pairC).length=(L.length - i) * 2:=by
  rw [zal zaf];congr 1;simp;omega
 have hmin:Nat.min (L.length+1 - i) (L.length - i)=L.length - i:=Nat.min_eq_right (by omega);refine zca rfl _ _ 124 124 127 i0 rfl Try.underlying124 hi0 _ _ _ _ _ _ g (o+(i+1) * 2) cur 127 ((((L++[x]).drop i).take (L.length - i)).flatMap pairC) rfl rfl hcur (by rw [hlen2,hz1,hmin]) ?hpos ?hfit ?h1 ?_
 case hpos =>
  intro hp;rw [hlen2] at hp;rw [if_neg (by omega),if_neg (by omega)];refine ⟨rfl,_,rfl,fun j u hu=>?_⟩;have hj:=(List.getElem?_eq_some_iff.1 hu).1;rw [hlen2] at hj;have hadd:(⟨g,o+i * 2,none⟩:Addr).add j=⟨g,o+(i * 2+j),none⟩:=(by unfold Addr.add;split <;> simp_all [Nat.add_assoc]);rw [hadd];refine Sl.cell (by have:=H1.out;unfold SlF at this;rw [HL.out] at this;exact this) (i * 2+j) ?_;rw [<-zdy zaf,List.getElem?_take,if_pos (by omega)] at hu;rw [<-hu];have h5:=congrArg (fun l=>List.flatMap pairC l) (List.take_append_drop i (L++[x]));simp only [List.flatMap_append] at h5;have h6:(List.flatMap pairC (List.take i (L++[x]))).length=i * 2:=(by rw [zal zaf];congr 1;simp;omega);rw [List.flatMap_append,<-h5,List.getElem?_append_right (by rw [h6];omega),h6,show i * 2+j - i * 2=j from by omega]
 case hfit=>rw [hlen2];omega
 case h1 =>
  intro u hu;obtain ⟨y,_,hy⟩:=List.mem_flatMap.1 hu;simp [pairC] at hy;rcases hy with rfl | rfl <;> rfl
 intro w2 hw2 hgr2;generalize (if cap=i+1 then some (⟨g,o,none⟩:Addr) else some ⟨g,o+(i+1) * 2,none⟩)=A1;generalize (if cap=i then some (⟨g,o,none⟩:Addr) else some ⟨g,o+i * 2,none⟩)=A2;have hs2:=SlF.copied (w:=w1) (w':=w2) (L:=L++[x]) zaf (by have:=H1.out;rwa [HL.out]) i (i+1) (L.length - i) (by simp;omega) (by simp;omega) cur hcur (by rw [hlen2] at hw2;exact hw2);have hx2:w2.heap[w.heap.size]? = some (.cells #[.string x.1,.int .i64 x.2] 127 (0,0)):=(hgr2.block w.heap.size (zab hx1) (fun e=>hgne (by cases e;rfl))).trans hx1;have b0:w2.cell? ⟨w.heap.size,0,none⟩=some (.string x.1):=cellAt hx2 0 rfl;have b1:w2.cell? ⟨w.heap.size,1,none⟩=some (.int .i64 x.2):=cellAt hx2 1 rfl;have HE:=H_ (zlc L x i hi)
 generalize hL2:((L++[x]).take (i+1)++((L++[x]).drop i).take (L.length - i)++(L++[x]).drop (i+1+(L.length - i)))=L2 at hs2 HE;have hL2l:L2.length=L.length+1:=by rw [<-hL2];simp;omega
 obtain ⟨y,hy⟩:∃ y,L2[i]? = some y:=⟨_,List.getElem?_eq_getElem (by omega)⟩;have hs2':SlF w2 127 2 pairC (.slice (some ⟨g,o,none⟩) L2.length cap) L2:=by rw [hL2l];rwa [HL.out] at hs2
 have d0:=hs2'.cell0 zaf i hy rfl;have d1:=hs2'.cell zaf i 1 hy rfl;have f0:=hs2'.free (o+i * 2);have f1:=hs2'.free (o+i * 2+1);have H2:=H_ hs2';have HY:=H_ hy;have HL2:=H_ hL2l;have HG2:=H_ hgr2;have hi6:(i:Int) < (L.length:Int)+1:=by omega
 have hi7:i < L.length+1:=by omega
 clear hs2 hs2' hy hL2 hL2l hgr2 hw2 hx2 hlen2 hmin;go_wp2;go_ret;refine ⟨g,o,cap,rfl,?_,?_,hgnew⟩
 · have e1:=SlF.set zaf H2.out i 0 (by omega) y (x.1,y.2) (.string x.1) HY.out rfl
   have hyl:(L2.set i (x.1,y.2)).length=L2.length:=(by simp);have e2:=SlF.set (L:=L2.set i (x.1,y.2)) zaf (by rw [hyl];exact e1) i 1 (by omega) (x.1,y.2) x (.int .i64 x.2) (by rw [List.getElem?_set_self (by rw [HL2.out];omega)]) rfl;rw [List.set_set,hyl,HE.out,HL2.out] at e2;exact e2
 have hF2:Fr (fun b=>v.ownBlock=some b) w w2:=hF1.drew.grown HG2.out fun k hk=>by cases hk;exact hgnew
 exact ((hF2.setCell (p:=⟨g,o+i * 2,none⟩) hgnew _).setCell (p:=⟨g,o+i * 2+1,none⟩) hgnew _)
end Go.Proofs.Ythljnnjpmdgkoaa