/- Own lemmas. -/
import Derived.Test.YtdgkdfmfoonbpaaGreatR20
import Derived.Test.YtdgkdfmfoonbpaaGreatR18
import Derived.Test.YtdgkdfmfoonbpaaGreatR19
import Derived.Test.YtdgkdfmfoonbpaaGreatR13
import Derived.Test.YtdgkdfmfoonbpaaGreatR16
import Derived.Test.YtdgkdfmfoonbpaaGreatR22
import Derived.Test.YtdgkdfmfoonbpaaGreatR14
import Derived.Deep.DeepCutAuto
import Derived.Maps.RangeRun
namespace Go.Proofs.YtdgkdfmfoonbpaaGreat
open Go Go.Proofs Go.RowKit
def keepP (R:Int) (S:St) (p:ByteArray×Int):Bool:=match S.past p.2 with
 | some H=>!(compK R H.gens).isEmpty
 | none=>true
def compP (R:Int) (o:Option Hist):Option Hist:=match o with
 | some H=>if (compK R H.gens).isEmpty then none else some (compH R H)
 | none=>none
def compTo (R:Int) (S:St) (i:Nat):St where
 T:=(S.T.take i).filter (keepP R S)++S.T.drop i
 past:=fun j=>if j∈(S.T.take i).map (·.2) then compP R (S.past j) else S.past j
 next:=S.next
 rev:=S.rev
 mark:=R
 events:=S.events.filter (keptB R)
def compS (R:Int) (S:St):St:=compTo R S S.T.length
theorem zny (R:Int) (S:St):compTo R S 0 = { S with mark:=R,events:=S.events.filter (keptB R) }:=by
 unfold compTo;simp
theorem zoa {R:Int} {S:St} {i:Nat} {p:ByteArray×Int} {H:Hist} (hp:S.T[i]?=some p) (hH:S.past p.2=some H) (hk:compK R H.gens≠[]) :
 compTo R S (i+1) = { compTo R S i with past:=fun j=>if j=p.2 then some (compH R H) else (compTo R S i).past j }:=by
 have c:=(List.getElem?_eq_some_iff.1 hp).1
 have a:keepP R S p=true:=by
  unfold keepP;rw [hH];simpa using hk
 unfold compTo
 congr 1
 · rw [List.take_add_one,hp,List.filter_append,List.drop_eq_getElem_cons c,(List.getElem?_eq_some_iff.1 hp).2]
   simp [a]
 funext j
 rw [List.take_add_one,hp,List.map_append];dsimp only;by_cases hj:j=p.2
 · subst hj
   have b:(compK R H.gens).isEmpty=false:=(by simpa using hk);simp [compP,hH,hk]
 simp [hj]
theorem zob {R:Int} {S:St} {i:Nat} {p:ByteArray×Int} {H:Hist} (hs:Sorted S.T) (hp:S.T[i]?=some p) (hH:S.past p.2=some H) (hk:compK R H.gens = []) :
 compTo R S (i+1) = { compTo R S i with T:=delT (compTo R S i).T p.1,past:=fun j=>if j=p.2 then none else (compTo R S i).past j }:=by
 have g:=(List.getElem?_eq_some_iff.1 hp).1
 have b:keepP R S p=false:=by
  unfold keepP;rw [hH];simpa using hk
 have a:S.T.drop i=p :: S.T.drop (i+1):=by rw [List.drop_eq_getElem_cons g,(List.getElem?_eq_some_iff.1 hp).2]
 have d:Sorted (S.T.take i++p :: S.T.drop (i+1)):=by rw [<-a,List.take_append_drop];exact hs
 obtain ⟨n,k,l⟩:=List.pairwise_append.1 d;obtain ⟨m,_⟩:=List.pairwise_cons.1 k;unfold compTo
 congr 1
 · rw [a]
   unfold delT;rw [List.filter_append,List.filter_cons,List.take_add_one,hp,List.filter_append]
   have e:((S.T.take i).filter (keepP R S)).filter (fun q=>!keq q.1 p.1)=(S.T.take i).filter (keepP R S):=by
    rw [List.filter_eq_self];intro q c;have:=l q (List.mem_filter.1 c).1 p List.mem_cons_self;rw [klt_ne this];rfl
   have f:(S.T.drop (i+1)).filter (fun q=>!keq q.1 p.1)=S.T.drop (i+1):=by
    rw [List.filter_eq_self];intro q c;have:=m q c;rw [zcw,klt_ne this];rfl
   rw [e,f,if_neg (by rw [zat.2 rfl];simp)];simp [b]
 funext j
 rw [List.take_add_one,hp,List.map_append];dsimp only;by_cases hj:j=p.2
 · subst hj
   simp [compP,hH,hk]
 simp [hj]
theorem zsz {M:Int} {S:St} (h:SInv M S) (hs:Sorted S.T):(S.T.map (·.2)).Nodup:=by
 unfold List.Nodup;rw [List.pairwise_map];refine List.Pairwise.imp_of_mem (fun {p q} hp hq hpq=>?_) hs;intro e;have a:=zcf hs hp;have b:=zcf hs hq;have:=h.inj p.1 q.1 (by rw [a]) (by rw [b]) (by rw [a,b];exact e);rw [this,zca] at hpq;cases hpq
theorem znz {R:Int} {S:St} (hnd:(S.T.map (·.2)).Nodup) {i:Nat} {p:ByteArray×Int} (hp:S.T[i]?=some p):(compTo R S i).past p.2=S.past p.2:=by
 have g:=(List.getElem?_eq_some_iff.1 hp).1;unfold compTo;dsimp only;rw [if_neg];intro d;obtain ⟨q,f,e⟩:=List.mem_map.1 d;obtain ⟨j,a⟩:=List.mem_iff_getElem?.1 f
 have b:j<i:=by
  have:=(List.getElem?_eq_some_iff.1 a).1;simp at this;omega
 rw [List.getElem?_take_of_lt b] at a;have c:(S.T.map (·.2))[j]?=(S.T.map (·.2))[i]?:=by rw [List.getElem?_map,List.getElem?_map,a,hp];simp [e]
 have:=(List.getElem?_inj (by simpa using (List.getElem?_eq_some_iff.1 a).1) hnd).1 c;omega
section
variable {TA:zai} {N:Nat} (hT:TreeOk TA N) {w w':World} {s t p:Nat} {ev:Value} {hp:Int->Option Nat} {FT:Nat->Prop} {FH:Int->Nat->Prop} {S:St}
include hT
theorem StoreR.dropHist (a:StoreR TA w s t p ev hp FT FH S) (id:Int) (hf:Fr (fun b=>b=p) w w') (hm:MapAt w' p fun i=>if i=id then none else (hp i).map fun h=>.pointer (some ⟨h,0,none⟩)) :
 StoreR TA w' s t p ev (fun i=>if i=id then none else hp i) FT (fun i b=>i≠id/\FH i b) { S with past:=fun i=>if i=id then none else S.past i } where
 obj:=a.obj.fr hf fun e=>a.map.apart a.obj e.symm
 tree:=hT.fr a.tree hf fun b hb e=>a.dp.1 (e▸hb)
 map:=by
  refine cast (congrArg (MapAt w' p) ?_) hm
  funext i
  by_cases hi:i=id <;> simp [hi]
 events:=a.events.fr hf fun b hb e=>a.dp.2.1 (e▸hb)
 hist i H hi:=by
  dsimp only at hi;by_cases hi':i=id
  · rw [if_pos hi'] at hi;cases hi
  rw [if_neg hi'] at hi
  obtain ⟨c,d,f⟩:=a.hist i H hi;refine ⟨c,by rw [if_neg hi'];exact d,?_⟩;have g:=f.fr hf fun b hb e=>a.dp.2.2 i (e▸hb);have:(fun b=>i≠id/\FH i b)=FH i:=(by funext b;simp [hi']);rw [this];exact g
 gone i hi:=by
  dsimp only at hi;by_cases hi':i=id
  · exact ⟨if_pos hi',fun b hb=>hb.1 hi'⟩
  rw [if_neg hi'] at hi
  exact ⟨by rw [if_neg hi'];exact (a.gone i hi).1,fun b hb=>(a.gone i hi).2 b hb.2⟩
 ds:=⟨a.ds.1,a.ds.2.1,fun i e=>a.ds.2.2 i e.2⟩
 dp:=⟨a.dp.1,a.dp.2.1,fun i e=>a.dp.2.2 i e.2⟩
 dt b hb:=⟨(a.dt b hb).1,fun i e=>(a.dt b hb).2 i e.2⟩
 de b hb i e:=a.de b hb i e.2
 dh i j b hi hj:=a.dh i j b hi.2 hj.2
end
set_option maxRecDepth 100000
def fewOp (o:Opr):Bool:=decide (o.rg.key.size<=3000)&&decide (o.rg.end_.size<=3000)&&decide (o.value.size<=3000)
def fewOps (l:List Opr):Bool:=decide (l.length<=30)&&l.all fewOp
theorem zcl {α:Type} {l:List α} {p:α->Bool} {i:Nat} {x:α} (hx:l[i]?=some x):(l.take (i+1)).all p=((l.take i).all p&&p x):=by
 rw [List.take_add_one,hx,List.all_append];simp
theorem zcx {α:Type} {l:List α} {p:α->Bool} {i:Nat} {x:α} (hx:l[i]?=some x) (hp:p x=false):l.all p=false:=by
 rw [List.all_eq_false];exact ⟨x,List.mem_of_getElem? hx,by simp [hp]⟩
set_option maxHeartbeats 2000000 in
theorem zmk (w:World) (v:Value) (l:List Opr) (hv:SlR w 10 opC v l):Calls Tryz.prog 69 #[v] w fun e w'=>e=.returned (.bool (fewOps l))/\w=w':=by
 obtain ⟨a,cap,rfl,D,E,A⟩:=hv.shape;have C:=H_ hv;clear hv;have B:=H_ A;clear A;by_cases h30:30<l.length
 · have k:(30:Int)<(l.length:Int):=by omega
   have:fewOps l=false:=(by unfold fewOps;simp;omega);rw [this];go_enter Tryz.func69,Tryz.ntmps69;go_wp2;go_ret;exact ⟨rfl,rfl⟩
 have k:¬ (30:Int)<(l.length:Int):=by omega
 have z:fewOps l=l.all fewOp:=(by unfold fewOps;simp;omega);have o:=H_ z;clear z;go_enter Tryz.func69,Tryz.ntmps69;go_wp2
 go_loopg [3] l.length (fun g s3 wr=>∃ i:Nat,s3=.int .i64 i/\i+g=l.length/\Hid ((l.take i).all fewOp=true)/\w=wr)
 case atStart=>exact ⟨0,rfl,by simp,H_ (by simp),rfl⟩
 case round =>
  obtain ⟨i,rfl,G,q,rfl⟩:=hrel
  cases gk with
  | zero =>
    have x:¬ (i:Int)<(l.length:Int):=(by omega);have y:l.take i=l:=List.take_of_length_le (by omega);rw [y] at q;go_wp2;go_ret;exact ⟨by rw [o.out,q.out];rfl,rfl⟩
  | succ g =>
    obtain ⟨F,go,rfl⟩:=B.out (by omega);obtain ⟨p,j⟩:∃ p,l[i]?=some p:=⟨_,List.getElem?_eq_getElem (by omega)⟩;have c:=C.out;have H:=c.cell zaf i 1 j rfl;have I:=c.cell zaf i 2 j rfl;have J:=c.cell zaf i 8 j rfl;have x:(i:Int)<(l.length:Int):=(by omega);have n:=zcl (p:=fewOp) j;have m:=zcx (p:=fewOp) j;have r:=H_ n;have f:=H_ m;clear j c n m;by_cases h1:3000<p.rg.key.size
    · have s:(3000:Int)<(p.rg.key.size:Int):=by omega
      have b:fewOp p=false:=(by unfold fewOp;simp;omega);have d:=H_ b;clear b;go_wp2;go_ret;exact ⟨by rw [o.out,f.out d.out];rfl,rfl⟩
    have s:¬ (3000:Int)<(p.rg.key.size:Int):=by omega
    by_cases h2:3000<p.rg.end_.size
    · have t:(3000:Int)<(p.rg.end_.size:Int):=by omega
      have b:fewOp p=false:=(by unfold fewOp;simp;omega);have d:=H_ b;clear b;go_wp2;go_ret;exact ⟨by rw [o.out,f.out d.out];rfl,rfl⟩
    have t:¬ (3000:Int)<(p.rg.end_.size:Int):=by omega
    by_cases h3:3000<p.value.size
    · have u:(3000:Int)<(p.value.size:Int):=by omega
      have b:fewOp p=false:=(by unfold fewOp;simp;omega);have d:=H_ b;clear b;go_wp2;go_ret;exact ⟨by rw [o.out,f.out d.out];rfl,rfl⟩
    have u:¬ (3000:Int)<(p.value.size:Int):=by omega
    have b:fewOp p=true:=(by unfold fewOp;simp;omega);have d:=H_ b;clear b;go_wp2;go_roundg g
    case rel=>exact ⟨i+1,by go_num,by omega,H_ (by rw [r.out,q.out,d.out];rfl),rfl⟩
    case measure=>omega
structure Cal where
 kind:Int
 ops:Value
 rg:Rg
 rev:Int
 upto:Int
 keys:Value
def calC (q:Cal×List Opr×List ByteArray):List Value:=.int .i64 q.1.kind :: q.1.ops :: (rgC q.1.rg++[.int .i64 q.1.rev,.int .i64 q.1.upto,q.1.keys])
theorem zcs (q:Cal×List Opr×List ByteArray):(calC q).length=12:=rfl
def strC (s:ByteArray):List Value:=[.string s]
theorem zdt (s:ByteArray):(strC s).length=1:=rfl
structure CalR (w:World) (v:Value) (Z:List (Cal×List Opr×List ByteArray)):Prop where
 sl:SlR w 12 calC v Z
 ops:∀ (i:Nat) q,Z[i]?=some q->SlR w 10 opC q.1.ops q.2.1
 keys:∀ (i:Nat) q,Z[i]?=some q->SlR w 1 strC q.1.keys q.2.2
def fewKey (s:ByteArray):Bool:=decide (s.size<=3000)
def fewCal (q:Cal×List Opr×List ByteArray):Bool:=fewOps q.2.1&&decide (q.2.2.length<=30)&&fewKey q.1.rg.key&&fewKey q.1.rg.end_&&q.2.2.all fewKey
def zec (Z:List (Cal×List Opr×List ByteArray)):Bool:=decide (Z.length<=30)&&Z.all fewCal
set_option maxHeartbeats 4000000 in
theorem zko (w:World) (v:Value) (l:List (Cal×List Opr×List ByteArray)) (hv:CalR w v l):Calls Tryz.prog 38 #[v] w fun e w'=>e=.returned (.bool (zec l))/\w=w':=by
 obtain ⟨hv,d,c⟩:=hv;obtain ⟨a,cap,rfl,ad,ae,W⟩:=hv.shape;have HV:=H_ hv;clear hv;have HA:=H_ W;clear W;have HO:=H_ d;clear d;have HK:=H_ c;clear c;by_cases h30:30<l.length
 · have F:(30:Int)<(l.length:Int):=by omega
   have:zec l=false:=(by unfold zec;simp;omega);rw [this];go_enter Tryz.func38,Tryz.ntmps38;go_wp2;go_ret;exact ⟨rfl,rfl⟩
 have F:¬ (30:Int)<(l.length:Int):=by omega
 have V:zec l=l.all fewCal:=(by unfold zec;simp;omega);have B:=H_ V;clear V;go_enter Tryz.func38,Tryz.ntmps38;go_wp2
 go_loopg [3] l.length (fun g s3 wr=>∃ i:Nat,s3=.int .i64 i/\i+g=l.length/\Hid ((l.take i).all fewCal=true)/\w=wr)
 case atStart=>exact ⟨0,rfl,by simp,H_ (by simp),rfl⟩
 case round =>
  obtain ⟨i,rfl,hi,J,rfl⟩:=hrel
  cases gk with
  | zero =>
    have R:¬ (i:Int)<(l.length:Int):=(by omega);have A:l.take i=l:=List.take_of_length_le (by omega);rw [A] at J;go_wp2;go_ret;exact ⟨by rw [B.out,J.out];rfl,rfl⟩
  | succ g =>
    obtain ⟨gb,go,rfl⟩:=HA.out (by omega);obtain ⟨p,j⟩:∃ p,l[i]?=some p:=⟨_,List.getElem?_eq_getElem (by omega)⟩;have t:=HV.out;have x1:=t.cell zcs i 1 j rfl;have x2:=t.cell zcs i 2 j rfl;have x3:=t.cell zcs i 3 j rfl;have U:=t.cell zcs i 11 j rfl;have R:(i:Int)<(l.length:Int):=(by omega);have s:=zcl (p:=fewCal) j;have r:=zcx (p:=fewCal) j;have M:=H_ s;have m:=H_ r;have d:=HO.out i p j;have c:=HK.out i p j;have z:=zmk w p.1.ops p.2.1 d;have y:fewCal p=(fewOps p.2.1&&decide (p.2.2.length<=30)&&fewKey p.1.rg.key&&fewKey p.1.rg.end_&&p.2.2.all fewKey):=rfl;clear j t s r d;obtain ⟨⟨p1,p2,⟨H,I,g3,g4,g5,g6,g7⟩,p3,p4,p5⟩,T,b⟩:=p;dsimp only at x1 x2 x3 U z c y;obtain ⟨ka,Z,rfl,X,Y,G⟩:=c.shape
    generalize fewCal _=E at *;generalize fewOps T=fo at *;have L:=H_ c;clear c;have K:=H_ G;clear G;have o:=H_ z;clear z;have n:=H_ y;clear y;cases fo
    · have f:E=false:=by rw [n.out];rfl
      have u:=H_ f;clear f;go_wp2_with (go_at_call 69;refine o.out.mono ?_;rintro e w' ⟨rfl,rfl⟩);go_ret;exact ⟨by rw [B.out,m.out u.out];rfl,rfl⟩
    by_cases h1:30<b.length
    · have N:(30:Int)<(b.length:Int):=by omega
      have f:E=false:=(by rw [n.out];simp;omega);have u:=H_ f;clear f;go_wp2_with (go_at_call 69;refine o.out.mono ?_;rintro e w' ⟨rfl,rfl⟩);go_ret;exact ⟨by rw [B.out,m.out u.out];rfl,rfl⟩
    have N:¬ (30:Int)<(b.length:Int):=by omega
    by_cases h2:3000<H.size
    · have O:(3000:Int)<(H.size:Int):=by omega
      have f:E=false:=(by rw [n.out];simp [fewKey];omega);have u:=H_ f;clear f;go_wp2_with (go_at_call 69;refine o.out.mono ?_;rintro e w' ⟨rfl,rfl⟩);go_ret;exact ⟨by rw [B.out,m.out u.out];rfl,rfl⟩
    have O:¬ (3000:Int)<(H.size:Int):=by omega
    by_cases h3:3000<I.size
    · have P:(3000:Int)<(I.size:Int):=by omega
      have f:E=false:=(by rw [n.out];simp [fewKey];omega);have u:=H_ f;clear f;go_wp2_with (go_at_call 69;refine o.out.mono ?_;rintro e w' ⟨rfl,rfl⟩);go_ret;exact ⟨by rw [B.out,m.out u.out];rfl,rfl⟩
    have P:¬ (3000:Int)<(I.size:Int):=by omega
    have f:E=b.all fewKey:=by
     rw [n.out];have a1:decide (b.length<=30)=true:=(by simp;omega);have a2:fewKey H=true:=(by unfold fewKey;simp;omega);have a3:fewKey I=true:=(by unfold fewKey;simp;omega);rw [a1,a2,a3];rfl
    have u:=H_ f;clear f;go_wp2_with (go_at_call 69;refine o.out.mono ?_;rintro e w' ⟨rfl,rfl⟩)
    go_loopg [4] b.length (fun g' s4 wr=>∃ k:Nat,s4=.int .i64 k/\k+g'=b.length/\Hid ((b.take k).all fewKey=true)/\w=wr)
    case atStart=>exact ⟨0,rfl,by simp,H_ (by simp),rfl⟩
    case round =>
     obtain ⟨k,rfl,hk,x,rfl⟩:=hrel
     cases gk with
     | zero =>
       have S:¬ (k:Int)<(b.length:Int):=(by omega);have A:b.take k=b:=List.take_of_length_le (by omega);rw [A] at x;go_wp2;go_roundg g
       case rel=>exact ⟨i+1,by go_num,by omega,H_ (by rw [M.out,J.out,u.out,x.out];rfl),rfl⟩
       case measure=>omega
     | succ g' =>
       obtain ⟨kb,ko,rfl⟩:=K.out (by omega);obtain ⟨q,j⟩:∃ q,b[k]?=some q:=⟨_,List.getElem?_eq_getElem (by omega)⟩;have z0:=L.out.cell0 zdt k j rfl;have ak:w.cell? ⟨kb,ko+k,none⟩=some (.string q):=(by simpa using z0);have S:(k:Int)<(b.length:Int):=(by omega);have s:=zcl (p:=fewKey) j;have r:=zcx (p:=fewKey) j;have D:=H_ s;have C:=H_ r;clear j s r z0;by_cases h4:3000<q.size
       · have Q:(3000:Int)<(q.size:Int):=by omega
         go_wp2;go_ret;exact ⟨by rw [B.out,m.out (by rw [u.out,C.out (by unfold fewKey;simp;omega)])];rfl,rfl⟩
       have Q:¬ (3000:Int)<(q.size:Int):=by omega
       go_wp2;go_roundg g'
       case rel=>exact ⟨k+1,by go_num,by omega,H_ (by rw [D.out,x.out];unfold fewKey;simp;omega),rfl⟩
       case measure=>omega
def dropE (k:ByteArray) (rev:Int) (x:Kv):Ev:=⟨2,⟨k,ByteArray.empty,0,rev,0,0⟩,x⟩
def dropR (rev:Int) (q:St×List Ev) (k:ByteArray):St×List Ev :=
 if (livesS q.1 k rev).2 then (doS q.1 (dropE k rev (livesS q.1 k rev).1),q.2++[dropE k rev (livesS q.1 k rev).1]) else q
def dropTo (rev:Int) (S:St) (keys:List ByteArray) (i:Nat):St×List Ev:=(keys.take i).foldl (dropR rev) (S,[])
def dropS (S:St) (keys:List ByteArray):St :=
 if (keys.foldl (dropR (S.rev+1)) (S,[])).2 = [] then (keys.foldl (dropR (S.rev+1)) (S,[])).1 else { (keys.foldl (dropR (S.rev+1)) (S,[])).1 with rev:=S.rev+1 }
theorem ziq (rev:Int) (S:St) (keys:List ByteArray) {i:Nat} {k:ByteArray} (h:keys[i]?=some k):dropTo rev S keys (i+1)=dropR rev (dropTo rev S keys i) k:=by
 unfold dropTo;rw [List.take_add_one,h,List.foldl_append]
 rfl
set_option maxHeartbeats 4000000 in
theorem zrh {TA:zai} {N:Nat} (hT:TreeOk TA N) {n:Nat} (hn:n<=1099511627) (w:World) (s:Nat) (S:St) (F:Nat->Prop) (hS:zal TA w s S F) (v:Value) (keys:List ByteArray) (hv:SlR w 1 strC v keys)
 (hvF:0<keys.length->∀ b,v.ownBlock=some b->¬ F b) (hkl:keys.length<=1099511627) (hr0 : -top<=S.rev) (hr:S.rev<top)
 (hrun:∀ i k,keys[i]?=some k->StOk n (dropTo (S.rev+1) S keys i).1/\(dropTo (S.rev+1) S keys i).2.length<=1099511627 ∧
   ((livesS (dropTo (S.rev+1) S keys i).1 k (S.rev+1)).2=true->DoOk N (dropTo (S.rev+1) S keys i).1 (dropE k (S.rev+1) (livesS (dropTo (S.rev+1) S keys i).1 k (S.rev+1)).1))) :
 Calls Tryz.prog 55 #[.pointer (some ⟨s,0,none⟩),v] w fun e w'=>∃ ev,e=.returned (.tuple #[ev,.int .i64 0])/\∃ F',zal TA w' s (dropS S keys) F' ∧
  SlF w' 72 13 evC ev (keys.foldl (dropR (S.rev+1)) (S,[])).2/\Fr F w w'/\(∀ b,F' b->F b\/w.heap.size<=b)/\(∀ b,ev.ownBlock=some b->w.heap.size<=b/\¬ F' b):=by
 obtain ⟨va,bn,rfl,bt,bu,av⟩:=hv.shape
 have G:∀ W,Fr No w W->W.cell? ⟨s,3,none⟩=some (.int .i64 S.rev):=fun W hW=>by
  obtain ⟨t,p,ev,hp,FT,FH,a,hF⟩:=hS;exact hW.cell0 (a.obj.cell 3 rfl)
 have c3:=G _ ((Fr.refl No w).alloc (Obj.cells #[.pointer (some ⟨s,0,none⟩)] 52));have aL:=G _ (((Fr.refl No w).alloc (Obj.cells #[.pointer (some ⟨s,0,none⟩)] 52)).alloc (Obj.cells #[.int .i64 (S.rev+1)] 3));have bJ:s<w.heap.size:=World.block_lt_of_cell? _ _ (G _ (Fr.refl No w));have bw:∀ (fn:Fn) (first cap:Array Value) (w:World),(Instr.makeFunc fn first cap).run Tryz.prog w=.ok (.func fn first cap) w:=fun _ _ _ _=>rfl;have HV:=H_ hv;have aI:=H_ av;have aJ:=H_ hvF;have HS:=H_ hS;have af:=H_ hrun;have ad:=H_ (hS.lt hT);have bB:(S.rev==1099511627776)=false:=by rw [beq_eq_false_iff_ne];unfold top at hr;omega
 have bx:S.rev<1099511627776:=hr;have bz : -1099511627776<=S.rev:=hr0;have a6:Hid (dropS S keys=if (keys.foldl (dropR (S.rev+1)) (S,[])).2 = [] then (keys.foldl (dropR (S.rev+1)) (S,[])).1 else { (keys.foldl (dropR (S.rev+1)) (S,[])).1 with rev:=S.rev+1 }):=H_ rfl;have D:Hid (dropTo (S.rev+1) S keys keys.length=keys.foldl (dropR (S.rev+1)) (S,[])):=H_ (by unfold dropTo;rw [List.take_length]);clear hv av hvF hS hrun G;go_enter Tryz.func55,Tryz.ntmps55;go_wp2_with fail;have z:((w.alloc (Obj.cells #[.pointer (some ⟨s,0,none⟩)] 52)).alloc (Obj.cells #[.int .i64 (S.rev+1)] 3)).heap[w.heap.size]?=some (.cells #[.pointer (some ⟨s,0,none⟩)] 52 (0,0)):=zaq (zae _ _ _ rfl) _
 have A:((w.alloc (Obj.cells #[.pointer (some ⟨s,0,none⟩)] 52)).alloc (Obj.cells #[.int .i64 (S.rev+1)] 3)).heap[w.heap.size+1]?=some (.cells #[.int .i64 (S.rev+1)] 3 (0,0)):=zae _ _ _ (by simp);have a2:Fr No w ((w.alloc (Obj.cells #[.pointer (some ⟨s,0,none⟩)] 52)).alloc (Obj.cells #[.int .i64 (S.rev+1)] 3)):=((Fr.refl No w).alloc _).alloc _;have bf:((w.alloc (Obj.cells #[.pointer (some ⟨s,0,none⟩)] 52)).alloc (Obj.cells #[.int .i64 (S.rev+1)] 3)).heap.size=w.heap.size+2:=by simp
 generalize (w.alloc (Obj.cells #[.pointer (some ⟨s,0,none⟩)] 52)).alloc (Obj.cells #[.int .i64 (S.rev+1)] 3)=W1 at *;have aC:=H_ z;have aD:=H_ A;have ai:=H_ a2;have aH:=H_ (HS.out.fr0 hT a2);clear z A c3 aL a2
 go_loopg [34,8] keys.length (fun g s34 s8 wr=>∃ (i:Nat) (P:Value) (C:Nat->Prop),s34=.int .i64 i/\s8=P/\i+g=keys.length/\Hid (zal TA wr s (dropTo (S.rev+1) S keys i).1 C)/\Hid (SlF wr 72 13 evC P (dropTo (S.rev+1) S keys i).2)/\Hid (Fr F W1 wr) ∧
  Hid (∀ b,C b->F b\/W1.heap.size<=b)/\Hid (∀ b,P.ownBlock=some b->W1.heap.size<=b/\¬ C b))
 case atStart=>exact ⟨0,_,F,rfl,rfl,by simp,aH,H_ (SlF.nil _ _ _ _),H_ (Fr.refl _ _),H_ (fun b h=>.inl h),H_ (fun b h=>by simp [Value.ownBlock] at h)⟩
 case round =>
  obtain ⟨i,P,C,rfl,rfl,hi,j,c,o,y,f⟩:=hrel;have b7:¬ F w.heap.size:=fun h=>by have:=ad.out _ h;omega
  have b8:¬ F (w.heap.size+1):=fun h=>by have:=ad.out _ h;omega
  have z:=o.out.heap aC.out b7;have A:=o.out.heap aD.out b8;have bG:=zac z;have bH:=zac A;have q0:wr.cell? ⟨w.heap.size,0,none⟩=some (.pointer (some ⟨s,0,none⟩)):=cellAt z 0 rfl;have q1:wr.cell? ⟨w.heap.size+1,0,none⟩=some (.int .i64 (S.rev+1)):=cellAt A 0 rfl;clear z A;obtain ⟨ea,l,rfl,aT,bv,aU⟩:=c.out.shape;clear aU
  cases gk with
  | zero =>
    have aZ:¬ (i:Int)<(keys.length:Int):=(by omega);have aY:i=keys.length:=(by omega);subst aY;rw [D.out] at j c aT f;generalize hR:keys.foldl (dropR (S.rev+1)) (S,[])=r at *;obtain ⟨t1,p1,aP,b0,aB,aA,a1,al⟩:=j.out;have c3:=a1.obj.cell 3 rfl;have f3:=a1.obj.free 3;have ls:=a1.obj.lt;have a5:=H_ a1;have Q:=H_ al;clear a1 al;have aq:Fr F w wr:=(ai.out.mono fun _ _ h=>h.elim).trans o.out fun _ _ h=>h;have aa:=H_ aq;clear aq;by_cases hE:r.2.length=0
    · have aR:¬ (0:Int)<(r.2.length:Int):=by omega
      have X:=H_ (List.eq_nil_of_length_eq_zero hE);clear hE;rw [D.out];go_wp2
      go_ret2
      refine ⟨.slice ea r.2.length l,rfl,C,?_,?_,aa.out,fun b hb=>?_,fun b hb=>?_⟩
      · rw [a6.out,if_pos X.out];exact j.out
      · exact c.out
      · rcases y.out b hb with h | h
        · exact .inl h
        exact .inr (by omega)
      have:=f.out b hb
      exact ⟨by omega,this.2⟩
    have aR:(0:Int)<(r.2.length:Int):=by omega
    have X:Hid (¬ r.2 = []):=H_ (fun h=>hE (by rw [h];rfl));have R:C s:=(Q.out s).2 (.inl rfl);clear hE;rw [D.out];go_wp2
    go_ret2
    have Z:Fr (fun b=>b=s) wr (wr.setCell ⟨s,3,none⟩ (.int .i64 (S.rev+1))):=(Fr.refl _ wr).setAt 3 _;have aQ:=a5.out.setObj hT Z r.1.next (S.rev+1) r.1.mark (a5.out.obj.set 3 (.int .i64 (S.rev+1)));refine ⟨.slice ea r.2.length l,rfl,C,?_,?_,?_,fun b hb=>?_,fun b hb=>?_⟩
    · rw [a6.out,if_neg X.out];exact ⟨t1,p1,aP,b0,aB,aA,aQ,Q.out⟩
    · exact c.out.fr Z fun b hb e=>(f.out b hb).2 (by have e':b=s:=e;rw [e'];exact R)
    · refine aa.out.trans Z fun b hb e=>?_
      have e':b=s:=e;subst e';rcases y.out b R with h | h
      · exact h
      omega
    · rcases y.out b hb with h | h
      · exact .inl h
      exact .inr (by omega)
    have:=f.out b hb
    exact ⟨by omega,this.2⟩
  | succ g =>
    have aZ:(i:Int)<(keys.length:Int):=(by omega);obtain ⟨gb,go,rfl⟩:=aI.out (by omega);obtain ⟨k,hk⟩:∃ k,keys[i]?=some k:=⟨_,List.getElem?_eq_getElem (by omega)⟩;have aw:=(HV.out.fr0 ai.out).fr o.out (aJ.out (by omega));have az:=aw.cell0 zdt i hk rfl;have x0:wr.cell? ⟨gb,go+i,none⟩=some (.string k):=(by simpa using az);obtain ⟨d1,d2,d3⟩:=af.out i k hk;have d:=ziq (S.rev+1) S keys hk;generalize dropTo (S.rev+1) S keys i=q at *;have a0:=fun W hW=>zii hT hn W s q.1 C hW d1 k (S.rev+1);unfold dropR at d;obtain ⟨i0,aX,b4,b5,b6⟩:=info_parts info73;rcases hl:livesS q.1 k (S.rev+1) with ⟨⟨I,J,K,L,M,O⟩,lb⟩
    rw [hl] at d d3;simp only [hl,zco,kvV] at a0;have ab:=H_ a0;have ah:=H_ d;have aE:=H_ d1;have aF:=H_ d3;clear hk aw az a0 d d1 d3 hl;have bj:=o.out.size;cases lb
    · go_wp2_with (go_at_call 84;refine (ab.out _ j.out).mono ?_;rintro e w2 ⟨rfl,B⟩)
      go_roundg g
      case rel =>
       have d:=ah.out.trans (if_neg Bool.false_ne_true);have m:=B.alloc (Obj.cells #[.string I,.string J,.int .i64 K,.int .i64 L,.int .i64 M,.int .i64 O] 70);exact ⟨i+1,_,C,by go_num,rfl,by omega,H_ (by rw [d];exact j.out.fr0 hT m),H_ (by rw [d];exact c.out.fr0 m),H_ (o.out.trans0 m),y,f⟩
      case measure=>omega
    have ap:=fun W hW=>zpi hT hn W s q.1 C hW aE.out (dropE k (S.rev+1) ⟨I,J,K,L,M,O⟩) (aF.out rfl)
    have aG:=H_ ap;clear ap
    go_wp2_with (first
     | (go_at_call 84;refine (ab.out _ j.out).mono ?_;rintro e w2 ⟨rfl,B⟩
        have b9:=B.cell0 q0;have ba:=B.cell0 q1;have bl:=World.block_lt_of_cell? _ _ b9;have bm:=World.block_lt_of_cell? _ _ ba;have bg:=B.size)
     | (go_at_call 86
        have H:Fr No wr ((w2.alloc (Obj.cells #[.string I,.string J,.int .i64 K,.int .i64 L,.int .i64 M,.int .i64 O] 70)).alloc (Obj.cells #[.int .i64 2,.string k,.string ByteArray.empty,.int .i64 0,.int .i64 (S.rev+1),.int .i64 0,.int .i64 0,.string I,.string J,.int .i64 K,.int .i64 L,.int .i64 M,.int .i64 O] 72)):=(B.alloc _).alloc _
        have ao:((w2.alloc (Obj.cells #[.string I,.string J,.int .i64 K,.int .i64 L,.int .i64 M,.int .i64 O] 70)).alloc (Obj.cells #[.int .i64 2,.string k,.string ByteArray.empty,.int .i64 0,.int .i64 (S.rev+1),.int .i64 0,.int .i64 0,.string I,.string J,.int .i64 K,.int .i64 L,.int .i64 M,.int .i64 O] 72)).heap[w2.heap.size+1]?=some (.cells #[.int .i64 2,.string k,.string ByteArray.empty,.int .i64 0,.int .i64 (S.rev+1),.int .i64 0,.int .i64 0,.string I,.string J,.int .i64 K,.int .i64 L,.int .i64 M,.int .i64 O] 72 (0,0)):=zae _ _ _ (by simp);have x:=j.out.lt hT;have ax:¬ C (w2.heap.size+1):=fun h=>by have:=x _ h;omega
        refine (aG.out _ (j.out.fr0 hT H)).mono ?_;rintro e w3 ⟨⟨rv,rfl⟩,F2,au,m,am⟩;have E:=m.heap ao ax;obtain ⟨k0,k1,k2,k3,k4,k5,k6,k7,k8,k9,bD,bE,bF⟩:=cells13 E;have bI:=zac E;have ar:=zav w3 (evC (dropE k (S.rev+1) ⟨I,J,K,L,M,O⟩)) 72 (0,0);have V:=(c.out.fr0 H).fr m fun b hb h=>(f.out b hb).2 h;have ae:=H_ V;have ag:=H_ au;have a8:=H_ m;have a7:=H_ am;have a9:=H_ H;have bo:=H_ x;clear V au m am H ao E ax x)
     | (at_builtin;refine zao rfl _ _ 41 rfl 72 i0 _ 13 136 Tryz.underlying41 aX b4 b5 b6 rfl (by decide) _ q.2 rfl (ae.out.alloc _) w3.heap.size 1 (dropE k (S.rev+1) ⟨I,J,K,L,M,O⟩) rfl ar rfl ?c1 ?c2 ?c3 ?_))
    case c1=>intro u hu;simp [evC,kvC,dropE] at hu;rcases hu with rfl | rfl | rfl | rfl | rfl | rfl | rfl | rfl | rfl | rfl | rfl | rfl | rfl <;> rfl
    case c2=>unfold maxLen;omega
    case c3=>omega
    intro Y o7 bc w4 b3 aV aS be;go_wp2;go_roundg g
    case rel =>
     have d:=ah.out.trans (if_pos trivial);have bh:=a8.out.size;have bi:=a9.out.size;have T:Fr (fun b=>(Value.slice ea q.2.length l).ownBlock=some b) w3 w4:=((Fr.refl _ w3).alloc _).grown aV fun k hk=>.inl hk
     have aW:(Value.slice ea q.2.length l).ownBlock=some Y\/w3.heap.size<=Y:=by
      rcases aS with h | h
      · exact .inl h
      right
      have h':Y=w3.heap.size+1:=(by simpa using h);omega
     have U:∀ b,(Value.slice ea q.2.length l).ownBlock=some b->¬ F2 b:=fun b hb h=>by
      have bs:=c.out.lt b hb;rcases a7.out b h with h | h
      · exact (f.out b hb).2 h
      omega
     have an:=ag.out.lt hT;refine ⟨i+1,_,F2,by go_num,rfl,by omega,H_ (by rw [d];exact ag.out.fr hT T fun b hb h=>U b h hb),H_ (by rw [d];simpa using b3),H_ ?_,H_ fun b hb=>?_,H_ fun b hb=>?_⟩
     · refine ((o.out.trans0 a9.out).trans a8.out fun b hb h=>?_).trans T fun b hb h=>?_
       · rcases y.out b h with h | h
         · exact h
         omega
       have:=(f.out b h).1;omega
     · rcases a7.out b hb with h | h
       · exact y.out b h
       exact .inr (by omega)
     obtain rfl:Y=b:=by simpa [Value.ownBlock] using hb
     rcases aW with h | h
     · exact ⟨(f.out Y h).1,U Y h⟩
     exact ⟨by omega,fun h'=>by have:=an Y h';omega⟩
    case measure=>omega
theorem zwr (R:Int) (S:St):(compS R S).T=S.T.filter (keepP R S):=by
 unfold compS compTo;simp
theorem zjs (R:Int) (S:St) (j:Int):(compS R S).past j=if j∈S.T.map (·.2) then compP R (S.past j) else S.past j:=by
 unfold compS compTo;dsimp only;rw [List.take_length]
theorem zfk {R:Int} {S:St} {j:Int} {G:Hist} (h:(compS R S).past j=some G):∃ H,S.past j=some H/\(G=H\/G=compH R H):=by
 rw [zjs] at h
 split at h
 · unfold compP at h
   cases hH:S.past j with
   | none=>rw [hH] at h;cases h
   | some H =>
     rw [hH] at h;dsimp only at h
     split at h
     · cases h
     exact ⟨H,rfl,.inr (Option.some.inj h).symm⟩
 exact ⟨G,h,.inl rfl⟩
theorem Good.cut {k:Nat} {S:St} {D:Doc} (h:Good k S D) (hk:k<=20000) {R:Int} (h1:D.mark<R) (h2:R<=D.rev):Good k (compS R S) (D.cut R):=by
 have f:=zwr R S;have w:=zjs R S;have l:Sorted (compS R S).T:=by rw [f];exact List.Pairwise.sublist List.filter_sublist h.srt
 have E:=h.cpl.m0
 -- a key that is left has the number that it had
 have j:∀ key,(getT (compS R S).T key).2=true->getT (compS R S).T key=getT S.T key/\(getT S.T key).2=true/\keepP R S (key,(getT S.T key).1)=true:=fun key d=>by
  have t:=zfh d;rw [f] at t;obtain ⟨a,b⟩:=List.mem_filter.1 t;have v:=zcf h.srt a
  have A:getT (compS R S).T key=getT S.T key:=by
   rw [v];rw [f];exact Prod.ext rfl (by rw [<-f];exact d)
  dsimp only at v;refine ⟨A,by rw [<-A];exact d,?_⟩;rw [<-A,f];exact b
 have s:∀ key,(getT S.T key).2=true->(getT S.T key).1∈S.T.map (·.2):=fun key d=>List.mem_map.2 ⟨_,zfh d,rfl⟩
 have q:SInv D.rev (compS R S):=by
  refine ⟨fun key key' a b e=>?_,fun key a=>?_,fun i G m=>?_⟩
  · obtain ⟨z,y,_⟩:=j key a
    obtain ⟨b1,b2,_⟩:=j key' b;rw [z,b1] at e;exact h.cpl.inv.inj key key' y b2 e
  · obtain ⟨z,y,u⟩:=j key a
    obtain ⟨H,c⟩:=h.cpl.inv.has key y;unfold keepP at u;dsimp only at u;rw [c] at u;dsimp only at u;refine ⟨compH R H,?_⟩;rw [z,w,if_pos (s key y),c];unfold compP;dsimp only;rw [if_neg (by simpa using u)]
  obtain ⟨H,c,e | e⟩:=zfk m
  · rw [e];exact h.cpl.inv.hist i H c
  rw [e]
  have:=h.cpl.inv.hist i H c;exact ⟨⟨this.1.1.comp R,this.1.2⟩,this.2⟩
 have n:∀ key r,R<=r->livesS (compS R S) key r=livesS S key r:=fun key r hr=>by
  cases d:(getT S.T key).2 with
  | false =>
    have g:(getT (compS R S).T key).2=false:=by
     rw [Bool.eq_false_iff];intro g;rw [(j key g).2.1] at d;cases d
    unfold livesS;rw [d,g];simp
  | true =>
    obtain ⟨H,c⟩:=h.cpl.inv.has key d;have B:=(h.cpl.inv.hist _ _ c).1.1;have C:=(h.more _ _ c).ord;by_cases hc:compK R H.gens = []
    · have g:(getT (compS R S).T key).2=false:=by
       rw [Bool.eq_false_iff];intro g;have o:=(j key g).2.2;unfold keepP at o;dsimp only at o;rw [c] at o;dsimp only at o;rw [hc] at o;simp at o
      unfold livesS;rw [d,g,if_pos rfl,c,if_neg (by simp)];dsimp only;rw [ztd C hr B.zero hc]
    have t:(key,(getT S.T key).1)∈(compS R S).T:=by
     rw [f];refine List.mem_filter.2 ⟨zfh d,?_⟩;unfold keepP;dsimp only;rw [c];simpa using hc
    have v:=zcf l t;dsimp only at v;unfold livesS;rw [v,d,if_pos rfl,if_pos rfl,c];dsimp only;rw [w,if_pos (s key d),c];unfold compP;dsimp only;rw [if_neg (by simpa using hc)];exact zte B C hr
 exact {
  cpl:={
   mark:=rfl
   events:=by
    show S.events.filter (keptB R)=D.events.filter _
    rw [h.cpl.events];refine List.filter_congr fun e he=>?_;have:=(h.doc.lo e he).2.2;unfold keptB oldB;by_cases t:e.kv.mod<R
    · have:¬ R<=e.kv.mod:=by omega
      simp [t,this]
    have o:R<=e.kv.mod:=by omega
    simp [t,o,this]
   inv:=q
   ks:=Doc.at_sorted h.cpl.ks R
   m0:=⟨by show 0<=R;omega,h2⟩
   lives:=fun key r hr=>by
    have x:R<=r:=hr;rw [n key r x,Doc.cut_at h.doc.es (by omega) x fun e he=>(h.doc.lo e he).2.2];exact h.cpl.lives key r (by omega) }
  doc:=h.doc.cut h.cpl.ks R h1 h2
  ok:={
   pos:=h.ok.pos
   next:=h.ok.next
   id:=fun p hp=>by
    have d:=zcf l hp;obtain ⟨G,m⟩:=q.has p.1 (by rw [d]);rw [d] at m;exact ⟨G,m⟩
   ids:=fun i G m=>by
    obtain ⟨H,c,_⟩:=zfk m;exact h.ok.ids i H c
   hist:=fun i G m=>by
    obtain ⟨H,c,e | e⟩:=zfk m
    · rw [e];exact h.ok.hist i H c
    rw [e]
    have:=h.ok.hist i H c;exact ⟨this.1.comp (h.more i H c) (by omega) R,this.2⟩
   rev0:=h.ok.rev0
   rev1:=h.ok.rev1
   mark0:=by show 0<=R;omega
   ev:=Nat.le_trans (List.length_filter_le _ _) h.ok.ev }
  size:=by rw [f];exact Nat.le_trans (List.length_filter_le _ _) h.size
  srt:=l
  more:=fun i G m=>by
   obtain ⟨H,c,e | e⟩:=zfk m
   · rw [e];exact h.more i H c
   rw [e];exact (h.more i H c).comp R
  rev:=h.rev
  rev1:=h.rev1 }
theorem Good.events_pos {k:Nat} {S:St} {D:Doc} (h:Good k S D) (h1:1<=D.rev):0<S.events.length:=by
 obtain ⟨e,a,_⟩:=h.doc.full D.rev h1 h.cpl.m0.2 (Int.le_refl _);rw [h.cpl.events];exact List.length_pos_of_mem a
def dropP (keys:List ByteArray):List Opr:=keys.map fun k=>⟨2,⟨k,ByteArray.empty,0,0,false,false,false⟩,ByteArray.empty,0⟩
theorem zvd (k:ByteArray):inB k k ByteArray.empty=true:=by
 unfold inB;rw [if_pos (by rw [Lib.toList_data];rfl)];exact beq_self_eq_true _
theorem Good.drops {k:Nat} {S:St} {D:Doc} (h:Good k S D) (hk:k<=200) (keys:List ByteArray) (_hl:keys.length<=30) :
 ∀ i≤ keys.length,RunOk (16 * k) (52000 * k+i) D (dropP keys) (dropTo (D.rev+1) S keys i).1 (dropTo (D.rev+1) S keys i).2 ∧
  ∀ key,keys[i]?=some key->(livesS (dropTo (D.rev+1) S keys i).1 key (D.rev+1)).2=true->DoOk 1000000 (dropTo (D.rev+1) S keys i).1 (dropE key (D.rev+1) (livesS (dropTo (D.rev+1) S keys i).1 key (D.rev+1)).1):=by
 have l:=h.cpl.m0;have u:=h.rev1;have g:D.rev+1<=top:=by unfold top;omega
 -- a key that lives is dropped
 have step:∀ i key (q:St×List Ev),keys[i]?=some key->RunOk (16 * k) (52000 * k+i) D (dropP keys) q.1 q.2->(livesS q.1 key (D.rev+1)).2=true →
  DoOk 1000000 q.1 (dropE key (D.rev+1) (livesS q.1 key (D.rev+1)).1)/\RunOk (16 * k) (52000 * k+i+1) D (dropP keys) (doS q.1 (dropE key (D.rev+1) (livesS q.1 key (D.rev+1)).1)) (q.2++[dropE key (D.rev+1) (livesS q.1 key (D.rev+1)).1]):=fun i key q c hq hlv=>by
  have n:=Doc.adds_parts D q.2;have b:=hq.cpl.lives key (D.rev+1) (by rw [n.1];omega)
  have f:hasL ((D.adds q.2).at (D.rev+1)) key≠none:=fun e=>by
   rw [b,e] at hlv;cases hlv
  have t:(livesS q.1 key (D.rev+1)).1=(hasL ((D.adds q.2).at (D.rev+1)) key).getD kv0:=by
   rw [b];cases hasL ((D.adds q.2).at (D.rev+1)) key <;> rfl
  have:=hq.event (N:=1000000) (dropE key (D.rev+1) (livesS q.1 key (D.rev+1)).1) (by omega) rfl g l.2 t (fun e he hke=>by
   have d:e.kv.key=key:=hke;rcases hq.by1 e he with ⟨_,o,s,m,_⟩ | ⟨_,_,r⟩
   · obtain ⟨v,_,rfl⟩:=List.mem_map.1 s
     cases m
   · rw [d] at r;exact f r) (by omega)
   (.inr ⟨rfl,⟨⟨2,⟨key,ByteArray.empty,0,0,false,false,false⟩,ByteArray.empty,0⟩,List.mem_map.2 ⟨key,List.mem_of_getElem? c,rfl⟩,rfl,zvd key⟩,f⟩)
  rw [if_neg (show ¬ (dropE key (D.rev+1) (livesS q.1 key (D.rev+1)).1).kind=1 by show ¬ (2:Int)=1;decide)] at this;exact this
 have key:∀ i≤ keys.length,RunOk (16 * k) (52000 * k+i) D (dropP keys) (dropTo (D.rev+1) S keys i).1 (dropTo (D.rev+1) S keys i).2:=by
  intro i
  induction i with
  | zero=>intro _;exact h.begin.mono (Nat.le_refl _) (by omega) (by simp)
  | succ i ih =>
    intro j;obtain ⟨x,c⟩:∃ x,keys[i]?=some x:=⟨_,List.getElem?_eq_getElem (by omega)⟩;rw [ziq _ _ _ c];have a:=ih (by omega);unfold dropR
    split
    · rename_i hlv
      exact (step i x _ c a hlv).2
    exact a.mono (Nat.le_refl _) (by omega) fun _ h=>h
 exact fun i j=>⟨key i j,fun x c hlv=>(step i x _ c (key i j) hlv).1⟩
def dropD (S:St) (D:Doc) (keys:List ByteArray):Doc:=D.adds (keys.foldl (dropR (D.rev+1)) (S,[])).2
theorem Good.drop {k:Nat} {S:St} {D:Doc} (h:Good k S D) (hk:k<=200) (keys:List ByteArray) (hl:keys.length<=30):Good (k+1) (dropS S keys) (dropD S D keys):=by
 obtain ⟨a,_⟩:=h.drops hk keys hl keys.length (Nat.le_refl _);have c:dropTo (D.rev+1) S keys keys.length=keys.foldl (dropR (D.rev+1)) (S,[]):=by unfold dropTo;rw [List.take_length]
 rw [c] at a;have b:=Doc.adds_rev D (keys.foldl (dropR (D.rev+1)) (S,[])).2 _ a.mods;have e:=h.rev;have f:=h.rev1;unfold dropS dropD;rw [e];by_cases hE:(keys.foldl (dropR (D.rev+1)) (S,[])).2 = []
 · rw [if_pos hE]
   rw [if_pos hE] at b;exact { cpl:=a.cpl,doc:=a.doc.mono (by omega),ok:=a.ok.mono (by omega),size:=by have:=a.size;omega,srt:=a.srt,more:=a.more.mono (by omega),rev:=by rw [a.srev,b],rev1:=by rw [b];omega }
 rw [if_neg hE]
 rw [if_neg hE] at b;have d:=h.cpl.m0;exact { cpl:=a.cpl.setRev _,doc:=a.doc.mono (by omega),ok:=(a.ok.mono (by omega)).setRev _ (by unfold top;omega) (by unfold top;omega),size:=by have:=a.size;dsimp only;omega,srt:=a.srt,more:=fun i H hi=>a.more.mono (by omega) i H hi,rev:=b.symm,rev1:=by rw [b];omega }
def goneK (H:Hist) (rev r:Int):Prop:=H.kvs r≠none/\r<=rev/\r≠(atK H.gens rev).1.2.1
theorem zke {α:Type} [DecidableEq α]:∀ (a b:List α),a.Nodup->(∀ x∈a,x∈b)->a.length<=b.length
 | [],_,_,_=>by simp
 | x :: a,b,hn,hs=>by
   have hx:=hs x (by simp);obtain ⟨h1,h2⟩:=List.nodup_cons.1 hn;have h3:=zke a (b.erase x) h2 fun y hy=>(List.mem_erase_of_ne (fun e=>h1 (by rw [<-e];exact hy))).2 (hs y (by simp [hy]));have h4:=List.length_erase_of_mem hx;have h5:0<b.length:=List.length_pos_of_mem hx;simp only [List.length_cons];omega
theorem zoz (es:Array MapEntry):(leftOf es #[]).size=es.size:=by
 unfold leftOf;rw [Array.filter_eq_self.2 (fun x _=>by simp)]
theorem zmx {W wr w2:World} (hF:Fr No W wr) (hw2:w2=wr\/w2=wr.drew) (o:Obj):Fr No W (ChangeMaps.setBlock w2 W.heap.size o):=by
 have a:Fr No W w2:=by 
  rcases hw2 with rfl | rfl
  · exact hF
  exact hF.drew
 exact ⟨a.os,a.tape,a.output,by have:=a.size;simpa [ChangeMaps.setBlock] using this,fun k hk hS=>(zdh w2 _ k _ (by omega)).trans (a.block k hk hS)⟩
end Go.Proofs.YtdgkdfmfoonbpaaGreat