/- Own lemmas. -/
import Derived.Test.YthljnnjpmdgkoaaGreatK20
import Derived.Test.YthljnnjpmdgkoaaGreatK18
import Derived.Test.YthljnnjpmdgkoaaGreatK19
import Derived.Test.YthljnnjpmdgkoaaGreatK13
import Derived.Test.YthljnnjpmdgkoaaGreatK16
import Derived.Deep.DeepCutAuto
namespace Go.Proofs.YthljnnjpmdgkoaaGreat
open Go Go.Proofs Go.RowKit
def keepP (R:Int) (S:St) (p:ByteArray×Int):Bool:=match S.past p.2 with
 | some H=>!(compK R H.gens).isEmpty
 | none=>true
def compP (R:Int) (o:Option Hist):Option Hist:=match o with
 | some H=>if (compK R H.gens).isEmpty then none else some (compH R H)
 | none=>none
def compTo (R:Int) (S:St) (i:Nat):St where
 T:=(S.T.take i).filter (keepP R S)++S.T.drop i
 past:=fun j=>if j∈(S.T.take i).map (·.2) then compP R (S.past j) else S.past j
 next:=S.next
 rev:=S.rev
 mark:=R
 events:=S.events.filter (keptB R)
def compS (R:Int) (S:St):St:=compTo R S S.T.length
theorem zqd (R:Int) (S:St):compTo R S 0 = { S with mark:=R,events:=S.events.filter (keptB R) }:=by
 unfold compTo;simp
theorem zqf {R:Int} {S:St} {i:Nat} {p:ByteArray×Int} {H:Hist} (hp:S.T[i]?=some p) (hH:S.past p.2=some H) (hk:compK R H.gens≠[]) :
 compTo R S (i+1) = { compTo R S i with past:=fun j=>if j=p.2 then some (compH R H) else (compTo R S i).past j }:=by
 have b:=(List.getElem?_eq_some_iff.1 hp).1
 have a:keepP R S p=true:=by
  unfold keepP;rw [hH];simpa using hk
 unfold compTo
 congr 1
 · rw [List.take_add_one,hp,List.filter_append,List.drop_eq_getElem_cons b,(List.getElem?_eq_some_iff.1 hp).2]
   simp [a]
 funext j
 rw [List.take_add_one,hp,List.map_append];dsimp only;by_cases hj:j=p.2
 · subst hj
   have c:(compK R H.gens).isEmpty=false:=(by simpa using hk);simp [compP,hH,hk]
 simp [hj]
theorem zqg {R:Int} {S:St} {i:Nat} {p:ByteArray×Int} {H:Hist} (hs:Sorted S.T) (hp:S.T[i]?=some p) (hH:S.past p.2=some H) (hk:compK R H.gens = []) :
 compTo R S (i+1) = { compTo R S i with T:=delT (compTo R S i).T p.1,past:=fun j=>if j=p.2 then none else (compTo R S i).past j }:=by
 have f:=(List.getElem?_eq_some_iff.1 hp).1
 have c:keepP R S p=false:=by
  unfold keepP;rw [hH];simpa using hk
 have a:S.T.drop i=p :: S.T.drop (i+1):=by rw [List.drop_eq_getElem_cons f,(List.getElem?_eq_some_iff.1 hp).2]
 have b:Sorted (S.T.take i++p :: S.T.drop (i+1)):=by rw [<-a,List.take_append_drop];exact hs
 obtain ⟨n,e,l⟩:=List.pairwise_append.1 b;obtain ⟨k,_⟩:=List.pairwise_cons.1 e;unfold compTo
 congr 1
 · rw [a]
   unfold delT;rw [List.filter_append,List.filter_cons,List.take_add_one,hp,List.filter_append]
   have g:((S.T.take i).filter (keepP R S)).filter (fun q=>!keq q.1 p.1)=(S.T.take i).filter (keepP R S):=by
    rw [List.filter_eq_self];intro q d;have:=l q (List.mem_filter.1 d).1 p List.mem_cons_self;rw [klt_ne this];rfl
   have m:(S.T.drop (i+1)).filter (fun q=>!keq q.1 p.1)=S.T.drop (i+1):=by
    rw [List.filter_eq_self];intro q d;have:=k q d;rw [zca,klt_ne this];rfl
   rw [g,m,if_neg (by rw [zas.2 rfl];simp)];simp [c]
 funext j
 rw [List.take_add_one,hp,List.map_append];dsimp only;by_cases hj:j=p.2
 · subst hj
   simp [compP,hH,hk]
 simp [hj]
theorem zvj {M:Int} {S:St} (h:SInv M S) (hs:Sorted S.T):(S.T.map (·.2)).Nodup:=by
 unfold List.Nodup;rw [List.pairwise_map];refine List.Pairwise.imp_of_mem (fun {p q} hp hq hpq=>?_) hs;intro e;have b:=zcu hs hp;have a:=zcu hs hq;have:=h.inj p.1 q.1 (by rw [b]) (by rw [a]) (by rw [b,a];exact e);rw [this,zbb] at hpq;cases hpq
theorem zqe {R:Int} {S:St} (hnd:(S.T.map (·.2)).Nodup) {i:Nat} {p:ByteArray×Int} (hp:S.T[i]?=some p):(compTo R S i).past p.2=S.past p.2:=by
 have g:=(List.getElem?_eq_some_iff.1 hp).1;unfold compTo;dsimp only;rw [if_neg];intro d;obtain ⟨q,f,e⟩:=List.mem_map.1 d;obtain ⟨j,a⟩:=List.mem_iff_getElem?.1 f
 have b:j<i:=by
  have:=(List.getElem?_eq_some_iff.1 a).1;simp at this;omega
 rw [List.getElem?_take_of_lt b] at a;have c:(S.T.map (·.2))[j]?=(S.T.map (·.2))[i]?:=by rw [List.getElem?_map,List.getElem?_map,a,hp];simp [e]
 have:=(List.getElem?_inj (by simpa using (List.getElem?_eq_some_iff.1 a).1) hnd).1 c;omega
section
variable {TA:zaq} {N:Nat} (hT:TreeOk TA N) {w w':World} {s t p:Nat} {ev:Value} {hp:Int->Option Nat} {FT:Nat->Prop} {FH:Int->Nat->Prop} {S:St}
include hT
theorem StoreR.dropHist (a:StoreR TA w s t p ev hp FT FH S) (id:Int) (hf:Fr (fun b=>b=p) w w') (hm:MapAt w' p fun i=>if i=id then none else (hp i).map fun h=>.pointer (some ⟨h,0,none⟩)) :
 StoreR TA w' s t p ev (fun i=>if i=id then none else hp i) FT (fun i b=>i≠id/\FH i b) { S with past:=fun i=>if i=id then none else S.past i } where
 obj:=a.obj.fr hf fun e=>a.map.apart a.obj e.symm
 tree:=hT.fr a.tree hf fun b hb e=>a.dp.1 (e▸hb)
 map:=by
  refine cast (congrArg (MapAt w' p) ?_) hm
  funext i
  by_cases hi:i=id <;> simp [hi]
 events:=a.events.fr hf fun b hb e=>a.dp.2.1 (e▸hb)
 hist i H hi:=by
  dsimp only at hi;by_cases hi':i=id
  · rw [if_pos hi'] at hi;cases hi
  rw [if_neg hi'] at hi
  obtain ⟨c,d,g⟩:=a.hist i H hi;refine ⟨c,by rw [if_neg hi'];exact d,?_⟩;have f:=g.fr hf fun b hb e=>a.dp.2.2 i (e▸hb);have:(fun b=>i≠id/\FH i b)=FH i:=(by funext b;simp [hi']);rw [this];exact f
 gone i hi:=by
  dsimp only at hi;by_cases hi':i=id
  · exact ⟨if_pos hi',fun b hb=>hb.1 hi'⟩
  rw [if_neg hi'] at hi
  exact ⟨by rw [if_neg hi'];exact (a.gone i hi).1,fun b hb=>(a.gone i hi).2 b hb.2⟩
 ds:=⟨a.ds.1,a.ds.2.1,fun i e=>a.ds.2.2 i e.2⟩
 dp:=⟨a.dp.1,a.dp.2.1,fun i e=>a.dp.2.2 i e.2⟩
 dt b hb:=⟨(a.dt b hb).1,fun i e=>(a.dt b hb).2 i e.2⟩
 de b hb i e:=a.de b hb i e.2
 dh i j b hi hj:=a.dh i j b hi.2 hj.2
end
set_option maxRecDepth 100000
structure Cmp where
 key:ByteArray
 what:Int
 how:Int
 number:Int
 value:ByteArray
def cmpV (c:Cmp):Value:=.agg #[.string c.key,.int .i64 c.what,.int .i64 c.how,.int .i64 c.number,.string c.value]
def cmpC (c:Cmp):List Value:=[.string c.key,.int .i64 c.what,.int .i64 c.how,.int .i64 c.number,.string c.value]
theorem zau (c:Cmp):(cmpC c).length=5:=rfl
def cmpE (c:Cmp):Int :=
 if keyE c.key≠0 then keyE c.key else if c.what<1\/5<c.what then 1 else if 1024<c.value.size then 31
 else if (c.what=4/\c.number≠0)\/(c.what≠4/\c.value.toList≠[]) then 1 else 0
theorem zdv (w:World) (c:Cmp) (hs:c.key.size<=1099511627776):Calls Tryz.prog 75 #[cmpV c] w fun e w'=>e=.returned (.int .i64 (cmpE c))/\Fr No w w':=by
 have i:=fun W=>zkc W c.key hs;obtain ⟨j,f,l,g,d⟩:=c;unfold cmpE cmpV;dsimp only at *;generalize keyE j=k at *;clear hs;by_cases h1:k≠0
 · have s:(k==0)=false:=by simpa using h1
   rw [if_pos h1];go_enter Tryz.func75,Tryz.ntmps75;go_wp2_with (go_at_call 65;refine (i _).mono ?_;rintro e w1 ⟨rfl,b⟩);go_ret;exact ⟨rfl,((Fr.refl No w).alloc _).trans0 b⟩
 have s:(k==0)=true:=by simpa using h1
 rw [if_neg h1];by_cases h2:f<1
 · rw [if_pos (.inl h2)]
   go_enter Tryz.func75,Tryz.ntmps75
   go_wp2_with (go_at_call 65;refine (i _).mono ?_;rintro e w1 ⟨rfl,b⟩
                have a:w1.heap[w.heap.size]?=some (.cells #[.string j,.int .i64 f,.int .i64 l,.int .i64 g,.string d] 53 (0,0)):=b.heap (zad _ _ _ rfl) id;have m:w1.cell? ⟨w.heap.size,1,none⟩=some (.int .i64 f):=cellAt a 1 rfl)
   go_ret;exact ⟨rfl,((Fr.refl No w).alloc _).trans0 b⟩
 by_cases h3:5<f
 · rw [if_pos (.inr h3)]
   go_enter Tryz.func75,Tryz.ntmps75
   go_wp2_with (go_at_call 65;refine (i _).mono ?_;rintro e w1 ⟨rfl,b⟩
                have a:w1.heap[w.heap.size]?=some (.cells #[.string j,.int .i64 f,.int .i64 l,.int .i64 g,.string d] 53 (0,0)):=b.heap (zad _ _ _ rfl) id;have m:w1.cell? ⟨w.heap.size,1,none⟩=some (.int .i64 f):=cellAt a 1 rfl)
   go_ret;exact ⟨rfl,((Fr.refl No w).alloc _).trans0 b⟩
 rw [if_neg (c:=f<1\/5<f) (by omega)]
 by_cases h4:1024<d.size
 · have q:(1024:Int)<(d.size:Int):=by omega
   rw [if_pos h4];go_enter Tryz.func75,Tryz.ntmps75
   go_wp2_with (go_at_call 65;refine (i _).mono ?_;rintro e w1 ⟨rfl,b⟩
                have a:w1.heap[w.heap.size]?=some (.cells #[.string j,.int .i64 f,.int .i64 l,.int .i64 g,.string d] 53 (0,0)):=b.heap (zad _ _ _ rfl) id;have m:w1.cell? ⟨w.heap.size,1,none⟩=some (.int .i64 f):=cellAt a 1 rfl;have p:w1.cell? ⟨w.heap.size,4,none⟩=some (.string d):=cellAt a 4 rfl)
   go_ret;exact ⟨rfl,((Fr.refl No w).alloc _).trans0 b⟩
 have q:¬ (1024:Int)<(d.size:Int):=by omega
 rw [if_neg h4];by_cases h5:f=4
 · subst h5
   by_cases h6:g=0
   · subst h6
     rw [if_neg (by simp)];go_enter Tryz.func75,Tryz.ntmps75
     go_wp2_with (go_at_call 65;refine (i _).mono ?_;rintro e w1 ⟨rfl,b⟩
                  have a:w1.heap[w.heap.size]?=some (.cells #[.string j,.int .i64 4,.int .i64 l,.int .i64 0,.string d] 53 (0,0)):=b.heap (zad _ _ _ rfl) id;have m:w1.cell? ⟨w.heap.size,1,none⟩=some (.int .i64 4):=cellAt a 1 rfl;have r:w1.cell? ⟨w.heap.size,3,none⟩=some (.int .i64 0):=cellAt a 3 rfl;have p:w1.cell? ⟨w.heap.size,4,none⟩=some (.string d):=cellAt a 4 rfl)
     go_ret;exact ⟨rfl,((Fr.refl No w).alloc _).trans0 b⟩
   have o:(g==0)=false:=by simpa using h6
   rw [if_pos (.inl ⟨rfl,h6⟩)];go_enter Tryz.func75,Tryz.ntmps75
   go_wp2_with (go_at_call 65;refine (i _).mono ?_;rintro e w1 ⟨rfl,b⟩
                have a:w1.heap[w.heap.size]?=some (.cells #[.string j,.int .i64 4,.int .i64 l,.int .i64 g,.string d] 53 (0,0)):=b.heap (zad _ _ _ rfl) id;have m:w1.cell? ⟨w.heap.size,1,none⟩=some (.int .i64 4):=cellAt a 1 rfl;have r:w1.cell? ⟨w.heap.size,3,none⟩=some (.int .i64 g):=cellAt a 3 rfl;have p:w1.cell? ⟨w.heap.size,4,none⟩=some (.string d):=cellAt a 4 rfl)
   go_ret;exact ⟨rfl,((Fr.refl No w).alloc _).trans0 b⟩
 have t:(f==4)=false:=by simpa using h5
 by_cases h6:d.toList = []
 · have o:d.toList.isEmpty=true:=by rw [h6];rfl
   have n:(d.toList == [])=true:=(by rw [h6];rfl);rw [if_neg (by simp [h5,h6])];go_enter Tryz.func75,Tryz.ntmps75
   go_wp2_with (go_at_call 65;refine (i _).mono ?_;rintro e w1 ⟨rfl,b⟩
                have a:w1.heap[w.heap.size]?=some (.cells #[.string j,.int .i64 f,.int .i64 l,.int .i64 g,.string d] 53 (0,0)):=b.heap (zad _ _ _ rfl) id;have m:w1.cell? ⟨w.heap.size,1,none⟩=some (.int .i64 f):=cellAt a 1 rfl;have r:w1.cell? ⟨w.heap.size,3,none⟩=some (.int .i64 g):=cellAt a 3 rfl;have p:w1.cell? ⟨w.heap.size,4,none⟩=some (.string d):=cellAt a 4 rfl)
   go_ret;exact ⟨rfl,((Fr.refl No w).alloc _).trans0 b⟩
 have o:d.toList.isEmpty=false:=by simpa using h6
 have n:(d.toList == [])=false:=(by simpa using h6);rw [if_pos (.inr ⟨h5,h6⟩)];go_enter Tryz.func75,Tryz.ntmps75
 go_wp2_with (go_at_call 65;refine (i _).mono ?_;rintro e w1 ⟨rfl,b⟩
              have a:w1.heap[w.heap.size]?=some (.cells #[.string j,.int .i64 f,.int .i64 l,.int .i64 g,.string d] 53 (0,0)):=b.heap (zad _ _ _ rfl) id;have m:w1.cell? ⟨w.heap.size,1,none⟩=some (.int .i64 f):=cellAt a 1 rfl;have r:w1.cell? ⟨w.heap.size,3,none⟩=some (.int .i64 g):=cellAt a 3 rfl;have p:w1.cell? ⟨w.heap.size,4,none⟩=some (.string d):=cellAt a 4 rfl)
 go_ret;exact ⟨rfl,((Fr.refl No w).alloc _).trans0 b⟩
def txnE (cs:List Cmp) (a b:List Opr):Int:=if 16<cs.length then 31 else match cs.find? fun c=>cmpE c != 0 with
 | some c=>cmpE c
 | none=>if checkE a≠0 then checkE a else checkE b
set_option maxHeartbeats 4000000 in
theorem zgj (w:World) (v va vb:Value) (cs:List Cmp) (la lb:List Opr) (hv:SlR w 5 cmpC v cs) (hva:SlR w 10 opC va la) (hvb:SlR w 10 opC vb lb) (hl:cs.length<=1099511627) (hla:la.length<=1099511627) (hlb:lb.length<=1099511627)
 (hks:∀ c∈cs,c.key.size<=1099511627776) (hka:∀ o∈la,o.rg.key.size<=1099511627776) (hkb:∀ o∈lb,o.rg.key.size<=1099511627776) :
 Calls Tryz.prog 38 #[v,va,vb] w fun e w'=>e=.returned (.int .i64 (txnE cs la lb))/\Fr No w w':=by
 have t:=fun W (h:Fr No w W)=>zez W va la (hva.fr0 h) hla hka;have E:=fun W (h:Fr No w W)=>zez W vb lb (hvb.fr0 h) hlb hkb;obtain ⟨a,cap,rfl,T,Y,R⟩:=hv.shape;have V:=H_ hv;clear hv;have X:=H_ R;clear R;have K:=H_ hks;clear hks;have s:=H_ t;clear t;have B:=H_ E;clear E;by_cases h16:16<cs.length
 · have C:(16:Int)<(cs.length:Int):=by omega
   have:txnE cs la lb=31:=(by unfold txnE;rw [if_pos h16]);rw [this];go_enter Tryz.func38,Tryz.ntmps38;go_wp2;go_ret;exact ⟨rfl,Fr.refl No w⟩
 have C:¬ (16:Int)<(cs.length:Int):=by omega
 have Q:txnE cs la lb=match cs.find? fun c=>cmpE c != 0 with
  | some c=>cmpE c
  | none=>if checkE la≠0 then checkE la else checkE lb:=by unfold txnE;rw [if_neg h16]
 have N:=H_ Q;clear Q;go_enter Tryz.func38,Tryz.ntmps38;go_wp2
 go_loopg [16] cs.length (fun g s16 wr=>∃ i:Nat,s16=.int .i64 i/\i+g=cs.length/\Hid (∀ j,j<i->∀ p,cs[j]?=some p->cmpE p=0)/\Hid (Fr No w wr))
 case atStart=>exact ⟨0,rfl,by simp,H_ (by simp),H_ (Fr.refl No w)⟩
 case round =>
  obtain ⟨i,rfl,hi,I,k⟩:=hrel
  cases gk with
  | zero =>
    have J:¬ (i:Int)<(cs.length:Int):=(by omega)
    have D:txnE cs la lb=if checkE la≠0 then checkE la else checkE lb:=by
     rw [N.out]
     have:cs.find? (fun o=>cmpE o != 0)=none:=by
      rw [List.find?_eq_none];intro x d;obtain ⟨j,H,rfl⟩:=List.getElem_of_mem d;have:=I.out j (by omega) _ (List.getElem?_eq_getElem H);simp [this]
     rw [this]
    have F:=H_ D;clear D N I;generalize checkE la=u at *;generalize checkE lb=U at *;by_cases h1:u≠0
    · have m:(u==0)=false:=by simpa using h1
      have f:Hid (txnE cs la lb=u):=H_ (by rw [F.out,if_pos h1]);go_wp2_with (go_at_call 83;refine (s.out _ k.out).mono ?_;rintro e w1 ⟨rfl,l⟩);go_ret;exact ⟨by rw [f.out];rfl,k.out.trans0 l⟩
    have m:(u==0)=true:=by simpa using h1
    have f:Hid (txnE cs la lb=U):=H_ (by rw [F.out,if_neg h1]);have O:u=0:=(by simpa using h1);subst O;go_upto_region 13 with (go_at_call 83;refine (s.out _ k.out).mono ?_;rintro e w1 ⟨rfl,l⟩);go_wp2_with (go_at_call 83;refine (B.out _ (k.out.trans0 l)).mono ?_;rintro e w2 ⟨rfl,L⟩);go_ret;exact ⟨by rw [f.out];rfl,(k.out.trans0 l).trans0 L⟩
  | succ g =>
    obtain ⟨gb,go,rfl⟩:=X.out (by omega);obtain ⟨p,d⟩:∃ p,cs[i]?=some p:=⟨_,List.getElem?_eq_getElem (by omega)⟩;have b:=V.out.fr0 k.out;have x0:=b.cell0 zau i d rfl;have x1:=b.cell zau i 1 d rfl;have x2:=b.cell zau i 2 d rfl;have x3:=b.cell zau i 3 d rfl;have x4:=b.cell zau i 4 d rfl;have J:(i:Int)<(cs.length:Int):=(by omega);have r:=fun W=>zdv W p (K.out p (List.mem_of_getElem? d));unfold cmpV at r;have G:=H_ r;have S:=H_ d
    have y:(∀ j,j<i->∀ p,cs[j]?=some p->cmpE p=0)->cmpE p≠0->txnE cs la lb=cmpE p:=by
     intro H Z;rw [N.out]
     have M:cs.find? (fun o=>cmpE o != 0)=some p:=by
      rw [List.find?_eq_some_iff_getElem];have A:i<cs.length:=(List.getElem?_eq_some_iff.1 d).1;refine ⟨by simpa using Z,i,A,(List.getElem?_eq_some_iff.1 d).2,fun j hji=>?_⟩;have:=H j hji _ (List.getElem?_eq_getElem (by omega));simp [this]
     rw [M]
    have n:=H_ y;clear b d r y s B;generalize z:cmpE p=kp at *;have P:=H_ z;clear z;by_cases h1:kp≠0
    · have m:(kp==0)=false:=by simpa using h1
      have f:=H_ (n.out I.out h1);clear n;go_wp2_with (go_at_call 75;refine (G.out _).mono ?_;rintro e w1 ⟨rfl,l⟩);go_ret;exact ⟨by rw [f.out];rfl,(k.out.alloc _).trans0 l⟩
    have m:(kp==0)=true:=by simpa using h1
    clear n;go_wp2_with (go_at_call 75;refine (G.out _).mono ?_;rintro e w1 ⟨rfl,l⟩);go_roundg g
    case rel=>exact ⟨i+1,by go_num,by omega,H_ (fun j H q hq=>by
     by_cases hji:j=i
     · subst hji;rw [S.out] at hq;cases hq;rw [P.out];simpa using h1
     exact I.out j (by omega) q hq),H_ ((k.out.alloc _).trans0 l)⟩
    case measure=>omega
def fewOp (o:Opr):Bool:=decide (o.rg.key.size<=3000)&&decide (o.rg.end_.size<=3000)&&decide (o.value.size<=3000)
def fewOps (l:List Opr):Bool:=decide (l.length<=30)&&l.all fewOp
theorem zde {α:Type} {l:List α} {p:α->Bool} {i:Nat} {x:α} (hx:l[i]?=some x):(l.take (i+1)).all p=((l.take i).all p&&p x):=by
 rw [List.take_add_one,hx,List.all_append];simp
theorem zdq {α:Type} {l:List α} {p:α->Bool} {i:Nat} {x:α} (hx:l[i]?=some x) (hp:p x=false):l.all p=false:=by
 rw [List.all_eq_false];exact ⟨x,List.mem_of_getElem? hx,by simp [hp]⟩
set_option maxHeartbeats 2000000 in
theorem zoe (w:World) (v:Value) (l:List Opr) (hv:SlR w 10 opC v l):Calls Tryz.prog 48 #[v] w fun e w'=>e=.returned (.bool (fewOps l))/\w=w':=by
 obtain ⟨a,cap,rfl,B,E,A⟩:=hv.shape;have C:=H_ hv;clear hv;have D:=H_ A;clear A;by_cases h30:30<l.length
 · have k:(30:Int)<(l.length:Int):=by omega
   have:fewOps l=false:=(by unfold fewOps;simp;omega);rw [this];go_enter Tryz.func48,Tryz.ntmps48;go_wp2;go_ret;exact ⟨rfl,rfl⟩
 have k:¬ (30:Int)<(l.length:Int):=by omega
 have z:fewOps l=l.all fewOp:=(by unfold fewOps;simp;omega);have o:=H_ z;clear z;go_enter Tryz.func48,Tryz.ntmps48;go_wp2
 go_loopg [3] l.length (fun g s3 wr=>∃ i:Nat,s3=.int .i64 i/\i+g=l.length/\Hid ((l.take i).all fewOp=true)/\w=wr)
 case atStart=>exact ⟨0,rfl,by simp,H_ (by simp),rfl⟩
 case round =>
  obtain ⟨i,rfl,J,t,rfl⟩:=hrel
  cases gk with
  | zero =>
    have q:¬ (i:Int)<(l.length:Int):=(by omega);have y:l.take i=l:=List.take_of_length_le (by omega);rw [y] at t;go_wp2;go_ret;exact ⟨by rw [o.out,t.out];rfl,rfl⟩
  | succ g =>
    obtain ⟨I,go,rfl⟩:=D.out (by omega);obtain ⟨p,j⟩:∃ p,l[i]?=some p:=⟨_,List.getElem?_eq_getElem (by omega)⟩;have c:=C.out;have H:=c.cell zaf i 1 j rfl;have F:=c.cell zaf i 2 j rfl;have G:=c.cell zaf i 8 j rfl;have q:(i:Int)<(l.length:Int):=(by omega);have m:=zde (p:=fewOp) j;have n:=zdq (p:=fewOp) j;have r:=H_ m;have f:=H_ n;clear j c m n;by_cases h1:3000<p.rg.key.size
    · have u:(3000:Int)<(p.rg.key.size:Int):=by omega
      have b:fewOp p=false:=(by unfold fewOp;simp;omega);have d:=H_ b;clear b;go_wp2;go_ret;exact ⟨by rw [o.out,f.out d.out];rfl,rfl⟩
    have u:¬ (3000:Int)<(p.rg.key.size:Int):=by omega
    by_cases h2:3000<p.rg.end_.size
    · have s:(3000:Int)<(p.rg.end_.size:Int):=by omega
      have b:fewOp p=false:=(by unfold fewOp;simp;omega);have d:=H_ b;clear b;go_wp2;go_ret;exact ⟨by rw [o.out,f.out d.out];rfl,rfl⟩
    have s:¬ (3000:Int)<(p.rg.end_.size:Int):=by omega
    by_cases h3:3000<p.value.size
    · have x:(3000:Int)<(p.value.size:Int):=by omega
      have b:fewOp p=false:=(by unfold fewOp;simp;omega);have d:=H_ b;clear b;go_wp2;go_ret;exact ⟨by rw [o.out,f.out d.out];rfl,rfl⟩
    have x:¬ (3000:Int)<(p.value.size:Int):=by omega
    have b:fewOp p=true:=(by unfold fewOp;simp;omega);have d:=H_ b;clear b;go_wp2;go_roundg g
    case rel=>exact ⟨i+1,by go_num,by omega,H_ (by rw [r.out,t.out,d.out];rfl),rfl⟩
    case measure=>omega
structure Cal where
 kind:Int
 ops:Value
 rg:Rg
 rev:Int
 upto:Int
 keys:Value
def calC (q:Cal×List Opr×List ByteArray):List Value:=.int .i64 q.1.kind :: q.1.ops :: (rgC q.1.rg++[.int .i64 q.1.rev,.int .i64 q.1.upto,q.1.keys])
theorem zav (q:Cal×List Opr×List ByteArray):(calC q).length=12:=rfl
def strC (s:ByteArray):List Value:=[.string s]
theorem zej (s:ByteArray):(strC s).length=1:=rfl
structure CalR (w:World) (v:Value) (Z:List (Cal×List Opr×List ByteArray)):Prop where
 sl:SlR w 12 calC v Z
 ops:∀ (i:Nat) q,Z[i]?=some q->SlR w 10 opC q.1.ops q.2.1
 keys:∀ (i:Nat) q,Z[i]?=some q->SlR w 1 strC q.1.keys q.2.2
def fewKey (s:ByteArray):Bool:=decide (s.size<=3000)
def fewCal (q:Cal×List Opr×List ByteArray):Bool:=fewOps q.2.1&&decide (q.2.2.length<=30)&&fewKey q.1.rg.key&&fewKey q.1.rg.end_&&q.2.2.all fewKey
def zbh (Z:List (Cal×List Opr×List ByteArray)):Bool:=decide (Z.length<=30)&&Z.all fewCal
set_option maxHeartbeats 4000000 in
theorem zhe (w:World) (v:Value) (l:List (Cal×List Opr×List ByteArray)) (hv:CalR w v l):Calls Tryz.prog 15 #[v] w fun e w'=>e=.returned (.bool (zbh l))/\w=w':=by
 obtain ⟨hv,d,c⟩:=hv;obtain ⟨a,cap,rfl,aa,a9,ha⟩:=hv.shape;have HV:=H_ hv;clear hv;have HA:=H_ ha;clear ha;have HO:=H_ d;clear d;have HK:=H_ c;clear c;by_cases h30:30<l.length
 · have D:(30:Int)<(l.length:Int):=by omega
   have:zbh l=false:=(by unfold zbh;simp;omega);rw [this];go_enter Tryz.func15,Tryz.ntmps15;go_wp2;go_ret;exact ⟨rfl,rfl⟩
 have D:¬ (30:Int)<(l.length:Int):=by omega
 have X:zbh l=l.all fewCal:=(by unfold zbh;simp;omega);have B:=H_ X;clear X;go_enter Tryz.func15,Tryz.ntmps15;go_wp2
 go_loopg [3] l.length (fun g s3 wr=>∃ i:Nat,s3=.int .i64 i/\i+g=l.length/\Hid ((l.take i).all fewCal=true)/\w=wr)
 case atStart=>exact ⟨0,rfl,by simp,H_ (by simp),rfl⟩
 case round =>
  obtain ⟨i,rfl,hi,Q,rfl⟩:=hrel
  cases gk with
  | zero =>
    have P:¬ (i:Int)<(l.length:Int):=(by omega);have A:l.take i=l:=List.take_of_length_le (by omega);rw [A] at Q;go_wp2;go_ret;exact ⟨by rw [B.out,Q.out];rfl,rfl⟩
  | succ g =>
    obtain ⟨gb,go,rfl⟩:=HA.out (by omega);obtain ⟨p,j⟩:∃ p,l[i]?=some p:=⟨_,List.getElem?_eq_getElem (by omega)⟩;have t:=HV.out;have x1:=t.cell zav i 1 j rfl;have x2:=t.cell zav i 2 j rfl;have x3:=t.cell zav i 3 j rfl;have U:=t.cell zav i 11 j rfl;have P:(i:Int)<(l.length:Int):=(by omega);have s:=zde (p:=fewCal) j;have o:=zdq (p:=fewCal) j;have K:=H_ s;have n:=H_ o;have d:=HO.out i p j;have c:=HK.out i p j;have x:=zoe w p.1.ops p.2.1 d;have y:fewCal p=(fewOps p.2.1&&decide (p.2.2.length<=30)&&fewKey p.1.rg.key&&fewKey p.1.rg.end_&&p.2.2.all fewKey):=rfl;clear j t s o d;obtain ⟨⟨p1,p2,⟨H,I,g3,g4,g5,g6,g7⟩,p3,p4,p5⟩,O,b⟩:=p;dsimp only at x1 x2 x3 U x c y;obtain ⟨ka,V,rfl,Z,W,G⟩:=c.shape
    generalize fewCal _=F at *;generalize fewOps O=fo at *;have J:=H_ c;clear c;have M:=H_ G;clear G;have r:=H_ x;clear x;have m:=H_ y;clear y;cases fo
    · have f:F=false:=by rw [m.out];rfl
      have u:=H_ f;clear f;go_wp2_with (go_at_call 48;refine r.out.mono ?_;rintro e w' ⟨rfl,rfl⟩);go_ret;exact ⟨by rw [B.out,n.out u.out];rfl,rfl⟩
    by_cases h1:30<b.length
    · have R:(30:Int)<(b.length:Int):=by omega
      have f:F=false:=(by rw [m.out];simp;omega);have u:=H_ f;clear f;go_wp2_with (go_at_call 48;refine r.out.mono ?_;rintro e w' ⟨rfl,rfl⟩);go_ret;exact ⟨by rw [B.out,n.out u.out];rfl,rfl⟩
    have R:¬ (30:Int)<(b.length:Int):=by omega
    by_cases h2:3000<H.size
    · have L:(3000:Int)<(H.size:Int):=by omega
      have f:F=false:=(by rw [m.out];simp [fewKey];omega);have u:=H_ f;clear f;go_wp2_with (go_at_call 48;refine r.out.mono ?_;rintro e w' ⟨rfl,rfl⟩);go_ret;exact ⟨by rw [B.out,n.out u.out];rfl,rfl⟩
    have L:¬ (3000:Int)<(H.size:Int):=by omega
    by_cases h3:3000<I.size
    · have N:(3000:Int)<(I.size:Int):=by omega
      have f:F=false:=(by rw [m.out];simp [fewKey];omega);have u:=H_ f;clear f;go_wp2_with (go_at_call 48;refine r.out.mono ?_;rintro e w' ⟨rfl,rfl⟩);go_ret;exact ⟨by rw [B.out,n.out u.out];rfl,rfl⟩
    have N:¬ (3000:Int)<(I.size:Int):=by omega
    have f:F=b.all fewKey:=by
     rw [m.out];have a1:decide (b.length<=30)=true:=(by simp;omega);have a2:fewKey H=true:=(by unfold fewKey;simp;omega);have a3:fewKey I=true:=(by unfold fewKey;simp;omega);rw [a1,a2,a3];rfl
    have u:=H_ f;clear f;go_wp2_with (go_at_call 48;refine r.out.mono ?_;rintro e w' ⟨rfl,rfl⟩)
    go_loopg [4] b.length (fun g' s4 wr=>∃ k:Nat,s4=.int .i64 k/\k+g'=b.length/\Hid ((b.take k).all fewKey=true)/\w=wr)
    case atStart=>exact ⟨0,rfl,by simp,H_ (by simp),rfl⟩
    case round =>
     obtain ⟨k,rfl,hk,z,rfl⟩:=hrel
     cases gk with
     | zero =>
       have T:¬ (k:Int)<(b.length:Int):=(by omega);have A:b.take k=b:=List.take_of_length_le (by omega);rw [A] at z;go_wp2;go_roundg g
       case rel=>exact ⟨i+1,by go_num,by omega,H_ (by rw [K.out,Q.out,u.out,z.out];rfl),rfl⟩
       case measure=>omega
     | succ g' =>
       obtain ⟨kb,ko,rfl⟩:=M.out (by omega);obtain ⟨q,j⟩:∃ q,b[k]?=some q:=⟨_,List.getElem?_eq_getElem (by omega)⟩;have Y:=J.out.cell0 zej k j rfl;have a7:w.cell? ⟨kb,ko+k,none⟩=some (.string q):=(by simpa using Y);have T:(k:Int)<(b.length:Int):=(by omega);have s:=zde (p:=fewKey) j;have o:=zdq (p:=fewKey) j;have C:=H_ s;have E:=H_ o;clear j s o Y;by_cases h4:3000<q.size
       · have S:(3000:Int)<(q.size:Int):=by omega
         go_wp2;go_ret;exact ⟨by rw [B.out,n.out (by rw [u.out,E.out (by unfold fewKey;simp;omega)])];rfl,rfl⟩
       have S:¬ (3000:Int)<(q.size:Int):=by omega
       go_wp2;go_roundg g'
       case rel=>exact ⟨k+1,by go_num,by omega,H_ (by rw [C.out,z.out];unfold fewKey;simp;omega),rfl⟩
       case measure=>omega
def dropE (k:ByteArray) (rev:Int) (x:Kv):Ev:=⟨2,⟨k,ByteArray.empty,0,rev,0,0⟩,x⟩
def dropR (rev:Int) (q:St×List Ev) (k:ByteArray):St×List Ev :=
 if (livesS q.1 k rev).2 then (doS q.1 (dropE k rev (livesS q.1 k rev).1),q.2++[dropE k rev (livesS q.1 k rev).1]) else q
def dropTo (rev:Int) (S:St) (keys:List ByteArray) (i:Nat):St×List Ev:=(keys.take i).foldl (dropR rev) (S,[])
def dropS (S:St) (keys:List ByteArray):St :=
 if (keys.foldl (dropR (S.rev+1)) (S,[])).2 = [] then (keys.foldl (dropR (S.rev+1)) (S,[])).1 else { (keys.foldl (dropR (S.rev+1)) (S,[])).1 with rev:=S.rev+1 }
theorem zet (rev:Int) (S:St) (keys:List ByteArray) {i:Nat} {k:ByteArray} (h:keys[i]?=some k):dropTo rev S keys (i+1)=dropR rev (dropTo rev S keys i) k:=by
 unfold dropTo;rw [List.take_add_one,h,List.foldl_append]
 rfl
set_option maxHeartbeats 4000000 in
theorem ztq {TA:zaq} {N:Nat} (hT:TreeOk TA N) {n:Nat} (hn:n<=1099511627) (w:World) (s:Nat) (S:St) (F:Nat->Prop) (hS:zak TA w s S F) (v:Value) (keys:List ByteArray) (hv:SlR w 1 strC v keys)
 (hvF:0<keys.length->∀ b,v.ownBlock=some b->¬ F b) (hkl:keys.length<=1099511627) (hr0 : -top<=S.rev) (hr:S.rev<top)
 (hrun:∀ i k,keys[i]?=some k->StOk n (dropTo (S.rev+1) S keys i).1/\(dropTo (S.rev+1) S keys i).2.length<=1099511627 ∧
   ((livesS (dropTo (S.rev+1) S keys i).1 k (S.rev+1)).2=true->DoOk N (dropTo (S.rev+1) S keys i).1 (dropE k (S.rev+1) (livesS (dropTo (S.rev+1) S keys i).1 k (S.rev+1)).1))) :
 Calls Tryz.prog 57 #[.pointer (some ⟨s,0,none⟩),v] w fun e w'=>∃ ev,e=.returned (.tuple #[ev,.int .i64 0])/\∃ F',zak TA w' s (dropS S keys) F' ∧
  SlF w' 101 13 evC ev (keys.foldl (dropR (S.rev+1)) (S,[])).2/\Fr F w w'/\(∀ b,F' b->F b\/w.heap.size<=b)/\(∀ b,ev.ownBlock=some b->w.heap.size<=b/\¬ F' b):=by
 obtain ⟨va,bb,rfl,bv,bI,a6⟩:=hv.shape
 have O:∀ W,Fr No w W->W.cell? ⟨s,3,none⟩=some (.int .i64 S.rev):=fun W hW=>by
  obtain ⟨t,p,ev,hp,FT,FH,a,hF⟩:=hS;exact hW.cell0 (a.obj.cell 3 rfl)
 have c3:=O _ ((Fr.refl No w).alloc (Obj.cells #[.pointer (some ⟨s,0,none⟩)] 25));have aZ:=O _ (((Fr.refl No w).alloc (Obj.cells #[.pointer (some ⟨s,0,none⟩)] 25)).alloc (Obj.cells #[.int .i64 (S.rev+1)] 3));have bu:s<w.heap.size:=World.block_lt_of_cell? _ _ (O _ (Fr.refl No w));have bJ:∀ (fn:Fn) (first cap:Array Value) (w:World),(Instr.makeFunc fn first cap).run Tryz.prog w=.ok (.func fn first cap) w:=fun _ _ _ _=>rfl;have HV:=H_ hv;have aB:=H_ a6;have b6:=H_ hvF;have HS:=H_ hS;have a8:=H_ hrun;have a9:=H_ (hS.lt hT);have bK:(S.rev==1099511627776)=false:=by rw [beq_eq_false_iff_ne];unfold top at hr;omega
 have bp:S.rev<1099511627776:=hr;have bF : -1099511627776<=S.rev:=hr0;have al:Hid (dropS S keys=if (keys.foldl (dropR (S.rev+1)) (S,[])).2 = [] then (keys.foldl (dropR (S.rev+1)) (S,[])).1 else { (keys.foldl (dropR (S.rev+1)) (S,[])).1 with rev:=S.rev+1 }):=H_ rfl;have E:Hid (dropTo (S.rev+1) S keys keys.length=keys.foldl (dropR (S.rev+1)) (S,[])):=H_ (by unfold dropTo;rw [List.take_length]);clear hv a6 hvF hS hrun O;go_enter Tryz.func57,Tryz.ntmps57;go_wp2_with fail;have A:((w.alloc (Obj.cells #[.pointer (some ⟨s,0,none⟩)] 25)).alloc (Obj.cells #[.int .i64 (S.rev+1)] 3)).heap[w.heap.size]?=some (.cells #[.pointer (some ⟨s,0,none⟩)] 25 (0,0)):=zaj (zad _ _ _ rfl) _
 have z:((w.alloc (Obj.cells #[.pointer (some ⟨s,0,none⟩)] 25)).alloc (Obj.cells #[.int .i64 (S.rev+1)] 3)).heap[w.heap.size+1]?=some (.cells #[.int .i64 (S.rev+1)] 3 (0,0)):=zad _ _ _ (by simp);have a0:Fr No w ((w.alloc (Obj.cells #[.pointer (some ⟨s,0,none⟩)] 25)).alloc (Obj.cells #[.int .i64 (S.rev+1)] 3)):=((Fr.refl No w).alloc _).alloc _;have bh:((w.alloc (Obj.cells #[.pointer (some ⟨s,0,none⟩)] 25)).alloc (Obj.cells #[.int .i64 (S.rev+1)] 3)).heap.size=w.heap.size+2:=by simp
 generalize (w.alloc (Obj.cells #[.pointer (some ⟨s,0,none⟩)] 25)).alloc (Obj.cells #[.int .i64 (S.rev+1)] 3)=W1 at *;have aS:=H_ A;have aY:=H_ z;have an:=H_ a0;have b4:=H_ (HS.out.fr0 hT a0);clear A z c3 aZ a0
 go_loopg [34,8] keys.length (fun g s34 s8 wr=>∃ (i:Nat) (J:Value) (C:Nat->Prop),s34=.int .i64 i/\s8=J/\i+g=keys.length/\Hid (zak TA wr s (dropTo (S.rev+1) S keys i).1 C)/\Hid (SlF wr 101 13 evC J (dropTo (S.rev+1) S keys i).2)/\Hid (Fr F W1 wr) ∧
  Hid (∀ b,C b->F b\/W1.heap.size<=b)/\Hid (∀ b,J.ownBlock=some b->W1.heap.size<=b/\¬ C b))
 case atStart=>exact ⟨0,_,F,rfl,rfl,by simp,b4,H_ (SlF.nil _ _ _ _),H_ (Fr.refl _ _),H_ (fun b h=>.inl h),H_ (fun b h=>by simp [Value.ownBlock] at h)⟩
 case round =>
  obtain ⟨i,J,C,rfl,rfl,hi,m,c,o,B,f⟩:=hrel;have b8:¬ F w.heap.size:=fun h=>by have:=a9.out _ h;omega
  have b5:¬ F (w.heap.size+1):=fun h=>by have:=a9.out _ h;omega
  have A:=o.out.heap aS.out b8;have z:=o.out.heap aY.out b5;have bn:=zaa A;have bt:=zaa z;have q0:wr.cell? ⟨w.heap.size,0,none⟩=some (.pointer (some ⟨s,0,none⟩)):=cellAt A 0 rfl;have q1:wr.cell? ⟨w.heap.size+1,0,none⟩=some (.int .i64 (S.rev+1)):=cellAt z 0 rfl;clear A z;obtain ⟨ea,j,rfl,aN,bC,aO⟩:=c.out.shape;clear aO
  cases gk with
  | zero =>
    have aE:¬ (i:Int)<(keys.length:Int):=(by omega);have aT:i=keys.length:=(by omega);subst aT;rw [E.out] at m c aN f;generalize hR:keys.foldl (dropR (S.rev+1)) (S,[])=r at *;obtain ⟨t1,p1,aL,aP,b0,az,a1,ak⟩:=m.out;have c3:=a1.obj.cell 3 rfl;have f3:=a1.obj.free 3;have ls:=a1.obj.lt;have ah:=H_ a1;have R:=H_ ak;clear a1 ak;have ab:Fr F w wr:=(an.out.mono fun _ _ h=>h.elim).trans o.out fun _ _ h=>h;have a5:=H_ ab;clear ab;by_cases hE:r.2.length=0
    · have aD:¬ (0:Int)<(r.2.length:Int):=by omega
      have a2:=H_ (List.eq_nil_of_length_eq_zero hE);clear hE;rw [E.out];go_wp2
      go_ret2
      refine ⟨.slice ea r.2.length j,rfl,C,?_,?_,a5.out,fun b hb=>?_,fun b hb=>?_⟩
      · rw [al.out,if_pos a2.out];exact m.out
      · exact c.out
      · rcases B.out b hb with h | h
        · exact .inl h
        exact .inr (by omega)
      have:=f.out b hb
      exact ⟨by omega,this.2⟩
    have aD:(0:Int)<(r.2.length:Int):=by omega
    have a2:Hid (¬ r.2 = []):=H_ (fun h=>hE (by rw [h];rfl));have U:C s:=(R.out s).2 (.inl rfl);clear hE;rw [E.out];go_wp2
    go_ret2
    have Y:Fr (fun b=>b=s) wr (wr.setCell ⟨s,3,none⟩ (.int .i64 (S.rev+1))):=(Fr.refl _ wr).setAt 3 _;have b7:=ah.out.setObj hT Y r.1.next (S.rev+1) r.1.mark (ah.out.obj.set 3 (.int .i64 (S.rev+1)));refine ⟨.slice ea r.2.length j,rfl,C,?_,?_,?_,fun b hb=>?_,fun b hb=>?_⟩
    · rw [al.out,if_neg a2.out];exact ⟨t1,p1,aL,aP,b0,az,b7,R.out⟩
    · exact c.out.fr Y fun b hb e=>(f.out b hb).2 (by have e':b=s:=e;rw [e'];exact U)
    · refine a5.out.trans Y fun b hb e=>?_
      have e':b=s:=e;subst e';rcases B.out b U with h | h
      · exact h
      omega
    · rcases B.out b hb with h | h
      · exact .inl h
      exact .inr (by omega)
    have:=f.out b hb
    exact ⟨by omega,this.2⟩
  | succ g =>
    have aE:(i:Int)<(keys.length:Int):=(by omega);obtain ⟨gb,go,rfl⟩:=aB.out (by omega);obtain ⟨k,hk⟩:∃ k,keys[i]?=some k:=⟨_,List.getElem?_eq_getElem (by omega)⟩;have af:=(HV.out.fr0 an.out).fr o.out (b6.out (by omega));have ai:=af.cell0 zej i hk rfl;have x0:wr.cell? ⟨gb,go+i,none⟩=some (.string k):=(by simpa using ai);obtain ⟨d1,d2,d3⟩:=a8.out i k hk;have d:=zet (S.rev+1) S keys hk;generalize dropTo (S.rev+1) S keys i=q at *;have Z:=fun W hW=>zji hT hn W s q.1 C hW d1 k (S.rev+1);unfold dropR at d;obtain ⟨i0,aF,aW,aV,aH⟩:=info_parts info73;rcases hl:livesS q.1 k (S.rev+1) with ⟨⟨K,P,H,G,M,L⟩,lb⟩
    rw [hl] at d d3;simp only [hl,zct,kvV] at Z;have ap:=H_ Z;have ax:=H_ d;have aX:=H_ d1;have aG:=H_ d3;clear hk af ai Z d d1 d3 hl;have bj:=o.out.size;cases lb
    · go_wp2_with (go_at_call 66;refine (ap.out _ m.out).mono ?_;rintro e w2 ⟨rfl,y⟩)
      go_roundg g
      case rel =>
       have d:=ax.out.trans (if_neg Bool.false_ne_true);have l:=y.alloc (Obj.cells #[.string K,.string P,.int .i64 H,.int .i64 G,.int .i64 M,.int .i64 L] 99);exact ⟨i+1,_,C,by go_num,rfl,by omega,H_ (by rw [d];exact m.out.fr0 hT l),H_ (by rw [d];exact c.out.fr0 l),H_ (o.out.trans0 l),B,f⟩
      case measure=>omega
    have ag:=fun W hW=>zrp hT hn W s q.1 C hW aX.out (dropE k (S.rev+1) ⟨K,P,H,G,M,L⟩) (aG.out rfl)
    have b3:=H_ ag;clear ag
    go_wp2_with (first
     | (go_at_call 66;refine (ap.out _ m.out).mono ?_;rintro e w2 ⟨rfl,y⟩
        have aQ:=y.cell0 q0;have aK:=y.cell0 q1;have bk:=World.block_lt_of_cell? _ _ aQ;have ba:=World.block_lt_of_cell? _ _ aK;have bl:=y.size)
     | (go_at_call 68
        have I:Fr No wr ((w2.alloc (Obj.cells #[.string K,.string P,.int .i64 H,.int .i64 G,.int .i64 M,.int .i64 L] 99)).alloc (Obj.cells #[.int .i64 2,.string k,.string ByteArray.empty,.int .i64 0,.int .i64 (S.rev+1),.int .i64 0,.int .i64 0,.string K,.string P,.int .i64 H,.int .i64 G,.int .i64 M,.int .i64 L] 101)):=(y.alloc _).alloc _
        have ar:((w2.alloc (Obj.cells #[.string K,.string P,.int .i64 H,.int .i64 G,.int .i64 M,.int .i64 L] 99)).alloc (Obj.cells #[.int .i64 2,.string k,.string ByteArray.empty,.int .i64 0,.int .i64 (S.rev+1),.int .i64 0,.int .i64 0,.string K,.string P,.int .i64 H,.int .i64 G,.int .i64 M,.int .i64 L] 101)).heap[w2.heap.size+1]?=some (.cells #[.int .i64 2,.string k,.string ByteArray.empty,.int .i64 0,.int .i64 (S.rev+1),.int .i64 0,.int .i64 0,.string K,.string P,.int .i64 H,.int .i64 G,.int .i64 M,.int .i64 L] 101 (0,0)):=zad _ _ _ (by simp);have x:=m.out.lt hT;have ao:¬ C (w2.heap.size+1):=fun h=>by have:=x _ h;omega
        refine (b3.out _ (m.out.fr0 hT I)).mono ?_;rintro e w3 ⟨⟨rv,rfl⟩,F2,ad,l,aw⟩;have D:=l.heap ar ao;obtain ⟨k0,k1,k2,k3,k4,k5,k6,k7,k8,k9,bN,bL,bH⟩:=cells13 D;have bO:=zaa D;have a7:=zar w3 (evC (dropE k (S.rev+1) ⟨K,P,H,G,M,L⟩)) 101 (0,0);have V:=(c.out.fr0 I).fr l fun b hb h=>(f.out b hb).2 h;have ae:=H_ V;have aa:=H_ ad;have aq:=H_ l;have av:=H_ aw;have am:=H_ I;have bs:=H_ x;clear V ad l aw I ar D ao x)
     | (at_builtin;refine zao rfl _ _ 28 rfl 101 i0 _ 13 136 Tryz.underlying28 aF aW aV aH rfl (by decide) _ q.2 rfl (ae.out.alloc _) w3.heap.size 1 (dropE k (S.rev+1) ⟨K,P,H,G,M,L⟩) rfl a7 rfl ?c1 ?c2 ?c3 ?_))
    case c1=>intro u hu;simp [evC,kvC,dropE] at hu;rcases hu with rfl | rfl | rfl | rfl | rfl | rfl | rfl | rfl | rfl | rfl | rfl | rfl | rfl <;> rfl
    case c2=>unfold maxLen;omega
    case c3=>omega
    intro X o7 bf w4 aI aJ aC be;go_wp2;go_roundg g
    case rel =>
     have d:=ax.out.trans (if_pos trivial);have bg:=aq.out.size;have bc:=am.out.size;have T:Fr (fun b=>(Value.slice ea q.2.length j).ownBlock=some b) w3 w4:=((Fr.refl _ w3).alloc _).grown aJ fun k hk=>.inl hk
     have aU:(Value.slice ea q.2.length j).ownBlock=some X\/w3.heap.size<=X:=by
      rcases aC with h | h
      · exact .inl h
      right
      have h':X=w3.heap.size+1:=(by simpa using h);omega
     have Q:∀ b,(Value.slice ea q.2.length j).ownBlock=some b->¬ F2 b:=fun b hb h=>by
      have bD:=c.out.lt b hb;rcases av.out b h with h | h
      · exact (f.out b hb).2 h
      omega
     have au:=aa.out.lt hT;refine ⟨i+1,_,F2,by go_num,rfl,by omega,H_ (by rw [d];exact aa.out.fr hT T fun b hb h=>Q b h hb),H_ (by rw [d];simpa using aI),H_ ?_,H_ fun b hb=>?_,H_ fun b hb=>?_⟩
     · refine ((o.out.trans0 am.out).trans aq.out fun b hb h=>?_).trans T fun b hb h=>?_
       · rcases B.out b h with h | h
         · exact h
         omega
       have:=(f.out b h).1;omega
     · rcases av.out b hb with h | h
       · exact B.out b h
       exact .inr (by omega)
     obtain rfl:X=b:=by simpa [Value.ownBlock] using hb
     rcases aU with h | h
     · exact ⟨(f.out X h).1,Q X h⟩
     exact ⟨by omega,fun h'=>by have:=au X h';omega⟩
    case measure=>omega
end Go.Proofs.YthljnnjpmdgkoaaGreat