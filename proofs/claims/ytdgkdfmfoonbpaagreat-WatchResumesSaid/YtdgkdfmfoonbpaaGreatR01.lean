/- Own lemmas. -/
import Derived.Test.YtdgkdfmfoonbpaaGreatR00
import Derived.StillTailTactics
namespace Go.Proofs.YtdgkdfmfoonbpaaGreat
open Go Go.RowKit
theorem zna {P:Program} (w:World) (dT sT ty elem:TypeId) (i:TypeInfo) (dp sp:Option Addr) (dLen dCap sLen sCap g o:Nat) (cur:Array Value) (t:TypeId) (cs:List Value)
 (hu:P.underlying dT=some (.slice elem)) (hi:P.info? elem=some i) (hg:w.heap[g]?=some (.cells cur t (0,0))) (hn:cs.length=Nat.min sLen dLen * i.size)
 (hpos:0<cs.length->dp=some ⟨g,o,none⟩/\∃ ad,sp=some ad/\∀ j v,cs[j]?=some v->w.cell? (ad.add j)=some v) (hfit:o+cs.length<=cur.size) (h1:∀ v∈cs,v.oneCell'=true) :
 ∃ w',(Builtin.copy_ #[dT,sT] ty #[.slice dp dLen dCap,.slice sp sLen sCap]).run P w=.ok (goInt (Nat.min sLen dLen)) w' ∧
  w'.heap[g]?=some (.cells (cur.toList.take o++cs++cur.toList.drop (o+cs.length)).toArray t (0,0))/\w.grownBy w' (some g):=by
 by_cases h0:cs.length=0
 · obtain rfl:cs = []:=List.eq_nil_of_length_eq_zero h0
   refine ⟨w,?_,by simpa using hg,⟨rfl,rfl,rfl,Nat.le_refl _,fun _ _ _=>rfl⟩⟩;have d:Nat.min sLen dLen * i.size=0:=(by simpa using hn.symm);cases sp <;> cases dp <;> simp [Builtin.copy_,run_underlying hu,Builtin.lenOf,Builtin.firstCells,sizeOf,typeInfo,hi,d,storeCells,loadCells,loadCellsFrom]
 obtain ⟨rfl,ad,rfl,a⟩:=hpos (by omega)
 have c:=run_loadCells_list (P:=P) w ad cs a;have b:=run_storeCells_at P g o t cs 0 cur w hg (by simpa using hfit) h1;refine ⟨w.setRow g (cur.toList.take o++cs++cur.toList.drop (o+cs.length)).toArray,?_,setRow_heap w g cur _ t _ hg,⟨rfl,rfl,rfl,by simp,fun k _ hk=>setRow_other w g k _ (fun e=>hk (by rw [e]))⟩⟩;simp [Builtin.copy_,run_underlying hu,Builtin.lenOf,Builtin.firstCells,sizeOf,typeInfo,hi,<-hn,c,b]
theorem zbn {P:Program} {w:World} {ops:Array Oper} {rest:List Oper} {op:Oper} {a:Act} {Q:Exit->Act->World->Prop} (hgd:op.guard=none) (d s:Operand) (dT sT elem:TypeId) (i:TypeInfo)
 (ho:op.op=.call { callee:=.builtin .copy,args:=#[d,s],argTypes:=#[dT,sT] }) (hu:P.underlying dT=some (.slice elem)) (hi:P.info? elem=some i)
 (dp sp:Option Addr) (dLen dCap sLen sCap g o:Nat) (cur:Array Value) (t:TypeId) (cs:List Value) (hd:a.eval d=.slice dp dLen dCap) (hs:a.eval s=.slice sp sLen sCap)
 (hg:w.heap[g]?=some (.cells cur t (0,0))) (hn:cs.length=Nat.min sLen dLen * i.size)
 (hpos:0<cs.length->dp=some ⟨g,o,none⟩/\∃ ad,sp=some ad/\∀ j v,cs[j]?=some v->w.cell? (ad.add j)=some v) (hfit:o+cs.length<=cur.size) (h1:∀ v∈cs,v.oneCell'=true)
 (h:∀ w',w'.heap[g]?=some (.cells (cur.toList.take o++cs++cur.toList.drop (o+cs.length)).toArray t (0,0))->w.grownBy w' (some g)->wpList P ops Q rest (a.put op.dst (goInt (Nat.min sLen dLen))) w'):wpList P ops Q (op :: rest) a w:=by
 refine wpList_plain hgd fun _ hK=>?_;obtain ⟨w',e,b,c⟩:=zna (P:=P) w dT sT op.type elem i dp sp dLen dCap sLen sCap g o cur t cs hu hi hg hn hpos hfit h1;unfold Oper.wp execOp;simp only [ho,resolve,invoke,builtin,Sem.run_bind,Sem.run_pure,Result.andThen_ok,List.map_toArray,List.map_cons,List.map_nil,hd,hs,e];exact hK _ _ (h w' b c)
theorem SlF.copied {α:Type} {f:α->List Value} {w w':World} {e sz g o cap:Nat} {L:List α} (hf:∀ x,(f x).length=sz) (h:SlF w e sz f (.slice (some ⟨g,o,none⟩) L.length cap) L) (j k m:Nat) (hj:j+m<=L.length) (hk:k+m<=L.length)
 (cur:Array Value) (hg:w.heap[g]?=some (.cells cur e (0,0)))
 (hg':w'.heap[g]?=some (.cells (cur.toList.take (o+k * sz)++(((L.drop j).take m).flatMap f)++cur.toList.drop (o+k * sz+m * sz)).toArray e (0,0))) :
 SlF w' e sz f (.slice (some ⟨g,o,none⟩) L.length cap) (L.take k++(L.drop j).take m++L.drop (k+m)):=by
 have a:(L.take k++(L.drop j).take m++L.drop (k+m)).length=L.length:=by simp;omega
 unfold SlF;rw [a];refine ⟨by rw [zak hf,a],?_⟩;rcases h.2 with ⟨z,_⟩ | ⟨D,G,d,i,C,s,n,A,E,q⟩
 · cases z
 cases C
 rw [hg] at s;cases s
 have F:L.length * sz<=cap * sz:=Nat.mul_le_mul_right _ n;have B:k * sz+m * sz<=L.length * sz:=(by rw [<-Nat.add_mul];exact Nat.mul_le_mul_right _ hk);have b:(((L.drop j).take m).flatMap f).length=m * sz:=(by rw [zak hf];congr 1;simp;omega);have c:cur.toList.length=cur.size:=(by simp);refine .inr ⟨g,o,cap,_,rfl,hg',n,A,?_,?_⟩
 · simp only [List.size_toArray,List.length_append,List.length_take,List.length_drop,b,c]
   omega
 have t:(cur.toList.take (o+k * sz)).drop o=(L.take k).flatMap f:=by
  rw [<-zdl hf,<-q,List.drop_take,List.take_take]
  congr 1
  omega
 have u:(cur.toList.drop (o+k * sz+m * sz)).take (L.length * sz-(k * sz+m * sz))=(L.drop (k+m)).flatMap f:=by
  have:(L.flatMap f).drop ((k+m) * sz)=(L.drop (k+m)).flatMap f:=by
   have r:=congrArg (fun l=>List.flatMap f l) (List.take_append_drop (k+m) L);simp only [List.flatMap_append] at r;rw [<-r,<-zdl hf,List.drop_append_of_le_length (by rw [List.length_take,zak hf,Nat.add_mul];omega),List.drop_eq_nil_of_le (by rw [List.length_take];omega),List.nil_append]
  rw [<-this,<-q,List.drop_take,List.drop_drop,Nat.add_mul]
  congr 2
  omega
 show (((cur.toList.take (o+k * sz)++(((L.drop j).take m).flatMap f)++cur.toList.drop (o+k * sz+m * sz)).drop o).take (L.length * sz))=_
 rw [List.append_assoc,List.drop_append_of_le_length (by simp;omega),t];rw [List.flatMap_append,List.flatMap_append,List.append_assoc];have v:((L.take k).flatMap f).length=k * sz:=(by rw [zak hf];congr 1;simp;omega);have y:L.length * sz=((L.take k).flatMap f).length+((((L.drop j).take m).flatMap f).length+(L.length * sz-(k * sz+m * sz))):=(by rw [v,b];omega);rw [y,List.take_length_add_append,List.take_length_add_append,u]
open Go Go.Proofs Go.RowKit
set_option maxRecDepth 100000
theorem info127:(Tryz.prog.info? 125).map (fun i=>(i.zero,i.size,i.bytes))=some (some (.agg #[.string ByteArray.empty,.int .i64 0]),2,24):=by kernel_rfl
theorem zmc {α:Type} (L:List α) (x:α) (i:Nat) (hi:i<=L.length) :
 (((L++[x]).take (i+1)++((L++[x]).drop i).take (L.length-i)++(L++[x]).drop (i+1+(L.length-i))).set i x)=L.take i++x :: L.drop i:=by
 have a:(L++[x]).drop (i+1+(L.length-i)) = []:=List.drop_eq_nil_of_le (by simp;omega)
 have b:((L++[x]).drop i).take (L.length-i)=L.drop i:=by
  rw [List.drop_append_of_le_length hi,List.take_append_of_le_length (by simp),List.take_of_length_le (by simp)]
 rw [a,b,List.append_nil];by_cases h:i<L.length
 · have c:(L++[x]).take (i+1)=L.take i++[L[i]]:=by
    rw [List.take_append_of_le_length (by omega),List.take_succ_eq_append_getElem h]
   rw [c,List.append_assoc,List.set_append_right _ _ (by simp;omega)];simp [show i-min i L.length=0 from by omega]
 obtain rfl:i=L.length:=by omega
 rw [List.take_of_length_le (by simp)];simp
set_option maxHeartbeats 1000000 in
theorem zdv (w:World) (v:Value) (L:Pairs) (i:Nat) (x:ByteArray×Int) (hv:SlF w 125 2 pairC v L) (hi:i<=L.length) (hl:L.length<=1099511627) :
 Calls Tryz.prog 154 #[v,.int .i64 i,.agg #[.string x.1,.int .i64 x.2]] w fun e w'=>∃ g o cap,e=.returned (.slice (some ⟨g,o,none⟩) (L.length+1) cap) ∧
  SlF w' 125 2 pairC (.slice (some ⟨g,o,none⟩) (L.length+1) cap) (L.take i++x :: L.drop i)/\Fr (fun b=>v.ownBlock=some b) w w'/\(v.ownBlock=some g\/w.heap.size<=g):=by
 obtain ⟨i0,Q,a0,T,a1⟩:=info_parts info127;have t:=zav (w.alloc (.cells #[.string x.1,.int .i64 x.2] 125)) [.string x.1,.int .i64 x.2] 125 (0,0);have HV:=H_ hv;clear hv;have ap:(0:Int)<=(i:Int):=by omega
 go_enter Tryz.func154,Tryz.ntmps154;go_wp2_with (at_builtin;refine zao rfl _ _ 122 rfl 125 i0 _ 2 24 Tryz.underlying122 Q a0 T a1 rfl (by decide) v L rfl ((HV.out.alloc _).alloc _) (w.heap.size+1) 1 x rfl (by simpa [pairC] using t) rfl ?c1 ?c2 ?c3 ?_)
 case c1=>intro u z;simp [pairC] at z;rcases z with rfl | rfl <;> rfl
 case c2=>unfold maxLen;omega
 case c3=>omega
 intro g o cap w1 B q N a7;have O:=HV.out.lt;have X:Fr (fun b=>v.ownBlock=some b) w w1:=((((Fr.refl _ w).alloc _).alloc _).grown q fun k hk=>.inl hk)
 have P:g≠w.heap.size:=by
  rintro rfl;rcases N with e | e
  · have:=O _ e;omega
  omega
 have d:v.ownBlock=some g\/w.heap.size<=g:=by
  rcases N with e | e
  · exact .inl e
  right;omega
 -- the box of x
 have R:w1.heap[w.heap.size]?=some (.cells #[.string x.1,.int .i64 x.2] 125 (0,0)):=by
  rw [q.block w.heap.size (by simp;omega) (fun e=>by have:=O _ e.symm;omega)];exact zaq (zae _ _ _ rfl) _
 obtain ⟨f,r,Z,hfit⟩:∃ f,w1.heap[g]?=some (.cells f 125 (0,0))/\L.length+1<=cap/\o+cap * 2<=f.size:=by
  rcases B.2 with ⟨h0,_⟩ | ⟨_,_,_,f,hv,hc,h2,h3,h4,W⟩
  · cases h0
  simp only [Value.slice.injEq,Option.some.injEq,Addr.mk.injEq,and_true] at hv
  obtain ⟨⟨rfl,rfl⟩,_,rfl⟩:=hv;exact ⟨f,hc,by simpa using h2,h4⟩
 have I:(L++[x]).length=L.length+1:=by simp
 have H1:=H_ B;clear B;have aa:=H_ q;clear q;have V:=H_ I;clear I;clear t;have ai:(i:Int)+1<=(L.length:Int)+1:=by omega
 have am:(0:Int)<=(i:Int)+1:=by omega
 have aj:(i:Int)<=(L.length:Int)+1:=by omega
 have ak:i+1<=L.length+1:=by omega
 have al:i<=L.length+1:=by omega
 go_wp2_with fail;refine wp_region_still_tail 7 (by kernel_rfl) (by kernel_rfl) ?_;simp only [List.take_succ_cons,List.take_zero,List.drop_succ_cons,List.drop_zero];change wpStill _ _ w1.drew _ _ _
 repeat (refine wpStill_step (fun K hK=>?_);go_simp;(try go_bits);refine hK _ ?_;clear hK K)
 refine wpStill_nil ?_;change wpList _ _ _ _ _ w1.drew
 have a:((((L++[x]).drop i).take (L.length-i)).flatMap pairC).length=(L.length-i) * 2:=by
  rw [zak zad];congr 1;simp;omega
 have s:Nat.min (L.length+1-i) (L.length-i)=L.length-i:=Nat.min_eq_right (by omega);refine zbn rfl _ _ 122 122 125 i0 rfl Tryz.underlying122 Q _ _ _ _ _ _ g (o+(i+1) * 2) f 125 ((((L++[x]).drop i).take (L.length-i)).flatMap pairC) rfl rfl r (by rw [a,T,s]) ?hpos ?hfit ?h1 ?_
 case hpos =>
  intro hp;rw [a] at hp;rw [if_neg (by omega),if_neg (by omega)];refine ⟨rfl,_,rfl,fun j u z=>?_⟩;have hj:=(List.getElem?_eq_some_iff.1 z).1;rw [a] at hj;have M:(⟨g,o+i * 2,none⟩:Addr).add j=⟨g,o+(i * 2+j),none⟩:=(by unfold Addr.add;split <;> simp_all [Nat.add_assoc]);rw [M];refine Sl.cell (by have:=H1.out;unfold SlF at this;rw [V.out] at this;exact this) (i * 2+j) ?_;rw [<-zdl zad,List.getElem?_take,if_pos (by omega)] at z;rw [<-z];have W:=congrArg (fun l=>List.flatMap pairC l) (List.take_append_drop i (L++[x]));simp only [List.flatMap_append] at W;have h6:(List.flatMap pairC (List.take i (L++[x]))).length=i * 2:=(by rw [zak zad];congr 1;simp;omega);rw [List.flatMap_append,<-W,List.getElem?_append_right (by rw [h6];omega),h6,show i * 2+j-i * 2=j from by omega]
 case hfit=>rw [a];omega
 case h1 =>
  intro u z;obtain ⟨y,_,F⟩:=List.mem_flatMap.1 z;simp [pairC] at F;rcases F with rfl | rfl <;> rfl
 intro G D n;generalize (if cap=i+1 then some (⟨g,o,none⟩:Addr) else some ⟨g,o+(i+1) * 2,none⟩)=A1;generalize (if cap=i then some (⟨g,o,none⟩:Addr) else some ⟨g,o+i * 2,none⟩)=A2;have C:=SlF.copied (w:=w1) (w':=G) (L:=L++[x]) zad (by have:=H1.out;rwa [V.out]) i (i+1) (L.length-i) (by simp;omega) (by simp;omega) f r (by rw [a] at D;exact D);have E:G.heap[w.heap.size]?=some (.cells #[.string x.1,.int .i64 x.2] 125 (0,0)):=(n.block w.heap.size (zac R) (fun e=>P (by cases e;rfl))).trans R;have b0:G.cell? ⟨w.heap.size,0,none⟩=some (.string x.1):=cellAt E 0 rfl;have b1:G.cell? ⟨w.heap.size,1,none⟩=some (.int .i64 x.2):=cellAt E 1 rfl;have HE:=H_ (zmc L x i hi)
 generalize J:((L++[x]).take (i+1)++((L++[x]).drop i).take (L.length-i)++(L++[x]).drop (i+1+(L.length-i)))=A at C HE;have m:A.length=L.length+1:=by rw [<-J];simp;omega
 obtain ⟨y,F⟩:∃ y,A[i]?=some y:=⟨_,List.getElem?_eq_getElem (by omega)⟩;have c:SlF G 125 2 pairC (.slice (some ⟨g,o,none⟩) A.length cap) A:=by rw [m];rwa [V.out] at C
 have d0:=c.cell0 zad i F rfl;have d1:=c.cell zad i 1 F rfl;have f0:=c.free (o+i * 2);have f1:=c.free (o+i * 2+1);have H2:=H_ c;have HY:=H_ F;have H:=H_ m;have U:=H_ n;have an:(i:Int)<(L.length:Int)+1:=by omega
 have ao:i<L.length+1:=by omega
 clear C c F J m n D E a s;go_wp2;go_ret;refine ⟨g,o,cap,rfl,?_,?_,d⟩
 · have e1:=SlF.set zad H2.out i 0 (by omega) y (x.1,y.2) (.string x.1) HY.out rfl
   have S:(A.set i (x.1,y.2)).length=A.length:=(by simp);have e2:=SlF.set (L:=A.set i (x.1,y.2)) zad (by rw [S];exact e1) i 1 (by omega) (x.1,y.2) x (.int .i64 x.2) (by rw [List.getElem?_set_self (by rw [H.out];omega)]) rfl;rw [List.set_set,S,HE.out,H.out] at e2;exact e2
 have Y:Fr (fun b=>v.ownBlock=some b) w G:=X.drew.grown U.out fun k hk=>by cases hk;exact d
 exact ((Y.setCell (p:=⟨g,o+i * 2,none⟩) d _).setCell (p:=⟨g,o+i * 2+1,none⟩) d _)
structure Nd where
 pairs:Pairs
 kids:List Nat
def nd0:Nd:=⟨[],[]⟩
abbrev Arr:=List Nd
def ndA (A:Arr) (i:Nat):Nd:=(A[i]?).getD nd0
theorem zap {A:Arr} {i:Nat} (x:Nd) (h:i<A.length):ndA (A.set i x) i=x:=by
 unfold ndA;rw [List.getElem?_set_self h];rfl
theorem zah {A:Arr} {i j:Nat} (x:Nd) (h:i≠j):ndA (A.set i x) j=ndA A j:=by
 unfold ndA;rw [List.getElem?_set_ne h]
theorem zlw {A:Arr} {j:Nat} (x:Nd) (h:j<A.length):ndA (A++[x]) j=ndA A j:=by
 unfold ndA;rw [List.getElem?_append_left h]
theorem zlx (A:Arr) (x:Nd):ndA (A++[x]) A.length=x:=by
 unfold ndA;simp
def weave (f:Nat->Pairs):List Nat->Pairs->Pairs
 | k :: K,p :: P=>f k++p :: weave f K P
 | k :: _,[]=>f k
 | [],_=>[]
def lw (f:Nat->Pairs):List Nat->Pairs->Pairs
 | k :: K,p :: P=>f k++p :: lw f K P
 | _,_=>[]
def rwv (f:Nat->Pairs):Pairs->List Nat->Pairs
 | p :: P,k :: K=>p :: (f k++rwv f P K)
 | _,_=>[]
theorem zky (f:Nat->Pairs):∀ (P:Pairs) (k:Nat) (K:List Nat),K.length=P.length->weave f (k :: K) P=f k++rwv f P K
 | [],k,[],_=>by simp [weave,rwv]
 | [],_,_ :: _,h=>by simp at h
 | _ :: _,_,[],h=>by simp at h
 | p :: P,k,k' :: K,h=>by
   have ih:=zky f P k' K (by simpa using h);simp [weave,rwv,ih]
theorem zom (f:Nat->Pairs):∀ (K1:List Nat) (P1:Pairs) (K:List Nat) (P:Pairs),K1.length=P1.length->weave f (K1++K) (P1++P)=lw f K1 P1++weave f K P
 | [],[],K,P,_=>by simp [lw]
 | [],_ :: _,_,_,h=>by simp at h
 | _ :: _,[],_,_,h=>by simp at h
 | k :: K1,p :: P1,K,P,h=>by
   have ih:=zom f K1 P1 K P (by simpa using h);simp [weave,lw,ih]
theorem zlb (f:Nat->Pairs):∀ (lp:Pairs) (lk:List Nat) (p:ByteArray×Int) (rp:Pairs) (rk:List Nat),lk.length=lp.length+1 →
 weave f (lk++rk) (lp++p :: rp)=weave f lk lp++p :: weave f rk rp
 | [],[k],p,rp,rk,_=>by simp [weave]
 | [],[],_,_,_,h=>by simp at h
 | [],_ :: _ :: _,_,_,_,h=>by simp at h
 | q :: lp,[],_,_,_,h=>by simp at h
 | q :: lp,k :: lk,p,rp,rk,h=>by
   have ih:=zlb f lp lk p rp rk (by simpa using h);simp [weave,ih]
theorem zhr {f g:Nat->Pairs}:∀ (K:List Nat) (P:Pairs),(∀ k∈K,f k=g k)->weave f K P=weave g K P
 | [],_,_=>by simp [weave]
 | k :: K,[],h=>by simp [weave,h k (by simp)]
 | k :: K,p :: P,h=>by
   have ih:=zhr K P fun k hk=>h k (by simp [hk]);simp [weave,ih,h k (by simp)]
theorem zfe {f g:Nat->Pairs}:∀ (K:List Nat) (P:Pairs),(∀ k∈K,f k=g k)->lw f K P=lw g K P
 | [],_,_=>by simp [lw]
 | k :: K,[],h=>by simp [lw]
 | k :: K,p :: P,h=>by
   have ih:=zfe K P fun k hk=>h k (by simp [hk]);simp [lw,ih,h k (by simp)]
theorem zdi {f g:Nat->Pairs}:∀ (P:Pairs) (K:List Nat),(∀ k∈K,f k=g k)->rwv f P K=rwv g P K
 | [],_,_=>by simp [rwv]
 | p :: P,[],h=>by simp [rwv]
 | p :: P,k :: K,h=>by
   have ih:=zdi P K fun k hk=>h k (by simp [hk]);simp [rwv,ih,h k (by simp)]
theorem zby {α β:Type} {f g:α->List β}:∀ (l:List α),(∀ x∈l,f x=g x)->l.flatMap f=l.flatMap g
 | [],_=>rfl
 | x :: l,h=>by
   rw [List.flatMap_cons,List.flatMap_cons,h x (by simp),zby l fun y hy=>h y (by simp [hy])]
def ntrav (A:Arr):Nat->Nd->Pairs
 | 0,nd=>nd.pairs
 | d+1,nd=>weave (fun k=>ntrav A d (ndA A k)) nd.kids nd.pairs
def nidx (A:Arr):Nat->Nd->List Nat
 | 0,_=>[]
 | d+1,nd=>nd.kids.flatMap fun k=>k :: nidx A d (ndA A k)
def nWf (A:Arr):Nat->Nd->Prop
 | 0,nd=>nd.kids = []
 | d+1,nd=>nd.kids.length=nd.pairs.length+1/\∀ k∈nd.kids,k<A.length/\4<=(ndA A k).pairs.length/\(ndA A k).pairs.length<=9/\nWf A d (ndA A k)
def own (A:Arr) (d at_:Nat):List Nat:=at_ :: nidx A d (ndA A at_)
def trav (A:Arr) (d at_:Nat):Pairs:=ntrav A d (ndA A at_)
theorem zbs {A A':Arr}:∀ (d:Nat) (nd:Nd),(∀ j∈nidx A d nd,ndA A' j=ndA A j)->ntrav A' d nd=ntrav A d nd/\nidx A' d nd=nidx A d nd
 | 0,_,_=>⟨rfl,rfl⟩
 | d+1,nd,h=>by
   have hk:∀ k∈nd.kids,ndA A' k=ndA A k/\ntrav A' d (ndA A k)=ntrav A d (ndA A k)/\nidx A' d (ndA A k)=nidx A d (ndA A k):=by
    intro k hk;have a:∀ j∈k :: nidx A d (ndA A k),ndA A' j=ndA A j:=fun j hj=>h j (List.mem_flatMap.2 ⟨k,hk,hj⟩);exact ⟨a k (by simp),zbs d _ fun j hj=>a j (by simp [hj])⟩
   constructor
   · exact zhr _ _ fun k hk'=>by show ntrav A' d (ndA A' k)=_;rw [(hk k hk').1,(hk k hk').2.1]
   exact zby _ fun k hk'=>by show k :: nidx A' d (ndA A' k)=_;rw [(hk k hk').1,(hk k hk').2.2]
theorem zck {A A':Arr} (hl:A.length<=A'.length):∀ (d:Nat) (nd:Nd),(∀ j∈nidx A d nd,ndA A' j=ndA A j)->nWf A d nd->nWf A' d nd
 | 0,_,_,h=>h
 | d+1,nd,h,hw=>by
   refine ⟨hw.1,fun k hk=>?_⟩;obtain ⟨h1,h2,h3,h4⟩:=hw.2 k hk;have h5:∀ j∈k :: nidx A d (ndA A k),ndA A' j=ndA A j:=fun j hj=>h j (List.mem_flatMap.2 ⟨k,hk,hj⟩);rw [h5 k (by simp)];exact ⟨by omega,h2,h3,zck hl d _ (fun j hj=>h5 j (by simp [hj])) h4⟩
theorem zid {A:Arr}:∀ (d:Nat) (nd:Nd),nWf A d nd->∀ j∈nidx A d nd,j<A.length
 | 0,_,_,j,hj=>by simp [nidx] at hj
 | d+1,nd,h,j,hj=>by
   obtain ⟨k,hk,hj⟩:=List.mem_flatMap.1 hj;obtain ⟨h1,_,_,h4⟩:=h.2 k hk;rcases List.mem_cons.1 hj with rfl | hj
   · exact h1
   exact zid d _ h4 j hj
theorem zes {A:Arr}:∀ (d:Nat) (lp:Pairs) (lk:List Nat) (p:ByteArray×Int) (rp:Pairs) (rk:List Nat),nWf A d ⟨lp,lk⟩->ntrav A d ⟨lp++p :: rp,lk++rk⟩=ntrav A d ⟨lp,lk⟩++p :: ntrav A d ⟨rp,rk⟩
 | 0,_,_,_,_,_,_=>rfl
 | _+1,lp,lk,p,rp,rk,h=>zlb _ lp lk p rp rk h.1
theorem zcv {A:Arr}:∀ (d:Nat) (lp:Pairs) (lk:List Nat) (P:Pairs) (rp:Pairs) (rk:List Nat),nidx A d ⟨P,lk++rk⟩=nidx A d ⟨lp,lk⟩++nidx A d ⟨rp,rk⟩
 | 0,_,_,_,_,_=>rfl
 | d+1,lp,lk,P,rp,rk=>by simp [nidx]
theorem znf {A:Arr}:∀ (d:Nat) (lp:Pairs) (lk:List Nat) (p:ByteArray×Int) (rp:Pairs) (rk:List Nat),nWf A d ⟨lp,lk⟩->nWf A d ⟨rp,rk⟩->nWf A d ⟨lp++p :: rp,lk++rk⟩
 | 0,_,_,_,_,_,h,h'=>by simp only [nWf] at *;simp [h,h']
 | d+1,lp,lk,p,rp,rk,h,h'=>by
   refine ⟨?_,fun k hk=>?_⟩
   · have:=h.1;have:=h'.1;simp at *;omega
   rcases List.mem_append.1 hk with hk | hk
   · exact h.2 k hk
   exact h'.2 k hk
theorem zet {A:Arr}:∀ (d:Nat) (P:Pairs) (K:List Nat) (i:Nat),nWf A d ⟨P,K⟩->i<P.length->nWf A d ⟨P.take i,K.take (i+1)⟩/\nWf A d ⟨P.drop (i+1),K.drop (i+1)⟩
 | 0,P,K,i,h,_=>by simp only [nWf] at *;simp [h]
 | d+1,P,K,i,h,hi=>by
   have h1:K.length=P.length+1:=h.1;refine ⟨⟨by simp;omega,fun k hk=>h.2 k (List.mem_of_mem_take hk)⟩,⟨by simp;omega,fun k hk=>h.2 k (List.mem_of_mem_drop hk)⟩⟩
theorem zdk {A:Arr} (d:Nat) (P:Pairs) (K:List Nat) (i:Nat) (p:ByteArray×Int) (h:nWf A d ⟨P,K⟩) (hp:P[i]?=some p) :
 ntrav A d ⟨P,K⟩=ntrav A d ⟨P.take i,K.take (i+1)⟩++p :: ntrav A d ⟨P.drop (i+1),K.drop (i+1)⟩:=by
 have a:=(List.getElem?_eq_some_iff.1 hp).1
 have b:P.drop i=p :: P.drop (i+1):=by
  rw [List.drop_eq_getElem_cons a,(List.getElem?_eq_some_iff.1 hp).2]
 rw [<-zes d _ _ p _ _ (zet d P K i h a).1,<-b,List.take_append_drop,List.take_append_drop]
theorem zso {A:Arr} (d:Nat) (P:Pairs) (K:List Nat) (i:Nat) (p q:ByteArray×Int) (h:nWf A d ⟨P,K⟩) (hp:P[i]?=some p) :
 ntrav A d ⟨P.set i q,K⟩=ntrav A d ⟨P.take i,K.take (i+1)⟩++q :: ntrav A d ⟨P.drop (i+1),K.drop (i+1)⟩:=by
 have a:=(List.getElem?_eq_some_iff.1 hp).1;have b:P.set i q=P.take i++q :: P.drop (i+1):=by rw [List.set_eq_take_append_cons_drop,if_pos a]
 have:=zes (A:=A) d (P.take i) (K.take (i+1)) q (P.drop (i+1)) (K.drop (i+1)) (zet d P K i h a).1;rw [List.take_append_drop] at this;rw [b,this]
theorem zwf {A:Arr}:∀ (d:Nat) (P Q:Pairs) (K:List Nat),nWf A d ⟨P,K⟩->Q.length=P.length->nWf A d ⟨Q,K⟩
 | 0,_,_,_,h,_=>h
 | d+1,P,Q,K,h,e=>⟨by have h1:K.length=P.length+1:=h.1;show K.length=Q.length+1;omega,h.2⟩
theorem zqa {A:Arr} (d:Nat) (P Q:Pairs) (K:List Nat):nidx A d ⟨P,K⟩=nidx A d ⟨Q,K⟩:=by cases d <;> rfl
structure Pt (A:Arr) (fr:List Nat) (d at_:Nat):Prop where
 lt:at_<A.length
 wf:nWf A d (ndA A at_)
 one:∀ x,(own A d at_).count x+fr.count x<=1
 free:∀ f∈fr,f<A.length/\ndA A f=nd0
structure Step (A:Arr) (fr:List Nat) (A':Arr) (fr':List Nat) (d at_:Nat):Prop where
 pt:Pt A' fr' d at_
 len:A.length<=A'.length
 chg:∀ j,j<A.length->j ∉ own A d at_->j ∉ fr->ndA A' j=ndA A j
 new:∀ j,j<A.length->(own A' d at_).count j+fr'.count j<=(own A d at_).count j+fr.count j
 cover:(own A' d at_).length+fr'.length+A.length=(own A d at_).length+fr.length+A'.length
theorem own_lt {A:Arr} {fr:List Nat} {d at_:Nat} (h:Pt A fr d at_):∀ j∈own A d at_,j<A.length:=by
 intro j a;rcases List.mem_cons.1 a with rfl | a
 · exact h.lt
 exact zid d _ h.wf j a
theorem Step.refl {A:Arr} {fr:List Nat} {d at_:Nat} (h:Pt A fr d at_):Step A fr A fr d at_ :=
 ⟨h,Nat.le_refl _,fun _ _ _ _=>rfl,fun _ _=>Nat.le_refl _,rfl⟩
theorem Step.trans {A A1 A2:Arr} {fr fr1 fr2:List Nat} {d at_:Nat} (h:Step A fr A1 fr1 d at_) (k:Step A1 fr1 A2 fr2 d at_):Step A fr A2 fr2 d at_ where
 pt:=k.pt
 len:=Nat.le_trans h.len k.len
 chg j hj h1 h2:=by
  have hn:=h.new j hj;rw [List.count_eq_zero.2 h1,List.count_eq_zero.2 h2] at hn;have h3:j ∉ own A1 d at_:=(by rw [<-List.count_eq_zero];omega);have h4:j ∉ fr1:=(by rw [<-List.count_eq_zero];omega);rw [k.chg j (Nat.lt_of_lt_of_le hj h.len) h3 h4,h.chg j hj h1 h2]
 new j hj:=Nat.le_trans (k.new j (Nat.lt_of_lt_of_le hj h.len)) (h.new j hj)
 cover:=by have:=h.cover;have:=k.cover;omega
/-! A node's kids. -/
theorem zkz (f:Nat->Pairs):∀ (Pm:Pairs) (Km:List Nat) (P2:Pairs) (K2:List Nat),Km.length=Pm.length+1->K2.length=P2.length->weave f (Km++K2) (Pm++P2)=weave f Km Pm++rwv f P2 K2
 | [],[k],P2,K2,_,h=>by simpa [weave] using zky f P2 k K2 h
 | [],[],_,_,h,_=>by simp at h
 | [],_ :: _ :: _,_,_,h,_=>by simp at h
 | p :: Pm,[],_,_,h,_=>by simp at h
 | p :: Pm,k :: Km,P2,K2,h,h'=>by
   have ih:=zkz f Pm Km P2 K2 (by simpa using h) h';simp [weave,ih]
theorem zbr {A:Arr} {d at_:Nat} {P:Pairs} {K1 Km K2:List Nat} (h:ndA A at_=⟨P,K1++Km++K2⟩):own A (d+1) at_=at_ :: (K1.flatMap (own A d)++Km.flatMap (own A d)++K2.flatMap (own A d)):=by
 unfold own;rw [h];simp only [nidx,List.flatMap_append]
theorem zbb {A:Arr} {d at_:Nat} {P1 Pm P2:Pairs} {K1 Km K2:List Nat} (h:ndA A at_=⟨P1++Pm++P2,K1++Km++K2⟩) (h1:K1.length=P1.length) (h2:K2.length=P2.length) (hm:Km.length=Pm.length+1) :
 trav A (d+1) at_=lw (trav A d) K1 P1++weave (trav A d) Km Pm++rwv (trav A d) P2 K2:=by
 unfold trav;rw [h]
 show weave _ (K1++Km++K2) (P1++Pm++P2)=_
 rw [List.append_assoc,List.append_assoc,zom _ K1 P1 _ _ h1,zkz _ Pm Km P2 K2 hm h2,List.append_assoc]
theorem zdj {A A':Arr} {d c:Nat} (hl:A.length<=A'.length) (h:∀ j∈own A d c,ndA A' j=ndA A j):ndA A' c=ndA A c/\own A' d c=own A d c/\trav A' d c=trav A d c/\(nWf A d (ndA A c)->nWf A' d (ndA A' c)):=by
 have a:=h c (by unfold own;simp);have b:∀ j∈nidx A d (ndA A c),ndA A' j=ndA A j:=fun j hj=>h j (by unfold own;simp [hj]);obtain ⟨e,f⟩:=zbs d (ndA A c) b;exact ⟨a,by unfold own;rw [a,f],by unfold trav;rw [a,e],fun hw=>by rw [a];exact zck hl d _ b hw⟩
theorem Pt.kid {A:Arr} {fr:List Nat} {d at_ k:Nat} (h:Pt A fr (d+1) at_) (hk:k∈(ndA A at_).kids):Pt A fr d k:=by
 obtain ⟨K1,K2,e⟩:=List.append_of_mem hk;have c:ndA A at_=⟨(ndA A at_).pairs,K1++[k]++K2⟩:=by rw [List.append_assoc,List.singleton_append,<-e]
 obtain ⟨a,_,_,b⟩:=h.wf.2 k hk;refine ⟨a,b,fun x=>?_,h.free⟩;have:=h.one x;rw [zbr c] at this;simp only [List.count_cons,List.count_append,List.flatMap_cons,List.flatMap_nil,List.append_nil] at this;omega
theorem Step.node {A A':Arr} {fr fr':List Nat} {d at_:Nat} {P1 Pm P2 Pm':Pairs} {K1 Km K2 Km':List Nat} (h:Pt A fr (d+1) at_) (hn:ndA A at_=⟨P1++Pm++P2,K1++Km++K2⟩) (h1:K1.length=P1.length) (h2:K2.length=P2.length)
 (hn':ndA A' at_=⟨P1++Pm'++P2,K1++Km'++K2⟩) (hm':Km'.length=Pm'.length+1) (hl:A.length<=A'.length)
 (chg:∀ j,j<A.length->j≠at_->j ∉ Km.flatMap (own A d)->j ∉ fr->ndA A' j=ndA A j)
 (hk:∀ k∈Km',k<A'.length/\4<=(ndA A' k).pairs.length/\(ndA A' k).pairs.length<=9/\nWf A' d (ndA A' k))
 (hfree:∀ f∈fr',f<A'.length/\ndA A' f=nd0)
 (hold:∀ x,x<A.length->(Km'.flatMap (own A' d)).count x+fr'.count x<=(Km.flatMap (own A d)).count x+fr.count x)
 (hnew:∀ x,A.length<=x->(Km'.flatMap (own A' d)).count x+fr'.count x<=1)
 (hcov:(Km'.flatMap (own A' d)).length+fr'.length+A.length=(Km.flatMap (own A d)).length+fr.length+A'.length) :
 Step A fr A' fr' (d+1) at_/\trav A' (d+1) at_=lw (trav A d) K1 P1++weave (trav A' d) Km' Pm'++rwv (trav A d) P2 K2:=by
 have i:=zbr (d:=d) hn
 have n:∀ x,(if at_=x then 1 else 0)+(K1.flatMap (own A d)).count x+(Km.flatMap (own A d)).count x+(K2.flatMap (own A d)).count x+fr.count x<=1:=by
  intro x;have:=h.one x;rw [i] at this;simp only [List.count_cons,List.count_append,beq_iff_eq] at this;omega
 have m:=own_lt h;rw [i] at m
 have b:∀ c,c∈K1\/c∈K2->ndA A' c=ndA A c/\own A' d c=own A d c/\trav A' d c=trav A d c/\(nWf A d (ndA A c)->nWf A' d (ndA A' c)):=by
  intro c a;refine zdj hl fun j hj=>?_
  have q:j<A.length:=m j (by
   rcases a with a | a
   · simp only [List.mem_cons,List.mem_append,List.mem_flatMap];exact .inr (.inl (.inl ⟨c,a,hj⟩))
   simp only [List.mem_cons,List.mem_append,List.mem_flatMap];exact .inr (.inr ⟨c,a,hj⟩))
  have w:0<(K1.flatMap (own A d)).count j\/0<(K2.flatMap (own A d)).count j:=by
   rcases a with a | a
   · exact .inl (List.count_pos_iff.2 (List.mem_flatMap.2 ⟨c,a,hj⟩))
   exact .inr (List.count_pos_iff.2 (List.mem_flatMap.2 ⟨c,a,hj⟩))
  have:=n j;refine chg j q (fun e=>?_) (List.count_eq_zero.1 (by omega)) (List.count_eq_zero.1 (by omega));rw [if_pos e.symm] at this;omega
 have g:=zbr (d:=d) hn';rw [zby K1 fun c a=>(b c (.inl a)).2.1,zby K2 fun c a=>(b c (.inr a)).2.1] at g;refine ⟨⟨⟨Nat.lt_of_lt_of_le h.lt hl,?_,fun x=>?_,hfree⟩,hl,fun j hj h3 h4=>?_,fun j hj=>?_,?_⟩,?_⟩
 · rw [hn']
   refine ⟨by simp only [List.length_append];omega,fun c a=>?_⟩
   have l:∀ c,c∈K1\/c∈K2->c<A'.length/\4<=(ndA A' c).pairs.length/\(ndA A' c).pairs.length<=9/\nWf A' d (ndA A' c):=by
    intro c a;obtain ⟨b1,_,_,u⟩:=b c a
    have o:c∈(ndA A at_).kids:=by
     rw [hn];rcases a with a | a <;> simp [a]
    obtain ⟨y,r,s,t⟩:=h.wf.2 c o;exact ⟨by omega,by rw [b1];exact r,by rw [b1];exact s,u t⟩
   rcases List.mem_append.1 a with a | a
   · rcases List.mem_append.1 a with a | a
     · exact l c (.inl a)
     exact hk c a
   exact l c (.inr a)
 · rw [g]
   simp only [List.count_cons,List.count_append,beq_iff_eq];have z:=n x;by_cases hx:x<A.length
   · have:=hold x hx
     omega
   have:=hnew x (by omega)
   have B:(K1.flatMap (own A d)).count x=0:=List.count_eq_zero.2 fun hm=>hx (m x (by simp only [List.mem_cons,List.mem_append];exact .inr (.inl (.inl hm))));have C:(K2.flatMap (own A d)).count x=0:=List.count_eq_zero.2 fun hm=>hx (m x (by simp only [List.mem_cons,List.mem_append];exact .inr (.inr hm)));have v:¬ at_=x:=fun e=>hx (e▸h.lt);rw [if_neg v];omega
 · rw [i] at h3
   simp only [List.mem_cons,List.mem_append,not_or] at h3;exact chg j hj h3.1 h3.2.1.2 h4
 · rw [g,i]
   simp only [List.count_cons,List.count_append];have:=hold j hj;omega
 · rw [g,i]
   simp only [List.length_cons,List.length_append];omega
 rw [zbb hn' h1 h2 hm',zfe K1 P1 fun c a=>(b c (.inl a)).2.2.1,zdi P2 K2 fun c a=>(b c (.inr a)).2.2.1]
theorem Step.kid {A A':Arr} {fr fr':List Nat} {d at_ k:Nat} {P1 P2:Pairs} {K1 K2:List Nat} (h:Pt A fr (d+1) at_) (hn:ndA A at_=⟨P1++[]++P2,K1++[k]++K2⟩) (h1:K1.length=P1.length) (h2:K2.length=P2.length)
 (hs:Step A fr A' fr' d k) (h4:4<=(ndA A' k).pairs.length) (h9:(ndA A' k).pairs.length<=9) :
 Step A fr A' fr' (d+1) at_/\ndA A' at_=ndA A at_/\trav A' (d+1) at_=lw (trav A d) K1 P1++trav A' d k++rwv (trav A d) P2 K2:=by
 have a:=h.one at_;rw [zbr hn] at a;simp only [List.count_cons,List.count_append,List.flatMap_cons,List.flatMap_nil,List.append_nil,beq_self_eq_true,if_true] at a;have b:ndA A' at_=ndA A at_:=hs.chg at_ h.lt (List.count_eq_zero.1 (by omega)) (List.count_eq_zero.1 (by omega))
 have:=Step.node (A':=A') (fr':=fr') (Km':=[k]) (Pm':=[]) h hn h1 h2 (b.trans hn) rfl hs.len (fun j hj _ h3 h4=>hs.chg j hj (by simpa using h3) h4)
  (fun c hc=>by rw [List.mem_singleton.1 hc];exact ⟨hs.pt.lt,h4,h9,hs.pt.wf⟩) hs.pt.free (fun x hx=>by simpa using hs.new x hx) (fun x _=>by simpa using hs.pt.one x) (by simpa using hs.cover)
 exact ⟨this.1,b,by rw [this.2];rfl⟩
def takeI (A:Arr) (fr:List Nat):Nat:=(fr.getLast?).getD A.length
def takeA (A:Arr) (fr:List Nat):Arr:=if fr = [] then A++[nd0] else A
structure Took (A:Arr) (fr:List Nat):Prop where
 lt:takeI A fr<(takeA A fr).length
 new:ndA (takeA A fr) (takeI A fr)=nd0
 old:∀ j,j<A.length->ndA (takeA A fr) j=ndA A j
 len:A.length<=(takeA A fr).length
 cnt:∀ x,x<A.length->(if takeI A fr=x then 1 else 0)+fr.dropLast.count x=fr.count x
 far:A.length<=takeI A fr->takeI A fr=A.length/\fr = []
 cover:fr.dropLast.length+1+A.length=fr.length+(takeA A fr).length
theorem took {A:Arr} {fr:List Nat} (hf:∀ f∈fr,f<A.length/\ndA A f=nd0):Took A fr:=by
 by_cases h:fr = []
 · subst h
   refine ⟨by simp [takeI,takeA],?_,fun j hj=>?_,by simp [takeA],fun x hx=>?_,fun _=>⟨rfl,rfl⟩,by simp [takeA];omega⟩
   · show ndA (A++[nd0]) A.length=_
     exact zlx A nd0
   · show ndA (A++[nd0]) j=_
     exact zlw nd0 hj
   show (if A.length=x then 1 else 0)+_=_
   rw [if_neg (by omega)];rfl
 have b:takeI A fr=fr.getLast h:=by unfold takeI;rw [List.getLast?_eq_some_getLast h];rfl
 have a:takeA A fr=A:=(by unfold takeA;rw [if_neg h]);have d:=hf _ (List.getLast_mem h);have c:=List.dropLast_concat_getLast h;refine ⟨by rw [b,a];exact d.1,by rw [b,a];exact d.2,fun j _=>by rw [a],by rw [a];omega,fun x _=>?_,fun hx=>by rw [b] at hx;omega,?_⟩
 · rw [b]
   conv=>rhs;rw [<-c]
   rw [List.count_append,List.count_singleton];simp only [beq_iff_eq];omega
 rw [a]
 have:=congrArg List.length c;simp at this;have e:0<fr.length:=List.length_pos_iff.2 h;simp;omega
def kidA (A:Arr) (at_ i:Nat):Nat:=(ndA A at_).kids.getD i 0
def splitA (A:Arr) (fr:List Nat) (at_ i:Nat):Arr :=
 (((takeA A fr).set (takeI A fr) ⟨(ndA A (kidA A at_ i)).pairs.drop 5,(ndA A (kidA A at_ i)).kids.drop 5⟩).set (kidA A at_ i) ⟨(ndA A (kidA A at_ i)).pairs.take 4,(ndA A (kidA A at_ i)).kids.take 5⟩).set at_
   ⟨(ndA A at_).pairs.take i++(ndA A (kidA A at_ i)).pairs.getD 4 default :: (ndA A at_).pairs.drop i,(ndA A at_).kids.take (i+1)++takeI A fr :: (ndA A at_).kids.drop (i+1)⟩
theorem znx {β:Type} [BEq β] [LawfulBEq β] (f:Nat->List β) (k:Nat) (x:β):([k].flatMap f).count x=(f k).count x:=by simp
theorem zoo {A:Arr} {fr:List Nat} {d at_ kid:Nat} {P1 P2:Pairs} {K1 K2:List Nat} (h:Pt A fr (d+1) at_) (hn:ndA A at_=⟨P1++[]++P2,K1++[kid]++K2⟩) (h1:K1.length=P1.length) (h2:K2.length=P2.length)
 (h9:(ndA A kid).pairs.length=9):∃ mid,(ndA A kid).pairs[4]?=some mid/\Step A fr (splitA A fr at_ P1.length) fr.dropLast (d+1) at_/\trav (splitA A fr at_ P1.length) (d+1) at_=trav A (d+1) at_ ∧
   ndA (splitA A fr at_ P1.length) at_=⟨P1++[mid]++P2,K1++[kid,takeI A fr]++K2⟩ ∧
   ndA (splitA A fr at_ P1.length) kid=⟨(ndA A kid).pairs.take 4,(ndA A kid).kids.take 5⟩/\ndA (splitA A fr at_ P1.length) (takeI A fr)=⟨(ndA A kid).pairs.drop 5,(ndA A kid).kids.drop 5⟩ ∧
   kid≠at_/\takeI A fr≠at_/\takeI A fr≠kid:=by
 obtain ⟨mid,m⟩:∃ mid,(ndA A kid).pairs[4]?=some mid:=⟨_,List.getElem?_eq_getElem (by omega)⟩;have q:=took h.free;have M:kid∈(ndA A at_).kids:=by rw [hn];simp
 have B:=h.kid M;have F:=zbr (d:=d) hn
 have g:∀ x,(if at_=x then 1 else 0)+(K1.flatMap (own A d)).count x+((if kid=x then 1 else 0)+(nidx A d (ndA A kid)).count x)+(K2.flatMap (own A d)).count x+fr.count x<=1:=by
  intro x;have:=h.one x;rw [F] at this;simp only [List.count_cons,List.count_append,znx,beq_iff_eq] at this;have e:(own A d kid).count x=(if kid=x then 1 else 0)+(nidx A d (ndA A kid)).count x:=(by unfold own;rw [List.count_cons];simp only [beq_iff_eq];omega);rw [e] at this;omega
 have D:kid≠at_:=by
  intro e;have:=g kid;rw [if_pos e.symm,if_pos rfl] at this;omega
 have G:takeI A fr≠at_:=by
  intro e;have r:=q.cnt at_ h.lt;have z:=g at_;rw [if_pos e] at r;rw [if_pos rfl] at z;omega
 have H:takeI A fr≠kid:=by
  intro e;have r:=q.cnt kid B.lt;have z:=g kid;rw [if_pos e] at r;rw [if_pos rfl] at z;omega
 have E:kidA A at_ P1.length=kid:=by unfold kidA;rw [hn,<-h1];simp
 have n:splitA A fr at_ P1.length=(((takeA A fr).set (takeI A fr) ⟨(ndA A kid).pairs.drop 5,(ndA A kid).kids.drop 5⟩).set kid ⟨(ndA A kid).pairs.take 4,(ndA A kid).kids.take 5⟩).set at_ ⟨P1++[mid]++P2,K1++[kid,takeI A fr]++K2⟩:=by
  unfold splitA;rw [E,hn]
  congr 2
  · simp [List.getD,m]
  have e:K1++[kid]++K2=(K1++[kid])++K2:=rfl
  rw [List.take_append_of_le_length (by simp;omega),List.drop_append_of_le_length (by simp;omega),List.take_of_length_le (by simp;omega),List.drop_of_length_le (by simp;omega)];simp
 have N:=q.lt;have a4:=q.len;have a3:=B.lt;have a1:=h.lt;have V:ndA (splitA A fr at_ P1.length) at_=⟨P1++[mid]++P2,K1++[kid,takeI A fr]++K2⟩:=by rw [n];exact zap _ (by simp;omega)
 have I:ndA (splitA A fr at_ P1.length) kid=⟨(ndA A kid).pairs.take 4,(ndA A kid).kids.take 5⟩:=by
  rw [n,zah _ D.symm];exact zap _ (by simp;omega)
 have J:ndA (splitA A fr at_ P1.length) (takeI A fr)=⟨(ndA A kid).pairs.drop 5,(ndA A kid).kids.drop 5⟩:=by
  rw [n,zah _ G.symm,zah _ H.symm];exact zap _ N
 have O:∀ j,j<A.length->j≠at_->j≠kid->j≠takeI A fr->ndA (splitA A fr at_ P1.length) j=ndA A j:=by
  intro j k a b c;rw [n,zah _ (Ne.symm a),zah _ (Ne.symm b),zah _ (Ne.symm c),q.old j k]
 have nl:(splitA A fr at_ P1.length).length=(takeA A fr).length:=by rw [n];simp
 generalize splitA A fr at_ P1.length=A' at *;obtain ⟨wl,wr⟩:=zet d (ndA A kid).pairs (ndA A kid).kids 4 B.wf (by omega);have w:=zdk d (ndA A kid).pairs (ndA A kid).kids 4 mid B.wf m
 have l:nidx A d (ndA A kid)=nidx A d ⟨(ndA A kid).pairs.take 4,(ndA A kid).kids.take 5⟩++nidx A d ⟨(ndA A kid).pairs.drop 5,(ndA A kid).kids.drop 5⟩:=by
  rw [<-zcv d _ _ (ndA A kid).pairs,List.take_append_drop]
 have i:=zid d _ B.wf
 have low:∀ j∈nidx A d (ndA A kid),ndA A' j=ndA A j:=by
  intro j k;have r:=g j;have v:=q.cnt j (i j k);have z:0<(nidx A d (ndA A kid)).count j:=List.count_pos_iff.2 k;refine O j (i j k) (fun e=>?_) (fun e=>?_) (fun e=>?_)
  · rw [if_pos e.symm] at r;omega
  · rw [if_pos e.symm] at r;omega
  rw [if_pos e.symm] at v;omega
 have t:∀ j∈nidx A d ⟨(ndA A kid).pairs.take 4,(ndA A kid).kids.take 5⟩,ndA A' j=ndA A j:=fun j k=>low j (by rw [l];simp [k]);have u:∀ j∈nidx A d ⟨(ndA A kid).pairs.drop 5,(ndA A kid).kids.drop 5⟩,ndA A' j=ndA A j:=fun j k=>low j (by rw [l];simp [k]);obtain ⟨P,Q⟩:=zbs d _ t;obtain ⟨R,S⟩:=zbs d _ u;have ok:own A' d kid=kid :: nidx A d ⟨(ndA A kid).pairs.take 4,(ndA A kid).kids.take 5⟩:=by unfold own;rw [I,Q]
 have y:own A' d (takeI A fr)=takeI A fr :: nidx A d ⟨(ndA A kid).pairs.drop 5,(ndA A kid).kids.drop 5⟩:=by unfold own;rw [J,S]
 have o:own A d kid=kid :: (nidx A d ⟨(ndA A kid).pairs.take 4,(ndA A kid).kids.take 5⟩++nidx A d ⟨(ndA A kid).pairs.drop 5,(ndA A kid).kids.drop 5⟩):=by unfold own;rw [l]
 have T:=Step.node (A':=A') (fr':=fr.dropLast) (Pm':=[mid]) (Km':=[kid,takeI A fr]) h hn h1 h2 V rfl (by omega) (fun j k a b c=>?chg) ?hk ?hfree (fun x hx=>?hold) (fun x hx=>?hnew) ?hcov
 case chg =>
  have W:j ∉ own A d kid:=(by simpa using b);refine O j k a (fun e=>W (by rw [e,o];simp)) (fun e=>?_);have v:=q.cnt j k;rw [if_pos e.symm,List.count_eq_zero.2 c] at v;omega
 case hk =>
  intro c hc;have K:c=kid\/c=takeI A fr:=(by simpa using hc);rcases K with rfl | rfl
  · rw [I]
    exact ⟨by omega,by simp;omega,by simp;omega,zck (by omega) d _ t wl⟩
  rw [J]
  exact ⟨by omega,by simp;omega,by simp;omega,zck (by omega) d _ u wr⟩
 case hfree =>
  intro f U;have s:f∈fr:=List.dropLast_subset _ U;obtain ⟨C,L⟩:=h.free f s;have r:=g f;have z:0<fr.count f:=List.count_pos_iff.2 s;have v:=q.cnt f C;have h6:0<fr.dropLast.count f:=List.count_pos_iff.2 U;refine ⟨by omega,?_⟩;rw [O f C (fun e=>by rw [if_pos e.symm] at r;omega) (fun e=>by rw [if_pos e.symm] at r;omega) (fun e=>by rw [if_pos e.symm] at v;omega)];exact L
 case hold =>
  have v:=q.cnt x hx;simp only [List.flatMap_cons,List.flatMap_nil,List.append_nil,List.count_append,ok,y,o,List.count_cons,beq_iff_eq];omega
 case hnew =>
  have X:(nidx A d ⟨(ndA A kid).pairs.take 4,(ndA A kid).kids.take 5⟩).count x=0:=List.count_eq_zero.2 fun s=>by have:=i x (by rw [l];simp [s]);omega
  have Y:(nidx A d ⟨(ndA A kid).pairs.drop 5,(ndA A kid).kids.drop 5⟩).count x=0:=List.count_eq_zero.2 fun s=>by have:=i x (by rw [l];simp [s]);omega
  have Z:fr.dropLast.count x=0:=List.count_eq_zero.2 fun s=>by have:=(h.free x (List.dropLast_subset _ s)).1;omega
  have e4:¬ kid=x:=(by omega);simp only [List.flatMap_cons,List.flatMap_nil,List.append_nil,List.count_append,ok,y,List.count_cons,beq_iff_eq,X,Y,Z,if_neg e4]
  split <;> omega
 case hcov =>
  have v:=q.cover;simp only [List.flatMap_cons,List.flatMap_nil,List.append_nil,List.length_append,ok,y,o,List.length_cons];omega
 refine ⟨mid,m,T.1,?_,V,I,J,D,G,H⟩;rw [T.2,zbb hn h1 h2 rfl]
 congr 2
 simp only [weave];unfold trav;rw [I,J,P,R];exact w.symm
end Go.Proofs.YtdgkdfmfoonbpaaGreat