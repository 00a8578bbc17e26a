/- Own lemmas. -/
import Derived.Test.YtdgkdfmfoonbpaaGreatR27
import Derived.Test.YtdgkdfmfoonbpaaGreatR23
import Derived.Test.YtdgkdfmfoonbpaaGreatR26
import Derived.Test.YtdgkdfmfoonbpaaGreatR25
import Derived.Test.YtdgkdfmfoonbpaaGreatR07
import Derived.Test.YtdgkdfmfoonbpaaGreatR16
import Derived.Deep.DeepCutAuto
import Derived.Deep.RegionHeld3
namespace Go.Proofs.YtdgkdfmfoonbpaaGreat
open Go Go.Proofs Go.RowKit
set_option maxRecDepth 100000
theorem zse {a b:List Int} (ha:a.Pairwise (· < ·)) (hb:b.Pairwise (· < ·)) (h:∀ x,x∈a↔x∈b):a=b:=by
 induction a generalizing b with
 | nil =>
   cases b with
   | nil=>rfl
   | cons y b=>exact absurd ((h y).2 (List.mem_cons_self ..)) (by simp)
 | cons x a ih =>
   cases b with
   | nil=>exact absurd ((h x).1 (List.mem_cons_self ..)) (by simp)
   | cons y b =>
     obtain ⟨g,i⟩:=List.pairwise_cons.1 ha;obtain ⟨b1,b2⟩:=List.pairwise_cons.1 hb
     have f:x=y:=by
      rcases List.mem_cons.1 ((h x).1 (List.mem_cons_self ..)) with e | e
      · exact e
      rcases List.mem_cons.1 ((h y).2 (List.mem_cons_self ..)) with d | d
      · exact d.symm
      have:=b1 x e;have:=g y d;omega
     subst f;rw [ih i b2 fun z=>?_];have:=h z;rw [List.mem_cons,List.mem_cons] at this
     constructor
     · intro c
       rcases this.1 (.inr c) with e | e
       · subst e;exact absurd (g z c) (Int.lt_irrefl _)
       exact e
     intro c
     rcases this.2 (.inr c) with e | e
     · subst e;exact absurd (b1 z c) (Int.lt_irrefl _)
     exact e
theorem info3i:(Tryz.prog.info? 3).map (fun i=>(i.zero,i.size,i.bytes))=some (some (.int .i64 0),1,8):=by kernel_rfl
structure RngI (L:List (Int×Sm)) (es:Array MapEntry) (seen:Array Nat) (P:List Int):Prop where
 there:∀ p∈P,p∈L.map (·.1)
 nd:P.Nodup
 all:∀ x∈es.toList,seen.contains x.born=true->∀ i,x.key=.int .i64 i->i∈P
 old:∀ p∈P,∃ x∈es.toList,seen.contains x.born=true/\x.key=.int .i64 p
theorem zmg {L:List (Int×Sm)} (h:L.Pairwise fun a b=>a.1<b.1) {i:Int}:(∃ s,getH L i=some s)↔i∈L.map (·.1):=by
 constructor
 · rintro ⟨s,e⟩
   exact List.mem_map.2 ⟨_,(zfi h).1 e,rfl⟩
 intro c
 obtain ⟨p,d,rfl⟩:=List.mem_map.1 c;exact ⟨p.2,(zfi h).2 d⟩
set_option maxHeartbeats 8000000 in
theorem zta {w:World} {h st m:Nat} {hp:Int->Option Nat} {FL:Int->Nat->Prop} {H:Hb} (a:HubR w h st m hp FL H) (hn:H.L.length<=1000) :
 Calls Tryz.prog 43 #[.pointer (some ⟨h,0,none⟩)] w fun e w'=>∃ v,e=.returned v/\SlF w' 3 1 int1 v (H.L.map (·.1))/\Fr No w w'/\(∀ b,v.ownBlock=some b->w.heap.size<=b):=by
 have c3:=a.obj.cell 3 rfl;have lt:=a.obj.lt
 have d:∀ i p,hp i=some p->i∈H.L.map (·.1):=fun i p hi=>by
  rw [<-zmg a.ok.up]
  cases hg:getH H.L i with
  | none=>rw [(a.gone i hg).1] at hi;cases hi
  | some s=>exact ⟨s,rfl⟩
 have r:∀ i∈H.L.map (·.1),∃ p,hp i=some p:=fun i hi=>by
  obtain ⟨s,hs⟩:=(zmg a.ok.up).2 hi;obtain ⟨p,X,_⟩:=a.sm i s hs;exact ⟨p,X⟩
 obtain ⟨o,c,g,O,N,a9⟩:=a.map;have aJ:=run_range_map (P:=Tryz.prog) w 94 3 98 m o c Tryz.underlying94 g
 have b7:o.size<=1000:=by
  have X:=by
   classical
   exact zke (o.toList.map (·.key)) (H.L.map fun x=>Value.int .i64 x.1) O.2.2 fun x z=>by
    obtain ⟨e,he,rfl⟩:=List.mem_map.1 z;obtain ⟨i,X,_,h2⟩:=N e he;dsimp only at h2
    cases hl:hp i with
    | none=>rw [hl] at h2;cases h2
    | some p =>
      obtain ⟨q,f,e2⟩:=List.mem_map.1 (d i p hl);exact List.mem_map.2 ⟨q,f,by rw [X,e2]⟩
  simp only [List.length_map,Array.length_toList] at X;omega
 have ax:=H_ a.ok.up;have HB:=H_ g;have A:=H_ O;have ao:=H_ N;have ap:=H_ a9;have ay:=H_ d;have az:=H_ r;clear a g O N a9 d r;go_enter Tryz.func43,Tryz.ntmps43;go_wp2;clear aJ
 go_loopg [3] o.size (fun gg s3 wr=>∃ (seen:Array Nat) (k0:Nat) (v:Value) (P:List Int),s3=v/\gg=(leftOf o seen).size/\c<=k0/\P.length+gg<=o.size/\Hid (wr.heap[w.heap.size]?=some (.mapIter (some m) c seen k0)) ∧
  Hid (SlF wr 3 1 int1 v P)/\Hid (∀ b,v.ownBlock=some b->w.heap.size+1<=b)/\Hid (RngI H.L o seen P)/\Hid (Fr No w wr))
 case atStart=>exact ⟨#[],c,_,[],rfl,by rw [zoz],Nat.le_refl _,by simp,H_ (heap_alloc_new _ _),H_ (SlF.nil _ _ _ _),H_ (by simp [Value.ownBlock]),H_ ⟨by simp,by simp,by simp,by simp⟩,H_ ((Fr.refl No w).alloc _)⟩
 case round =>
  obtain ⟨seen,k0,v,P,rfl,b8,aG,b9,HI,HS,S,D,HF⟩:=hrel;have G:=HF.out.heap HB.out fun h=>h;have aI:=_root_.Go.run_next_at (P:=Tryz.prog) wr 0 w.heap.size m c k0 seen o c HI.out G A.out.1 aG;rcases aI with ⟨h0,E⟩ | ⟨e,he,w2,Q,E⟩
  · have cS:=zpu wr u3 P HS.out (by omega)
    have CS:=H_ cS;clear G cS;go_wp2_with (go_at_call 74;(with_reducible refine CS.out.mono ?_);rintro e w9 ⟨rfl,h9⟩;have H9:=H_ h9;clear h9);go_ret;obtain ⟨p3,p4⟩:=H9.out
    have aE:sortI P=H.L.map (·.1):=by
     refine zse (zpv D.out.nd) (by have:=ax.out;rwa [zch] at this) fun x=>?_;rw [zrx];refine ⟨D.out.there x,fun z=>?_⟩;obtain ⟨p,C⟩:=az.out x z;obtain ⟨y,hy,aL,_⟩:=ap.out x (.pointer (some ⟨p,0,none⟩)) (by rw [C];rfl);exact D.out.all y hy (zlz h0 y hy) x aL
    rw [aE] at p3;refine ⟨u3,rfl,p3,HF.out.trans p4 fun b g e=>?_,fun b g=>by have:=S.out b g;omega⟩;have:=S.out b e;omega
  obtain ⟨n,a3⟩:=mem_left he
  obtain ⟨i,d,aK,t⟩:=ao.out e n;have ag:=left_shrinks o seen e he;have aH:w.heap.size<wr.heap.size:=zac HI.out;have aa:w.heap.size<w2.heap.size:=(by rcases Q with rfl | rfl <;> exact aH);obtain ⟨M,F⟩:=zwj (b:=w.heap.size) Q (.mapIter (some m) c (seen.push e.born) c);have K:=zmy w2 w.heap.size (.mapIter (some m) c (seen.push e.born) c) aa
  have B:Fr No w (ChangeMaps.setBlock w2 w.heap.size (.mapIter (some m) c (seen.push e.born) c)):=HF.out.trans M fun j hj e'=>by
   have aA:j=w.heap.size:=e';omega
  have a0:=B.heap HB.out fun h=>h;have a4:=run_entry_at (P:=Tryz.prog) _ w.heap.size m c seen o c e K a0 n A.out.2.1
  have ae:SlF (ChangeMaps.setBlock w2 w.heap.size (.mapIter (some m) c (seen.push e.born) c)) 3 1 int1 u3 P:=HS.out.fr M fun b g e'=>by
   have aA:b=w.heap.size:=e';have:=S.out b g;omega
  obtain ⟨p,C⟩:∃ p,hp i=some p:=by
   cases hl:hp i with
   | none=>rw [hl] at t;cases t
   | some l=>exact ⟨l,rfl⟩
  have a8:=ay.out i p C;rw [d] at E;rw [d] at a4
  have ad:RngI H.L o (seen.push e.born) (P++[i]):=by
   refine ⟨fun q f=>?_,?_,fun x z I j hj=>?_,fun q f=>?_⟩
   · rcases List.mem_append.1 f with f | f
     · exact D.out.there q f
     rw [List.mem_singleton] at f;subst f
     exact a8
   · rw [List.nodup_append]
     refine ⟨D.out.nd,by simp,fun a ha b g hab=>?_⟩;rw [List.mem_singleton] at g;obtain ⟨x,z,I,R⟩:=D.out.old a ha;have:x=e:=zva A.out.2.2 z n (by rw [R,d,hab,g]);rw [this] at I;rw [a3] at I;cases I
   · rcases zsb A.out.2.1 n z I with h | h
     · exact List.mem_append_left _ (D.out.all x z h j hj)
     subst h
     rw [d] at hj;cases hj
     exact List.mem_append_right _ (List.mem_singleton_self _)
   rcases List.mem_append.1 f with f | f
   · obtain ⟨x,z,I,R⟩:=D.out.old q f
     exact ⟨x,z,zug I,R⟩
   rw [List.mem_singleton] at f;subst f
   exact ⟨e,n,zuh,d⟩
  have bc:=Nat.lt_of_lt_of_le lt B.size;generalize aD:ChangeMaps.setBlock w2 w.heap.size (.mapIter (some m) c (seen.push e.born) c)=V at *;generalize a6:(leftOf o (seen.push e.born)).size=gs at *;have al:=H_ a6;have am:=H_ K;have T:=H_ B;have av:=H_ ae;have au:=H_ ad;have U:=H_ ag;have b3:=H_ F;obtain ⟨i0,aF,aM,aN,aO⟩:=info_parts info3i;have ab:=zav V [.int .i64 i] 3 (0,0);have ar:=H_ ab;clear ad a6 K B ae F a0 M G t d aK C a8 he n a3 Q aa aD ag ab;go_wp2_with (at_builtin;refine zao rfl _ _ 48 rfl 3 i0 _ 1 8 Tryz.underlying48 aF aM aN aO rfl (by decide) _ P rfl (av.out.alloc _) V.heap.size 1 i rfl ar.out rfl ?c1 (by unfold maxLen;omega) (by omega) ?_)
  case c1=>intro u hu;simp [int1] at hu;rw [hu];rfl
  intro g7 o7 W w6 af a5 a1 aU;have J:Fr (fun b=>u3.ownBlock=some b) V w6:=((Fr.refl _ V).alloc _).trans ((Fr.refl _ _).grown a5 fun k hk=>.inl hk) fun _ _ h=>h;have a7:=J.heap am.out fun h=>by have:=S.out _ h;omega
  have Y:Fr No w w6:=T.out.trans J fun b g h=>by have:=S.out b h;omega
  have Z:∀ b,(Value.slice (some ⟨g7,o7,none⟩) (P.length+1) W).ownBlock=some b->w.heap.size+1<=b:=fun b g=>by
   have e:b=g7:=(by simpa [Value.ownBlock] using g.symm);rw [e];rcases a1 with h | h
   · exact S.out _ h
   have h':g7=V.heap.size+1:=by simpa using h
   have:=T.out.size;omega
  have aw:=H_ af;have an:=H_ a7;have ak:=H_ Y;have aq:=H_ Z;clear J a7 Y Z af a5 a1;go_wp2;go_roundg gs
  case rel=>exact ⟨seen.push e.born,c,_,P++[i],rfl,al.out.symm,Nat.le_refl _,by have:=U.out;simp;omega,an,H_ (by have:=aw.out;simpa using this),aq,au,ak⟩
  case measure=>have:=U.out;omega
def midH (D:Doc) (r:Int) (L:List (Int×Sm)) (i:Nat):List (Int×Sm):=(L.take i).map (fun p=>(p.1,lookS D r p.2))++L.drop i
theorem zsr (D:Doc) (r:Int) (L:List (Int×Sm)):midH D r L 0=L:=by simp [midH]
theorem zup (D:Doc) (r:Int) (L:List (Int×Sm)) {i:Nat} (h:L.length<=i):midH D r L i=L.map fun p=>(p.1,lookS D r p.2):=by
 unfold midH;rw [List.take_of_length_le h,List.drop_eq_nil_of_le h,List.append_nil]
theorem zuo (D:Doc) (r:Int) (L:List (Int×Sm)) (i:Nat):(midH D r L i).map (·.1)=L.map (·.1):=by
 unfold midH;rw [List.map_append,List.map_map];have:(L.take i).map ((fun p:Int×Sm=>p.1) ∘ fun p=>(p.1,lookS D r p.2))=(L.take i).map (·.1):=rfl;rw [this,<-List.map_append,List.take_append_drop]
theorem zwg (D:Doc) (r:Int) {L:List (Int×Sm)} (hu:L.Pairwise fun a b=>a.1<b.1) {i:Nat} {p:Int×Sm} (hp:L[i]?=some p):getH (midH D r L i) p.1=some p.2:=by
 have c:(midH D r L i).Pairwise fun a b=>a.1<b.1:=by
  rw [zch,zuo,<-zch];exact hu
 rw [zfi c];unfold midH;refine List.mem_append_right _ ?_;obtain ⟨d,e⟩:=List.getElem?_eq_some_iff.1 hp;rw [List.drop_eq_getElem_cons d,e];exact List.mem_cons_self ..
theorem zss (D:Doc) (r:Int) {L:List (Int×Sm)} (hu:L.Pairwise fun a b=>a.1<b.1) {i:Nat} {p:Int×Sm} (hp:L[i]?=some p):setH (midH D r L i) p.1 (lookS D r p.2)=midH D r L (i+1):=by
 obtain ⟨f,e⟩:=List.getElem?_eq_some_iff.1 hp
 have d:L=L.take i++p :: L.drop (i+1):=by
  rw [<-e,<-List.drop_eq_getElem_cons f,List.take_append_drop]
 have c:(L.take i++p :: L.drop (i+1)).Pairwise fun a b=>a.1<b.1:=by rw [<-d];exact hu
 rw [List.pairwise_append] at c;obtain ⟨_,g,j⟩:=c;obtain ⟨k,_⟩:=List.pairwise_cons.1 g;unfold midH setH;rw [List.drop_eq_getElem_cons f,e,List.map_append,List.map_cons,List.take_add_one,hp,List.map_append,Option.toList_some,List.map_cons,List.map_nil,List.append_assoc]
 congr 1
 · rw [List.map_map]
   refine List.map_congr_left fun q hq=>?_;have:=j q hq p (List.mem_cons_self ..)
   show (if q.1=p.1 then _ else _)=_
   rw [if_neg (by omega)]
 rw [if_pos rfl]
 show (p.1,lookS D r p.2) :: _=_
 refine congrArg _ ?_
 have:(L.drop (i+1)).map (fun q=>if q.1=p.1 then (p.1,lookS D r p.2) else q)=(L.drop (i+1)).map id:=List.map_congr_left fun q hq=>by
  have:=k q hq;rw [if_neg (by omega)]
  rfl
 rw [this,List.map_id]
 rfl
theorem zqb (D:Doc) (r:Int) {L:List (Int×Sm)} (_hu:L.Pairwise fun a b=>a.1<b.1) {i:Nat} {p:Int×Sm} (hp:L[i]?=some p) (hs:lookS D r p.2=p.2):midH D r L (i+1)=midH D r L i:=by
 obtain ⟨c,e⟩:=List.getElem?_eq_some_iff.1 hp;unfold midH;rw [List.drop_eq_getElem_cons c,e,List.take_add_one,hp,List.map_append,Option.toList_some,List.map_cons,List.map_nil,List.append_assoc,hs]
 rfl
theorem zkp {k:Nat} {S:St} {D:Doc} (h:Good k S D) (r:Int):(if zez S r r=0 then S.events.filter (insB r r) else [])=evsAt D r:=by
 obtain ⟨a,b⟩:=h.eventsDoc r r;unfold evsAt;rw [a,b]
 have:(fun e:Ev=>decide (e.kv.mod=r))=insB r r:=funext fun e=>by
  unfold insB outB;rw [Bool.eq_iff_iff];simp;omega
 rw [this]
theorem zgf {k:Nat} {S:St} {D:Doc} (h:Good k S D) (r:Int):(evsAt D r).length<=S.events.length:=by
 rw [<-zkp h]
 split
 · exact List.length_filter_le _ _
 exact Nat.zero_le _
theorem zqi (D:Doc) (h:Hb) (hf:h.fed<D.rev):feedH D h=feedH D (feed1 D h):=by
 unfold feedH
 have:(D.rev-h.fed).toNat=(D.rev-(feed1 D h).fed).toNat+1:=by
  show _=(D.rev-(h.fed+1)).toNat+1
  omega
 rw [this]
 rfl
theorem zqj (D:Doc) (h:Hb) (hf:¬ h.fed<D.rev):feedH D h=h:=by
 unfold feedH;rw [show (D.rev-h.fed).toNat=0 by omega]
 rfl
theorem zia {α:Type} {f:α->List Value} {P:Program} (w:World) (t ty e:TypeId) (i:TypeInfo) (z:Value) (ht:P.underlying t=some (.slice e)) (hi:P.info? e=some i) (hz:i.zero=some z) (hzs:z.cells.size=i.size) (hsz:0<i.size)
 (hf:∀ x,(f x).length=i.size) (v x:Value) (L M:List α) (h1:∀ x∈M,∀ u∈f x,u.oneCell'=true) (hv:SlF w e i.size f v L) (hx:SlF w e i.size f x M) (h63:L.length+M.length<=maxLen) (hbytes:(L.length+M.length) * i.bytes<=140737488355328) :
 ∃ v' w',(Builtin.append_ #[t,t] ty #[v,x]).run P w=.ok v' w'/\SlF w' e i.size f v' (L++M)/\Fr (fun b=>v.ownBlock=some b) w w'/\(∀ b,v'.ownBlock=some b->v.ownBlock=some b\/w.heap.size<=b):=by
 rcases Nat.eq_zero_or_pos M.length with r | m
 · obtain rfl:=List.eq_nil_of_length_eq_zero r
   obtain ⟨a,cap,rfl,C,_⟩:=hv.shape;obtain ⟨n,c,rfl,_⟩:=hx.shape;exact ⟨_,w,zeq w t ty e i ht hi a n _ cap c C,by rw [List.append_nil];exact hv,Fr.refl _ w,fun b hb=>.inl hb⟩
 obtain ⟨n,c,rfl,D,E,d⟩:=hx.shape
 obtain ⟨q,H,rfl⟩:=d m
 obtain ⟨g,o,cap,w',F,s,A,B,I⟩:=zcb (P:=P) w t ty e i z ht hi hz hzs hsz v L.length (L.flatMap f) hv ⟨q,H,none⟩ M.length c (M.flatMap f) (zak hf M) m
  (fun j u hu=>SlF.cells hf hx j u hu) (fun u hu=>by obtain ⟨y,l,G⟩:=List.mem_flatMap.1 hu;exact h1 y l u G) h63 hbytes
 refine ⟨_,w',F,?_,(Fr.refl _ w).grown A fun k hk=>.inl hk,fun b hb=>?_⟩
 · unfold SlF
   rw [List.length_append,List.flatMap_append];exact s
 obtain rfl:g=b:=by simpa [Value.ownBlock] using hb
 rcases B with e | e
 · exact .inl e
 right;omega
theorem zdq {α:Type} {f:α->List Value} {P:Program} {w:World} {ops:Array Oper} {rest:List Oper} {o:Oper} {a:Act} {Q:Exit->Act->World->Prop} (hgd:o.guard=none) (s x:Operand) (t:TypeId)
 (ho:o.op=.call { callee:=.builtin .append,args:=#[s,x],argTypes:=#[t,t] })
 (e:TypeId) (i:TypeInfo) (z:Value) (sz bytes:Nat) (ht:P.underlying t=some (.slice e)) (hi:P.info? e=some i) (hz:i.zero=some z) (hsize:i.size=sz) (hby:i.bytes=bytes) (hzs:z.cells.size=sz) (hsz:0<sz)
 (hf:∀ x,(f x).length=sz) (v xv:Value) (L M:List α) (h1:∀ x∈M,∀ u∈f x,u.oneCell'=true) (hs:a.eval s=v) (hx:a.eval x=xv) (hv:SlF w e sz f v L) (hxv:SlF w e sz f xv M)
 (h63:L.length+M.length<=maxLen) (hbytes:(L.length+M.length) * bytes<=140737488355328)
 (h:∀ (b:Option Addr) (k cap:Nat) (w':World),SlF w' e sz f (.slice b k cap) (L++M)->(∀ j,(Value.slice b k cap).ownBlock=some j->v.ownBlock=some j\/w.heap.size<=j)->Fr (fun b=>v.ownBlock=some b) w w'->wpList P ops Q rest (a.put o.dst (.slice b k cap)) w'):wpList P ops Q (o :: rest) a w:=by
 subst hsize;subst hby;refine wpList_plain hgd fun _ hK=>?_;obtain ⟨v',w',l,c,d,g⟩:=zia (P:=P) (f:=f) w t o.type e i z ht hi hz hzs hsz hf v xv L M h1 hv hxv h63 hbytes;obtain ⟨b,cap,rfl,_⟩:=c.shape;unfold Oper.wp execOp;simp only [ho,resolve,invoke,builtin,Sem.run_bind,Sem.run_pure,Result.andThen_ok,List.map_toArray,List.map_cons,List.map_nil,hs,hx,l];exact hK _ _ (h b _ cap w' c g d)
theorem zwh {D:Doc} {r en:Int} {E:List Ev} (h1:zax D r r=en) (h2:evsAt D r=E) (s:Sm):lookS D r s=if s.place=r/\en=0/\s.buf.length+(wantsW s.w E).length<=64 then ⟨s.w,s.buf++wantsW s.w E,s.place+1⟩ else s:=by
 subst h1;subst h2
 rfl
theorem zgg (x:Ev):∀ u∈evC x,u.oneCell'=true:=by
 intro u a;simp [evC,kvC] at a;rcases a with h | h | h | h | h | h | h | h | h | h | h | h | h <;> (rw [h];rfl)
def HbB (H:Hb):Prop:=∀ p∈H.L,p.2.buf.length<=64
theorem zut {D:Doc} {r:Int} {s:Sm} (h:s.buf.length<=64):(lookS D r s).buf.length<=64:=by
 unfold lookS
 split
 · rename_i hc
   rw [List.length_append];exact hc.2.2
 exact h
theorem HbB.feed1 {H:Hb} (h:HbB H) (D:Doc):HbB (feed1 D H):=fun p hp=>by
 obtain ⟨q,hq,rfl⟩:=List.mem_map.1 hp;exact zut (h q hq)
set_option maxHeartbeats 16000000 in
theorem zrg {TA:zai} {N:Nat} (hT:TreeOk TA N) {k:Nat} {S:St} {D:Doc} (hG:Good k S D) {w:World} {h st:Nat} {H:Hb} {F G:Nat->Prop} (hH:HubAt w h st H F) (hS:zal TA w st S G) (hd:∀ b,F b->¬ G b)
 (hev:S.events.length<=11000000) (hne:1<=S.rev->0<S.events.length) (hf0:0<=H.fed) (hr:S.rev<=11000000) (hL:H.L.length<=1000) (hla:H.last<=11000000) (hB:HbB H) :
 Calls Tryz.prog 13 #[.pointer (some ⟨h,0,none⟩)] w fun e w'=>e=.returned (.tuple #[])/\∃ F',HubAt w' h st (feedH D H) F'/\Fr F w w'/\∀ b,F' b->F b\/w.heap.size<=b:=by
 obtain ⟨m,hp,FL,a,hF⟩:=hH;have d7:S.rev=D.rev:=hG.rev;have bL:=H_ hG;have HS:=H_ hS;have HD:=H_ hd;have HA:=H_ a;have bK:=H_ hF;have bG:=H_ hB;have bo:=fun W (hW:Fr F w W)=>zdc W st S G (hS.fr hT hW fun b o a1=>hd b a1 o)
 have bb:∀ W,Fr F w W->∀ r:Int,Calls Tryz.prog 42 #[.pointer (some ⟨st,0,none⟩),.int .i64 r,.int .i64 r] W fun e w'=>∃ v,e=.returned (.tuple #[v,.int .i64 (zax D r r)])/\SlF w' 72 13 evC v (evsAt D r)/\Fr No W w'/\(∀ k,v.ownBlock=some k->W.heap.size<=k):=fun W hW r=>by
  have e1:=zcy hT W st S G (hS.fr hT hW fun b o a1=>hd b a1 o) (by omega) hne r r;rw [zkp hG r,(hG.eventsDoc r r).1] at e1;exact e1
 have bQ:=H_ bo;have bH:=H_ bb;clear a hF hB hG hS hd bo bb;go_enter Tryz.func13,Tryz.ntmps13;go_upto_region 1 with fail
 go_loopg [2] (D.rev-H.fed).toNat (fun gg _ wr=>∃ (y:Int->Nat->Prop) (c:Hb),gg=(D.rev-c.fed).toNat/\0<=c.fed/\c.L.length<=1000/\c.last<=11000000/\Hid (HbB c)/\Hid (HubR wr h st m hp y c)/\Hid (feedH D c=feedH D H)/\Hid (Fr F w wr)/\Hid (∀ b,hubF h m y b->F b\/w.heap.size<=b))
 case atStart=>exact ⟨FL,H,rfl,hf0,hL,hla,bG,HA,H_ rfl,H_ (Fr.refl F w),H_ fun b o=>.inl ((bK.out b).2 o)⟩
 case round =>
  obtain ⟨y,c,d2,d1,b9,bj,aO,X,aQ,ap,ad⟩:=hrel;have RV:=H_ (bQ.out wr.drew ap.out.drew);have O:=X.out.obj.cell 1 rfl;have c0:=X.out.obj.cell 0 rfl;have lh:=X.out.obj.lt;have q0:wr.cell? ⟨h,0,none⟩=some (.pointer (some ⟨st,0,none⟩))/\wr.cell? ⟨h,1,none⟩=some (.int .i64 c.fed):=⟨c0,O⟩;have q1:wr.drew.cell? ⟨h,0,none⟩=some (.pointer (some ⟨st,0,none⟩))/\wr.drew.cell? ⟨h,1,none⟩=some (.int .i64 c.fed):=⟨c0,O⟩;clear c0 O;go_upto_region 1 with fail
  go_region_held3 (fun W=>W.cell? ⟨h,0,none⟩=some (.pointer (some ⟨st,0,none⟩))/\W.cell? ⟨h,1,none⟩=some (.int .i64 c.fed))
   (first | with_reducible exact q0 | with_reducible exact q1 | fail)
   (first | (go_at_call 40;(with_reducible refine RV.out.mono ?_);rintro e w1 ⟨rfl,rfl⟩) | fail)
  generalize aG:wr.drew=W0 at *;have B:Hid (HubR W0 h st m hp y c):=H_ (aG▸X.out.fr (Fr.refl No wr).drew fun _ _ x=>x);have aq:Hid (Fr F w W0):=H_ (aG▸ap.out.drew);clear aG X ap RV q0 q1 lh
  cases gk with
  | zero =>
    have cj:¬ c.fed<S.rev:=(by omega);go_wp2_with fail;refine bodyPost_end (results_none rfl _ _ _) rfl ⟨rfl,hubF h m y,?_,aq.out,ad.out⟩;rw [<-aQ.out,zqj D c (by omega)];exact ⟨m,hp,y,B.out,fun _=>Iff.rfl⟩
  | succ q =>
    have cj:c.fed<S.rev:=(by omega);have O:=B.out.obj.cell 1 rfl;have f1:=B.out.obj.free 1;have lh:=B.out.obj.lt;have d9:IntKind.i64.wrap (c.fed+1)=c.fed+1:=(by rw [IntKind.wrap_i64];omega);go_upto_region 3 with fail;have aA:Fr (fun x=>x=h) W0 (W0.setCell ⟨h,1,none⟩ (.int .i64 (c.fed+1))):=(Fr.refl (fun x=>x=h) W0).setAt 1 _;have Z:HubR (W0.setCell ⟨h,1,none⟩ (.int .i64 (c.fed+1))) h st m hp y ⟨c.fed+1,c.last,c.L⟩:=B.out.setObj aA (B.out.obj.set 1 (.int .i64 (c.fed+1))) ⟨B.out.ok.up,B.out.ok.ids,B.out.ok.last⟩
    have av:Fr F w (W0.setCell ⟨h,1,none⟩ (.int .i64 (c.fed+1))):=aq.out.trans aA fun x hx e=>by
     have e':x=h:=e;rcases ad.out x (.inl e') with f | f
     · exact f
     omega
    generalize W0.setCell ⟨h,1,none⟩ (.int .i64 (c.fed+1))=W1 at *;clear O f1 lh aA B aq;have U:=H_ Z;have aR:=H_ av;have ev:=bH.out W1.drew av.drew (c.fed+1);have c9:=Nat.le_trans (zgf bL.out (c.fed+1)) hev;generalize bd:zax D (c.fed+1) (c.fed+1)=en at *;generalize hE:evsAt D (c.fed+1)=E at *;have EV:=H_ ev;have bI:=H_ bd;have bJ:=H_ hE;clear ev bd hE;have O:=Z.obj.cell 1 rfl;have c0:=Z.obj.cell 0 rfl;have lh:=Z.obj.lt;have q0:W1.cell? ⟨h,0,none⟩=some (.pointer (some ⟨st,0,none⟩))/\W1.cell? ⟨h,1,none⟩=some (.int .i64 (c.fed+1)):=⟨c0,O⟩;have q1:W1.drew.cell? ⟨h,0,none⟩=some (.pointer (some ⟨st,0,none⟩))/\W1.drew.cell? ⟨h,1,none⟩=some (.int .i64 (c.fed+1)):=⟨c0,O⟩;clear c0 O Z av
    go_region_held3 (fun W=>W.cell? ⟨h,0,none⟩=some (.pointer (some ⟨st,0,none⟩))/\W.cell? ⟨h,1,none⟩=some (.int .i64 (c.fed+1)))
     (first | with_reducible exact q0 | with_reducible exact q1 | with_reducible exact q2 | fail)
     (first | (go_at_call 42;(with_reducible refine EV.out.mono ?_);rintro e w1 ⟨v1,rfl,aC,ah,bl⟩;obtain ⟨la,lc,rfl,ce,cf,cg⟩:=aC.shape;have q2:=(⟨ah.cell0 q1.1,ah.cell0 q1.2⟩:w1.cell? ⟨h,0,none⟩=some (.pointer (some ⟨st,0,none⟩))/\w1.cell? ⟨h,1,none⟩=some (.int .i64 (c.fed+1)))) | fail)
    have aw:Fr No W1 w1:=(Fr.refl No W1).drew.trans0 ah;have b6:=U.out.fr aw fun _ _ x=>x;have bi:=zta b6 b9;have aV:=H_ bi;have b4:=H_ aC;have ar:=H_ aw;have aY:Hid (∀ b,(Value.slice la E.length lc).ownBlock=some b->W1.heap.size<=b):=H_ fun b o=>by have:=bl b o;simpa using this
    clear bi b6 aw aC ah bl q0 q1 q2 EV ce cf cg lh;go_upto_region 5 with (go_at_call 43;(with_reducible refine aV.out.mono ?_);rintro e w2 ⟨v2,rfl,aD,aF,bm⟩;obtain ⟨ia,ic,rfl,cb,cc,bh⟩:=aD.shape);have bS:=H_ aD;have Y:=H_ (ar.out.trans0 aF);have bE:=H_ (U.out.fr Y.out fun _ _ x=>x);have aZ:Hid (∀ b,(Value.slice ia (c.L.map (·.1)).length ic).ownBlock=some b->W1.heap.size<=b):=H_ fun b o=>by have:=bm b o;have:=ar.out.size;omega
    have bT:=H_ (b4.out.fr0 aF);have bM:=H_ bh;have d4:(c.L.map (·.1)).length=c.L.length:=List.length_map _;clear aD aF bm aV b4 ar cb cc bh;generalize c5:w2=W2 at *;clear c5
    go_loopg [46] c.L.length (fun g s46 wx=>∃ (i:Nat) (A:Int->Nat->Prop),s46=.int .i64 i/\i+g=c.L.length/\Hid (HubR wx h st m hp A ⟨c.fed+1,c.last,midH D (c.fed+1) c.L i⟩)/\Hid (Fr (hubF h m y) W2 wx)/\Hid (∀ b,hubF h m A b->hubF h m y b\/W2.heap.size<=b))
    case atStart=>exact ⟨0,y,rfl,by simp,H_ (by rw [zsr];exact bE.out),H_ (Fr.refl _ W2),H_ fun b o=>.inl o⟩
    case round =>
     obtain ⟨i,A,rfl,d3,I,P,J⟩:=hrel;have a0:Fr (hubF h m y) W1 wr:=(Y.out.mono fun _ _ x=>x.elim).trans P.out fun b _ x=>x
     cases gk with
     | zero =>
       have cd:¬ (i:Int)<(c.L.length:Int):=(by omega);go_wp2_with fail;go_roundg q
       case rel =>
        have hm:=zup D (c.fed+1) c.L (i:=i) (by omega);have n:=I.out;rw [hm] at n;refine ⟨A,feed1 D c,?_,?_,?_,bj,H_ (aO.out.feed1 D),H_ n,H_ (by rw [<-zqi D c (by omega)];exact aQ.out),H_ (aR.out.trans a0 fun b o x=>?_),H_ fun b o=>?_⟩
        · show q=(D.rev-(c.fed+1)).toNat
          omega
        · show 0<=c.fed+1
          omega
        · show (c.L.map _).length<=1000
          rw [List.length_map];exact b9
        · rcases ad.out b x with f | f
          · exact f
          omega
        rcases J.out b o with f | f
        · exact ad.out b f
        right
        have:=Y.out.size;have:=aR.out.size;omega
       case measure=>omega
     | succ r =>
       have cd:(i:Int)<(c.L.length:Int):=(by omega);obtain ⟨gi,oi,rfl⟩:=bM.out (by omega);obtain ⟨pp,Q⟩:∃ x,c.L[i]?=some x:=⟨_,List.getElem?_eq_getElem (by omega)⟩;obtain ⟨id,s⟩:=pp;have ag:c.L.Pairwise fun a b=>a.1<b.1:=U.out.ok.up;have T:=zwg D (c.fed+1) ag Q;have a6:=zss D (c.fed+1) ag Q;have a5:=zqb D (c.fed+1) ag Q;have c8:s.buf.length<=64:=aO.out _ (List.mem_of_getElem? Q);dsimp only at T a6 a5;obtain ⟨t,a4,bv,z,b7⟩:=I.out.sm id s T;have ao:=U.out.ok.ids _ (List.mem_of_getElem? Q);dsimp only at ao
       have bs:=bS.out.fr P.out fun b o x=>by
        have f:=aZ.out b o;have h2:=U.out.lt b x;omega
       have ci:=bs.cell1 zbj i (x:=id) (u:=.int .i64 id) (by rw [List.getElem?_map,Q];rfl) rfl;have li:=World.block_lt_of_cell? _ _ ci
       have br:=bT.out.fr P.out fun b o x=>by
        have f:=aY.out b o;have h2:=U.out.lt b x;omega
       have k0:=z.obj.cell 0 rfl;have k1:=z.obj.cell 1 rfl;have k2:=z.obj.cell 2 rfl;have k3:=z.obj.cell 3 rfl;have k4:=z.obj.cell 4 rfl;have k5:=z.obj.cell 5 rfl;have k6:=z.obj.cell 6 rfl;have k7:=z.obj.cell 7 rfl;have lp:=z.obj.lt;have O:=I.out.obj.cell 1 rfl;have c3:=I.out.obj.cell 3 rfl;have lh:=I.out.obj.lt;have bu:(Lit.int .i64 id).wf=true:=wf64 (by omega) (by omega);have hv:((hp id).map fun b=>Value.pointer (some ⟨b,0,none⟩)).getD (.pointer none)=.pointer (some ⟨t,0,none⟩):=(by rw [a4];rfl);have HM:=H_ I.out.map;have HV:=H_ hv;have bU:=H_ bu;have V:=H_ z;have aa:=H_ b7;have aU:=H_ T;have b3:=H_ a6;have ai:=H_ a5;have bP:=H_ a4;have b5:=H_ br;have cE:=H_ a0;have aW:=H_ (zwh bI.out bJ.out s)
       clear ag Q T a6 a5 a4 z b7 bs br bu hv a0 ao;go_upto_region 8 with (at_lookup;refine zbf rfl _ _ 94 rfl 3 98 Tryz.underlying94 Tryz.underlying3 m _ rfl HM.out id rfl bU.out _ (zero98 _) _ HV.out ?_)
       go_cut [68] (fun s68 wx=>s68=.bool (decide (¬ (s.place=c.fed+1/\en=0)))/\wx=wr.drew)
       case first =>
        by_cases hc1:s.place=c.fed+1
        · rw [hc1] at k7
          have q0:wr.cell? ⟨t,7,none⟩=some (.int .i64 (c.fed+1))/\wr.cell? ⟨h,1,none⟩=some (.int .i64 (c.fed+1)):=⟨k7,O⟩;have q1:wr.drew.cell? ⟨t,7,none⟩=some (.int .i64 (c.fed+1))/\wr.drew.cell? ⟨h,1,none⟩=some (.int .i64 (c.fed+1)):=⟨k7,O⟩;clear k0 k1 k2 k3 k4 k5 k6 k7 O c3 ci
          go_region_held3 (fun W=>W.cell? ⟨t,7,none⟩=some (.int .i64 (c.fed+1))/\W.cell? ⟨h,1,none⟩=some (.int .i64 (c.fed+1)))
           (first | with_reducible exact q0 | with_reducible exact q1 | fail)
           (first | fail)
          all_goals
           go_wp2;go_meet
           case rel=>exact ⟨by congr 1;rw [Bool.eq_iff_iff];simp [hc1],rfl⟩
        have q1:wr.drew.cell? ⟨t,7,none⟩=some (.int .i64 s.place):=k7
        have q2:wr.drew.cell? ⟨h,1,none⟩=some (.int .i64 (c.fed+1)):=O;have l1:t<wr.drew.heap.size:=lp;have l2:h<wr.drew.heap.size:=lh;have cZ:decide (s.place=c.fed+1)=false:=decide_eq_false hc1;have d0:(s.place != c.fed+1)=true:=(by simpa using hc1);clear k0 k1 k2 k3 k4 k5 k6 k7 O c3 ci;refine zba (C:=fun W=>W=wr.drew) (by kernel_rfl) (by kernel_rfl) rfl ?_
        repeat (refine (wpQuiet_step (fun K hK=>?_):_)
                go_simp
                first
                 | (refine hK _ ?_;clear hK K)
                 | (apply Exists.intro
                    refine ⟨fun W hW=>?_,hK _ ?_⟩
                    (first
                      | exact rfl
                      | (subst hW;go_simp;exact rfl))
                    clear hK K))
        refine (wpQuiet_nil ?_:_);intro w9 cp;subst cp;go_wp2;go_meet
        case rel=>exact ⟨by simp [hc1],rfl⟩
       case rest =>
       obtain ⟨rfl,bt⟩:=hcut;rw [bt];clear bt;by_cases hc:s.place=c.fed+1/\en=0
       · have af:decide (¬ (s.place=c.fed+1/\en=0))=false:=by simp [hc]
         rw [af]
         have R:lookS D (c.fed+1) s=if s.buf.length+(wantsW s.w E).length<=64 then ⟨s.w,s.buf++wantsW s.w E,s.place+1⟩ else s:=by
          rw [aW.out];by_cases h:s.buf.length+(wantsW s.w E).length<=64
          · rw [if_pos ⟨hc.1,hc.2,h⟩,if_pos h]
          rw [if_neg fun x=>h x.2.2,if_neg h]
         have R:=H_ R;obtain ⟨ba,bc,rfl,c6,a1,c7⟩:=V.out.buf.shape;have aH:=zgw wr.drew s.w _ E b5.out c9;unfold wtV at aH;have d6:=zcd s.w E;generalize wantsW s.w E=M at *;have bV:=H_ aH;have bW:=H_ hc.1;have z6:wr.cell? ⟨t,6,none⟩=some (.slice ba s.buf.length bc):=k6;have dg:t<wr.drew.heap.size:=lp;clear aH hc af O c3 ci c6 a1 c7 k6;go_upto_region 10 with (go_at_call 44;(with_reducible refine bV.out.mono ?_);rintro e w3 ⟨v3,rfl,aE,be,ck⟩;obtain ⟨a3,bZ,rfl,cl,cm,cn⟩:=aE.shape);have ae:Fr No wr w3:=(Fr.refl No wr).drew.trans0 be;have o3:=V.out.obj.fr ae fun x=>x;have y6:=o3.cell 6 rfl;have y7:=o3.cell 7 rfl;have fz:=fun j=>o3.free j;have f6:=fz 6;have f7:=fz 7;have dh:=o3.lt;have aP:=H_ (V.out.buf.fr0 ae);have aX:=H_ aE;have bN:=H_ o3
         have a9:=H_ ae;have da:IntKind.i64.wrap ((s.buf.length:Int)+(M.length:Int))=(s.buf.length:Int)+(M.length:Int):=(by rw [IntKind.wrap_i64];omega);clear o3 fz aE be ck ae cl cm cn z6 k0 k1 k2 k3 k4 k5 k7;by_cases hle:s.buf.length+M.length<=64
         · have bk:(s.buf.length:Int)+(M.length:Int)<=64:=by omega
           obtain ⟨i0,ca,cq,cr,cs⟩:=info_parts info72;go_upto_region 12 with (at_builtin;refine zdq rfl _ _ 41 rfl 72 i0 _ 13 136 Tryz.underlying41 ca cq cr cs rfl (by decide) zaa (.slice ba s.buf.length bc) (.slice a3 M.length bZ) s.buf M (fun x _=>zgg x) rfl rfl aP.out aX.out (by unfold maxLen;omega) (by omega) ?_;intro ab ak ac w4 bp ax a2;have ay:=V.out.d;have c2:=a2.free y6 f6 ay;have bw:=a2.cell y6 ay;have cz:=World.block_lt_of_cell? _ _ bw;clear ay);have d8:IntKind.i64.wrap (s.place+1)=s.place+1:=(by have:=bW.out;rw [IntKind.wrap_i64];omega);have o4:=bN.out.fr a2 V.out.d;have o5:=o4.set 6 (.slice ab ak ac)
           have az:∀ j,(Value.slice ab ak ac).ownBlock=some j->j≠t:=fun j hj e=>by
            rcases ax j hj with f | f
            · exact V.out.d (e▸f)
            omega
           have s5:=bp.other ⟨t,6,none⟩ (.slice ab ak ac) fun e=>az _ e rfl;have an:Fr (A id) w3 (w4.setCell ⟨t,6,none⟩ (.slice ab ak ac)):=(a2.mono fun x _ e=>(aa.out x).2 (.inr e)).setCell (p:=⟨t,6,none⟩) (.inl ((aa.out t).2 (.inl rfl))) _;have b8:=(aa.out t).2 (.inl rfl);generalize w4.setCell ⟨t,6,none⟩ (.slice ab ak ac)=W5 at *;change Has W5 t [.string s.w.key,.string s.w.end_,.int .i64 s.w.frm,.bool s.w.np,.bool s.w.nd,.bool s.w.prev,.slice ab ak ac,.int .i64 s.place] at o5;have w7:=o5.cell 7 rfl;have g7:=o5.free 7;have di:=o5.lt;have bO:=H_ o5;have bR:=H_ s5;have aS:=H_ an;have b0:=H_ az;have aT:=H_ b8;have bF:=H_ ax;clear o4 o5 s5 an az b8 bp a2 ax c2 bw cz y6 y7 f6 f7;go_wp2_with fail;go_roundg r
           case rel =>
            have o6:=bO.out.set 7 (.int .i64 (s.place+1));have bf:Fr (A id) w3 (W5.setCell ⟨t,7,none⟩ (.int .i64 (s.place+1))):=aS.out.setCell (p:=⟨t,7,none⟩) (.inl aT.out) _;have s6:=bR.out.other ⟨t,7,none⟩ (.int .i64 (s.place+1)) fun e=>b0.out _ e rfl;have bg:Fr (A id) wr (W5.setCell ⟨t,7,none⟩ (.int .i64 (s.place+1))):=(a9.out.mono fun _ _ x=>x.elim).trans bf fun _ _ x=>x;have co:SmAt (W5.setCell ⟨t,7,none⟩ (.int .i64 (s.place+1))) t ⟨s.w,s.buf++M,s.place+1⟩ (fun x=>x=t\/(Value.slice ab ak ac).ownBlock=some x):=⟨_,⟨o6,s6,fun e=>b0.out _ e rfl⟩,fun _=>Iff.rfl⟩
            have bn:∀ b,(b=t\/(Value.slice ab ak ac).ownBlock=some b)->A id b\/wr.heap.size<=b:=fun b o=>by
             rcases o with rfl | o
             · exact .inl aT.out
             rcases bF.out b o with f | f
             · exact .inl ((aa.out b).2 (.inr f))
             right
             have:=a9.out.size;omega
            have n:=I.out.setSm aU.out bP.out bg co bn;have ch:lookS D (c.fed+1) s=⟨s.w,s.buf++M,s.place+1⟩:=(by rw [R.out,if_pos hle]);have bq:=b3.out;rw [ch] at bq;dsimp only at n;rw [bq] at n;refine ⟨i+1,_,by go_num,by omega,H_ n,H_ (P.out.trans bg fun j hj x=>?_),H_ fun b o=>?_⟩
            · rcases J.out j (.inr (.inr ⟨id,x⟩)) with f | f
              · exact f
              omega
            rcases o with f | f | ⟨l,f⟩
            · exact J.out b (.inl f)
            · exact J.out b (.inr (.inl f))
            by_cases hl:l=id
            · rw [if_pos hl] at f
              rcases bn b f with h2 | h2
              · exact J.out b (.inr (.inr ⟨id,h2⟩))
              right
              have:=P.out.size;omega
            rw [if_neg hl] at f
            exact J.out b (.inr (.inr ⟨l,f⟩))
           case measure=>omega
         have bk:¬ (s.buf.length:Int)+(M.length:Int)<=64:=by omega
         have aB:lookS D (c.fed+1) s=s:=by
          rw [R.out,if_neg hle]
         go_wp2_with fail;go_roundg r
         case rel =>
          have n:=I.out.fr a9.out fun _ _ x=>x;rw [<-ai.out aB] at n;exact ⟨i+1,A,by go_num,by omega,H_ n,H_ (P.out.trans0 a9.out),J⟩
         case measure=>omega
       have af:decide (¬ (s.place=c.fed+1/\en=0))=true:=decide_eq_true hc
       rw [af]
       have aB:lookS D (c.fed+1) s=s:=by
        rw [aW.out];exact if_neg fun x=>hc ⟨x.1,x.2.1⟩
       go_wp2_with fail;go_roundg r
       case rel =>
        have n:=I.out.fr (Fr.refl No wr).drew fun _ _ x=>x;rw [<-ai.out aB] at n;exact ⟨i+1,A,by go_num,by omega,H_ n,H_ P.out.drew,J⟩
       case measure=>omega
theorem zqo {D:Doc} {fed:Int} {t:Wt} {n:Nat} {first:Bool} {p:Int} {out:List Ev} {en:Int} {E:List Ev} (h1:zax D p p=en) (h2:evsAt D p=E) (hp:p<=fed) :
 catchN D fed t (n+1) first p out=if en≠0\/(first=false/\64<out.length+(wantsW t E).length) then (p,out) else catchN D fed t n false (p+1) (out++wantsW t E):=by
 subst h1;subst h2;rw [catchN,if_pos hp]
theorem zqp {D:Doc} {fed:Int} {t:Wt} {n:Nat} {first:Bool} {p:Int} {out:List Ev} (hp:¬ p<=fed):catchN D fed t n first p out=(p,out):=by
 cases n with
 | zero=>rfl
 | succ n=>rw [catchN,if_neg hp]
set_option maxHeartbeats 16000000 in
theorem zod {TA:zai} {N:Nat} (hT:TreeOk TA N) {k:Nat} {S:St} {D:Doc} (hG:Good k S D) {w:World} {h st pb:Nat} {fed last:Int} {mv bv:Value} {s:Sm} {G:Nat->Prop} (hS:zal TA w st S G) (hd:¬ G pb) (ho:Has w h [.pointer (some ⟨st,0,none⟩),.int .i64 fed,.int .i64 last,mv]) (hs:Has w pb (smC s.w bv s.place)) (hph:h≠pb)
 (hev:S.events.length<=11000000) (hne:1<=S.rev->0<S.events.length) (hf1:fed<=11000000) (hp0:0<=s.place) :
 Calls Tryz.prog 46 #[.pointer (some ⟨h,0,none⟩),.pointer (some ⟨pb,0,none⟩)] w fun e w'=>∃ v,e=.returned v/\SlF w' 72 13 evC v (catchH D fed s).2/\(∀ b,v.ownBlock=some b->w.heap.size<=b)/\Fr (fun b=>b=pb) w w'/\Has w' pb (smC s.w bv (catchH D fed s).1):=by
 have au:∀ W,Fr (fun b=>b=pb) w W->∀ r:Int,Calls Tryz.prog 42 #[.pointer (some ⟨st,0,none⟩),.int .i64 r,.int .i64 r] W fun e w'=>∃ v,e=.returned (.tuple #[v,.int .i64 (zax D r r)])/\SlF w' 72 13 evC v (evsAt D r)/\Fr No W w'/\(∀ k,v.ownBlock=some k->W.heap.size<=k):=fun W hW r=>by
  have e1:=zcy hT W st S G (hS.fr hT hW fun b hb hb2=>hd (by have e:b=pb:=hb2;exact e▸hb)) (by omega) hne r r;rw [zkp hG r,(hG.eventsDoc r r).1] at e1;exact e1
 have P:=fun r=>Nat.le_trans (zgf hG r) hev;have am:=H_ P;have aE:=H_ au;have HO:=H_ ho;have X:=H_ hs;clear hG hS hd au P ho hs;go_enter Tryz.func46,Tryz.ntmps46;go_upto_region 3 with fail
 go_loopg [5,6] (fed-s.place+1).toNat (fun gg s5 s6 wr=>∃ (p:Int) (first:Bool) (O:List Ev),s6=.bool first/\gg=(fed-p+1).toNat/\0<=p/\(first=true->O = [])/\O.length<=11000000/\Hid (catchN D fed s.w gg first p O=catchH D fed s)/\Hid (SlF wr 72 13 evC s5 O)/\Hid (∀ b,s5.ownBlock=some b->w.heap.size<=b)/\Hid (Fr (fun b=>b=pb) w wr)/\Hid (Has wr pb (smC s.w bv p)))
 case atStart=>exact ⟨s.place,true,[],rfl,rfl,hp0,fun _=>rfl,by simp,H_ rfl,H_ (SlF.nil _ _ _ _),H_ (by simp [Value.ownBlock]),H_ (Fr.refl _ w),X⟩
 case round =>
  obtain ⟨p,first,O,rfl,be,bh,aK,bg,HC,Y,A,HF,HP⟩:=hrel;obtain ⟨oa,oc,rfl,a6,a7,a8⟩:=Y.out.shape;have F:=HO.out.fr HF.out hph;have c0:=F.cell 0 rfl;have c1:=F.cell 1 rfl;have lh:=F.lt;have k7:=HP.out.cell 7 rfl;have lp:=HP.out.lt;have aR:=HF.out.size;have q0:wr.cell? ⟨h,1,none⟩=some (.int .i64 fed)/\wr.cell? ⟨pb,7,none⟩=some (.int .i64 p):=⟨c1,k7⟩;have q1:wr.drew.cell? ⟨h,1,none⟩=some (.int .i64 fed)/\wr.drew.cell? ⟨pb,7,none⟩=some (.int .i64 p):=⟨c1,k7⟩;clear c0 c1 k7 F a6 a7 a8;go_upto_region 3 with fail
  go_region_held3 (fun W=>W.cell? ⟨h,1,none⟩=some (.int .i64 fed)/\W.cell? ⟨pb,7,none⟩=some (.int .i64 p))
   (first | with_reducible exact q0 | with_reducible exact q1 | fail)
   (first | fail)
  generalize I:wr.drew=y at *;have K:Hid (SlF y 72 13 evC (.slice oa O.length oc) O):=H_ (I▸Y.out.drew);have a:Hid (Fr (fun b=>b=pb) w y):=H_ (I▸HF.out.drew);have B:Hid (Has y pb (smC s.w bv p)):=H_ (I▸HP.out.drew);clear I HF HP Y q0 q1 lh lp aR
  cases gk with
  | zero =>
    have aw:¬ p<=fed:=(by omega);go_wp2_with fail;go_ret;have L:=HC.out;rw [zqp (by omega)] at L;rw [<-L];exact ⟨_,rfl,K.out,A.out,a.out,B.out⟩
  | succ q =>
    have aw:p<=fed:=(by omega);have a5:=HO.out.fr a.out hph;have c0:=a5.cell 0 rfl;have lh:=a5.lt;have k7:=B.out.cell 7 rfl;have lp:=B.out.lt;have q0:y.cell? ⟨h,0,none⟩=some (.pointer (some ⟨st,0,none⟩))/\y.cell? ⟨pb,7,none⟩=some (.int .i64 p):=⟨c0,k7⟩;have q1:y.drew.cell? ⟨h,0,none⟩=some (.pointer (some ⟨st,0,none⟩))/\y.drew.cell? ⟨pb,7,none⟩=some (.int .i64 p):=⟨c0,k7⟩;clear a5 c0 k7;have ev:=aE.out y.drew a.out.drew p;have aJ:=am.out p;have ar:=fun f=>@zqo D fed s.w q f p O _ _ rfl rfl aw;generalize zax D p p=en at *;generalize evsAt D p=E at *;have EV:=H_ ev;have z:=H_ ar;clear ev ar;go_upto_region 5 with fail
    go_region_held3 (fun W=>W.cell? ⟨h,0,none⟩=some (.pointer (some ⟨st,0,none⟩))/\W.cell? ⟨pb,7,none⟩=some (.int .i64 p))
     (first | with_reducible exact q0 | with_reducible exact q1 | with_reducible exact q2 | fail)
     (first | (go_at_call 42;(with_reducible refine EV.out.mono ?_);rintro e w1 ⟨v1,rfl,aa,H,aO⟩;obtain ⟨la,lc,rfl,aL,aM,aN⟩:=aa.shape;have q2:=(⟨H.cell0 q1.1,H.cell0 q1.2⟩:w1.cell? ⟨h,0,none⟩=some (.pointer (some ⟨st,0,none⟩))/\w1.cell? ⟨pb,7,none⟩=some (.int .i64 p))) | fail)
    have a0:Fr No y w1:=(Fr.refl No y).drew.trans0 H;have J:=B.out.fr a0 fun x=>x;have k0:=J.cell 0 rfl;have k1:=J.cell 1 rfl;have k2:=J.cell 2 rfl;have k3:=J.cell 3 rfl;have k4:=J.cell 4 rfl;have k5:=J.cell 5 rfl;have aT:=J.lt;have ae:=zgw w1 s.w _ E aa aJ;unfold wtV at ae;have bf:=zcd s.w E;generalize wantsW s.w E=M at *;have ao:=H_ ae;have aF:=H_ J;have aC:=H_ a0;clear ae J a0 aa H aO aL aM aN q0 q1 q2 EV;go_upto_region 7 with (go_at_call 44;(with_reducible refine ao.out.mono ?_);rintro e w3 ⟨v3,rfl,ad,a1,aP⟩;obtain ⟨a3,aq,rfl,a6,a7,a8⟩:=ad.shape);have c:=H_ (aC.out.trans0 a1);have l:=H_ (aF.out.fr a1 fun x=>x);have an:=H_ ad;have j:=H_ (K.out.fr0 c.out);clear ad a1 aP a6 a7 a8 k0 k1 k2 k3 k4 k5 aT ao
    have bi:IntKind.i64.wrap ((O.length:Int)+(M.length:Int))=(O.length:Int)+(M.length:Int):=(by rw [IntKind.wrap_i64];omega);by_cases hen:en=0
    · subst hen
      cases first with
      | true =>
        have hO:=aK rfl;have b5:O.length=0:=(by rw [hO];rfl);obtain ⟨i0,a4,af,ag,ah⟩:=info_parts info72;have d:=HC.out;rw [z.out,if_neg (by simp;try omega)] at d;have aQ:IntKind.i64.wrap (p+1)=p+1:=(by rw [IntKind.wrap_i64];omega);have R:=H_ d;have t:=a.out.size;have Z:=H_ t;clear d t;go_upto_region 9 with (at_builtin;refine zdq rfl _ _ 41 rfl 72 i0 _ 13 136 Tryz.underlying41 a4 af ag ah rfl (by decide) zaa (.slice oa O.length oc) (.slice a3 M.length aq) O M (fun x _=>zgg x) rfl rfl j.out an.out (by unfold maxLen;omega) (by omega) ?_;intro ab ak ac w4 o m g)
        have i:∀ b,(Value.slice oa O.length oc).ownBlock=some b->b≠pb:=fun b hb e=>by
         have C:=A.out b hb;have h2:=X.out.lt;omega
        have u:=l.out.fr g fun e=>i _ e rfl;have w7:=u.cell 7 rfl;have g7:=u.free 7;have aU:=u.lt;have H4:=H_ u;have T:=H_ g;have V:=H_ o;have Q:=H_ m;have U:=H_ i;clear u g o m i;go_wp2_with fail;go_roundg q
        case rel =>
         have o5:=H4.out.set 7 (.int .i64 (p+1))
         have n:∀ b,(Value.slice ab ak ac).ownBlock=some b->w.heap.size<=b/\b≠pb:=fun b hb=>by
          have h3:=c.out.size;have h5:=Z.out;rcases Q.out b hb with C | C
          · exact ⟨A.out b C,U.out b C⟩
          refine ⟨by omega,fun e=>?_⟩
          have:=l.out.lt;omega
         have a9:=V.out.other ⟨pb,7,none⟩ (.int .i64 (p+1)) fun e=>(n _ e).2 rfl
         have a2:=((a.out.trans0 c.out).trans T.out fun b hb x=>by
          have:=A.out b x;omega).setCell (p:=⟨pb,7,none⟩) (.inl rfl) (.int .i64 (p+1))
         exact ⟨p+1,false,O++M,rfl,by omega,by omega,by simp,by rw [List.length_append];omega,R,H_ a9,H_ fun b hb=>(n b hb).1,H_ a2,H_ o5⟩
        case measure=>omega
      | false =>
        by_cases hle:64<O.length+M.length
        · have av:(64:Int)<(O.length:Int)+(M.length:Int):=by omega
          go_wp2_with fail;go_ret;have L:=HC.out;rw [z.out,if_pos (by simp;try omega)] at L;rw [<-L];exact ⟨_,rfl,j.out,A.out,a.out.trans0 c.out,l.out⟩
        have av:¬ (64:Int)<(O.length:Int)+(M.length:Int):=(by omega);obtain ⟨i0,a4,af,ag,ah⟩:=info_parts info72;have d:=HC.out;rw [z.out,if_neg (by simp;try omega)] at d;have aQ:IntKind.i64.wrap (p+1)=p+1:=(by rw [IntKind.wrap_i64];omega);have R:=H_ d;have t:=a.out.size;have Z:=H_ t;clear d t;go_upto_region 9 with (at_builtin;refine zdq rfl _ _ 41 rfl 72 i0 _ 13 136 Tryz.underlying41 a4 af ag ah rfl (by decide) zaa (.slice oa O.length oc) (.slice a3 M.length aq) O M (fun x _=>zgg x) rfl rfl j.out an.out (by unfold maxLen;omega) (by omega) ?_;intro ab ak ac w4 o m g)
        have i:∀ b,(Value.slice oa O.length oc).ownBlock=some b->b≠pb:=fun b hb e=>by
         have C:=A.out b hb;have h2:=X.out.lt;omega
        have u:=l.out.fr g fun e=>i _ e rfl;have w7:=u.cell 7 rfl;have g7:=u.free 7;have aU:=u.lt;have H4:=H_ u;have T:=H_ g;have V:=H_ o;have Q:=H_ m;have U:=H_ i;clear u g o m i;go_wp2_with fail;go_roundg q
        case rel =>
         have o5:=H4.out.set 7 (.int .i64 (p+1))
         have n:∀ b,(Value.slice ab ak ac).ownBlock=some b->w.heap.size<=b/\b≠pb:=fun b hb=>by
          have h3:=c.out.size;have h5:=Z.out;rcases Q.out b hb with C | C
          · exact ⟨A.out b C,U.out b C⟩
          refine ⟨by omega,fun e=>?_⟩
          have:=l.out.lt;omega
         have a9:=V.out.other ⟨pb,7,none⟩ (.int .i64 (p+1)) fun e=>(n _ e).2 rfl
         have a2:=((a.out.trans0 c.out).trans T.out fun b hb x=>by
          have:=A.out b x;omega).setCell (p:=⟨pb,7,none⟩) (.inl rfl) (.int .i64 (p+1))
         exact ⟨p+1,false,O++M,rfl,by omega,by omega,by simp,by rw [List.length_append];omega,R,H_ a9,H_ fun b hb=>(n b hb).1,H_ a2,H_ o5⟩
        case measure=>omega
    have b4:(en != 0)=true:=by simpa using hen
    go_wp2_with fail;go_ret;have L:=HC.out;rw [z.out,if_pos (by simp;try omega)] at L;rw [<-L];exact ⟨_,rfl,j.out,A.out,a.out.trans0 c.out,l.out⟩
theorem zct {TA:zai} (w:World) (s:Nat) (S:St) (F:Nat->Prop) (hS:zal TA w s S F):Calls Tryz.prog 45 #[.pointer (some ⟨s,0,none⟩)] w fun e w'=>e=.returned (.int .i64 S.mark)/\w=w':=by
 obtain ⟨t,p,f,g,c,b,a,hF⟩:=hS;have d:=a.obj.cell 4 rfl;have i:=a.obj.lt;clear a;go_enter Tryz.func45,Tryz.ntmps45;go_wp2;go_ret;exact ⟨rfl,rfl⟩
end Go.Proofs.YtdgkdfmfoonbpaaGreat