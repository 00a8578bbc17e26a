/- Own lemmas. -/
import Derived.Test.YthljnnjpmdgkoaaGreatI13
import Derived.Test.YthljnnjpmdgkoaaGreatI09
import Derived.Deep.DeepCutAuto
import Derived.Test.YthljnnjpmdgkoaaGreatProg
import Derived.Laws.RangeString
import Derived.Lib.Bytealg
import Derived.Lib.RuneCount
namespace Go.Proofs.YthljnnjpmdgkoaaGreat
open Go Go.Proofs Go.RowKit
set_option maxRecDepth 100000
def toOf (key end_:ByteArray):ByteArray:=if end_.toList.isEmpty then key++⟨#[0]⟩ else if end_.toList == [0] then ByteArray.empty else end_
def oneL (S:St) (rev:Int) (p:ByteArray×Int):Option Kv:=match S.past p.2 with
 | some H=>if (hadH H rev).2 then some (hadH H rev).1 else none
 | none=>none
def zap (S:St) (R:Pairs) (rev:Int):List Kv:=R.filterMap (oneL S rev)
def zbh (S:St) (key end_:ByteArray) (rev:Int):List Kv:=zap S (rangeT S.T key (toOf key end_)) rev
theorem info57:(Tryz.prog.info? 99).map (fun i=>(i.zero,i.size,i.bytes))=some (some (.agg #[.string ByteArray.empty,.string ByteArray.empty,.int .i64 0,.int .i64 0,.int .i64 0,.int .i64 0]),6,64):=by kernel_rfl
theorem zig {T:Pairs} {a b:ByteArray} {p:ByteArray×Int} (h:p∈rangeT T a b):p∈T:=(List.mem_filter.1 h).1
set_option maxHeartbeats 4000000 in
theorem zhy {TA:zao} {N:Nat} (hT:TreeOk TA N) {n:Nat} (hn:n<=1099511627) (w:World) (s:Nat) (S:St) (F:Nat->Prop) (hS:zaj TA w s S F) (hok:StOk n S) (hN:S.T.length<=1099511627) (key end_:ByteArray) (rev:Int) (hks:key.size<=1099511627776) :
 Calls Tryz.prog 88 #[.pointer (some ⟨s,0,none⟩),.string key,.string end_,.int .i64 rev] w fun e w'=>∃ v,e=.returned v/\SlF w' 99 6 kvC v (zbh S key end_ rev)/\Fr No w w'/\(∀ b,v.ownBlock=some b->w.heap.size<=b):=by
 have C:=fun W hW at_ H hH=>zkx hT hn W s S F hW hok at_ rev H hH;have a7:=H_ hS;obtain ⟨t,p,ev,hp,FT,FH,a,hF⟩:=hS;have c0:=a.obj.cell 0 rfl;have l1:=a.obj.lt;have HT:=H_ a.tree;have a4:=H_ fun W hW=>hT.len (w:=W) (t:=t) (T:=S.T) (F:=FT) hW;have c:=fun W to1 hW=>hT.range (w:=W) (t:=t) (T:=S.T) (F:=FT) key to1 hW;have HH:=H_ C;have af:=H_ hok.id;obtain ⟨i0,ao,av,aw,ax⟩:=info_parts info57;have r:∀ to1,(rangeT S.T key to1).length<=S.T.length:=fun to1=>List.length_filter_le _ _
 have Q:(end_.toList.isEmpty=true/\toOf key end_=key++⟨#[0]⟩)\/(end_.toList.isEmpty=false/\(end_.toList == [0])=true/\toOf key end_=⟨#[]⟩)\/(end_.toList.isEmpty=false/\(end_.toList == [0])=false/\toOf key end_=end_):=by
  unfold toOf;have he:ByteArray.empty=⟨#[]⟩:=rfl;rw [he];cases h1:end_.toList.isEmpty
  · cases h2:(end_.toList == [0])
    · exact .inr (.inr ⟨rfl,rfl,by simp⟩)
    exact .inr (.inl ⟨rfl,rfl,by simp⟩)
  exact .inl ⟨rfl,by simp⟩
 have aG:¬ 9223372036854775807<key.size+1:=by omega
 clear a C hks;have aM:Fr No w w:=Fr.refl No w;have HX:∃ X,toOf key end_=X/\((end_.toList.isEmpty=true/\X=key++⟨#[0]⟩)\/(end_.toList.isEmpty=false/\(end_.toList == [0])=true/\X=⟨#[]⟩)\/(end_.toList.isEmpty=false/\(end_.toList == [0])=false/\X=end_)):=⟨_,rfl,Q⟩;obtain ⟨X,hX,Q⟩:=HX;unfold zbh;rw [hX];have ak:=r X;have J:∀ q∈rangeT S.T key X,q∈S.T:=fun q G=>zig G;have P:=fun W hW=>c W X hW;generalize rangeT S.T key X=R at ak J P ⊢
 have ag:=H_ J;have y:=H_ P;clear r c J P hX;rcases Q with ⟨h1,A⟩ | ⟨h1,h2,A⟩ | ⟨h1,h2,A⟩
 all_goals
  have ai:=H_ A;clear A;go_enter Tryz.func88,Tryz.ntmps88;go_wp2_with fail;have al:w.drew.cell? ⟨s,0,none⟩=some (.pointer (some ⟨t,0,none⟩)):=c0
  go_region_held (fun W=>W.cell? ⟨s,0,none⟩=some (.pointer (some ⟨t,0,none⟩)))
   (first | assumption | exact L.cell0 c0)
   (first
     | (go_at_call 61;refine (a4.out _ (hT.fr HT.out (Fr.refl No w).drew (fun _ _ s=>s))).mono ?_;rintro e w' ⟨rfl,rfl⟩)
     | (go_at_call 60;(first | rw [<-ai.out] | skip);refine (y.out _ (hT.fr HT.out (Fr.refl No w).drew (fun _ _ s=>s))).mono ?_;rintro e w2 ⟨v,rfl,hv,am,aZ⟩
        have L:Fr No w w2:=(Fr.refl No w).drew.trans0 am;obtain ⟨va,aJ,rfl,aR,aS,ab⟩:=hv.shape;have HV:=H_ hv;have ah:=H_ ab;clear hv ab))
  clear al;have l2:=L.size;go_wp2_with fail
  go_loopg [36,10] R.length (fun g s36 s10 wr=>∃ (i:Nat) (o:Value),s36=.int .i64 i/\s10=o/\i+g=R.length/\Hid (SlF wr 99 6 kvC o (zap S (R.take i) rev))/\Fr No w wr/\w2.heap.size<=wr.heap.size/\Hid (∀ b,o.ownBlock=some b->w2.heap.size<=b)/\Hid (Fr No w2 wr))
  case atStart=>exact ⟨0,_,rfl,rfl,by simp,H_ (SlF.nil _ _ _ _),L,Nat.le_refl _,H_ (by simp [Value.ownBlock]),H_ (Fr.refl _ _)⟩
  case round =>
   obtain ⟨i,o,rfl,rfl,hi,HO,l,ar,j,I⟩:=hrel
   cases gk with
   | zero =>
     have ap:¬ (i:Int)<(R.length:Int):=(by omega);go_wp2;go_ret;have e1:=HO.out;rw [List.take_of_length_le (by omega)] at e1;exact ⟨_,rfl,e1,l,fun b hb=>by have:=j.out b hb;omega⟩
   | succ g =>
     have ap:(i:Int)<(R.length:Int):=(by omega);obtain ⟨q,G⟩:∃ q,R[i]?=some q:=⟨_,List.getElem?_eq_getElem (by omega)⟩;obtain ⟨H,hH⟩:=af.out q (ag.out q (List.mem_of_getElem? G));obtain ⟨gb,go,rfl⟩:=ah.out (by omega);have K:=HV.out.fr0 I.out;have x0:=K.cell0 zae i G rfl;have x1:=K.cell zae i 1 G rfl;have E:oneL S rev q=if (hadH H rev).2 then some (hadH H rev).1 else none:=(by unfold oneL;rw [hH])
     have x:zap S (R.take (i+1)) rev=zap S (R.take i) rev++(oneL S rev q).toList:=by
      unfold zap;rw [List.take_add_one,G,List.filterMap_append];cases h:oneL S rev q <;> simp [h]
     have z:=H_ x;have f:=H_ E;have a5:=H_ hH;have HQ:=H_ G;clear x E hH G K;rcases hr:hadH H rev with ⟨⟨U,V,Y,Z,r5,r6⟩,rb⟩
     rw [hr] at f;have HR:=H_ hr;clear hr;obtain ⟨o1,o2,rfl,aW,aX,aq⟩:=HO.out.shape;clear aq;have aY:(zap S (R.take i) rev).length<=R.length:=Nat.le_trans (List.length_filterMap_le _ _) (by simp;omega);have aV:0<=(i:Int)+1:=(by omega);cases rb
     · have HE:Hid (zap S (R.take (i+1)) rev=zap S (R.take i) rev):=H_ (by rw [z.out,f.out];simp)
       clear z f
       go_wp2_with (go_at_call 62;refine (HH.out _ (a7.out.fr0 hT (l.alloc _)) q.2 H a5.out).mono ?_;rintro e w3 ⟨rfl,M⟩
                    have d:Fr No wr w3:=((Fr.refl No wr).alloc _).trans0 M;rw [HR.out];unfold zct kvV)
       go_roundg g
       case rel =>
        have B:Fr No wr (w3.alloc (Obj.cells #[Value.string U,Value.string V,Value.int .i64 Y,Value.int .i64 Z,Value.int .i64 r5,Value.int .i64 r6] 99)):=d.alloc _;exact ⟨i+1,_,by go_num,rfl,by omega,H_ (by rw [HE.out];exact HO.out.fr0 B),l.trans0 B,Nat.le_trans ar B.size,j,H_ (I.out.trans0 B)⟩
       case measure=>omega
     have HE:Hid (zap S (R.take (i+1)) rev=zap S (R.take i) rev++[⟨U,V,Y,Z,r5,r6⟩]):=H_ (by rw [z.out,f.out];simp)
     clear z f
     go_wp2_with (first
      | (go_at_call 62;refine (HH.out _ (a7.out.fr0 hT (l.alloc _)) q.2 H a5.out).mono ?_;rintro e w3 ⟨rfl,M⟩
         have d:Fr No wr w3:=((Fr.refl No wr).alloc _).trans0 M;have D:=zbb (w3.alloc (.cells [Value.string U,.string V,.int .i64 Y,.int .i64 Z,.int .i64 r5,.int .i64 r6].toArray 99)) [Value.string U,.string V,.int .i64 Y,.int .i64 Z,.int .i64 r5,.int .i64 r6] 99 (0,0);rw [HR.out];unfold zct kvV)
      | (at_builtin;refine zat rfl _ _ 27 rfl 99 i0 _ 6 64 Tryz.underlying27 ao av aw ax rfl (by decide) _ (zap S (R.take i) rev) rfl (((HO.out.fr0 d).alloc _).alloc _) (w3.heap.size+1) 1 (⟨U,V,Y,Z,r5,r6⟩:Kv) rfl (by simpa [kvC] using D) rfl ?c1 ?c2 ?c3 ?_))
     case c1=>intro u hu;simp [kvC] at hu;rcases hu with rfl | rfl | rfl | rfl | rfl | rfl <;> rfl
     case c2=>unfold maxLen;omega
     case c3=>omega
     intro g1 o' cap w4 aa O a8 aH;have m:(zap S (R.take i) rev++[(⟨U,V,Y,Z,r5,r6⟩:Kv)]).length=(zap S (R.take i) rev).length+1:=(by simp);have an:Fr No w w4:=(((l.trans0 d).alloc _).alloc _).grown O fun k hk=>.inr (by have:=j.out k hk;omega);have a9:Fr No w2 w4:=(((I.out.trans0 d).alloc _).alloc _).grown O fun k hk=>.inr (j.out k hk)
     have aU:w2.heap.size<=g1:=by
      rcases a8 with e | e
      · exact j.out _ e
      have:=d.size;try simp at e
      omega
     have H4:=H_ aa;have aN:=H_ m;clear aa m O a8 D;go_wp2;go_roundg g
     case rel =>
      exact ⟨i+1,_,by go_num,rfl,by omega,H_ (by rw [HE.out];exact H4.out),an,a9.size,H_ (fun b hb=>by simp [Value.ownBlock] at hb;omega),H_ a9⟩
     case measure=>omega
section
variable {TA:zao} {N:Nat} (hT:TreeOk TA N) {w w':World} {s t p:Nat} {ev:Value} {hp:Int->Option Nat} {FT:Nat->Prop} {FH:Int->Nat->Prop} {S:St}
include hT
theorem StoreR.setObj (a:StoreR TA w s t p ev hp FT FH S) (hf:Fr (fun b=>b=s) w w') (n' r' m':Int) (ho:Has w' s [.pointer (some ⟨t,0,none⟩),.map (some p),.int .i64 n',.int .i64 r',.int .i64 m',ev]) :
 StoreR TA w' s t p ev hp FT FH { S with next:=n',rev:=r',mark:=m' } where
 obj:=ho
 tree:=hT.fr a.tree hf fun b hb e=>a.ds.1 (e▸hb)
 map:=a.map.fr hf fun e=>a.map.apart a.obj e
 events:=a.events.fr hf fun b hb e=>a.ds.2.1 (e▸hb)
 hist i H hi:=by
  obtain ⟨h,c,d⟩:=a.hist i H hi;exact ⟨h,c,d.fr hf fun b hb e=>a.ds.2.2 i (e▸hb)⟩
 gone:=a.gone
 ds:=a.ds
 dp:=a.dp
 dt:=a.dt
 de:=a.de
 dh:=a.dh
theorem StoreR.setTree (a:StoreR TA w s t p ev hp FT FH S) (hf:Fr FT w w') {T':Pairs} {FT':Nat->Prop} (ht:TA w' t T' FT') (hn:∀ b,FT' b->FT b\/w.heap.size<=b) :
 StoreR TA w' s t p ev hp FT' FH { S with T:=T' } where
 obj:=a.obj.fr hf a.ds.1
 tree:=ht
 map:=a.map.fr hf a.dp.1
 events:=a.events.fr hf fun b hb e=>(a.dt b e).1 hb
 hist i H hi:=by
  obtain ⟨h,c,d⟩:=a.hist i H hi;exact ⟨h,c,d.fr hf fun b hb e=>(a.dt b e).2 i hb⟩
 gone:=a.gone
 ds:=⟨fun e=>by rcases hn _ e with h | h
                · exact a.ds.1 h
                have:=a.obj.lt;omega,a.ds.2⟩
 dp:=⟨fun e=>by rcases hn _ e with h | h
                · exact a.dp.1 h
                have:=a.map.lt;omega,a.dp.2⟩
 dt b hb:=by
  rcases hn _ hb with h | h
  · exact a.dt b h
  exact ⟨fun e=>by have:=a.events.lt b e;omega,fun i hi=>by have:=a.lt hT b (.inr (.inr (.inr (.inr ⟨i,hi⟩))));omega⟩
 de:=a.de
 dh:=a.dh
theorem StoreR.setHist (a:StoreR TA w s t p ev hp FT FH S) {id:Int} {h:Nat} {H':Hist} {F':Nat->Prop} (hid:hp id=some h) (hf:Fr (FH id) w w') (hh:HistAt w' h H' F') (hn:∀ b,F' b->FH id b\/w.heap.size<=b) :
 StoreR TA w' s t p ev hp FT (fun i=>if i=id then F' else FH i) { S with past:=fun i=>if i=id then some H' else S.past i } where
 obj:=a.obj.fr hf (a.ds.2.2 id)
 tree:=hT.fr a.tree hf fun b hb e=>(a.dt b hb).2 id e
 map:=a.map.fr hf (a.dp.2.2 id)
 events:=a.events.fr hf fun b hb e=>a.de b hb id e
 hist i H hi:=by
  dsimp only at hi;by_cases hi':i=id
  · subst hi'
    rw [if_pos rfl] at hi;cases hi
    exact ⟨h,hid,by rw [if_pos rfl];exact hh⟩
  rw [if_neg hi'] at hi
  obtain ⟨c,d,f⟩:=a.hist i H hi;exact ⟨c,d,by rw [if_neg hi'];exact f.fr hf fun b hb e=>hi' (a.dh i id b hb e)⟩
 gone i hi:=by
  dsimp only at hi;by_cases hi':i=id
  · rw [if_pos hi'] at hi;cases hi
  rw [if_neg hi'] at hi
  exact ⟨(a.gone i hi).1,by rw [if_neg hi'];exact (a.gone i hi).2⟩
 ds:=⟨a.ds.1,a.ds.2.1,fun i e=>by
  by_cases hi':i=id
  · rw [if_pos hi'] at e
    rcases hn _ e with h | h
    · exact a.ds.2.2 _ h
    have:=a.obj.lt;omega
  rw [if_neg hi'] at e;exact a.ds.2.2 i e⟩
 dp:=⟨a.dp.1,a.dp.2.1,fun i e=>by
  by_cases hi':i=id
  · rw [if_pos hi'] at e
    rcases hn _ e with h | h
    · exact a.dp.2.2 _ h
    have:=a.map.lt;omega
  rw [if_neg hi'] at e;exact a.dp.2.2 i e⟩
 dt b hb:=⟨(a.dt b hb).1,fun i e=>by
  by_cases hi':i=id
  · rw [if_pos hi'] at e
    rcases hn _ e with h | h
    · exact (a.dt b hb).2 _ h
    have:=hT.lt a.tree b hb;omega
  rw [if_neg hi'] at e;exact (a.dt b hb).2 i e⟩
 de b hb i e:=by
  by_cases hi':i=id
  · rw [if_pos hi'] at e
    rcases hn _ e with h | h
    · exact a.de b hb _ h
    have:=a.events.lt b hb;omega
  rw [if_neg hi'] at e;exact a.de b hb i e
 dh i j b hi hj:=by
  by_cases hi':i=id <;> by_cases hj':j=id
  · rw [hi',hj']
  · rw [if_pos hi'] at hi;rw [if_neg hj'] at hj
    rcases hn _ hi with h | h
    · rw [hi'];exact a.dh id j b h hj
    have:=a.lt hT b (.inr (.inr (.inr (.inr ⟨j,hj⟩))));omega
  · rw [if_neg hi'] at hi;rw [if_pos hj'] at hj
    rcases hn _ hj with h | h
    · rw [hj'];exact a.dh i id b hi h
    have:=a.lt hT b (.inr (.inr (.inr (.inr ⟨i,hi⟩))));omega
  rw [if_neg hi'] at hi;rw [if_neg hj'] at hj
  exact a.dh i j b hi hj
theorem StoreR.addHist (a:StoreR TA w s t p ev hp FT FH S) {id:Int} {h B:Nat} {H':Hist} {F':Nat->Prop} (hid:S.past id=none) (hf:Fr (fun b=>b=p) w w')
 (hm:MapAt w' p fun i=>if i=id then some (.pointer (some ⟨h,0,none⟩)) else (hp i).map fun h=>.pointer (some ⟨h,0,none⟩))
 (hB:∀ b,storeF s p ev FT FH b->b<B) (hh:HistAt w' h H' F') (hn:∀ b,F' b->B<=b) :
 StoreR TA w' s t p ev (fun i=>if i=id then some h else hp i) FT (fun i=>if i=id then F' else FH i) { S with past:=fun i=>if i=id then some H' else S.past i } where
 obj:=a.obj.fr hf fun e=>a.map.apart a.obj e.symm
 tree:=hT.fr a.tree hf fun b hb e=>a.dp.1 (e▸hb)
 map:=by
  refine cast (congrArg (MapAt w' p) ?_) hm
  funext i
  by_cases hi:i=id <;> simp [hi]
 events:=a.events.fr hf fun b hb e=>a.dp.2.1 (e▸hb)
 hist i H hi:=by
  dsimp only at hi;by_cases hi':i=id
  · subst hi'
    rw [if_pos rfl] at hi;cases hi
    exact ⟨h,if_pos rfl,by rw [if_pos rfl];exact hh⟩
  rw [if_neg hi'] at hi
  obtain ⟨c,d,f⟩:=a.hist i H hi;exact ⟨c,by rw [if_neg hi'];exact d,by rw [if_neg hi'];exact f.fr hf fun b hb e=>a.dp.2.2 i (e▸hb)⟩
 gone i hi:=by
  dsimp only at hi;by_cases hi':i=id
  · rw [if_pos hi'] at hi;cases hi
  rw [if_neg hi'] at hi
  exact ⟨by rw [if_neg hi'];exact (a.gone i hi).1,by rw [if_neg hi'];exact (a.gone i hi).2⟩
 ds:=⟨a.ds.1,a.ds.2.1,fun i e=>by
  by_cases hi':i=id
  · rw [if_pos hi'] at e
    have:=hn _ e;have:=hB s (.inl rfl);omega
  rw [if_neg hi'] at e;exact a.ds.2.2 i e⟩
 dp:=⟨a.dp.1,a.dp.2.1,fun i e=>by
  by_cases hi':i=id
  · rw [if_pos hi'] at e
    have:=hn _ e;have:=hB p (.inr (.inl rfl));omega
  rw [if_neg hi'] at e;exact a.dp.2.2 i e⟩
 dt b hb:=⟨(a.dt b hb).1,fun i e=>by
  by_cases hi':i=id
  · rw [if_pos hi'] at e
    have:=hn _ e;have:=hB b (.inr (.inr (.inl hb)));omega
  rw [if_neg hi'] at e;exact (a.dt b hb).2 i e⟩
 de b hb i e:=by
  by_cases hi':i=id
  · rw [if_pos hi'] at e
    have:=hn _ e;have:=hB b (.inr (.inr (.inr (.inl hb))));omega
  rw [if_neg hi'] at e;exact a.de b hb i e
 dh i j b hi hj:=by
  by_cases hi':i=id <;> by_cases hj':j=id
  · rw [hi',hj']
  · rw [if_pos hi'] at hi;rw [if_neg hj'] at hj
    have:=hn _ hi;have:=hB b (.inr (.inr (.inr (.inr ⟨j,hj⟩))));omega
  · rw [if_neg hi'] at hi;rw [if_pos hj'] at hj
    have:=hn _ hj;have:=hB b (.inr (.inr (.inr (.inr ⟨i,hi⟩))));omega
  rw [if_neg hi'] at hi;rw [if_neg hj'] at hj
  exact a.dh i j b hi hj
theorem StoreR.setEvents (a:StoreR TA w s t p ev hp FT FH S) {ev':Value} {E':List Ev} (hf:Fr (fun b=>b=s\/ev.ownBlock=some b) w w')
 (ho:Has w' s [.pointer (some ⟨t,0,none⟩),.map (some p),.int .i64 S.next,.int .i64 S.rev,.int .i64 S.mark,ev']) (he:SlF w' 101 13 evC ev' E') (hn:∀ b,ev'.ownBlock=some b->ev.ownBlock=some b\/w.heap.size<=b) :
 StoreR TA w' s t p ev' hp FT FH { S with events:=E' } where
 obj:=ho
 tree:=hT.fr a.tree hf fun b hb e=>by
  rcases e with e | e
  · exact a.ds.1 (e▸hb)
  exact (a.dt b hb).1 e
 map:=a.map.fr hf fun e=>by
  rcases e with e | e
  · exact a.map.apart a.obj e
  exact a.dp.2.1 e
 events:=he
 hist i H hi:=by
  obtain ⟨h,c,d⟩:=a.hist i H hi;refine ⟨h,c,d.fr hf fun b hb e=>?_⟩;rcases e with e | e
  · exact a.ds.2.2 i (e▸hb)
  exact a.de b e i hb
 gone:=a.gone
 ds:=⟨a.ds.1,fun e=>by rcases hn _ e with h | h
                       · exact a.ds.2.1 h
                       have:=a.obj.lt;omega,a.ds.2.2⟩
 dp:=⟨a.dp.1,fun e=>by rcases hn _ e with h | h
                       · exact a.dp.2.1 h
                       have:=a.map.lt;omega,a.dp.2.2⟩
 dt b hb:=⟨fun e=>by rcases hn _ e with h | h
                     · exact (a.dt b hb).1 h
                     have:=hT.lt a.tree b hb;omega,(a.dt b hb).2⟩
 de b hb i hi:=by
  rcases hn _ hb with h | h
  · exact a.de b h i hi
  have:=a.lt hT b (.inr (.inr (.inr (.inr ⟨i,hi⟩))));omega
 dh:=a.dh
end
def putH (H:Hist) (x:Kv):Hist:={ gens:=putK H.gens x.mod,last:=x.mod,kvs:=fun r=>if r=x.mod then some x else H.kvs r }
def newH:Hist:={ gens:=[],last:=0,kvs:=fun _=>none }
def idS (S:St) (key:ByteArray):Int:=if (getT S.T key).2 then (getT S.T key).1 else S.next
def madeS (S:St) (key:ByteArray):St :=
 if (getT S.T key).2 then S else { S with T:=insT S.T key S.next,past:=fun i=>if i=S.next then some newH else S.past i,next:=S.next+1 }
def putS (S:St) (x:Kv):St :=
 { madeS S x.key with past:=fun i=>if i=idS S x.key then some (putH (((madeS S x.key).past (idS S x.key)).getD newH) x) else (madeS S x.key).past i }
theorem zmj {W:World} {h g m:Nat} {FK:Nat->Prop} (ho:Has W h [.pointer (some ⟨g,0,none⟩),.map (some m)]) (hk:KeyAt W g [] 0 FK) (hm:MapAt W m fun _=>none) (d1:¬ FK h) (d2:¬ FK m) :
 HistAt W h newH (fun b=>b=h\/b=m\/FK b):=⟨g,m,FK,⟨ho,hk,hm,d1,d2⟩,fun _=>Iff.rfl⟩
theorem ztc {TA:zao} {N:Nat} (hT:TreeOk TA N) {w2 W4:World} {s t p:Nat} {ev:Value} {hp:Int->Option Nat} {FT:Nat->Prop} {FH:Int->Nat->Prop} {S:St} (a:StoreR TA w2 s t p ev hp FT FH S) (id:Int)
 (hid:S.past id=none) (hwf:(Lit.int .i64 id).wf=true) (hf:Fr No w2 W4) {h:Nat} {F':Nat->Prop} (hh:HistAt W4 h newH F') (hn:∀ b,F' b->w2.heap.size<=b) :
 StoreR TA (mapUpW Tryz.prog 105 p id (.pointer (some ⟨h,0,none⟩)) W4) s t p ev (fun i=>if i=id then some h else hp i) FT (fun i=>if i=id then F' else FH i) { S with past:=fun i=>if i=id then some newH else S.past i } ∧
  Fr (fun b=>b=p) W4 (mapUpW Tryz.prog 105 p id (.pointer (some ⟨h,0,none⟩)) W4):=by
 obtain ⟨_,d,c,_⟩:=(a.map.fr hf (fun s=>s)).up (P:=Tryz.prog) (t:=105) (k:=3) Tryz.underlying105 Tryz.underlying3 hwf (.pointer (some ⟨h,0,none⟩));refine ⟨(a.fr hT hf fun _ _ s=>s).addHist hT hid c d (B:=w2.heap.size) (a.lt hT) (hh.fr c fun b hb e=>?_) hn,c⟩;have f:=hn b hb;have g:=a.map.lt;have j:b=p:=e;omega
set_option maxHeartbeats 4000000 in
theorem zwi {TA:zao} {N:Nat} (hT:TreeOk TA N) {n:Nat} (hn:n<=1099511627) (w:World) (s:Nat) (S:St) (F:Nat->Prop) (hS:zaj TA w s S F) (hok:StOk n S) (x:Kv)
 (hroom:(getT S.T x.key).2=false->S.T.length<N) (hm1:1<=x.mod) (hm2:x.mod<=top) (hlast:∀ H,S.past (getT S.T x.key).1=some H->(getT S.T x.key).2=true->H.last<x.mod) :
 Calls Tryz.prog 122 #[.pointer (some ⟨s,0,none⟩),kvV x] w fun e w'=>(∃ v,e=.returned v)/\∃ F',zaj TA w' s (putS S x) F'/\Fr F w w'/\(∀ b,F' b->F b\/w.heap.size<=b):=by
 obtain ⟨t,p,ev,hp,FT,FH,a,hF⟩:=hS;obtain ⟨c,x2,x3,L,x5,x6⟩:=x;have c0:=a.obj.cell 0 rfl;have l1:=a.obj.lt;have ai:=fun W hW=>hT.get (w:=W) (t:=t) (T:=S.T) (F:=FT) c hW;have HG:=H_ ai;have X:=H_ a;have aG:=H_ hF;unfold kvV;dsimp only at *;clear ai a hF;go_enter Tryz.func122,Tryz.ntmps122;go_wp2_with fail;have hk:=zad w (Obj.cells #[.string c,.string x2,.int .i64 x3,.int .i64 L,.int .i64 x5,.int .i64 x6] 99) _ rfl;have Z:Fr No w (w.alloc (Obj.cells #[.string c,.string x2,.int .i64 x3,.int .i64 L,.int .i64 x5,.int .i64 x6] 99)):=(Fr.refl No w).alloc _;generalize w.alloc (Obj.cells #[.string c,.string x2,.int .i64 x3,.int .i64 L,.int .i64 x5,.int .i64 x6] 99)=W0 at hk Z ⊢
 have k0:W0.cell? ⟨w.heap.size,0,none⟩=some (.string c):=cellAt hk 0 rfl;have e0:=Z.cell0 c0
 go_region_held (fun W=>W.cell? ⟨s,0,none⟩=some (.pointer (some ⟨t,0,none⟩))/\W.cell? ⟨w.heap.size,0,none⟩=some (.string c))
  (first | exact ⟨e0,k0⟩ | exact ⟨a0.cell0 e0,a0.cell0 k0⟩)
  (first | (go_at_call 121;refine (HG.out _ (hT.fr X.out.tree Z.drew (fun _ _ s=>s))).mono ?_;rintro e w1 ⟨rfl,a0⟩;unfold zdb))
 have z:Fr No w w1:=Z.drew.trans0 a0;have af:=a0.heap (b:=w.heap.size) hk id;have aM:w.heap.size+1<=w1.heap.size:=by have:=zab af;omega
 clear hk Z k0 e0 a0;go_upto_if 18 with fail
 go_cut [4,5] (fun s4 _ wx=>s4=.int .i64 (idS S c)/\Hid (wx.heap[w.heap.size]?=some (.cells #[.string c,.string x2,.int .i64 x3,.int .i64 L,.int .i64 x5,.int .i64 x6] 99 (0,0))) ∧
  ∃ ah U D,Hid (StoreR TA wx s t p ev ah U D (madeS S c))/\Hid (Fr (storeF s p ev FT FH) w wx)/\Hid (∀ b,storeF s p ev U D b->storeF s p ev FT FH b\/w.heap.size<b))
 case first =>
  cases hg:(getT S.T c).2
  · have c2:w1.cell? ⟨s,2,none⟩=some (.int .i64 S.next):=z.cell0 (X.out.obj.cell 2 rfl)
    have f2:w1.frozen? ⟨s,2,none⟩=false:=z.free0 (X.out.obj.cell 2 rfl) (X.out.obj.free 2);have bm:=hok.pos;have bn:=hok.next;have bL:s<w1.heap.size:=(by have:=z.size;omega);go_wp2_with fail;have ho:=(X.out.fr hT z fun _ _ s=>s).obj.set 2 (.int .i64 (S.next+1));have ad:Fr (fun b=>b=s) w1 (w1.setCell ⟨s,2,none⟩ (.int .i64 (S.next+1))):=(Fr.refl _ w1).setAt 2 _;have Q:=(X.out.fr hT z fun _ _ s=>s).setObj hT ad (S.next+1) S.rev S.mark ho;have aX:(w1.setCell ⟨s,2,none⟩ (.int .i64 (S.next+1))).heap.size=w1.heap.size:=(by simp);have aA:(w1.setCell ⟨s,2,none⟩ (.int .i64 (S.next+1))).heap[w.heap.size]?=_:=ad.heap af (by omega);have ax:Fr (fun b=>b=s) w (w1.setCell ⟨s,2,none⟩ (.int .i64 (S.next+1))):=z.mono (fun _ _ h=>h.elim) |>.trans ad fun _ _ h=>h;have bK:=ax.size
    generalize w1.setCell ⟨s,2,none⟩ (.int .i64 (S.next+1))=W1 at *;have aW:=hT.set c S.next Q.tree (hroom hg);have e0:=Q.obj.cell 0 rfl;have k0:W1.cell? ⟨w.heap.size,0,none⟩=some (.string c):=cellAt aA 0 rfl;have nT:¬ FT s:=Q.ds.1;have nB:¬ FT w.heap.size:=fun h=>by have:=hT.lt X.out.tree _ h;omega
    go_region_held (fun W=>W.cell? ⟨s,0,none⟩=some (.pointer (some ⟨t,0,none⟩))/\W.cell? ⟨w.heap.size,0,none⟩=some (.string c))
     (first | exact ⟨e0,k0⟩ | exact ⟨aa.cell e0 nT,aa.cell k0 nB⟩)
     (first | (go_at_call 116;refine (hT.set c S.next (hT.fr Q.tree (Fr.refl No W1).drew (fun _ _ s=>s)) (hroom hg)).mono ?_;rintro e A ⟨⟨v,rfl⟩,F2,aZ,aa,aB⟩))
    have M:Fr FT W1 A:=((Fr.refl FT W1).drew).trans aa fun _ _ h=>h;have I:=Q.setTree hT M aZ aB;have aR:=M.heap aA nB;have aN:Fr (storeF s p ev FT FH) w A:=(ax.mono fun b _ h=>.inl h).trans M fun b _ h=>.inr (.inr (.inl h))
    have ak:∀ b,storeF s p ev F2 FH b->storeF s p ev FT FH b\/w.heap.size<b:=by
     rintro b (h | h | h | h | h)
     · exact .inl (.inl h)
     · exact .inl (.inr (.inl h))
     · rcases aB b h with h | h
       · exact .inl (.inr (.inr (.inl h)))
       right;have:=aM;simp at h;omega
     · exact .inl (.inr (.inr (.inr (.inl h))))
     exact .inl (.inr (.inr (.inr (.inr h))))
    have G:(Lit.int .i64 S.next).wf=true:=wf64 (by omega) (by omega);have m1:=I.obj.cell 1 rfl;have bp:¬ s=p:=fun e=>I.map.apart I.obj e.symm
    have HS:∀ W,Fr No A W->W.cell? ⟨s,1,none⟩=some (.map (some p))/\∀ v,(Instr.mapUpdate 105 (.map (some p)) (.int .i64 S.next) v).run Tryz.prog W=.ok () (mapUpW Tryz.prog 105 p S.next v W):=fun W hW =>
     ⟨hW.cell0 m1,fun v=>((I.map.fr hW id).up (P:=Tryz.prog) (t:=105) (k:=3) Tryz.underlying105 Tryz.underlying3 G v).1⟩
    have aJ:∀ W u,Fr No A W->(mapUpW Tryz.prog 105 p S.next u W).cell? ⟨s,1,none⟩=some (.map (some p)) ∧
     ∀ v,(Instr.mapUpdate 105 (.map (some p)) (.int .i64 S.next) v).run Tryz.prog (mapUpW Tryz.prog 105 p S.next u W)=.ok () (mapUpW Tryz.prog 105 p S.next v (mapUpW Tryz.prog 105 p S.next u W)):=fun W u hW=>by
     obtain ⟨_,h2,h3,_⟩:=(I.map.fr hW id).up (P:=Tryz.prog) (t:=105) (k:=3) Tryz.underlying105 Tryz.underlying3 G u;exact ⟨h3.cell (hW.cell0 m1) bp,fun v=>(h2.up (P:=Tryz.prog) (t:=105) (k:=3) Tryz.underlying105 Tryz.underlying3 G v).1⟩
    have V:=H_ HS;have H2:=H_ aJ;have a3:=H_ I;have a5:=H_ aR;have a4:=H_ aN;have j:=H_ ak;clear HS aJ I aR aN ak M aa aZ aB aW Q aA ax ad ho af z HG aX e0 k0 m1;have bN:∀ w,(Instr.makeMap 169 none).run Tryz.prog w=.ok (.map (some w.heap.size)) (w.alloc (.map #[] 0)):=fun w=>run_makeMap 169 w;go_wp2_with fail
    go_region_held (fun W=>W.cell? ⟨s,1,none⟩=some (.map (some p))/\∀ v,(Instr.mapUpdate 105 (.map (some p)) (.int .i64 S.next) v).run Tryz.prog W=.ok () (mapUpW Tryz.prog 105 p S.next v W))
     (first
       | ((refine V.out _ ?_);(repeat (first | with_reducible exact Fr.refl _ _ | with_reducible refine Fr.alloc ?_ _ | with_reducible refine Fr.drew ?_ | (refine Fr.trans0 ?_ (by assumption))));done)
       | ((refine H2.out _ _ ?_);(repeat (first | with_reducible exact Fr.refl _ _ | with_reducible refine Fr.alloc ?_ _ | with_reducible refine Fr.drew ?_ | (refine Fr.trans0 ?_ (by assumption))));done))
     (first | (go_at_call 117;refine (zia _).mono ?_;rintro e C ⟨g,rfl,FK,ae,ab,aT⟩))
    · have E:Fr No A C:=(Fr.refl No A).drew.trans0 ab
      have aY:=E.size;have ag:=ae.lt;have o:∀ b,FK b->A.heap.size<=b:=aT;have d:Fr No A ((C.alloc (Obj.map #[] 0)).alloc (Obj.cells #[Value.pointer (some ⟨g,0,none⟩),Value.map (some C.heap.size)] 171)):=(E.alloc _).alloc _
      have hh:HistAt ((C.alloc (Obj.map #[] 0)).alloc (Obj.cells #[Value.pointer (some ⟨g,0,none⟩),Value.map (some C.heap.size)] 171)) (C.heap.size+1) newH (fun b=>b=C.heap.size+1\/b=C.heap.size\/FK b) :=
       zmj ⟨171,zad _ _ _ (by simp)⟩ (ae.fr (((Fr.refl No C).alloc _).alloc _) fun _ _ s=>s) ((MapAt.made C).alloc _) (fun h=>by have:=ag _ h;omega) (fun h=>by have:=ag _ h;omega)
      obtain ⟨hM,y⟩:=ztc hT a3.out S.next (by
       cases hc:S.past S.next with
       | none=>rfl
       | some H=>have:=hok.ids _ _ hc;omega) G d hh (fun b B=>by
         rcases B with rfl | rfl | B
         · omega
         · omega
         exact o b B)
      have HM:=H_ hM;have H5:=H_ y;clear hM y hh;go_wp2_with fail;go_meet
      case rel =>
       have bd:=a3.out.map.lt;refine ⟨by unfold idS;rw [hg];rfl,H_ (H5.out.heap (d.heap a5.out id) ?_),_,_,_,H_ (by unfold madeS;rw [hg];exact HM.out),H_ ?_,H_ ?_⟩
       · intro e
         have:=X.out.map.lt;have e':w.heap.size=p:=e;omega
       · exact (a4.out.trans0 d).trans H5.out fun b _ e=>.inr (.inl e)
       have bi:=a4.out.size
       have bc:=zab a5.out;rintro b (h | h | h | h | ⟨i,h⟩)
       · exact j.out b (.inl h)
       · exact j.out b (.inr (.inl h))
       · exact j.out b (.inr (.inr (.inl h)))
       · exact j.out b (.inr (.inr (.inr (.inl h))))
       by_cases hi:i=S.next
       · rw [if_pos hi] at h
         right
         rcases h with rfl | rfl | h
         · omega
         · omega
         have:=o b h;omega
       rw [if_neg hi] at h
       exact j.out b (.inr (.inr (.inr (.inr ⟨i,h⟩))))
    have E:Fr No A C:=((Fr.refl No A).alloc _).drew.trans0 ab
    have aY:=E.size;have ag:=ae.lt;have o:∀ b,FK b->A.heap.size<b:=fun b B=>by have:=aT b B;simp at this;omega
    have bh:A.heap.size+1<=C.heap.size:=(by have:=ab.size;simpa using this);have bf:MapAt C A.heap.size fun _=>none:=(MapAt.made A).fr (S:=No) ((Fr.refl No (A.alloc (Obj.map #[] 0))).drew.trans0 ab) id;have d:Fr No A (C.alloc (Obj.cells #[Value.pointer (some ⟨g,0,none⟩),Value.map (some A.heap.size)] 171)):=E.alloc _
    have hh:HistAt (C.alloc (Obj.cells #[Value.pointer (some ⟨g,0,none⟩),Value.map (some A.heap.size)] 171)) C.heap.size newH (fun b=>b=C.heap.size\/b=A.heap.size\/FK b) :=
     zmj ⟨171,zad _ _ _ rfl⟩ (ae.fr ((Fr.refl No C).alloc _) fun _ _ s=>s) (bf.alloc _) (fun h=>by have:=ag _ h;omega) (fun h=>by have:=o _ h;omega)
    obtain ⟨hM,y⟩:=ztc hT a3.out S.next (by
     cases hc:S.past S.next with
     | none=>rfl
     | some H=>have:=hok.ids _ _ hc;omega) G d hh (fun b B=>by
       rcases B with rfl | rfl | B
       · omega
       · omega
       exact Nat.le_of_lt (o b B))
    have HM:=H_ hM;have H5:=H_ y;clear hM y hh;go_wp2_with fail;go_meet
    case rel =>
     have bd:=a3.out.map.lt;refine ⟨by unfold idS;rw [hg];rfl,H_ (H5.out.heap (d.heap a5.out id) ?_),_,_,_,H_ (by unfold madeS;rw [hg];exact HM.out),H_ ?_,H_ ?_⟩
     · intro e
       have:=X.out.map.lt;have e':w.heap.size=p:=e;omega
     · exact (a4.out.trans0 d).trans H5.out fun b _ e=>.inr (.inl e)
     have bi:=a4.out.size
     have bc:=zab a5.out;rintro b (h | h | h | h | ⟨i,h⟩)
     · exact j.out b (.inl h)
     · exact j.out b (.inr (.inl h))
     · exact j.out b (.inr (.inr (.inl h)))
     · exact j.out b (.inr (.inr (.inr (.inl h))))
     by_cases hi:i=S.next
     · rw [if_pos hi] at h
       right
       rcases h with rfl | rfl | h
       · omega
       · omega
       have:=o b h;omega
     rw [if_neg hi] at h
     exact j.out b (.inr (.inr (.inr (.inr ⟨i,h⟩))))
  go_wp2_with fail
  go_meet
  case rel=>exact ⟨by unfold idS;rw [hg];rfl,H_ af,hp,FT,FH,H_ (by unfold madeS;rw [hg];exact X.out.fr hT z fun _ _ s=>s),H_ (z.mono fun _ _ s=>s.elim),H_ fun b h=>.inl h⟩
 case rest =>
  obtain ⟨rfl,HK,ah,U,D,HM,HF,HN⟩:=hcut;have bm:=hok.pos;have bn:=hok.next
  obtain ⟨V,aK,am,aS,bu⟩:∃ V,(madeS S c).past (idS S c)=some V/\HistOk n V/\V.last<L/\0<=idS S c/\idS S c<=S.next:=by
   unfold madeS idS;cases hg:(getT S.T c).2
   · refine ⟨newH,by simp,⟨by simp [newH],by simp [newH]⟩,by unfold newH;dsimp only;omega,by simp;omega⟩
   obtain ⟨H,hH⟩:∃ H,S.past (getT S.T c).1=some H:=by
    revert hg
    unfold getT
    cases hf:S.T.find? (fun q=>keq q.1 c) with
    | none=>intro h;cases h
    | some q=>intro _;exact hok.id q (List.mem_of_find?_eq_some hf)
   have:=hok.ids _ _ hH;exact ⟨H,by simpa using hH,(hok.hist _ _ hH).1,hlast H hH hg,by simp;omega⟩
  have bk:(Lit.int .i64 (idS S c)).wf=true:=wf64 (by omega) (by omega);have an:putS S ⟨c,x2,x3,L,x5,x6⟩ = { madeS S c with past:=fun i=>if i=idS S c then some (putH V ⟨c,x2,x3,L,x5,x6⟩) else (madeS S c).past i }:=(by unfold putS;dsimp only;rw [aK];rfl);have aI:=H_ an;clear an;obtain ⟨h,hh,g,m,FK,b,a9⟩:=HM.out.hist _ _ aK;have aV:((ah (idS S c)).map fun h=>Value.pointer (some ⟨h,0,none⟩)).getD (.pointer none)=.pointer (some ⟨h,0,none⟩):=(by rw [hh];rfl);have bF:=HM.out.obj.cell 1 rfl;have h0:=b.obj.cell 0 rfl;have h1:=b.obj.cell 1 rfl;have k3:wc.cell? ⟨w.heap.size,3,none⟩=some (.int .i64 L):=(by simp [World.cell?,HK.out]);have ls:=HM.out.obj.lt;have lh:=b.obj.lt;have lk:=zab HK.out
  have J:¬ D (idS S c) w.heap.size:=fun e=>by
   rcases HN.out _ (.inr (.inr (.inr (.inr ⟨_,e⟩)))) with e | e
   · have:=X.out.lt hT _ e;omega
   omega
  have b0:¬ FK w.heap.size:=fun e=>J ((a9 _).2 (.inr (.inr e)));have bS:w.heap.size≠m:=fun e=>J ((a9 _).2 (.inr (.inl e)));have O:=H_ b;have Y:=H_ a9;have ba:=H_ aV;have aH:=H_ am;clear b a9 aV am J;go_wp2_with (at_lookup;refine zgt rfl _ _ 105 rfl 3 167 Tryz.underlying105 Tryz.underlying3 p _ rfl HM.out.map (idS S c) rfl bk _ (zero142 _) _ ba.out ?_)
  go_region_held (fun W=>W.cell? ⟨h,0,none⟩=some (.pointer (some ⟨g,0,none⟩))/\W.cell? ⟨w.heap.size,3,none⟩=some (.int .i64 L))
   (first | exact ⟨h0,k3⟩ | exact ⟨d.cell h0 O.out.d1,d.cell k3 b0⟩)
   (first | (go_at_call 118;refine (zqi _ g V.gens V.last L FK (O.out.key.fr (Fr.refl No wc).drew (fun _ _ s=>s)) (aH.out.fits hn) hm1 hm2 aS).mono ?_;rintro e w4 ⟨rfl,av,aQ,d,aU⟩))
  go_wp2_with fail;have l:Fr FK wc w4:=((Fr.refl FK wc).drew).trans d fun _ _ h=>h;have bH:=l.cell h1 O.out.d1;have az:=l.heap HK.out b0;obtain ⟨k0,k1,k2,bP,k4,k5⟩:=cells6 az;have bQ:h<w4.heap.size:=(by have:=l.size;omega);have bR:w.heap.size<w4.heap.size:=zab az;have bg:MapAt w4.drew m fun r=>(V.kvs r).map kvV:=O.out.map.fr l.drew O.out.d2;have bl:(Lit.int .i64 L).wf=true:=wf64 (by omega) (by unfold top at hm2;omega);have aF:=H_ l;have b8:=H_ aQ;have a7:=H_ aU;clear d l aQ aU az;refine wp_region_still_tail 7 (by kernel_rfl) (by kernel_rfl) ?_;simp only [List.take_succ_cons,List.take_zero,List.drop_succ_cons,List.drop_zero];change wpStill _ _ w4.drew _ _ _
  repeat (refine wpStill_step (fun K hK=>?_);go_simp;(try go_bits);refine hK _ ?_;clear hK K)
  refine wpStill_nil ?_;change wpList _ _ _ _ _ w4.drew;refine zfo rfl _ _ _ 169 rfl 3 99 Tryz.underlying169 Tryz.underlying3 m _ rfl bg L rfl bl (kvV ⟨c,x2,x3,L,x5,x6⟩) rfl ?_;intro w5 be y bw;go_wp2;refine bodyPost_end (results_none rfl _ _ _) rfl ?_;have bM:=O.out.map.lt;have aO:Fr (D (idS S c)) wc w5:=(aF.out.drew.mono fun b _ e=>(Y.out b).2 (.inr (.inr e))).trans (y.mono (S:=fun x=>x=m) (T:=D (idS S c)) fun b _ e=>(Y.out b).2 (.inr (.inl e))) fun _ _ e=>e
  have ay:HistAt w5 h (putH V ⟨c,x2,x3,L,x5,x6⟩) (fun b=>b=h\/b=m\/av b):=by
   refine ⟨g,m,av,⟨?_,?_,?_,?_,?_⟩,fun _=>Iff.rfl⟩
   · refine (O.out.obj.fr aF.out.drew O.out.d1).fr y fun e=>?_
     exact O.out.map.apart O.out.obj e.symm
   · refine b8.out.fr ((Fr.refl (fun x=>x=m) w4).drew.trans y fun _ _ e=>e) fun b B e=>?_
     have e':b=m:=e;subst e';rcases a7.out _ B with f | f
     · exact O.out.d2 f
     have h6:wc.heap.size<=b:=f
     omega
   · refine cast (congrArg (MapAt w5 m) ?_) be
     funext r
     unfold putH;dsimp only;by_cases hr:r=L <;> simp [hr]
   · intro B
     rcases a7.out _ B with f | f
     · exact O.out.d1 f
     have h6:wc.heap.size<=h:=f
     omega
   intro B
   rcases a7.out _ B with f | f
   · exact O.out.d2 f
   have h6:wc.heap.size<=m:=f
   omega
  have al:∀ b,(b=h\/b=m\/av b)->D (idS S c) b\/wc.heap.size<=b:=by
   rintro b (e | e | e)
   · exact .inl ((Y.out b).2 (.inl e))
   · exact .inl ((Y.out b).2 (.inr (.inl e)))
   rcases a7.out b e with f | f
   · exact .inl ((Y.out b).2 (.inr (.inr f)))
   exact .inr f
  have aP:=HM.out.setHist hT hh aO ay al;refine ⟨⟨_,rfl⟩,_,⟨t,p,ev,ah,U,_,by rw [aI.out];exact aP,fun _=>Iff.rfl⟩,?_,?_⟩
  · have bj:=HF.out.size
    refine (HF.out.trans aO fun b B e=>?_).mono fun b _ e=>(aG.out b).2 e;rcases HN.out b (.inr (.inr (.inr (.inr ⟨_,e⟩)))) with f | f
    · exact f
    omega
  have bj:=HF.out.size
  have R:∀ b,storeF s p ev U D b->F b\/w.heap.size<=b:=fun b B=>by
   rcases HN.out b B with f | f
   · exact .inl ((aG.out b).2 f)
   exact .inr (by omega)
  rintro b (e | e | e | e | ⟨i,e⟩)
  · exact R b (.inl e)
  · exact R b (.inr (.inl e))
  · exact R b (.inr (.inr (.inl e)))
  · exact R b (.inr (.inr (.inr (.inl e))))
  by_cases hi:i=idS S c
  · rw [if_pos hi] at e
    rcases al b e with f | f
    · exact R b (.inr (.inr (.inr (.inr ⟨_,f⟩))))
    exact .inr (by omega)
  rw [if_neg hi] at e
  exact R b (.inr (.inr (.inr (.inr ⟨i,e⟩))))
def sign3 (s:ByteArray):Bool:=decide (3<=s.size)&&((s.extract 0 3).toList == [239,191,189])
theorem zkw (w:World) (s:ByteArray):Calls Tryz.prog 183 #[.string s,.string ⟨#[239,191,189]⟩] w fun e w'=>e=.returned (.bool (sign3 s))/\w=w':=by
 by_cases h:3<=s.size
 · have b:(3:Int)<=(s.size:Int):=by omega
   have a:sign3 s=((s.extract 0 3).toList == [239,191,189]):=(by unfold sign3;simp [h]);rw [a];go_enter Tryz.func183,Tryz.ntmps183;go_wp2;go_ret;exact ⟨rfl,rfl⟩
 have b:¬ (3:Int)<=(s.size:Int):=by omega
 have a:sign3 s=false:=(by unfold sign3;simp [h]);rw [a];go_enter Tryz.func183,Tryz.ntmps183;go_wp2;go_ret;exact ⟨rfl,rfl⟩
theorem zje (w:World) (s:ByteArray):Calls Tryz.prog 179 #[.string s,.string ⟨#[239,191,189]⟩] w fun e w'=>e=.returned (.bool (sign3 s))/\w=w':=by
 go_enter Tryz.func179,Tryz.ntmps179;go_wp2_with (go_at_call 183;refine (zkw _ _).mono ?_;rintro e w' ⟨rfl,rfl⟩);go_ret;exact ⟨rfl,rfl⟩
def zjn (s:ByteArray) (i:Nat):Bool:=(Utf8.decode s i).1==65533 && !sign3 (s.extract i s.size)
theorem zqj (w:World) (s:ByteArray) (i r:Nat) (hi:i<=s.size):Calls Tryz.prog 161 #[.string s,.int .i64 i,.int .i32 r] w fun e w'=>e=.returned (.bool (r==65533 && !sign3 (s.extract i s.size)))/\w=w':=by
 have c:(i:Int)<=(s.size:Int):=by omega
 have b:((r:Int)==65533)=(r==65533):=by rw [Bool.eq_iff_iff,beq_iff_eq,beq_iff_eq];omega
 by_cases h:r=65533
 · subst h
   go_enter Tryz.func161,Tryz.ntmps161;go_wp2_with (go_at_call 179;refine (zje _ _).mono ?_;rintro e w' ⟨rfl,rfl⟩);go_ret;exact ⟨by simp,rfl⟩
 have a:(r==65533)=false:=by simpa using h
 rw [a] at b;go_enter Tryz.func161,Tryz.ntmps161;go_wp2;go_ret;exact ⟨by rw [a];rfl,rfl⟩
def runesK (s:ByteArray):Nat->Nat->Int->Int
 | 0,_,n=>n
 | g+1,i,n=>if i<s.size then (if zjn s i then -1 else runesK s g (i+(Utf8.decode s i).2) (n+1)) else n
def runes (s:ByteArray):Int:=runesK s s.size 0 0
theorem zqd (s:ByteArray) (i:Nat) (h:i<s.size):1<=(Utf8.decode s i).2/\i+(Utf8.decode s i).2<=s.size:=by
 refine ⟨Go.Lib.decode_width_pos s i h,?_⟩;unfold Utf8.decode;simp only
 repeat' split
 all_goals simp_all
 all_goals omega
theorem zjz (s:ByteArray):∀ (g i:Nat) (n:Int) (g':Nat),s.size<=i+g->g<=g'->runesK s g' i n=runesK s g i n
 | 0,i,n,g',h,_=>by
   cases g' with
   | zero=>rfl
   | succ g'=>unfold runesK;rw [if_neg (by omega)]
 | g+1,i,n,g',h,hg=>by
   cases g' with
   | zero=>omega
   | succ g' =>
     unfold runesK;by_cases hi:i<s.size
     · rw [if_pos hi,if_pos hi]
       cases zjn s i
       · simp only [Bool.false_eq_true,if_false]
         have:=(zqd s i hi).1;exact zjz s g _ _ g' (by omega) (by omega)
       rfl
     rw [if_neg hi,if_neg hi]
theorem zjc (w:World) (s:ByteArray):Calls Tryz.prog 162 #[.string s,.int .u8 0] w fun e w'=>e=.returned (.int .i64 (firstIdx s 0))/\w=w':=by
 have a:∀ W,(callFunc 180 #[.string s,.int .u8 0]).run Tryz.prog W=.ok (.value (.int .i64 (firstIdx s 0))) W:=by
  intro W;rw [run_callFunc_extern (e:=Extern.BytealgIndexByte.indexByte) Tryz.func180 (by kernel_rfl) (by kernel_rfl) (by kernel_rfl) (by kernel_rfl),run_indexByte_string]
  rfl
 go_enter Tryz.func162,Tryz.ntmps162;go_wp2;go_ret;exact ⟨rfl,rfl⟩
theorem zkt (w:World) (s:ByteArray):Calls Tryz.prog 120 #[.string s,.int .u8 0] w fun e w'=>e=.returned (.int .i64 (firstIdx s 0))/\w=w':=by
 go_enter Tryz.func120,Tryz.ntmps120;go_wp2_with (go_at_call 162;refine (zjc _ _).mono ?_;rintro e w' ⟨rfl,rfl⟩);go_ret;exact ⟨rfl,rfl⟩
theorem run_next_at {P:Program} (w:World) (b:Nat) (s:ByteArray) (pos:Nat) (ty:TypeId) (hb:w.heap[b]?=some (.stringIter s pos)) (h:pos<s.size) :
 (Instr.next (.pointer (some ⟨b,0,none⟩)) true ty).run P w =
   .ok (.tuple #[.bool true,.int .i64 pos,.int .i32 (Utf8.decode s pos).1]) (ChangeMaps.setBlock w b (.stringIter s (pos+(Utf8.decode s pos).2))):=by
 simp [Instr.next,getObj,setObj,Sem.run,Result.andThen,hb,h,goInt,ChangeMaps.setBlock]
theorem zmy {P:Program} (w:World) (b:Nat) (s:ByteArray) (pos:Nat) (ty:TypeId) (hb:w.heap[b]?=some (.stringIter s pos)) (h:¬ pos<s.size) :
 (Instr.next (.pointer (some ⟨b,0,none⟩)) true ty).run P w=.ok (.tuple #[.bool false]) w:=by
 simp [Instr.next,getObj,Sem.run,hb,h]
theorem zie (w:World) (b k:Nat) (o:Obj) (h:k≠b):(ChangeMaps.setBlock w b o).heap[k]?=w.heap[k]?:=by
 unfold ChangeMaps.setBlock;exact Array.getElem?_setIfInBounds_ne (fun e=>h e.symm)
theorem zwd (w:World) (b:Nat) (o:Obj) (h:b<w.heap.size):(ChangeMaps.setBlock w b o).heap[b]?=some o:=by
 unfold ChangeMaps.setBlock;simp [h]
theorem zsf (w:World) (s:ByteArray) (hs:s.size<=1099511627776):Calls Tryz.prog 119 #[.string s] w fun e w'=>e=.returned (.int .i64 (runes s))/\Fr No w w':=by
 go_enter Tryz.func119,Tryz.ntmps119;go_wp2
 go_loopg [3] s.size (fun g s3 wr=>∃ (a:Nat) (n:Int),s3=.int .i64 n/\a+g=s.size/\0<=n/\n<=a/\Hid (runesK s g a n=runes s)/\Hid (wr.heap[w.heap.size]?=some (.stringIter s a))/\Hid (Fr No w wr))
 case atStart=>exact ⟨0,0,rfl,by simp,by omega,by omega,H_ rfl,H_ (World.iter_heap _ _ _),H_ ((Fr.refl No w).alloc _)⟩
 case round =>
  obtain ⟨a,n,rfl,B,x,y,r,p,i⟩:=hrel;by_cases hp:a<s.size
  · have u:=fun ty=>run_next_at (P:=Tryz.prog) wr w.heap.size s a ty p.out hp
    have A:=zqd s a hp
    have m:Fr No w (ChangeMaps.setBlock wr w.heap.size (.stringIter s (a+(Utf8.decode s a).2))) :=
     ⟨i.out.os,i.out.tape,i.out.output,by have:=i.out.size;simpa [ChangeMaps.setBlock] using this,fun k hk hS=>(zie wr _ k _ (by omega)).trans (i.out.block k hk hS)⟩
    have l:=zwd wr w.heap.size (.stringIter s (a+(Utf8.decode s a).2)) (zab p.out)
    have b:runesK s gk a n=if zjn s a then -1 else runesK s (s.size-(a+(Utf8.decode s a).2)) (a+(Utf8.decode s a).2) (n+1):=by
     obtain ⟨k,rfl⟩:∃ k,gk=k+1:=⟨gk-1,by omega⟩
     conv=>lhs;unfold runesK
     rw [if_pos hp]
     congr 1
     exact zjz s _ _ _ _ (by omega) (by omega)
    have j:=H_ m;have q:=H_ l;have c:=fun W=>zqj W s a (Utf8.decode s a).1 (by omega);have o:((Utf8.decode s a).1==65533 && !sign3 (s.extract a s.size))=zjn s a:=rfl;simp only [o] at c;generalize ChangeMaps.setBlock wr w.heap.size (.stringIter s (a+(Utf8.decode s a).2))=z at *;generalize Utf8.decode s a=d at *;clear m l o;cases hw:zjn s a
    · rw [hw] at b c
      have t:=H_ b;clear b hw;go_wp2_with (go_at_call 161;refine (c _).mono ?_;rintro e w' ⟨rfl,rfl⟩);go_roundg (s.size-(a+d.2))
      case rel=>exact ⟨a+d.2,n+1,rfl,by omega,by omega,by omega,H_ (by rw [<-r.out,t.out];simp),q,j⟩
      case measure=>omega
    rw [hw] at b c
    have t:=H_ b;clear b hw;go_wp2_with (go_at_call 161;refine (c _).mono ?_;rintro e w' ⟨rfl,rfl⟩);go_ret;exact ⟨by rw [<-r.out,t.out];rfl,j.out⟩
  have u:=fun ty=>zmy (P:=Tryz.prog) wr w.heap.size s a ty p.out hp
  have f:runesK s gk a n=n:=by
   obtain rfl:gk=0:=by omega
   rfl
  have v:=H_ f;clear f;go_wp2;go_ret;exact ⟨by rw [<-r.out,v.out];rfl,i.out⟩
def keyE (s:ByteArray):Int:=if runes s<1\/0<=firstIdx s 0 then 30 else if 64<s.size then 31 else 0
theorem zhz (w:World) (s:ByteArray) (hs:s.size<=1099511627776):Calls Tryz.prog 65 #[.string s] w fun e w'=>e=.returned (.int .i64 (keyE s))/\Fr No w w':=by
 have b:=fun W=>zsf W s hs;have c:=fun W=>zkt W s;have g:0<=runes s\/runes s<0:=by omega
 unfold keyE;generalize runes s=r at *;generalize firstIdx s 0=x at *;by_cases h1:r<1
 · have f:¬ 1<=r:=by omega
   rw [if_pos (.inl h1)];go_enter Tryz.func65,Tryz.ntmps65;go_wp2_with (first | (go_at_call 119;refine (b _).mono ?_;rintro e w1 ⟨rfl,a⟩) | (go_at_call 120;refine (c _).mono ?_;rintro e w' ⟨rfl,rfl⟩));go_ret;exact ⟨rfl,a⟩
 by_cases h2:0<=x
 · rw [if_pos (.inr h2)]
   go_enter Tryz.func65,Tryz.ntmps65;go_wp2_with (first | (go_at_call 119;refine (b _).mono ?_;rintro e w1 ⟨rfl,a⟩) | (go_at_call 120;refine (c _).mono ?_;rintro e w' ⟨rfl,rfl⟩));go_ret;exact ⟨rfl,a⟩
 rw [if_neg (by omega)]
 by_cases h3:64<s.size
 · have d:(64:Int)<(s.size:Int):=by omega
   rw [if_pos h3];go_enter Tryz.func65,Tryz.ntmps65;go_wp2_with (first | (go_at_call 119;refine (b _).mono ?_;rintro e w1 ⟨rfl,a⟩) | (go_at_call 120;refine (c _).mono ?_;rintro e w' ⟨rfl,rfl⟩));go_ret;exact ⟨rfl,a⟩
 have d:¬ (64:Int)<(s.size:Int):=by omega
 rw [if_neg h3];go_enter Tryz.func65,Tryz.ntmps65;go_wp2_with (first | (go_at_call 119;refine (b _).mono ?_;rintro e w1 ⟨rfl,a⟩) | (go_at_call 120;refine (c _).mono ?_;rintro e w' ⟨rfl,rfl⟩));go_ret;exact ⟨rfl,a⟩
end Go.Proofs.YthljnnjpmdgkoaaGreat