/- Own lemmas. -/
import Derived.Test.YthljnnjpmdgkoaaGreatK27
import Derived.Test.YthljnnjpmdgkoaaGreatK15
import Derived.Test.YthljnnjpmdgkoaaGreatK18
import Derived.Test.YthljnnjpmdgkoaaGreatK14
import Derived.Lib.RuneCountTail
import Derived.Laws.Runes
import Derived.PlainAid
namespace Go.Proofs.YthljnnjpmdgkoaaGreat
open Go Go.Proofs Go.RowKit
set_option maxRecDepth 100000
theorem zbs {α:Type} {f:α->List Value} {P:Program} {w:World} {ops:Array Oper} {rest:List Oper} {o:Oper} {a:Act} {Q:Exit->Act->World->Prop} (hgd:o.guard=none) (s x:Operand) (t:TypeId)
 (ho:o.op=.call { callee:=.builtin .append,args:=#[s,x],argTypes:=#[t,t] })
 (e:TypeId) (i:TypeInfo) (z:Value) (sz bytes:Nat) (ht:P.underlying t=some (.slice e)) (hi:P.info? e=some i) (hz:i.zero=some z) (hsize:i.size=sz) (hby:i.bytes=bytes) (hzs:z.cells.size=sz) (hsz:0<sz)
 (v:Value) (L:List α) (hs:a.eval s=v) (hown:SlF w e sz f v L) (w0:World) (hnb:∀ k,v.ownBlock=some k->w0.heap.size<=k) (hfr:Fr No w0 w)
 (b c:Nat) (y:α) (hx:a.eval x=.slice (some ⟨b,0,none⟩) 1 c) (hnews:∀ j u,(f y)[j]?=some u->w.cell? ((⟨b,0,none⟩:Addr).add j)=some u) (hl:(f y).length=sz) (h1:∀ u∈f y,u.oneCell'=true)
 (h63:L.length+1<=maxLen) (hbytes:(L.length+1) * bytes<=140737488355328)
 (h:∀ g o' cap w',SlF w' e sz f (.slice (some ⟨g,o',none⟩) (L.length+1) cap) (L++[y])->w0.heap.size<=g->Fr No w0 w'->g<w'.heap.size →
   wpList P ops Q rest (a.put o.dst (.slice (some ⟨g,o',none⟩) (L.length+1) cap)) w'):wpList P ops Q (o :: rest) a w:=by
 refine zao hgd s x t ho e i z sz bytes ht hi hz hsize hby hzs hsz v L hs hown b c y hx hnews hl h1 h63 hbytes ?_;intro g o' cap w' d l m n;refine h g o' cap w' d ?_ (hfr.grown l fun k hk=>.inr (hnb k hk)) n;rcases m with e | e
 · exact hnb _ e
 rw [e];exact hfr.size
theorem zdt (y:Kv):∀ u∈kvC y,u.oneCell'=true:=by intro u a;simp [kvC] at a;rcases a with rfl | rfl | rfl | rfl | rfl | rfl <;> rfl
theorem zcf {g o n c:Nat} {B:Nat} (h:B<=g):∀ k,(Value.slice (some ⟨g,o,none⟩) n c).ownBlock=some k->B<=k:=fun k hk=>by simp [Value.ownBlock] at hk;omega
def doneSt (x:Ev) (s:List Kv×Bool) (k:Kv):List Kv×Bool :=
 (s.1++(if s.2=false/\klt k.key x.kv.key=false then [x.kv] else [])++(if keq k.key x.kv.key=true then [] else [k]),s.2 || !klt k.key x.kv.key)
def doneX (L:List Kv) (x:Ev):List Kv:=(L.foldl (doneSt x) ([],x.kind != 1)).1++if (L.foldl (doneSt x) ([],x.kind != 1)).2 then [] else [x.kv]
theorem zvu (x:Ev) (O:List Kv) (p:Bool) (k:Kv):doneSt x (O,p) k=(O++(if p=false/\klt k.key x.kv.key=false then [x.kv] else [])++(if keq k.key x.kv.key=true then [] else [k]),p || !klt k.key x.kv.key):=rfl
theorem zsy (x:Ev) (L:List Kv):∀ s:List Kv×Bool,(L.foldl (doneSt x) s).1.length<=s.1.length+2 * L.length:=by
 induction L with
 | nil=>intro s;exact Nat.le_refl _
 | cons k l ih =>
   intro s;rw [List.foldl_cons];have b:=ih (doneSt x s k)
   have a:(doneSt x s k).1.length<=s.1.length+2:=by
    unfold doneSt;simp only [List.length_append]
    split <;> split <;> simp <;> omega
   simp only [List.length_cons];omega
theorem zjv (x:Ev) (L:List Kv):∀ acc,L.foldl (doneSt x) (acc,true)=(acc++L.filter fun k=>!keq k.key x.kv.key,true):=by
 induction L with
 | nil=>intro acc;simp
 | cons k l ih =>
   intro acc;rw [List.foldl_cons];have:doneSt x (acc,true) k=(acc++(if keq k.key x.kv.key=true then [] else [k]),true):=(by unfold doneSt;simp);rw [this,ih,List.filter_cons];cases keq k.key x.kv.key <;> simp
theorem znz {x:Ev} {k:Kv} {l:List Kv} (h:KSorted (k :: l)) (hk:klt k.key x.kv.key=false):(l.filter fun k=>!keq k.key x.kv.key)=l:=by
 rw [List.filter_eq_self];intro y a;obtain ⟨b,_⟩:=List.pairwise_cons.1 h;have:=zfr hk (b y a);rw [zca,klt_ne this]
 rfl
theorem zhg {L:List Kv} (h:KSorted L) (x:Ev):doneX L x=doneL L x:=by
 by_cases hk:x.kind=1
 · have key:∀ (l:List Kv),KSorted l->∀ a,(l.foldl (doneSt x) (a,false)).1++(if (l.foldl (doneSt x) (a,false)).2 then [] else [x.kv])=a++doneL l x:=by
    intro l
    induction l with
    | nil=>intro _ a;simp [doneL,hk]
    | cons k l ih =>
      intro d a;obtain ⟨f,b⟩:=List.pairwise_cons.1 d;rw [List.foldl_cons];unfold doneL
      cases hlt:klt k.key x.kv.key with
      | true =>
        have c:=klt_ne hlt;have:doneSt x (a,false) k=(a++[k],false):=(by unfold doneSt;simp [hlt,c]);rw [this,ih b,if_pos rfl];simp
      | false =>
        have:doneSt x (a,false) k=(a++[x.kv]++(if keq k.key x.kv.key=true then [] else [k]),true):=(by unfold doneSt;simp [hlt]);rw [this,zjv,znz d hlt];simp only [hk,if_true,Bool.false_eq_true,if_false];cases keq k.key x.kv.key <;> simp
   unfold doneX;have e:(x.kind != 1)=false:=(by rw [hk];rfl);rw [e,key L h []]
   rfl
 unfold doneX
 have e:(x.kind != 1)=true:=(by rw [bne_iff_ne];exact hk);rw [e,zjv];simp only [List.nil_append,if_true,List.append_nil];clear e
 induction L with
 | nil=>simp [doneL,hk]
 | cons k l ih =>
   obtain ⟨f,b⟩:=List.pairwise_cons.1 h;unfold doneL
   cases hlt:klt k.key x.kv.key with
   | true =>
     rw [List.filter_cons,if_pos (by rw [klt_ne hlt];rfl),ih b,if_pos rfl]
   | false =>
     rw [List.filter_cons,znz h hlt];simp only [hk,if_false,Bool.false_eq_true];cases keq k.key x.kv.key <;> simp
theorem zge {a b:ByteArray} (h:klt a b=true):Op.bytesLess a.toList b.toList=true/\Op.bytesLess b.toList a.toList=false/\(a.toList==b.toList)=false/\(b.toList==a.toList)=false/\(a.toList != b.toList)=true:=by
 have e:=zcp h;have c:keq a b=false:=klt_ne h;have d:keq b a=false:=by rw [zca];exact c
 exact ⟨h,e,c,d,by unfold bne;rw [show (a.toList==b.toList)=false from c];rfl⟩
set_option maxHeartbeats 8000000 in
theorem zcn (w:World) (v:Value) (L:List Kv) (hv:SlR w 6 kvC v L) (hl:L.length<=100000000) (x:Ev) :
 Calls Tryz.prog 73 #[v,evV x] w fun e w'=>∃ v',e=.returned v'/\SlF w' 99 6 kvC v' (doneX L x)/\(∀ b,v'.ownBlock=some b->w.heap.size<=b)/\Fr No w w':=by
 obtain ⟨va,bi,rfl,h1,h2,h3⟩:=hv.shape;have HX:Hid (doneX L x=(L.foldl (doneSt x) ([],x.kind != 1)).1++if (L.foldl (doneSt x) ([],x.kind != 1)).2 then [] else [x.kv]):=H_ rfl;have ay:=zad w (Obj.cells #[.int .i64 x.kind,.string x.kv.key,.string x.kv.value,.int .i64 x.kv.create,.int .i64 x.kv.mod,.int .i64 x.kv.version,.int .i64 x.kv.lease,.string x.prev.key,.string x.prev.value,.int .i64 x.prev.create,.int .i64 x.prev.mod,.int .i64 x.prev.version,.int .i64 x.prev.lease] 101) _ rfl;have ao:Fr No w (w.alloc (Obj.cells #[.int .i64 x.kind,.string x.kv.key,.string x.kv.value,.int .i64 x.kv.create,.int .i64 x.kv.mod,.int .i64 x.kv.version,.int .i64 x.kv.lease,.string x.prev.key,.string x.prev.value,.int .i64 x.prev.create,.int .i64 x.prev.mod,.int .i64 x.prev.version,.int .i64 x.prev.lease] 101)):=(Fr.refl No w).alloc _
 have aC:=hv.fr0 ao;obtain ⟨i0,I,G,F,N⟩:=info_parts info57;obtain ⟨Q,Y⟩:∃ Q,(x.kind != 1)=Q:=⟨_,rfl⟩;have aD:=H_ Y;have ah:=fun i=>zsy x (L.take i) ([],Q);rw [Y] at HX;have HV:=H_ aC;have HA:=H_ h3;have X:=H_ ay;have an:=H_ ao;have ax:=H_ ah;clear hv aC h3 ay ao ah Y;unfold evV;obtain ⟨Z,⟨k,y,t,r,z,s⟩,⟨q1,q2,q3,q4,q5,q6⟩⟩:=x;dsimp only at X an HV aD ⊢
 have Y:(Z != 1)=Q:=aD.out;go_enter Tryz.func73,Tryz.ntmps73;go_wp2;generalize w.alloc (Obj.cells #[.int .i64 Z,.string k,.string y,.int .i64 t,.int .i64 r,.int .i64 z,.int .i64 s,.string q1,.string q2,.int .i64 q3,.int .i64 q4,.int .i64 q5,.int .i64 q6] 101)=S at *;clear Y;have bw:w.heap.size<S.heap.size:=zaa X.out
 go_loopg [5,6,7] L.length (fun g s5 s6 s7 wr=>∃ (i:Nat) (o:Value) (O:List Kv) (p:Bool),s5=o/\s6=.bool p/\s7=.int .i64 i/\i+g=L.length/\Hid ((L.take i).foldl (doneSt ⟨Z,⟨k,y,t,r,z,s⟩,⟨q1,q2,q3,q4,q5,q6⟩⟩) ([],Q)=(O,p))/\Hid (SlF wr 99 6 kvC o O)/\Hid (∀ b,o.ownBlock=some b->S.heap.size<=b)/\Hid (Fr No S wr))
 case atStart=>exact ⟨0,_,[],Q,rfl,rfl,rfl,by simp,H_ rfl,H_ (SlF.nil _ _ _ _),H_ (by simp [Value.ownBlock]),H_ (Fr.refl No S)⟩
 case round =>
  obtain ⟨i,o,O,p,rfl,rfl,rfl,hi,aq,HO,C,HF⟩:=hrel;obtain ⟨oa,bf,rfl,br,bs,aS⟩:=HO.out.shape;clear aS
  have bq:O.length<=2 * i:=by
   have:=ax.out i;rw [aq.out] at this;simp only [List.length_nil,List.length_take] at this;omega
  have P:=HF.out.heap X.out id;have lb:=zaa P;have b0:=cellAt P 0 rfl;have b1:=cellAt P 1 rfl;have b2:=cellAt P 2 rfl;have b3:=cellAt P 3 rfl;have b4:=cellAt P 4 rfl;have b5:=cellAt P 5 rfl;have b6:=cellAt P 6 rfl;have az:=zar wr (kvC ⟨k,y,t,r,z,s⟩) 99 (0,0);have aj:=H_ az;clear az P
  cases gk with
  | zero =>
    have aU:¬ (i:Int)<(L.length:Int):=(by omega);have aH:i=L.length:=(by omega);subst aH;have a8:=aq.out;rw [List.take_length] at a8;have A:=HX.out;rw [a8] at A;dsimp only at A
    cases p with
    | true =>
      rw [if_pos rfl,List.append_nil] at A;have al:=H_ A;clear A a8;go_wp2;go_ret;exact ⟨_,rfl,by rw [al.out];exact HO.out,fun b P=>by have:=C.out b P;omega,an.out.trans0 HF.out⟩
    | false =>
      rw [if_neg (by simp)] at A;have al:=H_ A;clear A a8;go_wp2_with (at_builtin;refine zbs rfl _ _ 27 rfl 99 i0 _ 6 64 Tryz.underlying27 I G F N rfl (by decide) _ O rfl (HO.out.alloc _) S C.out (HF.out.alloc _) wr.heap.size 1 ⟨k,y,t,r,z,s⟩ rfl aj.out rfl (zdt _) (by unfold maxLen;omega) (by omega) ?_);intro g1 o1 bk w5 B U D ai;have T:=H_ B;have u:=H_ D;clear B D;go_wp2;go_ret;exact ⟨_,rfl,by rw [al.out];simpa using T.out,fun b P=>by have:=zcf U b P;omega,an.out.trans0 u.out⟩
  | succ g =>
    have aU:(i:Int)<(L.length:Int):=(by omega);obtain ⟨x,A⟩:∃ x,L[i]?=some x:=⟨_,List.getElem?_eq_getElem (by omega)⟩;obtain ⟨ga,go,rfl⟩:=HA.out (by omega)
    have a:(L.take (i+1)).foldl (doneSt ⟨Z,⟨k,y,t,r,z,s⟩,⟨q1,q2,q3,q4,q5,q6⟩⟩) ([],Q)=doneSt ⟨Z,⟨k,y,t,r,z,s⟩,⟨q1,q2,q3,q4,q5,q6⟩⟩ (O,p) x:=by
     rw [List.take_add_one,A,List.foldl_append,aq.out];rfl
    rw [zvu] at a;dsimp only at a;have aY:=fun (W:World) (hW:Fr No S W)=>(HV.out.fr0 hW);have M:=HV.out.fr0 HF.out;have f0:=M.cell0 zae i A rfl;have f1:=M.cell zae i 1 A rfl;have f2:=M.cell zae i 2 A rfl;have f3:=M.cell zae i 3 A rfl;have f4:=M.cell zae i 4 A rfl;have f5:=M.cell zae i 5 A rfl;have lf:=World.block_lt_of_cell? _ _ f0;obtain ⟨d,x2,x3,x4,x5,x6⟩:=x;dsimp only at f0 f1 f2 f3 f4 f5 a;have av:=fun (W:World)=>zar W (kvC ⟨d,x2,x3,x4,x5,x6⟩) 99 (0,0);have ag:=H_ av;have l:=H_ A;clear av M A aY
    cases p with
    | true =>
      rcases zep d k with R | rfl | R
      · obtain ⟨e1,e2,e3,e4,e5⟩:=zge R
        rw [show klt d k=true from R,show keq d k=false from e3] at a;have j:Hid ((L.take (i+1)).foldl (doneSt ⟨Z,⟨k,y,t,r,z,s⟩,⟨q1,q2,q3,q4,q5,q6⟩⟩) ([],Q)=(O++[⟨d,x2,x3,x4,x5,x6⟩],true)):=H_ (by rw [a];simp);clear a R;go_upto_region 6 with fail;refine wp_region_still_lit (by kernel_rfl) (by kernel_rfl) ?_;change wpStill _ _ wr.drew _ _ _
        repeat (refine (wpStill_step (fun K hK=>?_):_);go_simp;refine hK _ ?_;clear hK K)
        refine (wpStill_nil ?_:_);change Exit.then _ _ _ _ wr.drew;go_upto_region 9 with fail;refine wp_region_still_lit (by kernel_rfl) (by kernel_rfl) ?_;change wpStill _ _ wr.drew.drew _ _ _
        repeat (refine (wpStill_step (fun K hK=>?_):_);go_simp;refine hK _ ?_;clear hK K)
        refine (wpStill_nil ?_:_);change Exit.then _ _ _ _ wr.drew.drew;go_wp2_with (at_builtin;refine zbs rfl _ _ 27 rfl 99 i0 _ 6 64 Tryz.underlying27 I G F N rfl (by decide) _ O rfl (HO.out.alloc _).drew.drew S C.out (HF.out.alloc _).drew.drew wr.heap.size 1 ⟨d,x2,x3,x4,x5,x6⟩ rfl (ag.out _) rfl (zdt _) (by unfold maxLen;omega) (by omega) ?_);intro g6 o6 a0 w6 m H n V;have J:=H_ m;have E:=H_ n;clear m n;go_wp2;go_roundg g
        case rel=>exact ⟨i+1,_,_,_,rfl,rfl,by go_num,by omega,j,H_ (by simpa using J.out),H_ (zcf H),E⟩
        case measure=>omega
      · have e1:Op.bytesLess d.toList d.toList=false:=zbb d
        rw [show klt d d=false from e1,show keq d d=true from zlw d] at a;have j:Hid ((L.take (i+1)).foldl (doneSt ⟨Z,⟨d,y,t,r,z,s⟩,⟨q1,q2,q3,q4,q5,q6⟩⟩) ([],Q)=(O,true)):=H_ (by rw [a];simp);clear a;go_upto_region 6 with fail;refine wp_region_still_lit (by kernel_rfl) (by kernel_rfl) ?_;change wpStill _ _ wr.drew _ _ _
        repeat (refine (wpStill_step (fun K hK=>?_):_);go_simp;refine hK _ ?_;clear hK K)
        refine (wpStill_nil ?_:_);change Exit.then _ _ _ _ wr.drew;go_upto_region 9 with fail;refine wp_region_still_lit (by kernel_rfl) (by kernel_rfl) ?_;change wpStill _ _ wr.drew.drew _ _ _
        repeat (refine (wpStill_step (fun K hK=>?_):_);go_simp;refine hK _ ?_;clear hK K)
        refine (wpStill_nil ?_:_);change Exit.then _ _ _ _ wr.drew.drew;go_wp2;go_roundg g
        case rel=>exact ⟨i+1,_,_,_,rfl,rfl,by go_num,by omega,j,H_ HO.out.drew.drew,C,H_ HF.out.drew.drew⟩
        case measure=>omega
      obtain ⟨e1,e2,e3,e4,_⟩:=zge R
      have e6:(d.toList != k.toList)=true:=(by unfold bne;rw [e4];rfl);rw [show klt d k=false from e2,show keq d k=false from e4] at a;have j:Hid ((L.take (i+1)).foldl (doneSt ⟨Z,⟨k,y,t,r,z,s⟩,⟨q1,q2,q3,q4,q5,q6⟩⟩) ([],Q)=(O++[⟨d,x2,x3,x4,x5,x6⟩],true)):=H_ (by rw [a];simp);clear a R;go_upto_region 6 with fail;refine wp_region_still_lit (by kernel_rfl) (by kernel_rfl) ?_;change wpStill _ _ wr.drew _ _ _
      repeat (refine (wpStill_step (fun K hK=>?_):_);go_simp;refine hK _ ?_;clear hK K)
      refine (wpStill_nil ?_:_);change Exit.then _ _ _ _ wr.drew;go_upto_region 9 with fail;refine wp_region_still_lit (by kernel_rfl) (by kernel_rfl) ?_;change wpStill _ _ wr.drew.drew _ _ _
      repeat (refine (wpStill_step (fun K hK=>?_):_);go_simp;refine hK _ ?_;clear hK K)
      refine (wpStill_nil ?_:_);change Exit.then _ _ _ _ wr.drew.drew;go_wp2_with (at_builtin;refine zbs rfl _ _ 27 rfl 99 i0 _ 6 64 Tryz.underlying27 I G F N rfl (by decide) _ O rfl (HO.out.alloc _).drew.drew S C.out (HF.out.alloc _).drew.drew wr.heap.size 1 ⟨d,x2,x3,x4,x5,x6⟩ rfl (ag.out _) rfl (zdt _) (by unfold maxLen;omega) (by omega) ?_);intro g6 o6 a0 w6 m H n V;have J:=H_ m;have E:=H_ n;clear m n;go_wp2;go_roundg g
      case rel=>exact ⟨i+1,_,_,_,rfl,rfl,by go_num,by omega,j,H_ (by simpa using J.out),H_ (zcf H),E⟩
      case measure=>omega
    | false =>
      rcases zep d k with R | rfl | R
      · obtain ⟨e1,e2,e3,e4,e5⟩:=zge R
        rw [show klt d k=true from R,show keq d k=false from e3] at a;have j:Hid ((L.take (i+1)).foldl (doneSt ⟨Z,⟨k,y,t,r,z,s⟩,⟨q1,q2,q3,q4,q5,q6⟩⟩) ([],Q)=(O++[⟨d,x2,x3,x4,x5,x6⟩],false)):=H_ (by rw [a];simp);clear a R;go_upto_region 6 with fail;refine wp_region_still_lit (by kernel_rfl) (by kernel_rfl) ?_;change wpStill _ _ wr.drew _ _ _
        repeat (refine (wpStill_step (fun K hK=>?_):_);go_simp;refine hK _ ?_;clear hK K)
        refine (wpStill_nil ?_:_);change Exit.then _ _ _ _ wr.drew;go_upto_region 9 with fail;refine wp_region_still_lit (by kernel_rfl) (by kernel_rfl) ?_;change wpStill _ _ wr.drew.drew _ _ _
        repeat (refine (wpStill_step (fun K hK=>?_):_);go_simp;refine hK _ ?_;clear hK K)
        refine (wpStill_nil ?_:_);change Exit.then _ _ _ _ wr.drew.drew;go_wp2_with (at_builtin;refine zbs rfl _ _ 27 rfl 99 i0 _ 6 64 Tryz.underlying27 I G F N rfl (by decide) _ O rfl (HO.out.alloc _).drew.drew S C.out (HF.out.alloc _).drew.drew wr.heap.size 1 ⟨d,x2,x3,x4,x5,x6⟩ rfl (ag.out _) rfl (zdt _) (by unfold maxLen;omega) (by omega) ?_);intro g6 o6 a0 w6 m H n V;have J:=H_ m;have E:=H_ n;clear m n;go_wp2;go_roundg g
        case rel=>exact ⟨i+1,_,_,_,rfl,rfl,by go_num,by omega,j,H_ (by simpa using J.out),H_ (zcf H),E⟩
        case measure=>omega
      · have e1:Op.bytesLess d.toList d.toList=false:=zbb d
        rw [show klt d d=false from e1,show keq d d=true from zlw d] at a;have j:Hid ((L.take (i+1)).foldl (doneSt ⟨Z,⟨d,y,t,r,z,s⟩,⟨q1,q2,q3,q4,q5,q6⟩⟩) ([],Q)=(O++[⟨d,y,t,r,z,s⟩],true)):=H_ (by rw [a];simp);clear a;go_upto_region 6 with fail;refine wp_region_still_lit (by kernel_rfl) (by kernel_rfl) ?_;change wpStill _ _ wr.drew _ _ _
        repeat (refine (wpStill_step (fun K hK=>?_):_);go_simp;refine hK _ ?_;clear hK K)
        refine (wpStill_nil ?_:_);change Exit.then _ _ _ _ wr.drew;go_upto_region 9 with (at_builtin;refine zbs rfl _ _ 27 rfl 99 i0 _ 6 64 Tryz.underlying27 I G F N rfl (by decide) _ O rfl (HO.out.alloc _).drew S C.out (HF.out.alloc _).drew wr.heap.size 1 ⟨d,y,t,r,z,s⟩ rfl aj.out rfl (zdt _) (by unfold maxLen;omega) (by omega) ?_);intro g5 o5 aA w5 B U D ai;have T:=H_ B;have u:=H_ D;have q:O.length+1=(O++[(⟨d,y,t,r,z,s⟩:Kv)]).length:=(by simp);have aR:=H_ q;clear B D q f0 f1 f2 f3 f4 f5 b0 b1 b2 b3 b4 b5 b6 lf lb;have c:=HV.out.fr0 u.out;have am:=c.cell0 zae i l.out rfl;have aP:=c.cell zae i 1 l.out rfl;have b9:=c.cell zae i 2 l.out rfl;have aQ:=c.cell zae i 3 l.out rfl;have aF:=c.cell zae i 4 l.out rfl
        have aN:=c.cell zae i 5 l.out rfl;have bc:=World.block_lt_of_cell? _ _ am;have f:=u.out.heap X.out id;have aM:=zaa f;have aX:=cellAt f 0 rfl;have aJ:=cellAt f 1 rfl;have aV:=cellAt f 2 rfl;have aK:=cellAt f 3 rfl;have b7:=cellAt f 4 rfl;have aW:=cellAt f 5 rfl;have aG:=cellAt f 6 rfl;clear c f;go_upto_region 9 with fail;refine wp_region_still_lit (by kernel_rfl) (by kernel_rfl) ?_;change wpStill _ _ w5.drew _ _ _
        repeat (refine (wpStill_step (fun K hK=>?_):_);go_simp;refine hK _ ?_;clear hK K)
        refine (wpStill_nil ?_:_);change Exit.then _ _ _ _ w5.drew;go_wp2;go_roundg g
        case rel=>exact ⟨i+1,_,_,_,rfl,rfl,by go_num,by omega,j,H_ (by simpa using T.out.drew),H_ (zcf U),H_ u.out.drew⟩
        case measure=>omega
      obtain ⟨e1,e2,e3,e4,_⟩:=zge R
      have e6:(d.toList != k.toList)=true:=(by unfold bne;rw [e4];rfl);rw [show klt d k=false from e2,show keq d k=false from e4] at a;have j:Hid ((L.take (i+1)).foldl (doneSt ⟨Z,⟨k,y,t,r,z,s⟩,⟨q1,q2,q3,q4,q5,q6⟩⟩) ([],Q)=(O++[⟨k,y,t,r,z,s⟩]++[⟨d,x2,x3,x4,x5,x6⟩],true)):=H_ (by rw [a];simp);clear a R;go_upto_region 6 with fail;refine wp_region_still_lit (by kernel_rfl) (by kernel_rfl) ?_;change wpStill _ _ wr.drew _ _ _
      repeat (refine (wpStill_step (fun K hK=>?_):_);go_simp;refine hK _ ?_;clear hK K)
      refine (wpStill_nil ?_:_);change Exit.then _ _ _ _ wr.drew;go_upto_region 9 with (at_builtin;refine zbs rfl _ _ 27 rfl 99 i0 _ 6 64 Tryz.underlying27 I G F N rfl (by decide) _ O rfl (HO.out.alloc _).drew S C.out (HF.out.alloc _).drew wr.heap.size 1 ⟨k,y,t,r,z,s⟩ rfl aj.out rfl (zdt _) (by unfold maxLen;omega) (by omega) ?_);intro g5 o5 aA w5 B U D ai;have T:=H_ B;have u:=H_ D;have q:O.length+1=(O++[(⟨k,y,t,r,z,s⟩:Kv)]).length:=(by simp);have aR:=H_ q;clear B D q f0 f1 f2 f3 f4 f5 b0 b1 b2 b3 b4 b5 b6 lf lb;have c:=HV.out.fr0 u.out;have am:=c.cell0 zae i l.out rfl;have aP:=c.cell zae i 1 l.out rfl;have b9:=c.cell zae i 2 l.out rfl;have aQ:=c.cell zae i 3 l.out rfl;have aF:=c.cell zae i 4 l.out rfl
      have aN:=c.cell zae i 5 l.out rfl;have bc:=World.block_lt_of_cell? _ _ am;have f:=u.out.heap X.out id;have aM:=zaa f;have aX:=cellAt f 0 rfl;have aJ:=cellAt f 1 rfl;have aV:=cellAt f 2 rfl;have aK:=cellAt f 3 rfl;have b7:=cellAt f 4 rfl;have aW:=cellAt f 5 rfl;have aG:=cellAt f 6 rfl;clear c f;go_upto_region 9 with fail;refine wp_region_still_lit (by kernel_rfl) (by kernel_rfl) ?_;change wpStill _ _ w5.drew _ _ _
      repeat (refine (wpStill_step (fun K hK=>?_):_);go_simp;refine hK _ ?_;clear hK K)
      refine (wpStill_nil ?_:_);change Exit.then _ _ _ _ w5.drew;go_wp2_with (at_builtin;refine zbs rfl _ _ 27 rfl 99 i0 _ 6 64 Tryz.underlying27 I G F N rfl (by decide) _ (O++[⟨k,y,t,r,z,s⟩]) rfl (T.out.alloc _).drew S (zcf U) (u.out.alloc _).drew w5.heap.size 1 ⟨d,x2,x3,x4,x5,x6⟩ rfl (ag.out _) rfl (zdt _) (by simp only [List.length_append,List.length_singleton];unfold maxLen;omega) (by simp only [List.length_append,List.length_singleton];omega) ?_);intro g6 o6 a0 w6 m H n V;have J:=H_ m;have E:=H_ n;clear m n;go_wp2;go_roundg g
      case rel=>exact ⟨i+1,_,_,_,rfl,rfl,by go_num,by omega,j,H_ (by simpa using J.out),H_ (zcf H),E⟩
      case measure=>omega
def docV (D:Doc) (vk ve:Value):Value:=.agg #[.int .i64 D.rev,.int .i64 D.mark,vk,ve]
structure DocR (w:World) (D:Doc) (vk ve:Value):Prop where
 kvs:SlR w 6 kvC vk D.kvs
 evs:SlR w 13 evC ve D.events
theorem DocR.fr0 {w w':World} {D:Doc} {vk ve:Value} (h:DocR w D vk ve) (hf:Fr No w w'):DocR w' D vk ve:=⟨h.kvs.fr0 hf,h.evs.fr0 hf⟩
def atP (D:Doc) (r:Int) (e:Ev):Bool:=decide (D.mark<e.kv.mod)&&decide (e.kv.mod<=r)
def atTo (D:Doc) (r:Int) (i:Nat):List Kv:=((D.events.take i).filter (atP D r)).foldl doneL D.kvs
theorem zim (D:Doc) (r:Int):atTo D r D.events.length=D.at r:=by unfold atTo;rw [List.take_length];rfl
theorem zvx (D:Doc) (r:Int) {i:Nat} {e:Ev} (h:D.events[i]?=some e):atTo D r (i+1)=if atP D r e=true then doneL (atTo D r i) e else atTo D r i:=by
 unfold atTo;rw [List.take_add_one,h,List.filter_append];simp only [Option.toList_some,List.filter_cons,List.filter_nil]
 split <;> simp
theorem zil (D:Doc) (r:Int) (i:Nat):(atTo D r i).length<=D.kvs.length+i:=by
 unfold atTo
 have key:∀ (l:List Ev) (k:List Kv),(l.foldl doneL k).length<=k.length+l.length:=by
  intro l
  induction l with
  | nil=>intro k;exact Nat.le_refl _
  | cons e l ih=>intro k;rw [List.foldl_cons];have:=ih (doneL k e);have:=zjw k e;simp only [List.length_cons];omega
 have:=key ((D.events.take i).filter (atP D r)) D.kvs;have a:=List.length_filter_le (atP D r) (D.events.take i);have b:(D.events.take i).length<=i:=List.length_take_le _ _;omega
theorem zqk {D:Doc} (h:KSorted D.kvs) (r:Int) (i:Nat):KSorted (atTo D r i):=zbg h _
set_option maxHeartbeats 8000000 in
theorem zjc (w:World) (D:Doc) (vk ve:Value) (hD:DocR w D vk ve) (hs:KSorted D.kvs) (hl:D.kvs.length+D.events.length<=100000000) (r:Int) :
 Calls Tryz.prog 80 #[docV D vk ve,.int .i64 r] w fun e w'=>∃ v',e=.returned v'/\SlR w' 6 kvC v' (D.at r)/\Fr No w w'/\((v'=vk/\D.at r=D.kvs)\/∀ b,v'.ownBlock=some b->w.heap.size<=b):=by
 obtain ⟨ea,f,rfl,ap,aq,O⟩:=hD.evs.shape;have I:=zad w (Obj.cells #[.int .i64 D.rev,.int .i64 D.mark,vk,.slice ea D.events.length f] 30) _ rfl;have l:Fr No w (w.alloc (Obj.cells #[.int .i64 D.rev,.int .i64 D.mark,vk,.slice ea D.events.length f] 30)):=(Fr.refl No w).alloc _;have C:=hD.kvs.fr0 l;have Q:=hD.evs.fr0 l;have s:=zil D r;have G:=zqk hs r;have p:=zim D r;obtain ⟨ka,n,rfl,ao,am,ah⟩:=hD.kvs.shape;have J:=H_ s;have a6:=H_ G;have q:=H_ p;have H:=H_ I;have Y:=H_ l;have a4:=H_ C;have a0:=H_ Q;have a7:=H_ O;clear I l C Q s G p hD hs O ah;unfold docV;go_enter Tryz.func80,Tryz.ntmps80;go_wp2
 generalize w.alloc (Obj.cells #[.int .i64 D.rev,.int .i64 D.mark,.slice ka D.kvs.length n,.slice ea D.events.length f] 30)=W1 at *;have aj:w.heap.size<W1.heap.size:=zaa H.out
 go_loopg [5,6] D.events.length (fun g s5 s6 wr=>∃ (i:Nat) (o:Value),s5=o/\s6=.int .i64 i/\i+g=D.events.length/\Hid (SlR wr 6 kvC o (atTo D r i))/\Hid (Fr No W1 wr)/\Hid ((o=.slice ka D.kvs.length n/\atTo D r i=D.kvs)\/∀ b,o.ownBlock=some b->w.heap.size<=b))
 case atStart=>exact ⟨0,_,rfl,rfl,by simp,a4,H_ (Fr.refl No W1),H_ (.inl ⟨rfl,by simp [atTo]⟩)⟩
 case round =>
  obtain ⟨i,o,rfl,rfl,hi,R,y,v⟩:=hrel;have B:=y.out.heap H.out id;have lb:=zaa B;have b1:=cellAt B 1 rfl;have b3:=cellAt B 3 rfl;clear B
  cases gk with
  | zero =>
    have a2:¬ (i:Int)<(D.events.length:Int):=(by omega);have U:i=D.events.length:=(by omega);subst U;go_wp2;go_ret;exact ⟨_,rfl,by rw [<-q.out];exact R.out,Y.out.trans0 y.out,by rw [<-q.out];exact v.out⟩
  | succ g =>
    have a2:(i:Int)<(D.events.length:Int):=(by omega);obtain ⟨x,d⟩:∃ x,D.events[i]?=some x:=⟨_,List.getElem?_eq_getElem (by omega)⟩;obtain ⟨ga,go,rfl⟩:=a7.out (by omega);have j:=zvx D r d;have ai:(atTo D r i).length<=100000000:=(by have:=J.out i;omega);have c:=a0.out.fr0 y.out;have S:=c.cell0 zac i d rfl;have x1:=c.cell zac i 1 d rfl;have V:=c.cell zac i 2 d rfl;have x3:=c.cell zac i 3 d rfl;have x4:=c.cell zac i 4 d rfl;have x5:=c.cell zac i 5 d rfl;have x6:=c.cell zac i 6 d rfl;have T:=c.cell zac i 7 d rfl;have X:=c.cell zac i 8 d rfl;have x9:=c.cell zac i 9 d rfl;have t:=c.cell zac i 10 d rfl;have A:=c.cell zac i 11 d rfl;have u:=c.cell zac i 12 d rfl;have lf:=World.block_lt_of_cell? _ _ S;have a:=H_ j
    have P:=H_ (fun W (hW:Fr No wr W)=>zcn W _ _ (R.out.fr0 hW) ai x);clear j c d;unfold atP at a;by_cases hm:D.mark<x.kv.mod
    · have k:decide (D.mark<x.kv.mod)=true:=decide_eq_true hm
      have E:decide (x.kv.mod > D.mark)=true:=decide_eq_true hm;by_cases hr:x.kv.mod<=r
      · have m:decide (x.kv.mod<=r)=true:=decide_eq_true hr
        have z:Hid (atTo D r (i+1)=doneL (atTo D r i) x):=H_ (by rw [a.out,k,m];rfl);have a1:Hid (doneX (atTo D r i) x=doneL (atTo D r i) x):=H_ (zhg (a6.out i) x);clear a;obtain ⟨kd,⟨p1,p2,p3,p4,p5,p6⟩,⟨q1,q2,q3,q4,q5,q6⟩⟩:=x;unfold evV at P;dsimp only at S x1 V x3 x4 x5 x6 T X x9 t A u hm k E hr m P;go_upto_region 5 with fail;refine wp_region_still_lit (by kernel_rfl) (by kernel_rfl) ?_;change wpStill _ _ wr.drew _ _ _
        repeat (refine (wpStill_step (fun K hK=>?_):_);go_simp;refine hK _ ?_;clear hK K)
        refine (wpStill_nil ?_:_);change Exit.then _ _ _ _ wr.drew;go_wp2_with (go_at_call 73;with_reducible refine (P.out _ (Fr.refl No wr).drew).mono ?_;rintro e w5 ⟨v5,rfl,M,F,L⟩);have Z:=H_ (M.toR zae);have ab:=H_ (y.out.drew.trans0 L);have N:w.heap.size<=wr.drew.heap.size:=Nat.le_trans (Nat.le_of_lt aj) y.out.drew.size;have a5:=H_ (fun b B=>Nat.le_trans N (F b B));clear M F L;go_roundg g
        case rel=>exact ⟨i+1,_,rfl,by go_num,by omega,H_ (by rw [z.out,<-a1.out];exact Z.out),ab,H_ (.inr a5.out)⟩
        case measure=>omega
      have m:decide (x.kv.mod<=r)=false:=decide_eq_false hr
      have z:Hid (atTo D r (i+1)=atTo D r i):=H_ (by rw [a.out,k,m];rfl);clear a P S x1 V x3 x5 x6 T X x9 t A u;have lf:=World.block_lt_of_cell? _ _ x4;generalize x.kv.mod=xm at *;go_upto_region 5 with fail;refine wp_region_still_lit (by kernel_rfl) (by kernel_rfl) ?_;change wpStill _ _ wr.drew _ _ _
      repeat (refine (wpStill_step (fun K hK=>?_):_);go_simp;refine hK _ ?_;clear hK K)
      refine (wpStill_nil ?_:_);change Exit.then _ _ _ _ wr.drew;go_wp2;go_roundg g
      case rel=>exact ⟨i+1,_,rfl,by go_num,by omega,H_ (by rw [z.out];exact R.out),H_ y.out.drew,H_ (by rw [z.out];exact v.out)⟩
      case measure=>omega
    have k:decide (D.mark<x.kv.mod)=false:=decide_eq_false hm
    have E:decide (x.kv.mod > D.mark)=false:=decide_eq_false hm;have z:Hid (atTo D r (i+1)=atTo D r i):=H_ (by rw [a.out,k];rfl);clear a P S x1 V x3 x5 x6 T X x9 t A u;have lf:=World.block_lt_of_cell? _ _ x4;generalize x.kv.mod=xm at *;go_upto_region 5 with fail;refine wp_region_still_lit (by kernel_rfl) (by kernel_rfl) ?_;change wpStill _ _ wr.drew _ _ _
    repeat (refine (wpStill_step (fun K hK=>?_):_);go_simp;refine hK _ ?_;clear hK K)
    refine (wpStill_nil ?_:_);change Exit.then _ _ _ _ wr.drew;go_wp2;go_roundg g
    case rel=>exact ⟨i+1,_,rfl,by go_num,by omega,H_ (by rw [z.out];exact R.out),H_ y.out.drew,H_ (by rw [z.out];exact v.out)⟩
    case measure=>omega
open Go Go.Proofs Go.RowKit Go.PlainAid
theorem zdm (s:ByteArray) (k:Nat):bt s k=((s.get! k).toNat:Int):=by
 unfold bt
 split
 · rename_i h
   rw [<-Go.Lib.getD_get!'];simp [List.getD,h]
   rfl
 rename_i h
 rw [<-Go.Lib.getD_get!'];have:s.data.toList[k]?=none:=List.getElem?_eq_none (by simpa using Nat.le_of_not_lt h);simp [List.getD,this]
theorem ztc (s:ByteArray) (i k:Nat):bt (s.extract i s.size) k=bt s (i+k):=by
 rw [zdm,zdm,Go.Lib.tail_get!]
def leadN (c:Int):Nat:=if 240<=c then 4 else if 224<=c then 3 else if 192<=c then 2 else 1
def leadV (c:Int):Int:=if 240<=c then c-240 else if 224<=c then c-224 else if 192<=c then c-192 else c
def leadL (c:Int):Int:=if 240<=c then 65536 else if 224<=c then 2048 else if 192<=c then 128 else 0
def contK (s:ByteArray):Nat->Nat->Int->Option Int
 | 0,_,v=>some v
 | g+1,i,v=>if bt s i<128\/191<bt s i then none else contK s g (i+1) (v * 64+bt s i-128)
def oneOf (s:ByteArray):Nat :=
 if 128<=bt s 0/\bt s 0<192 then 0
 else if 248<=bt s 0\/s.size<leadN (bt s 0) then 0
 else match contK s (leadN (bt s 0)-1) 1 (leadV (bt s 0)) with
  | none=>0
  | some v=>if v<leadL (bt s 0)\/1114111<v\/(55296<=v/\v<=57343) then 0 else leadN (bt s 0)
theorem zxf (l:List UInt8) (h:3<=l.length) (a b c:UInt8):(l.take 3 == [a,b,c])=(l.getD 0 0==a&&l.getD 1 0==b&&l.getD 2 0==c):=by
 match l,h with
 | x :: y :: z :: t,_ =>
   show ((x :: y :: z :: t).take 3 == [a,b,c])=_
   simp [Bool.and_assoc]
theorem zwp (s:ByteArray):sign3 s=(decide (3<=s.size)&&decide (bt s 0=239)&&decide (bt s 1=191)&&decide (bt s 2=189)):=by
 unfold sign3;by_cases h:3<=s.size
 · have i:3<=s.data.toList.length:=by simpa using h
   have a:(s.extract 0 3).toList=s.data.toList.take 3:=by
    rw [Lib.toList_data];simp [ByteArray.data_extract]
   rw [a,zxf _ i,Go.Lib.getD_get!',Go.Lib.getD_get!',Go.Lib.getD_get!',zdm,zdm,zdm]
   have key:∀ (x:UInt8) (n:Nat) (f:n<256),(x==UInt8.ofNat n)=decide ((x.toNat:Int)=(n:Int)):=by
    intro x n f;rw [Bool.eq_iff_iff,beq_iff_eq,decide_eq_true_eq]
    constructor
    · rintro rfl;simp;omega
    intro e
    have k:x.toNat=n:=(by omega);rw [<-k];simp
   have c:=key (s.get! 0) 239 (by omega);have g:=key (s.get! 1) 191 (by omega);have b:=key (s.get! 2) 189 (by omega);have d:(s.get! 0==(239:UInt8))=(s.get! 0==UInt8.ofNat 239):=rfl;have j:(s.get! 1==(191:UInt8))=(s.get! 1==UInt8.ofNat 191):=rfl;have l:(s.get! 2==(189:UInt8))=(s.get! 2==UInt8.ofNat 189):=rfl;rw [d,j,l,c,g,b];simp [h,Bool.and_assoc]
 simp [h]
set_option maxHeartbeats 4000000 in
theorem zsi (s:ByteArray) (hs:0<s.size):(((Utf8.decode s 0).1==65533 && !sign3 s)=true/\oneOf s=0) ∨
 (((Utf8.decode s 0).1==65533 && !sign3 s)=false/\1<=oneOf s/\oneOf s=(Utf8.decode s 0).2/\oneOf s<=s.size/\∀ k,1<=k->k<oneOf s->bt s k≠0):=by
 have l:=Go.Lib.decode_at s 0;rw [zwp];have B:=zdm s 0;have i:=zdm s 1;have j:=zdm s 2;have u:=zdm s 3;have J:(s.get! 0).toNat<256:=(s.get! 0).toNat_lt;have G:(s.get! 1).toNat<256:=(s.get! 1).toNat_lt;have I:(s.get! 2).toNat<256:=(s.get! 2).toNat_lt;have H:(s.get! 3).toNat<256:=(s.get! 3).toNat_lt;simp only [Nat.zero_add,Nat.sub_zero] at l;rw [l];unfold oneOf
 have d:∀ k,1<=k->k<4->bt s k=if k=1 then ((s.get! 1).toNat:Int) else if k=2 then ((s.get! 2).toNat:Int) else ((s.get! 3).toNat:Int):=by
  intro k e f;have:k=1\/k=2\/k=3:=(by omega);rcases this with rfl | rfl | rfl <;> simp [i,j,u]
 generalize x:(s.get! 0).toNat=a at *;generalize z:(s.get! 1).toNat=b1 at *;generalize y:(s.get! 2).toNat=b2 at *;generalize A:(s.get! 3).toNat=b at *
 have p:contK s (leadN (a:Int)-1) 1 (leadV (a:Int)) =
  if a<192 then some (a:Int)
  else if a<224 then (if b1<128\/191<b1 then none else some (((a:Int)-192) * 64+b1-128))
  else if a<240 then (if b1<128\/191<b1 then none else if b2<128\/191<b2 then none else some ((((a:Int)-224) * 64+b1-128) * 64+b2-128))
  else (if b1<128\/191<b1 then none else if b2<128\/191<b2 then none else if b<128\/191<b then none else some (((((a:Int)-240) * 64+b1-128) * 64+b2-128) * 64+b-128)):=by
  have o:((b1:Int)<128\/191<(b1:Int))↔(b1<128\/191<b1):=(by omega);have t:((b2:Int)<128\/191<(b2:Int))↔(b2<128\/191<b2):=(by omega);have E:((b:Int)<128\/191<(b:Int))↔(b<128\/191<b):=(by omega);unfold leadN leadV;by_cases e:a<192
  · rw [if_pos e,if_neg (by omega),if_neg (by omega),if_neg (by omega),if_neg (by omega),if_neg (by omega),if_neg (by omega)]
    rfl
  rw [if_neg e]
  by_cases f:a<224
  · rw [if_pos f,if_neg (by omega),if_neg (by omega),if_pos (by omega),if_neg (by omega),if_neg (by omega),if_pos (by omega)]
    simp only [contK,i,Nat.reduceSub,o]
  rw [if_neg f]
  by_cases h3:a<240
  · rw [if_pos h3,if_neg (by omega),if_pos (by omega),if_neg (by omega),if_pos (by omega)]
    simp only [contK,i,j,Nat.reduceSub,Nat.reduceAdd,o,t]
  rw [if_neg h3,if_pos (by omega),if_pos (by omega)]
  simp only [contK,i,j,u,Nat.reduceSub,Nat.reduceAdd,o,t,E]
 rw [B,p];rw [i,j]
 have v:leadN (a:Int)=if a<192 then 1 else if a<224 then 2 else if a<240 then 3 else 4:=by
  unfold leadN
  repeat' split
  all_goals omega
 have q:leadL (a:Int)=if a<192 then 0 else if a<224 then 128 else if a<240 then 2048 else 65536:=by
  unfold leadL
  repeat' split
  all_goals omega
 rw [v,q];clear v q p l;have n:∀ (m w r:Nat),m<=4->(r,w)=(r,w)->True:=fun _ _ _ _ _=>trivial;clear n;unfold Go.Lib.decodeN;by_cases e:a<128
 · right
   simp only [e,if_true];have g:¬ (128<=(a:Int)/\(a:Int)<192):=(by omega);have F:a<192:=(by omega);have C:¬ (248<=(a:Int)\/s.size<1):=(by omega);have D:¬ ((a:Int)<0\/1114111<(a:Int)\/(55296<=(a:Int)/\(a:Int)<=57343)):=(by omega);simp only [if_neg g,if_pos F,if_neg C,if_neg D];refine ⟨?_,by omega,trivial,by omega,fun k f h3=>by omega⟩;have:(a==65533)=false:=(by rw [beq_eq_false_iff_ne];omega);rw [this];rfl
 by_cases f:a<192
 · left
   have g:(128<=(a:Int)/\(a:Int)<192):=(by omega);rw [if_neg e,if_neg (by omega),if_neg (by omega),if_neg (by omega),if_pos g];have:(decide ((a:Int)=239))=false:=(by rw [decide_eq_false_iff_not];omega);simp [this]
 have g:¬ (128<=(a:Int)/\(a:Int)<192):=by omega
 rw [if_neg g,if_neg e];simp only [if_neg f];by_cases h3:a<224
 · simp only [if_pos h3]
   by_cases h4:1<s.size/\b1 / 64=2
   · rw [if_pos ⟨by omega,h4⟩,if_neg (by omega:¬ (248<=(a:Int)\/s.size<2)),if_neg (by omega:¬ (b1<128\/191<b1))]
     by_cases h5:128<=a % 32 * 64+b1 % 64
     · right
       rw [if_pos h5];dsimp only;rw [if_neg (by omega)]
       refine ⟨?_,by omega,rfl,by omega,fun k h6 h7=>by rw [d k h6 (by omega)];have:k=1:=by omega
                                                        subst this;simp;omega⟩
       have:(a % 32 * 64+b1 % 64==65533)=false:=(by rw [beq_eq_false_iff_ne];omega);rw [this];rfl
     left
     rw [if_neg h5];dsimp only;rw [if_pos (by omega)];have:(decide ((a:Int)=239))=false:=(by rw [decide_eq_false_iff_not];omega);simp [this]
   left
   rw [if_neg (fun h=>h4 h.2),if_neg (by omega),if_neg (by omega)];have:(decide ((a:Int)=239))=false:=(by rw [decide_eq_false_iff_not];omega);refine ⟨by simp [this],?_⟩;by_cases h5:248<=(a:Int)\/s.size<2
   · rw [if_pos h5]
   rw [if_neg h5,if_pos (by omega)]
 simp only [if_neg h3]
 rw [if_neg (by omega:¬ (a / 32=6/\(1<s.size/\b1 / 64=2)))];by_cases h3':a<240
 · simp only [if_pos h3']
   by_cases h4:(1<s.size/\b1 / 64=2)/\(2<s.size/\b2 / 64=2)
   · rw [if_pos ⟨by omega,h4⟩,if_neg (by omega:¬ (248<=(a:Int)\/s.size<3)),if_neg (by omega:¬ (b1<128\/191<b1)),if_neg (by omega:¬ (b2<128\/191<b2))]
     by_cases h5:a % 16 * 4096+b1 % 64 * 64+b2 % 64 ≥ 2048/\(a % 16 * 4096+b1 % 64 * 64+b2 % 64<55296\/(57344<=a % 16 * 4096+b1 % 64 * 64+b2 % 64/\a % 16 * 4096+b1 % 64 * 64+b2 % 64<=1114111))
     · right
       rw [if_pos h5];dsimp only;rw [if_neg (by omega)];refine ⟨?_,by omega,rfl,by omega,fun k h6 h7=>?_⟩
       · by_cases h8:a % 16 * 4096+b1 % 64 * 64+b2 % 64=65533
         · have:(decide (3<=s.size)&&decide ((a:Int)=239)&&decide ((b1:Int)=191)&&decide ((b2:Int)=189))=true:=by
            simp only [Bool.and_eq_true,decide_eq_true_eq];omega
           rw [this];simp
         have:(a % 16 * 4096+b1 % 64 * 64+b2 % 64==65533)=false:=by rw [beq_eq_false_iff_ne];omega
         rw [this];rfl
       rw [d k h6 (by omega)]
       have:k=1\/k=2:=(by omega);rcases this with rfl | rfl <;> simp <;> omega
     left
     rw [if_neg h5];dsimp only;rw [if_pos (by omega)]
     have:(decide (3<=s.size)&&decide ((a:Int)=239)&&decide ((b1:Int)=191)&&decide ((b2:Int)=189))=false:=by
      rw [Bool.eq_false_iff];simp only [ne_eq,Bool.and_eq_true,decide_eq_true_eq];omega
     rw [this];simp
   left
   rw [if_neg (fun h=>h4 h.2),if_neg (by omega)]
   have:(decide (3<=s.size)&&decide ((a:Int)=239)&&decide ((b1:Int)=191)&&decide ((b2:Int)=189))=false:=by
    rw [Bool.eq_false_iff];simp only [ne_eq,Bool.and_eq_true,decide_eq_true_eq];omega
   refine ⟨by rw [this];simp,?_⟩;by_cases h5:248<=(a:Int)\/s.size<3
   · rw [if_pos h5]
   rw [if_neg h5]
   by_cases h6:b1<128\/191<b1
   · rw [if_pos h6]
   rw [if_neg h6,if_pos (by omega)]
 simp only [if_neg h3']
 have c:(decide ((a:Int)=239))=false:=(by rw [decide_eq_false_iff_not];omega);rw [if_neg (by omega:¬ (a / 16=14/\(1<s.size/\b1 / 64=2)/\(2<s.size/\b2 / 64=2)))];by_cases h4:a / 8=30/\(1<s.size/\b1 / 64=2)/\(2<s.size/\b2 / 64=2)/\(3<s.size/\b / 64=2)
 · rw [if_pos h4,if_neg (by omega:¬ (248<=(a:Int)\/s.size<4)),if_neg (by omega:¬ (b1<128\/191<b1)),if_neg (by omega:¬ (b2<128\/191<b2)),if_neg (by omega:¬ (b<128\/191<b))]
   by_cases h5:a % 8 * 262144+b1 % 64 * 4096+b2 % 64 * 64+b % 64 ≥ 65536/\(a % 8 * 262144+b1 % 64 * 4096+b2 % 64 * 64+b % 64<55296\/(57344<=a % 8 * 262144+b1 % 64 * 4096+b2 % 64 * 64+b % 64/\a % 8 * 262144+b1 % 64 * 4096+b2 % 64 * 64+b % 64<=1114111))
   · right
     rw [if_pos h5];dsimp only;rw [if_neg (by omega)];refine ⟨?_,by omega,rfl,by omega,fun k h6 h7=>?_⟩
     · have:(a % 8 * 262144+b1 % 64 * 4096+b2 % 64 * 64+b % 64==65533)=false:=by rw [beq_eq_false_iff_ne];omega
       rw [this];rfl
     rw [d k h6 (by omega)]
     have:k=1\/k=2\/k=3:=(by omega);rcases this with rfl | rfl | rfl <;> simp <;> omega
   left
   rw [if_neg h5];dsimp only;rw [if_pos (by omega)];simp [c]
 left
 rw [if_neg h4];refine ⟨by simp [c],?_⟩;by_cases h5:248<=(a:Int)\/s.size<4
 · rw [if_pos h5]
 rw [if_neg h5]
 by_cases h6:b1<128\/191<b1
 · rw [if_pos h6]
 rw [if_neg h6]
 by_cases h7:b2<128\/191<b2
 · rw [if_pos h7]
 rw [if_neg h7,if_pos (by omega)]
def refK (s:ByteArray):Nat->Nat->Bool
 | 0,_=>true
 | g+1,i=>if i<s.size then (if oneOf (s.extract i s.size)=0\/bt s i=0 then false else refK s g (i+oneOf (s.extract i s.size))) else true
def zpc (s:ByteArray):Int:=if s.size=0 then 30 else if refK s s.size 0=false then 30 else if 64<s.size then 31 else 0
theorem one_at (s:ByteArray) (i:Nat) (h:i<s.size):(zfb s i=true/\oneOf (s.extract i s.size)=0) ∨
 (zfb s i=false/\1<=oneOf (s.extract i s.size)/\oneOf (s.extract i s.size)=(Utf8.decode s i).2/\i+oneOf (s.extract i s.size)<=s.size/\∀ k,i+1<=k->k<i+oneOf (s.extract i s.size)->bt s k≠0):=by
 have f:(s.extract i s.size).size=s.size-i:=by simp
 have a:=zsi (s.extract i s.size) (by omega);rw [Go.Lib.tail_decode] at a;unfold zfb;rcases a with a | ⟨a,b,d,e,c⟩
 · exact .inl a
 refine .inr ⟨a,b,d,by omega,fun k hk1 hk2=>?_⟩
 have:=c (k-i) (by omega) (by omega);rw [ztc] at this;rw [show k=i+(k-i) by omega];exact this
theorem zkw (s:ByteArray):∀ (g i:Nat) (n:Int),i<=s.size->s.size<=i+g->0<=n →
 (refK s g i=true->n<=runesK s g i n/\(i<s.size->n<runesK s g i n)/\∀ k,i<=k->k<s.size->bt s k≠0) ∧
 (refK s g i=false->runesK s g i n = -1\/∃ k,i<=k/\k<s.size/\bt s k=0)
 | 0,i,n,h,hg,hn=>by
   refine ⟨fun _=>⟨by simp [runesK],fun h'=>by omega,fun k h1 h2=>by omega⟩,fun h'=>by simp [refK] at h'⟩
 | g+1,i,n,h,hg,hn=>by
   unfold refK runesK;by_cases hi:i<s.size
   · simp only [if_pos hi]
     rcases one_at s i hi with ⟨h1,h2⟩ | ⟨h1,h2,h3,h4,h5⟩
     · rw [if_pos (.inl h2),h1]
       exact ⟨fun h'=>by simp at h',fun _=>.inl (by simp)⟩
     by_cases hb:bt s i=0
     · rw [if_pos (.inr hb)]
       exact ⟨fun h'=>by simp at h',fun _=>.inr ⟨i,Nat.le_refl _,hi,hb⟩⟩
     rw [if_neg (fun h'=>h'.elim (fun e=>by omega) (fun e=>hb e)),h1,if_neg (by simp),<-h3]
     obtain ⟨ha,hc⟩:=zkw s g (i+oneOf (s.extract i s.size)) (n+1) h4 (by omega) (by omega);refine ⟨fun hr=>?_,fun hr=>?_⟩
     · obtain ⟨q1,q2,q3⟩:=ha hr
       refine ⟨by omega,fun _=>by omega,fun k hk1 hk2=>?_⟩;by_cases e:k=i
       · rw [e];exact hb
       by_cases e':k<i+oneOf (s.extract i s.size)
       · exact h5 k (by omega) e'
       exact q3 k (by omega) hk2
     rcases hc hr with q | ⟨k,q1,q2,q3⟩
     · exact .inl q
     exact .inr ⟨k,by omega,q2,q3⟩
   rw [if_neg hi,if_neg hi]
   exact ⟨fun _=>⟨Int.le_refl _,fun h'=>absurd h' hi,fun k h1 h2=>by omega⟩,fun h'=>by simp at h'⟩
theorem zjr (s:ByteArray):0<=firstIdx s 0 ↔ ∃ k,k<s.size/\bt s k=0:=by
 have h:=firstIdx_nonneg s 0;have e:(0<=firstIdx s 0)↔s.data.toList.any (· == 0)=true:=by rw [<-h,decide_eq_true_eq]
 rw [e,List.any_eq_true]
 constructor
 · rintro ⟨x,d,b⟩
   obtain ⟨k,c⟩:=List.mem_iff_getElem?.1 d;have a:k<s.data.toList.length:=(List.getElem?_eq_some_iff.1 c).1;refine ⟨k,by simpa using a,?_⟩;rw [zdm,<-Go.Lib.getD_get!',List.getD,c];rw [beq_iff_eq] at b;subst b
   rfl
 rintro ⟨k,c,b⟩
 have a:k<s.data.toList.length:=(by simpa using c);refine ⟨s.data.toList[k],List.getElem_mem a,?_⟩;rw [zdm,<-Go.Lib.getD_get!',List.getD,List.getElem?_eq_getElem a] at b;rw [beq_iff_eq];have:(s.data.toList[k]).toNat=0:=(by simpa using b);exact UInt8.toNat_inj.1 (by simpa using this)
theorem zse (s:ByteArray):zpc s=keyE s:=by
 unfold zpc keyE runes;obtain ⟨f,e⟩:=zkw s s.size 0 0 (by omega) (by omega) (by omega);by_cases h0:s.size=0
 · have g:runesK s s.size 0 0<1:=by rw [h0];exact Int.zero_lt_one
   rw [if_pos h0,if_pos (.inl g)]
 rw [if_neg h0]
 cases hr:refK s s.size 0 with
 | true =>
   obtain ⟨j,a,b⟩:=f hr;have:=a (by omega);rw [if_neg (by simp),if_neg (c:=_\/_)];rintro (h | h)
   · omega
   obtain ⟨k,i,d⟩:=(zjr s).1 h
   exact b k (by omega) i d
 | false =>
   rw [if_pos rfl,if_pos];rcases e hr with q | ⟨k,j,a,b⟩
   · left;omega
   right;exact (zjr s).2 ⟨k,a,b⟩
end Go.Proofs.YthljnnjpmdgkoaaGreat