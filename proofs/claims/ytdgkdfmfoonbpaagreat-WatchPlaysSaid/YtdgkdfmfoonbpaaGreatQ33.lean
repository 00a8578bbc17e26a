/- Own lemmas. -/
import Derived.Test.YtdgkdfmfoonbpaaGreatQ32
import Derived.Lib.RuneCountTail
import Derived.Laws.Runes
import Derived.PlainAid
namespace Go.Proofs.YtdgkdfmfoonbpaaGreat
open Go Go.Proofs Go.RowKit
set_option maxRecDepth 100000
set_option maxHeartbeats 16000000
theorem zgj (y:Kv):∀ u∈kvC y,u.oneCell'=true:=by intro u a;simp [kvC] at a;rcases a with rfl | rfl | rfl | rfl | rfl | rfl <;> rfl
def doneSt (x:Ev) (s:List Kv×Bool) (k:Kv):List Kv×Bool :=
 (s.1++(if s.2=false/\klt k.key x.kv.key=false then [x.kv] else [])++(if keq k.key x.kv.key=true then [] else [k]),s.2 || !klt k.key x.kv.key)
def doneX (L:List Kv) (x:Ev):List Kv:=(L.foldl (doneSt x) ([],x.kind != 1)).1++if (L.foldl (doneSt x) ([],x.kind != 1)).2 then [] else [x.kv]
theorem zwz (x:Ev) (O:List Kv) (p:Bool) (k:Kv):doneSt x (O,p) k=(O++(if p=false/\klt k.key x.kv.key=false then [x.kv] else [])++(if keq k.key x.kv.key=true then [] else [k]),p || !klt k.key x.kv.key):=rfl
theorem ztl (x:Ev) (L:List Kv):∀ s:List Kv×Bool,(L.foldl (doneSt x) s).1.length<=s.1.length+2 * L.length:=by
 induction L with
 | nil=>intro s;exact Nat.le_refl _
 | cons k l ih =>
   intro s;rw [List.foldl_cons];have a:=ih (doneSt x s k)
   have b:(doneSt x s k).1.length<=s.1.length+2:=by
    unfold doneSt;simp only [List.length_append]
    split <;> split <;> simp <;> omega
   simp only [List.length_cons];omega
theorem zje (x:Ev) (L:List Kv):∀ acc,L.foldl (doneSt x) (acc,true)=(acc++L.filter fun k=>!keq k.key x.kv.key,true):=by
 induction L with
 | nil=>intro acc;simp
 | cons k l ih =>
   intro acc;rw [List.foldl_cons];have:doneSt x (acc,true) k=(acc++(if keq k.key x.kv.key=true then [] else [k]),true):=(by unfold doneSt;simp);rw [this,ih,List.filter_cons];cases keq k.key x.kv.key <;> simp
theorem znt {x:Ev} {k:Kv} {l:List Kv} (h:KSorted (k :: l)) (hk:klt k.key x.kv.key=false):(l.filter fun k=>!keq k.key x.kv.key)=l:=by
 rw [List.filter_eq_self];intro y b;obtain ⟨a,_⟩:=gP_ h;have:=zfl hk (a y b);rw [zcp,klt_ne this]
 rfl
theorem zzj {L:List Kv} (h:KSorted L) (x:Ev):doneX L x=doneL L x:=by
 by_cases hk:x.kind=1
 · have key:∀ (l:List Kv),KSorted l->∀ a,(l.foldl (doneSt x) (a,false)).1++(if (l.foldl (doneSt x) (a,false)).2 then [] else [x.kv])=a++doneL l x:=by
    intro l
    induction l with
    | nil=>intro _ a;simp [doneL,hk]
    | cons k l ih =>
      intro d a;obtain ⟨f,b⟩:=gP_ d;rw [List.foldl_cons];unfold doneL
      cases hlt:klt k.key x.kv.key with
      | true =>
        have c:=klt_ne hlt;have:doneSt x (a,false) k=(a++[k],false):=(by unfold doneSt;simp [hlt,c]);rw [this,ih b,if_pos rfl];simp
      | false =>
        have:doneSt x (a,false) k=(a++[x.kv]++(if keq k.key x.kv.key=true then [] else [k]),true):=(by unfold doneSt;simp [hlt]);rw [this,zje,znt d hlt];simp only [hk,if_true,Bool.false_eq_true,if_false];cases keq k.key x.kv.key <;> simp
   unfold doneX;have e:(x.kind != 1)=false:=(by rw [hk];rfl);rw [e,key L h []]
   rfl
 unfold doneX
 have e:(x.kind != 1)=true:=(by rw [bne_iff_ne];exact hk);rw [e,zje];simp only [List.nil_append,if_true,List.append_nil];clear e
 induction L with
 | nil=>simp [doneL,hk]
 | cons k l ih =>
   obtain ⟨f,b⟩:=gP_ h;unfold doneL
   cases hlt:klt k.key x.kv.key with
   | true =>
     rw [List.filter_cons,if_pos (by rw [klt_ne hlt];rfl),ih b,if_pos rfl]
   | false =>
     rw [List.filter_cons,znt h hlt];simp only [hk,if_false,Bool.false_eq_true];cases keq k.key x.kv.key <;> simp
theorem zfz {a b:ByteArray} (h:klt a b=true):Op.bytesLess a.toList b.toList=true/\Op.bytesLess b.toList a.toList=false/\(a.toList==b.toList)=false/\(b.toList==a.toList)=false/\(a.toList != b.toList)=true:=by
 have d:=zdc h;have c:keq a b=false:=klt_ne h;have e:keq b a=false:=by rw [zcp];exact c
 exact ⟨h,d,c,e,by unfold bne;rw [show (a.toList==b.toList)=false from c];rfl⟩
theorem zks (w:World) (v:Value) (L:List Kv) (hv:SlR w 6 kvC v L) (hl:L.length<=100000000) (x:Ev) :
 Calls Tryz.prog 68 #[v,evV x] w fun e w'=>∃ v',e=.returned v'/\SlF w' 70 6 kvC v' (doneX L x)/\(∀ b,v'.ownBlock=some b->w.heap.size<=b)/\Fr No w w':=by
 obtain ⟨va,bn,rfl,h1,h2,h3⟩:=hv.shape;have HX:Hid (doneX L x=(L.foldl (doneSt x) ([],x.kind != 1)).1++if (L.foldl (doneSt x) ([],x.kind != 1)).2 then [] else [x.kv]):=H_ rfl;have aA:=zad w (Obj.cells #[.int .i64 x.kind,.string x.kv.key,.string x.kv.value,.int .i64 x.kv.create,.int .i64 x.kv.mod,.int .i64 x.kv.version,.int .i64 x.kv.lease,.string x.prev.key,.string x.prev.value,.int .i64 x.prev.create,.int .i64 x.prev.mod,.int .i64 x.prev.version,.int .i64 x.prev.lease] 72) _ rfl;have aq:Fr No w (w.alloc (Obj.cells #[.int .i64 x.kind,.string x.kv.key,.string x.kv.value,.int .i64 x.kv.create,.int .i64 x.kv.mod,.int .i64 x.kv.version,.int .i64 x.kv.lease,.string x.prev.key,.string x.prev.value,.int .i64 x.prev.create,.int .i64 x.prev.mod,.int .i64 x.prev.version,.int .i64 x.prev.lease] 72)):=(Fr.refl No w).alloc _
 have aD:=hv.fr0 aq;obtain ⟨i0,H,J,M,N⟩:=info_parts info57;obtain ⟨R,Z⟩:∃ R,(x.kind != 1)=R:=⟨_,rfl⟩;have av:=H_ Z;have ah:=fun i=>ztl x (L.take i) ([],R);rw [Z] at HX;have HV:=H_ aD;have HA:=H_ h3;have T:=H_ aA;have aj:=H_ aq;have au:=H_ ah;clear hv aD h3 aA aq ah Z;unfold evV;obtain ⟨kd,⟨k,s,t,u,y,z⟩,⟨q1,q2,q3,q4,q5,q6⟩⟩:=x;dsimp only at T aj HV av ⊢
 have Z:(kd != 1)=R:=av.out;go_enter Tryz.func68,Tryz.ntmps68;go_wp2;generalize w.alloc (Obj.cells #[.int .i64 kd,.string k,.string s,.int .i64 t,.int .i64 u,.int .i64 y,.int .i64 z,.string q1,.string q2,.int .i64 q3,.int .i64 q4,.int .i64 q5,.int .i64 q6] 72)=S at *;clear Z;have bv:w.heap.size<S.heap.size:=zab T.out
 go_loopg [5,6,7] L.length (fun g s5 s6 s7 wr=>∃ (i:Nat) (o:Value) (O:List Kv) (p:Bool),s5=o/\s6=.bool p/\s7=.int .i64 i/\i+g=L.length/\Hid ((L.take i).foldl (doneSt ⟨kd,⟨k,s,t,u,y,z⟩,⟨q1,q2,q3,q4,q5,q6⟩⟩) ([],R)=(O,p))/\Hid (SlF wr 70 6 kvC o O)/\Hid (∀ b,o.ownBlock=some b->S.heap.size<=b)/\Hid (Fr No S wr))
 case atStart=>exact ⟨0,_,[],R,rfl,rfl,rfl,by simp,H_ rfl,H_ (SlF.nil _ _ _ _),H_ (by simp [Value.ownBlock]),H_ (Fr.refl No S)⟩
 case round =>
  obtain ⟨i,o,O,p,rfl,rfl,rfl,hi,ak,HO,B,HF⟩:=hrel;obtain ⟨oa,bm,rfl,bt,bu,b8⟩:=HO.out.shape;clear b8
  have bs:O.length<=2 * i:=by
   have:=au.out i;rw [ak.out] at this;simp only [List.length_nil,List.length_take] at this;omega
  have P:=HF.out.heap T.out id;have lb:=zab P;have b0:=cellAt P 0 rfl;have b1:=cellAt P 1 rfl;have b2:=cellAt P 2 rfl;have b3:=cellAt P 3 rfl;have b4:=cellAt P 4 rfl;have b5:=cellAt P 5 rfl;have b6:=cellAt P 6 rfl;have aC:=zav wr (kvC ⟨k,s,t,u,y,z⟩) 70 (0,0);have al:=H_ aC;clear aC P
  cases gk with
  | zero =>
    have b7:¬ (i:Int)<(L.length:Int):=(by omega);have aZ:i=L.length:=(by omega);subst aZ;have aa:=ak.out;rw [List.take_length] at aa;have A:=HX.out;rw [aa] at A;dsimp only at A
    cases p with
    | true =>
      rw [if_pos rfl,List.append_nil] at A;have am:=H_ A;clear A aa;go_wp2;go_ret;exact ⟨_,rfl,by rw [am.out];exact HO.out,fun b P=>by have:=B.out b P;omega,aj.out.trans0 HF.out⟩
    | false =>
      rw [if_neg (by simp)] at A;have am:=H_ A;clear A aa;go_wp2_with (at_builtin;refine zbd rfl _ _ 74 rfl 70 i0 _ 6 64 Tryz.underlying74 H J M N rfl (by decide) _ O rfl (HO.out.alloc _) S B.out (HF.out.alloc _) wr.heap.size 1 ⟨k,s,t,u,y,z⟩ rfl al.out rfl (zgj _) (by unfold maxLen;omega) (by omega) ?_);intro g1 o1 bj w5 D X C ai;have U:=H_ D;have r:=H_ C;clear D C;go_wp2;go_ret;exact ⟨_,rfl,by rw [am.out];simpa using U.out,fun b P=>by have:=zci X b P;omega,aj.out.trans0 r.out⟩
  | succ g =>
    have b7:(i:Int)<(L.length:Int):=(by omega);obtain ⟨x,A⟩:∃ x,L[i]?=some x:=⟨_,gG_ (by omega)⟩;obtain ⟨ga,go,rfl⟩:=HA.out (by omega)
    have a:(L.take (i+1)).foldl (doneSt ⟨kd,⟨k,s,t,u,y,z⟩,⟨q1,q2,q3,q4,q5,q6⟩⟩) ([],R)=doneSt ⟨kd,⟨k,s,t,u,y,z⟩,⟨q1,q2,q3,q4,q5,q6⟩⟩ (O,p) x:=by
     rw [gK_,A,List.foldl_append,ak.out];rfl
    rw [zwz] at a;dsimp only at a;have aY:=fun (W:World) (hW:Fr No S W)=>(HV.out.fr0 hW);have I:=HV.out.fr0 HF.out;have f0:=I.cell0 zah i A rfl;have f1:=I.cell zah i 1 A rfl;have f2:=I.cell zah i 2 A rfl;have f3:=I.cell zah i 3 A rfl;have f4:=I.cell zah i 4 A rfl;have f5:=I.cell zah i 5 A rfl;have lf:=gB_ _ _ f0;obtain ⟨d,x2,x3,x4,x5,x6⟩:=x;dsimp only at f0 f1 f2 f3 f4 f5 a;have aB:=fun (W:World)=>zav W (kvC ⟨d,x2,x3,x4,x5,x6⟩) 70 (0,0);have a8:=H_ aB;have l:=H_ A;clear aB I A aY
    cases p with
    | true =>
      rcases zgk d k with Q | rfl | Q
      · obtain ⟨e1,e2,e3,e4,e5⟩:=zfz Q
        rw [show klt d k=true from Q,show keq d k=false from e3] at a;have j:Hid ((L.take (i+1)).foldl (doneSt ⟨kd,⟨k,s,t,u,y,z⟩,⟨q1,q2,q3,q4,q5,q6⟩⟩) ([],R)=(O++[⟨d,x2,x3,x4,x5,x6⟩],true)):=H_ (by rw [a];simp);clear a Q;go_upto_region 6 with fail;refine wp_region_still_lit (by kernel_rfl) (by kernel_rfl) ?_;change wpStill _ _ wr.drew _ _ _
        repeat (refine (wpStill_step (fun K hK=>?_):_);go_simp;refine hK _ ?_;clear hK K)
        refine (wpStill_nil ?_:_);change Exit.then _ _ _ _ wr.drew;go_upto_region 9 with fail;refine wp_region_still_lit (by kernel_rfl) (by kernel_rfl) ?_;change wpStill _ _ wr.drew.drew _ _ _
        repeat (refine (wpStill_step (fun K hK=>?_):_);go_simp;refine hK _ ?_;clear hK K)
        refine (wpStill_nil ?_:_);change Exit.then _ _ _ _ wr.drew.drew;go_wp2_with (at_builtin;refine zbd rfl _ _ 74 rfl 70 i0 _ 6 64 Tryz.underlying74 H J M N rfl (by decide) _ O rfl (HO.out.alloc _).drew.drew S B.out (HF.out.alloc _).drew.drew wr.heap.size 1 ⟨d,x2,x3,x4,x5,x6⟩ rfl (a8.out _) rfl (zgj _) (by unfold maxLen;omega) (by omega) ?_);intro g6 o6 V w6 q G m Y;have F:=H_ q;have E:=H_ m;clear q m;go_wp2;go_roundg g
        case rel=>exact ⟨i+1,_,_,_,rfl,rfl,by go_num,by omega,j,H_ (by simpa using F.out),H_ (zci G),E⟩
        case measure=>omega
      · have e1:Op.bytesLess d.toList d.toList=false:=zbh d
        rw [show klt d d=false from e1,show keq d d=true from zlc d] at a;have j:Hid ((L.take (i+1)).foldl (doneSt ⟨kd,⟨d,s,t,u,y,z⟩,⟨q1,q2,q3,q4,q5,q6⟩⟩) ([],R)=(O,true)):=H_ (by rw [a];simp);clear a;go_upto_region 6 with fail;refine wp_region_still_lit (by kernel_rfl) (by kernel_rfl) ?_;change wpStill _ _ wr.drew _ _ _
        repeat (refine (wpStill_step (fun K hK=>?_):_);go_simp;refine hK _ ?_;clear hK K)
        refine (wpStill_nil ?_:_);change Exit.then _ _ _ _ wr.drew;go_upto_region 9 with fail;refine wp_region_still_lit (by kernel_rfl) (by kernel_rfl) ?_;change wpStill _ _ wr.drew.drew _ _ _
        repeat (refine (wpStill_step (fun K hK=>?_):_);go_simp;refine hK _ ?_;clear hK K)
        refine (wpStill_nil ?_:_);change Exit.then _ _ _ _ wr.drew.drew;go_wp2;go_roundg g
        case rel=>exact ⟨i+1,_,_,_,rfl,rfl,by go_num,by omega,j,H_ HO.out.drew.drew,B,H_ HF.out.drew.drew⟩
        case measure=>omega
      obtain ⟨e1,e2,e3,e4,_⟩:=zfz Q
      have e6:(d.toList != k.toList)=true:=(by unfold bne;rw [e4];rfl);rw [show klt d k=false from e2,show keq d k=false from e4] at a;have j:Hid ((L.take (i+1)).foldl (doneSt ⟨kd,⟨k,s,t,u,y,z⟩,⟨q1,q2,q3,q4,q5,q6⟩⟩) ([],R)=(O++[⟨d,x2,x3,x4,x5,x6⟩],true)):=H_ (by rw [a];simp);clear a Q;go_upto_region 6 with fail;refine wp_region_still_lit (by kernel_rfl) (by kernel_rfl) ?_;change wpStill _ _ wr.drew _ _ _
      repeat (refine (wpStill_step (fun K hK=>?_):_);go_simp;refine hK _ ?_;clear hK K)
      refine (wpStill_nil ?_:_);change Exit.then _ _ _ _ wr.drew;go_upto_region 9 with fail;refine wp_region_still_lit (by kernel_rfl) (by kernel_rfl) ?_;change wpStill _ _ wr.drew.drew _ _ _
      repeat (refine (wpStill_step (fun K hK=>?_):_);go_simp;refine hK _ ?_;clear hK K)
      refine (wpStill_nil ?_:_);change Exit.then _ _ _ _ wr.drew.drew;go_wp2_with (at_builtin;refine zbd rfl _ _ 74 rfl 70 i0 _ 6 64 Tryz.underlying74 H J M N rfl (by decide) _ O rfl (HO.out.alloc _).drew.drew S B.out (HF.out.alloc _).drew.drew wr.heap.size 1 ⟨d,x2,x3,x4,x5,x6⟩ rfl (a8.out _) rfl (zgj _) (by unfold maxLen;omega) (by omega) ?_);intro g6 o6 V w6 q G m Y;have F:=H_ q;have E:=H_ m;clear q m;go_wp2;go_roundg g
      case rel=>exact ⟨i+1,_,_,_,rfl,rfl,by go_num,by omega,j,H_ (by simpa using F.out),H_ (zci G),E⟩
      case measure=>omega
    | false =>
      rcases zgk d k with Q | rfl | Q
      · obtain ⟨e1,e2,e3,e4,e5⟩:=zfz Q
        rw [show klt d k=true from Q,show keq d k=false from e3] at a;have j:Hid ((L.take (i+1)).foldl (doneSt ⟨kd,⟨k,s,t,u,y,z⟩,⟨q1,q2,q3,q4,q5,q6⟩⟩) ([],R)=(O++[⟨d,x2,x3,x4,x5,x6⟩],false)):=H_ (by rw [a];simp);clear a Q;go_upto_region 6 with fail;refine wp_region_still_lit (by kernel_rfl) (by kernel_rfl) ?_;change wpStill _ _ wr.drew _ _ _
        repeat (refine (wpStill_step (fun K hK=>?_):_);go_simp;refine hK _ ?_;clear hK K)
        refine (wpStill_nil ?_:_);change Exit.then _ _ _ _ wr.drew;go_upto_region 9 with fail;refine wp_region_still_lit (by kernel_rfl) (by kernel_rfl) ?_;change wpStill _ _ wr.drew.drew _ _ _
        repeat (refine (wpStill_step (fun K hK=>?_):_);go_simp;refine hK _ ?_;clear hK K)
        refine (wpStill_nil ?_:_);change Exit.then _ _ _ _ wr.drew.drew;go_wp2_with (at_builtin;refine zbd rfl _ _ 74 rfl 70 i0 _ 6 64 Tryz.underlying74 H J M N rfl (by decide) _ O rfl (HO.out.alloc _).drew.drew S B.out (HF.out.alloc _).drew.drew wr.heap.size 1 ⟨d,x2,x3,x4,x5,x6⟩ rfl (a8.out _) rfl (zgj _) (by unfold maxLen;omega) (by omega) ?_);intro g6 o6 V w6 q G m Y;have F:=H_ q;have E:=H_ m;clear q m;go_wp2;go_roundg g
        case rel=>exact ⟨i+1,_,_,_,rfl,rfl,by go_num,by omega,j,H_ (by simpa using F.out),H_ (zci G),E⟩
        case measure=>omega
      · have e1:Op.bytesLess d.toList d.toList=false:=zbh d
        rw [show klt d d=false from e1,show keq d d=true from zlc d] at a;have j:Hid ((L.take (i+1)).foldl (doneSt ⟨kd,⟨d,s,t,u,y,z⟩,⟨q1,q2,q3,q4,q5,q6⟩⟩) ([],R)=(O++[⟨d,s,t,u,y,z⟩],true)):=H_ (by rw [a];simp);clear a;go_upto_region 6 with fail;refine wp_region_still_lit (by kernel_rfl) (by kernel_rfl) ?_;change wpStill _ _ wr.drew _ _ _
        repeat (refine (wpStill_step (fun K hK=>?_):_);go_simp;refine hK _ ?_;clear hK K)
        refine (wpStill_nil ?_:_);change Exit.then _ _ _ _ wr.drew;go_upto_region 9 with (at_builtin;refine zbd rfl _ _ 74 rfl 70 i0 _ 6 64 Tryz.underlying74 H J M N rfl (by decide) _ O rfl (HO.out.alloc _).drew S B.out (HF.out.alloc _).drew wr.heap.size 1 ⟨d,s,t,u,y,z⟩ rfl al.out rfl (zgj _) (by unfold maxLen;omega) (by omega) ?_);intro g5 o5 ax w5 D X C ai;have U:=H_ D;have r:=H_ C;have n:O.length+1=(O++[(⟨d,s,t,u,y,z⟩:Kv)]).length:=(by simp);have aF:=H_ n;clear D C n f0 f1 f2 f3 f4 f5 b0 b1 b2 b3 b4 b5 b6 lf lb;have c:=HV.out.fr0 r.out;have ap:=c.cell0 zah i l.out rfl;have aO:=c.cell zah i 1 l.out rfl;have aQ:=c.cell zah i 2 l.out rfl;have aS:=c.cell zah i 3 l.out rfl;have aU:=c.cell zah i 4 l.out rfl
        have aW:=c.cell zah i 5 l.out rfl;have ba:=gB_ _ _ ap;have f:=r.out.heap T.out id;have b9:=zab f;have aG:=cellAt f 0 rfl;have aH:=cellAt f 1 rfl;have aI:=cellAt f 2 rfl;have aJ:=cellAt f 3 rfl;have aK:=cellAt f 4 rfl;have aL:=cellAt f 5 rfl;have aM:=cellAt f 6 rfl;clear c f;go_upto_region 9 with fail;refine wp_region_still_lit (by kernel_rfl) (by kernel_rfl) ?_;change wpStill _ _ w5.drew _ _ _
        repeat (refine (wpStill_step (fun K hK=>?_):_);go_simp;refine hK _ ?_;clear hK K)
        refine (wpStill_nil ?_:_);change Exit.then _ _ _ _ w5.drew;go_wp2;go_roundg g
        case rel=>exact ⟨i+1,_,_,_,rfl,rfl,by go_num,by omega,j,H_ (by simpa using U.out.drew),H_ (zci X),H_ r.out.drew⟩
        case measure=>omega
      obtain ⟨e1,e2,e3,e4,_⟩:=zfz Q
      have e6:(d.toList != k.toList)=true:=(by unfold bne;rw [e4];rfl);rw [show klt d k=false from e2,show keq d k=false from e4] at a;have j:Hid ((L.take (i+1)).foldl (doneSt ⟨kd,⟨k,s,t,u,y,z⟩,⟨q1,q2,q3,q4,q5,q6⟩⟩) ([],R)=(O++[⟨k,s,t,u,y,z⟩]++[⟨d,x2,x3,x4,x5,x6⟩],true)):=H_ (by rw [a];simp);clear a Q;go_upto_region 6 with fail;refine wp_region_still_lit (by kernel_rfl) (by kernel_rfl) ?_;change wpStill _ _ wr.drew _ _ _
      repeat (refine (wpStill_step (fun K hK=>?_):_);go_simp;refine hK _ ?_;clear hK K)
      refine (wpStill_nil ?_:_);change Exit.then _ _ _ _ wr.drew;go_upto_region 9 with (at_builtin;refine zbd rfl _ _ 74 rfl 70 i0 _ 6 64 Tryz.underlying74 H J M N rfl (by decide) _ O rfl (HO.out.alloc _).drew S B.out (HF.out.alloc _).drew wr.heap.size 1 ⟨k,s,t,u,y,z⟩ rfl al.out rfl (zgj _) (by unfold maxLen;omega) (by omega) ?_);intro g5 o5 ax w5 D X C ai;have U:=H_ D;have r:=H_ C;have n:O.length+1=(O++[(⟨k,s,t,u,y,z⟩:Kv)]).length:=(by simp);have aF:=H_ n;clear D C n f0 f1 f2 f3 f4 f5 b0 b1 b2 b3 b4 b5 b6 lf lb;have c:=HV.out.fr0 r.out;have ap:=c.cell0 zah i l.out rfl;have aO:=c.cell zah i 1 l.out rfl;have aQ:=c.cell zah i 2 l.out rfl;have aS:=c.cell zah i 3 l.out rfl;have aU:=c.cell zah i 4 l.out rfl
      have aW:=c.cell zah i 5 l.out rfl;have ba:=gB_ _ _ ap;have f:=r.out.heap T.out id;have b9:=zab f;have aG:=cellAt f 0 rfl;have aH:=cellAt f 1 rfl;have aI:=cellAt f 2 rfl;have aJ:=cellAt f 3 rfl;have aK:=cellAt f 4 rfl;have aL:=cellAt f 5 rfl;have aM:=cellAt f 6 rfl;clear c f;go_upto_region 9 with fail;refine wp_region_still_lit (by kernel_rfl) (by kernel_rfl) ?_;change wpStill _ _ w5.drew _ _ _
      repeat (refine (wpStill_step (fun K hK=>?_):_);go_simp;refine hK _ ?_;clear hK K)
      refine (wpStill_nil ?_:_);change Exit.then _ _ _ _ w5.drew;go_wp2_with (at_builtin;refine zbd rfl _ _ 74 rfl 70 i0 _ 6 64 Tryz.underlying74 H J M N rfl (by decide) _ (O++[⟨k,s,t,u,y,z⟩]) rfl (U.out.alloc _).drew S (zci X) (r.out.alloc _).drew w5.heap.size 1 ⟨d,x2,x3,x4,x5,x6⟩ rfl (a8.out _) rfl (zgj _) (by simp only [List.length_append,List.length_singleton];unfold maxLen;omega) (by simp only [List.length_append,List.length_singleton];omega) ?_);intro g6 o6 V w6 q G m Y;have F:=H_ q;have E:=H_ m;clear q m;go_wp2;go_roundg g
      case rel=>exact ⟨i+1,_,_,_,rfl,rfl,by go_num,by omega,j,H_ (by simpa using F.out),H_ (zci G),E⟩
      case measure=>omega
def docV (D:Doc) (vk ve:Value):Value:=.agg #[.int .i64 D.rev,.int .i64 D.mark,vk,ve]
structure DocR (w:World) (D:Doc) (vk ve:Value):Prop where
 kvs:SlR w 6 kvC vk D.kvs
 evs:SlR w 13 evC ve D.events
theorem DocR.fr0 {w w':World} {D:Doc} {vk ve:Value} (h:DocR w D vk ve) (hf:Fr No w w'):DocR w' D vk ve:=⟨h.kvs.fr0 hf,h.evs.fr0 hf⟩
open Go Go.Proofs Go.RowKit Go.PlainAid
theorem zdi (s:ByteArray) (k:Nat):bt s k=((s.get! k).toNat:Int):=by
 unfold bt
 split
 · rename_i h
   rw [<-Go.Lib.getD_get!'];simp [List.getD,h]
   rfl
 rename_i h
 rw [<-Go.Lib.getD_get!'];have:s.data.toList[k]?=none:=List.getElem?_eq_none (by simpa using Nat.le_of_not_lt h);simp [List.getD,this]
theorem ztv (s:ByteArray) (i k:Nat):bt (s.extract i s.size) k=bt s (i+k):=by
 rw [zdi,zdi,Go.Lib.tail_get!]
def leadN (c:Int):Nat:=if 240<=c then 4 else if 224<=c then 3 else if 192<=c then 2 else 1
def leadV (c:Int):Int:=if 240<=c then c-240 else if 224<=c then c-224 else if 192<=c then c-192 else c
def leadL (c:Int):Int:=if 240<=c then 65536 else if 224<=c then 2048 else if 192<=c then 128 else 0
def contK (s:ByteArray):Nat->Nat->Int->Option Int
 | 0,_,v=>some v
 | g+1,i,v=>if bt s i<128\/191<bt s i then none else contK s g (i+1) (v * 64+bt s i-128)
def oneOf (s:ByteArray):Nat :=
 if 128<=bt s 0/\bt s 0<192 then 0
 else if 248<=bt s 0\/s.size<leadN (bt s 0) then 0
 else match contK s (leadN (bt s 0)-1) 1 (leadV (bt s 0)) with
  | none=>0
  | some v=>if v<leadL (bt s 0)\/1114111<v\/(55296<=v/\v<=57343) then 0 else leadN (bt s 0)
theorem zyp (l:List UInt8) (h:3<=l.length) (a b c:UInt8):(l.take 3 == [a,b,c])=(l.getD 0 0==a&&l.getD 1 0==b&&l.getD 2 0==c):=by
 match l,h with
 | x :: y :: z :: t,_ =>
   show ((x :: y :: z :: t).take 3 == [a,b,c])=_
   simp [Bool.and_assoc]
theorem zxy (s:ByteArray):sign3 s=(decide (3<=s.size)&&decide (bt s 0=239)&&decide (bt s 1=191)&&decide (bt s 2=189)):=by
 unfold sign3;by_cases h:3<=s.size
 · have f:3<=s.data.toList.length:=by simpa using h
   have i:(s.extract 0 3).toList=s.data.toList.take 3:=by
    rw [Lib.toList_data];simp [ByteArray.data_extract]
   rw [i,zyp _ f,Go.Lib.getD_get!',Go.Lib.getD_get!',Go.Lib.getD_get!',zdi,zdi,zdi]
   have key:∀ (x:UInt8) (n:Nat) (g:n<256),(x==UInt8.ofNat n)=decide ((x.toNat:Int)=(n:Int)):=by
    intro x n g;rw [Bool.eq_iff_iff,beq_iff_eq,decide_eq_true_eq]
    constructor
    · rintro rfl;simp;omega
    intro e
    have a:x.toNat=n:=(by omega);rw [<-a];simp
   have j:=key (s.get! 0) 239 (by omega);have k:=key (s.get! 1) 191 (by omega);have l:=key (s.get! 2) 189 (by omega);have b:(s.get! 0==(239:UInt8))=(s.get! 0==UInt8.ofNat 239):=rfl;have c:(s.get! 1==(191:UInt8))=(s.get! 1==UInt8.ofNat 191):=rfl;have d:(s.get! 2==(189:UInt8))=(s.get! 2==UInt8.ofNat 189):=rfl;rw [b,c,d,j,k,l];simp [h,Bool.and_assoc]
 simp [h]
theorem zst (s:ByteArray) (hs:0<s.size):(((Utf8.decode s 0).1==65533 && !sign3 s)=true/\oneOf s=0) ∨
 (((Utf8.decode s 0).1==65533 && !sign3 s)=false/\1<=oneOf s/\oneOf s=(Utf8.decode s 0).2/\oneOf s<=s.size/\∀ k,1<=k->k<oneOf s->bt s k≠0):=by
 have n:=Go.Lib.decode_at s 0;rw [zxy];have y:=zdi s 0;have g:=zdi s 1;have j:=zdi s 2;have q:=zdi s 3;have H:(s.get! 0).toNat<256:=(s.get! 0).toNat_lt;have l1:(s.get! 1).toNat<256:=(s.get! 1).toNat_lt;have I:(s.get! 2).toNat<256:=(s.get! 2).toNat_lt;have J:(s.get! 3).toNat<256:=(s.get! 3).toNat_lt;simp only [Nat.zero_add,Nat.sub_zero] at n;rw [n];unfold oneOf
 have e:∀ k,1<=k->k<4->bt s k=if k=1 then ((s.get! 1).toNat:Int) else if k=2 then ((s.get! 2).toNat:Int) else ((s.get! 3).toNat:Int):=by
  intro k d f;have:k=1\/k=2\/k=3:=(by omega);rcases this with rfl | rfl | rfl <;> simp [g,j,q]
 generalize C:(s.get! 0).toNat=a at *;generalize D:(s.get! 1).toNat=b1 at *;generalize E:(s.get! 2).toNat=b2 at *;generalize F:(s.get! 3).toNat=b at *
 have t:contK s (leadN (a:Int)-1) 1 (leadV (a:Int)) =
  if a<192 then some (a:Int)
  else if a<224 then (if b1<128\/191<b1 then none else some (((a:Int)-192) * 64+b1-128))
  else if a<240 then (if b1<128\/191<b1 then none else if b2<128\/191<b2 then none else some ((((a:Int)-224) * 64+b1-128) * 64+b2-128))
  else (if b1<128\/191<b1 then none else if b2<128\/191<b2 then none else if b<128\/191<b then none else some (((((a:Int)-240) * 64+b1-128) * 64+b2-128) * 64+b-128)):=by
  have o:((b1:Int)<128\/191<(b1:Int))↔(b1<128\/191<b1):=(by omega);have x:((b2:Int)<128\/191<(b2:Int))↔(b2<128\/191<b2):=(by omega);have G:((b:Int)<128\/191<(b:Int))↔(b<128\/191<b):=(by omega);unfold leadN leadV;by_cases d:a<192
  · rw [if_pos d,if_neg (by omega),if_neg (by omega),if_neg (by omega),if_neg (by omega),if_neg (by omega),if_neg (by omega)]
    rfl
  rw [if_neg d]
  by_cases f:a<224
  · rw [if_pos f,if_neg (by omega),if_neg (by omega),if_pos (by omega),if_neg (by omega),if_neg (by omega),if_pos (by omega)]
    simp only [contK,g,Nat.reduceSub,o]
  rw [if_neg f]
  by_cases h3:a<240
  · rw [if_pos h3,if_neg (by omega),if_pos (by omega),if_neg (by omega),if_pos (by omega)]
    simp only [contK,g,j,Nat.reduceSub,Nat.reduceAdd,o,x]
  rw [if_neg h3,if_pos (by omega),if_pos (by omega)]
  simp only [contK,g,j,q,Nat.reduceSub,Nat.reduceAdd,o,x,G]
 rw [y,t];rw [g,j]
 have v:leadN (a:Int)=if a<192 then 1 else if a<224 then 2 else if a<240 then 3 else 4:=by
  unfold leadN
  repeat' split
  all_goals omega
 have u:leadL (a:Int)=if a<192 then 0 else if a<224 then 128 else if a<240 then 2048 else 65536:=by
  unfold leadL
  repeat' split
  all_goals omega
 rw [v,u];clear v u t n;have l:∀ (m w r:Nat),m<=4->(r,w)=(r,w)->True:=fun _ _ _ _ _=>trivial;clear l;unfold Go.Lib.decodeN;by_cases d:a<128
 · right
   simp only [d,if_true];have i:¬ (128<=(a:Int)/\(a:Int)<192):=(by omega);have z:a<192:=(by omega);have A:¬ (248<=(a:Int)\/s.size<1):=(by omega);have B:¬ ((a:Int)<0\/1114111<(a:Int)\/(55296<=(a:Int)/\(a:Int)<=57343)):=(by omega);simp only [if_neg i,if_pos z,if_neg A,if_neg B];refine ⟨?_,by omega,trivial,by omega,fun k f h3=>by omega⟩;have:(a==65533)=false:=(by rw [beq_eq_false_iff_ne];omega);rw [this];rfl
 by_cases f:a<192
 · left
   have i:(128<=(a:Int)/\(a:Int)<192):=(by omega);rw [if_neg d,if_neg (by omega),if_neg (by omega),if_neg (by omega),if_pos i];have:(decide ((a:Int)=239))=false:=(by rw [decide_eq_false_iff_not];omega);simp [this]
 have i:¬ (128<=(a:Int)/\(a:Int)<192):=by omega
 rw [if_neg i,if_neg d];simp only [if_neg f];by_cases h3:a<224
 · simp only [if_pos h3]
   by_cases h4:1<s.size/\b1 / 64=2
   · rw [if_pos ⟨by omega,h4⟩,if_neg (by omega:¬ (248<=(a:Int)\/s.size<2)),if_neg (by omega:¬ (b1<128\/191<b1))]
     by_cases h5:128<=a % 32 * 64+b1 % 64
     · right
       rw [if_pos h5];dsimp only;rw [if_neg (by omega)]
       refine ⟨?_,by omega,rfl,by omega,fun k h6 h7=>by rw [e k h6 (by omega)];have:k=1:=by omega
                                                        subst this;simp;omega⟩
       have:(a % 32 * 64+b1 % 64==65533)=false:=(by rw [beq_eq_false_iff_ne];omega);rw [this];rfl
     left
     rw [if_neg h5];dsimp only;rw [if_pos (by omega)];have:(decide ((a:Int)=239))=false:=(by rw [decide_eq_false_iff_not];omega);simp [this]
   left
   rw [if_neg (fun h=>h4 h.2),if_neg (by omega),if_neg (by omega)];have:(decide ((a:Int)=239))=false:=(by rw [decide_eq_false_iff_not];omega);refine ⟨by simp [this],?_⟩;by_cases h5:248<=(a:Int)\/s.size<2
   · rw [if_pos h5]
   rw [if_neg h5,if_pos (by omega)]
 simp only [if_neg h3]
 rw [if_neg (by omega:¬ (a / 32=6/\(1<s.size/\b1 / 64=2)))];by_cases h3':a<240
 · simp only [if_pos h3']
   by_cases h4:(1<s.size/\b1 / 64=2)/\(2<s.size/\b2 / 64=2)
   · rw [if_pos ⟨by omega,h4⟩,if_neg (by omega:¬ (248<=(a:Int)\/s.size<3)),if_neg (by omega:¬ (b1<128\/191<b1)),if_neg (by omega:¬ (b2<128\/191<b2))]
     by_cases h5:a % 16 * 4096+b1 % 64 * 64+b2 % 64 ≥ 2048/\(a % 16 * 4096+b1 % 64 * 64+b2 % 64<55296\/(57344<=a % 16 * 4096+b1 % 64 * 64+b2 % 64/\a % 16 * 4096+b1 % 64 * 64+b2 % 64<=1114111))
     · right
       rw [if_pos h5];dsimp only;rw [if_neg (by omega)];refine ⟨?_,by omega,rfl,by omega,fun k h6 h7=>?_⟩
       · by_cases h8:a % 16 * 4096+b1 % 64 * 64+b2 % 64=65533
         · have:(decide (3<=s.size)&&decide ((a:Int)=239)&&decide ((b1:Int)=191)&&decide ((b2:Int)=189))=true:=by
            simp only [Bool.and_eq_true,decide_eq_true_eq];omega
           rw [this];simp
         have:(a % 16 * 4096+b1 % 64 * 64+b2 % 64==65533)=false:=by rw [beq_eq_false_iff_ne];omega
         rw [this];rfl
       rw [e k h6 (by omega)]
       have:k=1\/k=2:=(by omega);rcases this with rfl | rfl <;> simp <;> omega
     left
     rw [if_neg h5];dsimp only;rw [if_pos (by omega)]
     have:(decide (3<=s.size)&&decide ((a:Int)=239)&&decide ((b1:Int)=191)&&decide ((b2:Int)=189))=false:=by
      rw [Bool.eq_false_iff];simp only [ne_eq,Bool.and_eq_true,decide_eq_true_eq];omega
     rw [this];simp
   left
   rw [if_neg (fun h=>h4 h.2),if_neg (by omega)]
   have:(decide (3<=s.size)&&decide ((a:Int)=239)&&decide ((b1:Int)=191)&&decide ((b2:Int)=189))=false:=by
    rw [Bool.eq_false_iff];simp only [ne_eq,Bool.and_eq_true,decide_eq_true_eq];omega
   refine ⟨by rw [this];simp,?_⟩;by_cases h5:248<=(a:Int)\/s.size<3
   · rw [if_pos h5]
   rw [if_neg h5]
   by_cases h6:b1<128\/191<b1
   · rw [if_pos h6]
   rw [if_neg h6,if_pos (by omega)]
 simp only [if_neg h3']
 have c:(decide ((a:Int)=239))=false:=(by rw [decide_eq_false_iff_not];omega);rw [if_neg (by omega:¬ (a / 16=14/\(1<s.size/\b1 / 64=2)/\(2<s.size/\b2 / 64=2)))];by_cases h4:a / 8=30/\(1<s.size/\b1 / 64=2)/\(2<s.size/\b2 / 64=2)/\(3<s.size/\b / 64=2)
 · rw [if_pos h4,if_neg (by omega:¬ (248<=(a:Int)\/s.size<4)),if_neg (by omega:¬ (b1<128\/191<b1)),if_neg (by omega:¬ (b2<128\/191<b2)),if_neg (by omega:¬ (b<128\/191<b))]
   by_cases h5:a % 8 * 262144+b1 % 64 * 4096+b2 % 64 * 64+b % 64 ≥ 65536/\(a % 8 * 262144+b1 % 64 * 4096+b2 % 64 * 64+b % 64<55296\/(57344<=a % 8 * 262144+b1 % 64 * 4096+b2 % 64 * 64+b % 64/\a % 8 * 262144+b1 % 64 * 4096+b2 % 64 * 64+b % 64<=1114111))
   · right
     rw [if_pos h5];dsimp only;rw [if_neg (by omega)];refine ⟨?_,by omega,rfl,by omega,fun k h6 h7=>?_⟩
     · have:(a % 8 * 262144+b1 % 64 * 4096+b2 % 64 * 64+b % 64==65533)=false:=by rw [beq_eq_false_iff_ne];omega
       rw [this];rfl
     rw [e k h6 (by omega)]
     have:k=1\/k=2\/k=3:=(by omega);rcases this with rfl | rfl | rfl <;> simp <;> omega
   left
   rw [if_neg h5];dsimp only;rw [if_pos (by omega)];simp [c]
 left
 rw [if_neg h4];refine ⟨by simp [c],?_⟩;by_cases h5:248<=(a:Int)\/s.size<4
 · rw [if_pos h5]
 rw [if_neg h5]
 by_cases h6:b1<128\/191<b1
 · rw [if_pos h6]
 rw [if_neg h6]
 by_cases h7:b2<128\/191<b2
 · rw [if_pos h7]
 rw [if_neg h7,if_pos (by omega)]
def refK (s:ByteArray):Nat->Nat->Bool
 | 0,_=>true
 | g+1,i=>if i<s.size then (if oneOf (s.extract i s.size)=0\/bt s i=0 then false else refK s g (i+oneOf (s.extract i s.size))) else true
def zov (s:ByteArray):Int:=if s.size=0 then 30 else if refK s s.size 0=false then 30 else if 64<s.size then 31 else 0
theorem one_at (s:ByteArray) (i:Nat) (h:i<s.size):(zey s i=true/\oneOf (s.extract i s.size)=0) ∨
 (zey s i=false/\1<=oneOf (s.extract i s.size)/\oneOf (s.extract i s.size)=(Utf8.decode s i).2/\i+oneOf (s.extract i s.size)<=s.size/\∀ k,i+1<=k->k<i+oneOf (s.extract i s.size)->bt s k≠0):=by
 have f:(s.extract i s.size).size=s.size-i:=by simp
 have a:=zst (s.extract i s.size) (by omega);rw [Go.Lib.tail_decode] at a;unfold zey;rcases a with a | ⟨a,b,c,e,d⟩
 · exact .inl a
 refine .inr ⟨a,b,c,by omega,fun k hk1 hk2=>?_⟩
 have:=d (k-i) (by omega) (by omega);rw [ztv] at this;rw [show k=i+(k-i) by omega];exact this
theorem zka (s:ByteArray):∀ (g i:Nat) (n:Int),i<=s.size->s.size<=i+g->0<=n →
 (refK s g i=true->n<=runesK s g i n/\(i<s.size->n<runesK s g i n)/\∀ k,i<=k->k<s.size->bt s k≠0) ∧
 (refK s g i=false->runesK s g i n = -1\/∃ k,i<=k/\k<s.size/\bt s k=0)
 | 0,i,n,h,hg,hn=>by
   refine ⟨fun _=>⟨by simp [runesK],fun h'=>by omega,fun k h1 h2=>by omega⟩,fun h'=>by simp [refK] at h'⟩
 | g+1,i,n,h,hg,hn=>by
   unfold refK runesK;by_cases hi:i<s.size
   · simp only [if_pos hi]
     rcases one_at s i hi with ⟨h1,h2⟩ | ⟨h1,h2,h3,h4,h5⟩
     · rw [if_pos (.inl h2),h1]
       exact ⟨fun h'=>by simp at h',fun _=>.inl (by simp)⟩
     by_cases hb:bt s i=0
     · rw [if_pos (.inr hb)]
       exact ⟨fun h'=>by simp at h',fun _=>.inr ⟨i,Nat.le_refl _,hi,hb⟩⟩
     rw [if_neg (fun h'=>h'.elim (fun e=>by omega) (fun e=>hb e)),h1,if_neg (by simp),<-h3]
     obtain ⟨ha,hc⟩:=zka s g (i+oneOf (s.extract i s.size)) (n+1) h4 (by omega) (by omega);refine ⟨fun hr=>?_,fun hr=>?_⟩
     · obtain ⟨q1,q2,q3⟩:=ha hr
       refine ⟨by omega,fun _=>by omega,fun k hk1 hk2=>?_⟩;by_cases e:k=i
       · rw [e];exact hb
       by_cases e':k<i+oneOf (s.extract i s.size)
       · exact h5 k (by omega) e'
       exact q3 k (by omega) hk2
     rcases hc hr with q | ⟨k,q1,q2,q3⟩
     · exact .inl q
     exact .inr ⟨k,by omega,q2,q3⟩
   rw [if_neg hi,if_neg hi]
   exact ⟨fun _=>⟨Int.le_refl _,fun h'=>absurd h' hi,fun k h1 h2=>by omega⟩,fun h'=>by simp at h'⟩
theorem zja (s:ByteArray):0<=firstIdx s 0 ↔ ∃ k,k<s.size/\bt s k=0:=by
 have h:=firstIdx_nonneg s 0;have d:(0<=firstIdx s 0)↔s.data.toList.any (· == 0)=true:=by rw [<-h,decide_eq_true_eq]
 rw [d,List.any_eq_true]
 constructor
 · rintro ⟨x,e,b⟩
   obtain ⟨k,c⟩:=List.mem_iff_getElem?.1 e;have a:k<s.data.toList.length:=(gS_ c).1;refine ⟨k,by simpa using a,?_⟩;rw [zdi,<-Go.Lib.getD_get!',List.getD,c];rw [beq_iff_eq] at b;subst b
   rfl
 rintro ⟨k,c,b⟩
 have a:k<s.data.toList.length:=(by simpa using c);refine ⟨s.data.toList[k],List.getElem_mem a,?_⟩;rw [zdi,<-Go.Lib.getD_get!',List.getD,gG_ a] at b;rw [beq_iff_eq];have:(s.data.toList[k]).toNat=0:=(by simpa using b);exact UInt8.toNat_inj.1 (by simpa using this)
theorem zsr (s:ByteArray):zov s=keyE s:=by
 unfold zov keyE runes;obtain ⟨f,g⟩:=zka s s.size 0 0 (by omega) (by omega) (by omega);by_cases h0:s.size=0
 · have e:runesK s s.size 0 0<1:=by rw [h0];exact Int.zero_lt_one
   rw [if_pos h0,if_pos (.inl e)]
 rw [if_neg h0]
 cases hr:refK s s.size 0 with
 | true =>
   obtain ⟨j,a,b⟩:=f hr;have:=a (by omega);rw [if_neg (by simp),if_neg (c:=_\/_)];rintro (h | h)
   · omega
   obtain ⟨k,i,d⟩:=(zja s).1 h
   exact b k (by omega) i d
 | false =>
   rw [if_pos rfl,if_pos];rcases g hr with q | ⟨k,j,a,b⟩
   · left;omega
   right;exact (zja s).2 ⟨k,a,b⟩
end Go.Proofs.YtdgkdfmfoonbpaaGreat