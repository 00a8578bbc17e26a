/- Own lemmas and contracts that the claim's proof needs, laid together. The conditions stand in each. -/
import Derived.Test.YthljnnjpmdgkoaaGreatG16
import Derived.Test.YthljnnjpmdgkoaaGreatG05
import Derived.Test.YthljnnjpmdgkoaaGreatG08
import Derived.Test.YthljnnjpmdgkoaaGreatG04
import Derived.Lib.RuneCountTail
import Derived.Laws.Runes
import Derived.PlainAid
namespace Go.Proofs.YthljnnjpmdgkoaaGreat
open Go Go.Proofs Go.RowKit
set_option maxRecDepth 100000
theorem zbd {α:Type} {f:α->List Value} {P:Program} {w:World} {ops:Array Oper} {rest:List Oper} {o:Oper} {a:Act} {Q:Exit->Act->World->Prop} (hgd:o.guard=none) (s x:Operand) (t:TypeId)
 (ho:o.op = .call { callee:=.builtin .append,args:=#[s,x],argTypes:=#[t,t] })
 (e:TypeId) (i:TypeInfo) (z:Value) (sz bytes:Nat) (ht:P.underlying t=some (.slice e)) (hi:P.info? e=some i) (hz:i.zero=some z) (hsize:i.size=sz) (hby:i.bytes=bytes) (hzs:z.cells.size=sz) (hsz:0 < sz)
 (v:Value) (L:List α) (hs:a.eval s=v) (hown:SlF w e sz f v L) (w0:World) (hnb:∀ k,v.ownBlock=some k->w0.heap.size<=k) (hfr:Fr No w0 w)
 (b c:Nat) (y:α) (hx:a.eval x = .slice (some ⟨b,0,none⟩) 1 c) (hnews:∀ j u,(f y)[j]? = some u->w.cell? ((⟨b,0,none⟩:Addr).add j)=some u) (hl:(f y).length=sz) (h1:∀ u∈f y,u.oneCell'=true)
 (h63:L.length+1<=maxLen) (hbytes:(L.length+1) * bytes<=140737488355328)
 (h:∀ g o' cap w',SlF w' e sz f (.slice (some ⟨g,o',none⟩) (L.length+1) cap) (L++[y])->w0.heap.size<=g->Fr No w0 w'->g < w'.heap.size →
   wpList P ops Q rest (a.put o.dst (.slice (some ⟨g,o',none⟩) (L.length+1) cap)) w'):wpList P ops Q (o :: rest) a w:=by
 refine zao hgd s x t ho e i z sz bytes ht hi hz hsize hby hzs hsz v L hs hown b c y hx hnews hl h1 h63 hbytes ?_;intro g o' cap w' h2 h3 h4 h5;refine h g o' cap w' h2 ?_ (hfr.grown h3 fun k hk=>.inr (hnb k hk)) h5;rcases h4 with e | e
 · exact hnb _ e
 rw [e];exact hfr.size
theorem zdj (y:Kv):∀ u∈kvC y,u.oneCell'=true:=by intro u hu;simp [kvC] at hu;rcases hu with rfl | rfl | rfl | rfl | rfl | rfl <;> rfl
theorem zbu {g o n c:Nat} {B:Nat} (h:B<=g):∀ k,(Value.slice (some ⟨g,o,none⟩) n c).ownBlock=some k->B<=k:=fun k hk=>by simp [Value.ownBlock] at hk;omega
def doneSt (x:Ev) (s:List Kv × Bool) (k:Kv):List Kv × Bool :=
 (s.1++(if s.2=false/\klt k.key x.kv.key=false then [x.kv] else [])++(if keq k.key x.kv.key=true then [] else [k]),s.2 || !klt k.key x.kv.key)
def doneX (L:List Kv) (x:Ev):List Kv:=(L.foldl (doneSt x) ([],x.kind != 1)).1++if (L.foldl (doneSt x) ([],x.kind != 1)).2 then [] else [x.kv]
theorem ztv (x:Ev) (O:List Kv) (p:Bool) (k:Kv):doneSt x (O,p) k=(O++(if p=false/\klt k.key x.kv.key=false then [x.kv] else [])++(if keq k.key x.kv.key=true then [] else [k]),p || !klt k.key x.kv.key):=rfl
theorem zrp (x:Ev) (L:List Kv):∀ s:List Kv × Bool,(L.foldl (doneSt x) s).1.length<=s.1.length+2 * L.length:=by
 induction L with
 | nil=>intro s;exact Nat.le_refl _
 | cons k l ih =>
   intro s;rw [List.foldl_cons];have h1:=ih (doneSt x s k)
   have h2:(doneSt x s k).1.length<=s.1.length+2:=by
    unfold doneSt;simp only [List.length_append]
    split <;> split <;> simp <;> omega
   simp only [List.length_cons];omega
theorem zjh (x:Ev) (L:List Kv):∀ acc,L.foldl (doneSt x) (acc,true)=(acc++L.filter fun k=>!keq k.key x.kv.key,true):=by
 induction L with
 | nil=>intro acc;simp
 | cons k l ih =>
   intro acc;rw [List.foldl_cons];have:doneSt x (acc,true) k=(acc++(if keq k.key x.kv.key=true then [] else [k]),true):=(by unfold doneSt;simp);rw [this,ih,List.filter_cons];cases keq k.key x.kv.key <;> simp
theorem znj {x:Ev} {k:Kv} {l:List Kv} (h:KSorted (k :: l)) (hk:klt k.key x.kv.key=false):(l.filter fun k=>!keq k.key x.kv.key)=l:=by
 rw [List.filter_eq_self];intro y hy;obtain ⟨h1,_⟩:=List.pairwise_cons.1 h;have:=zfe hk (h1 y hy);rw [zcq,klt_ne this]
 rfl
theorem zgt {L:List Kv} (h:KSorted L) (x:Ev):doneX L x=doneL L x:=by
 by_cases hk:x.kind=1
 · have key:∀ (l:List Kv),KSorted l->∀ acc,(l.foldl (doneSt x) (acc,false)).1++(if (l.foldl (doneSt x) (acc,false)).2 then [] else [x.kv])=acc++doneL l x:=by
    intro l
    induction l with
    | nil=>intro _ acc;simp [doneL,hk]
    | cons k l ih =>
      intro hs acc;obtain ⟨h1,h2⟩:=List.pairwise_cons.1 hs;rw [List.foldl_cons];unfold doneL
      cases hlt:klt k.key x.kv.key with
      | true =>
        have hne:=klt_ne hlt;have:doneSt x (acc,false) k=(acc++[k],false):=(by unfold doneSt;simp [hlt,hne]);rw [this,ih h2,if_pos rfl];simp
      | false =>
        have:doneSt x (acc,false) k=(acc++[x.kv]++(if keq k.key x.kv.key=true then [] else [k]),true):=(by unfold doneSt;simp [hlt]);rw [this,zjh,znj hs hlt];simp only [hk,if_true,Bool.false_eq_true,if_false];cases keq k.key x.kv.key <;> simp
   unfold doneX;have e:(x.kind != 1)=false:=(by rw [hk];rfl);rw [e,key L h []]
   rfl
 unfold doneX
 have e:(x.kind != 1)=true:=(by rw [bne_iff_ne];exact hk);rw [e,zjh];simp only [List.nil_append,if_true,List.append_nil];clear e
 induction L with
 | nil=>simp [doneL,hk]
 | cons k l ih =>
   obtain ⟨h1,h2⟩:=List.pairwise_cons.1 h;unfold doneL
   cases hlt:klt k.key x.kv.key with
   | true =>
     rw [List.filter_cons,if_pos (by rw [klt_ne hlt];rfl),ih h2,if_pos rfl]
   | false =>
     rw [List.filter_cons,znj h hlt];simp only [hk,if_false,Bool.false_eq_true];cases keq k.key x.kv.key <;> simp
theorem zid {a b:ByteArray} (h:klt a b=true):Op.bytesLess a.toList b.toList=true/\Op.bytesLess b.toList a.toList=false/\(a.toList == b.toList)=false/\(b.toList == a.toList)=false/\(a.toList != b.toList)=true:=by
 have h1:=zdr h;have h2:keq a b=false:=klt_ne h;have h3:keq b a=false:=by rw [zcq];exact h2
 exact ⟨h,h1,h2,h3,by unfold bne;rw [show (a.toList == b.toList)=false from h2];rfl⟩
set_option maxHeartbeats 8000000 in
theorem zcj (w:World) (v:Value) (L:List Kv) (hv:SlR w 6 kvC v L) (hl:L.length<=100000000) (x:Ev) :
 Calls Tryz.prog 73 #[v,evV x] w fun e w'=>∃ v',e = .returned v'/\SlF w' 99 6 kvC v' (doneX L x)/\(∀ b,v'.ownBlock=some b->w.heap.size<=b)/\Fr No w w':=by
 obtain ⟨va,vcap,rfl,h1,h2,h3⟩:=hv.shape;have HX:Hid (doneX L x=(L.foldl (doneSt x) ([],x.kind != 1)).1++if (L.foldl (doneSt x) ([],x.kind != 1)).2 then [] else [x.kv]):=H_ rfl;have hb1:=zad w (Obj.cells #[.int .i64 x.kind,.string x.kv.key,.string x.kv.value,.int .i64 x.kv.create,.int .i64 x.kv.mod,.int .i64 x.kv.version,.int .i64 x.kv.lease,.string x.prev.key,.string x.prev.value,.int .i64 x.prev.create,.int .i64 x.prev.mod,.int .i64 x.prev.version,.int .i64 x.prev.lease] 101) _ rfl;have hf1:Fr No w (w.alloc (Obj.cells #[.int .i64 x.kind,.string x.kv.key,.string x.kv.value,.int .i64 x.kv.create,.int .i64 x.kv.mod,.int .i64 x.kv.version,.int .i64 x.kv.lease,.string x.prev.key,.string x.prev.value,.int .i64 x.prev.create,.int .i64 x.prev.mod,.int .i64 x.prev.version,.int .i64 x.prev.lease] 101)):=(Fr.refl No w).alloc _
 have hv1:=hv.fr0 hf1;obtain ⟨i0,hi0,hz0,hz1,hz2⟩:=info_parts info57;obtain ⟨p0,hp0⟩:∃ p0,(x.kind != 1)=p0:=⟨_,rfl⟩;have HP0:=H_ hp0;have hinv:=fun i=>zrp x (L.take i) ([],p0);rw [hp0] at HX;have HV:=H_ hv1;have HA:=H_ h3;have HB1:=H_ hb1;have HF1:=H_ hf1;have HINV:=H_ hinv;clear hv hv1 h3 hb1 hf1 hinv hp0;unfold evV;obtain ⟨kd,⟨p1,p2,p3,p4,p5,p6⟩,⟨q1,q2,q3,q4,q5,q6⟩⟩:=x;dsimp only at HB1 HF1 HV HP0 ⊢
 have hp0:(kd != 1)=p0:=HP0.out;go_enter Tryz.func73,Tryz.ntmps73;go_wp2;generalize w.alloc (Obj.cells #[.int .i64 kd,.string p1,.string p2,.int .i64 p3,.int .i64 p4,.int .i64 p5,.int .i64 p6,.string q1,.string q2,.int .i64 q3,.int .i64 q4,.int .i64 q5,.int .i64 q6] 101)=W1 at *;clear hp0;have hws:w.heap.size < W1.heap.size:=zac HB1.out
 go_loopg [5,6,7] L.length (fun g s5 s6 s7 wr=>∃ (i:Nat) (o:Value) (O:List Kv) (p:Bool),s5=o/\s6 = .bool p/\s7 = .int .i64 i/\i+g=L.length/\Hid ((L.take i).foldl (doneSt ⟨kd,⟨p1,p2,p3,p4,p5,p6⟩,⟨q1,q2,q3,q4,q5,q6⟩⟩) ([],p0)=(O,p))/\Hid (SlF wr 99 6 kvC o O)/\Hid (∀ b,o.ownBlock=some b->W1.heap.size<=b)/\Hid (Fr No W1 wr))
 case atStart=>exact ⟨0,_,[],p0,rfl,rfl,rfl,by simp,H_ rfl,H_ (SlF.nil _ _ _ _),H_ (by simp [Value.ownBlock]),H_ (Fr.refl No W1)⟩
 case round =>
  obtain ⟨i,o,O,p,rfl,rfl,rfl,hi,HFD,HO,HON,HF⟩:=hrel;obtain ⟨oa,ocap,rfl,ho1,ho2,ho3⟩:=HO.out.shape;clear ho3
  have hOl:O.length<=2 * i:=by
   have:=HINV.out i;rw [HFD.out] at this;simp only [List.length_nil,List.length_take] at this;omega
  have hb:=HF.out.heap HB1.out id;have lb:=zac hb;have b0:=cellAt hb 0 rfl;have b1:=cellAt hb 1 rfl;have b2:=cellAt hb 2 rfl;have b3:=cellAt hb 3 rfl;have b4:=cellAt hb 4 rfl;have b5:=cellAt hb 5 rfl;have b6:=cellAt hb 6 rfl;have hnx:=zar wr (kvC ⟨p1,p2,p3,p4,p5,p6⟩) 99 (0,0);have HNX:=H_ hnx;clear hnx hb
  cases gk with
  | zero =>
    have hil:¬ (i:Int) < (L.length:Int):=(by omega);have hie:i=L.length:=(by omega);subst hie;have hfd:=HFD.out;rw [List.take_length] at hfd;have hx:=HX.out;rw [hfd] at hx;dsimp only at hx
    cases p with
    | true =>
      rw [if_pos rfl,List.append_nil] at hx;have HX2:=H_ hx;clear hx hfd;go_wp2;go_ret;exact ⟨_,rfl,by rw [HX2.out];exact HO.out,fun b hb=>by have:=HON.out b hb;omega,HF1.out.trans0 HF.out⟩
    | false =>
      rw [if_neg (by simp)] at hx;have HX2:=H_ hx;clear hx hfd;go_wp2_with (at_builtin;refine zbd rfl _ _ 27 rfl 99 i0 _ 6 64 Tryz.underlying27 hi0 hz0 hz1 hz2 rfl (by decide) _ O rfl (HO.out.alloc _) W1 HON.out (HF.out.alloc _) wr.heap.size 1 ⟨p1,p2,p3,p4,p5,p6⟩ rfl HNX.out rfl (zdj _) (by unfold maxLen;omega) (by omega) ?_);intro g1 o1 cap1 w5 hs5 hg5 hf5 hlt5;have HS5:=H_ hs5;have HF5:=H_ hf5;clear hs5 hf5;go_wp2;go_ret;exact ⟨_,rfl,by rw [HX2.out];simpa using HS5.out,fun b hb=>by have:=zbu hg5 b hb;omega,HF1.out.trans0 HF5.out⟩
  | succ g =>
    have hil:(i:Int) < (L.length:Int):=(by omega);obtain ⟨x,hx⟩:∃ x,L[i]? = some x:=⟨_,List.getElem?_eq_getElem (by omega)⟩;obtain ⟨ga,go,rfl⟩:=HA.out (by omega)
    have hstep:(L.take (i+1)).foldl (doneSt ⟨kd,⟨p1,p2,p3,p4,p5,p6⟩,⟨q1,q2,q3,q4,q5,q6⟩⟩) ([],p0)=doneSt ⟨kd,⟨p1,p2,p3,p4,p5,p6⟩,⟨q1,q2,q3,q4,q5,q6⟩⟩ (O,p) x:=by
     rw [List.take_add_one,hx,List.foldl_append,HFD.out];rfl
    rw [ztv] at hstep;dsimp only at hstep;have hcl:=fun (W:World) (hW:Fr No W1 W)=>(HV.out.fr0 hW);have hua:=HV.out.fr0 HF.out;have f0:=hua.cell0 zae i hx rfl;have f1:=hua.cell zae i 1 hx rfl;have f2:=hua.cell zae i 2 hx rfl;have f3:=hua.cell zae i 3 hx rfl;have f4:=hua.cell zae i 4 hx rfl;have f5:=hua.cell zae i 5 hx rfl;have lf:=World.block_lt_of_cell? _ _ f0;obtain ⟨x1,x2,x3,x4,x5,x6⟩:=x;dsimp only at f0 f1 f2 f3 f4 f5 hstep;have hnk:=fun (W:World)=>zar W (kvC ⟨x1,x2,x3,x4,x5,x6⟩) 99 (0,0);have HNK:=H_ hnk;have HXI:=H_ hx;clear hnk hua hx hcl
    cases p with
    | true =>
      rcases zhg x1 p1 with hc | rfl | hc
      · obtain ⟨e1,e2,e3,e4,e5⟩:=zid hc
        rw [show klt x1 p1=true from hc,show keq x1 p1=false from e3] at hstep;have HSTP:Hid ((L.take (i+1)).foldl (doneSt ⟨kd,⟨p1,p2,p3,p4,p5,p6⟩,⟨q1,q2,q3,q4,q5,q6⟩⟩) ([],p0)=(O++[⟨x1,x2,x3,x4,x5,x6⟩],true)):=H_ (by rw [hstep];simp);clear hstep hc;go_upto_region 6 with fail;refine wp_region_still_lit (by kernel_rfl) (by kernel_rfl) ?_;change wpStill _ _ wr.drew _ _ _
        repeat (refine (wpStill_step (fun K hK=>?_):_);go_simp;refine hK _ ?_;clear hK K)
        refine (wpStill_nil ?_:_);change Exit.then _ _ _ _ wr.drew;go_upto_region 9 with fail;refine wp_region_still_lit (by kernel_rfl) (by kernel_rfl) ?_;change wpStill _ _ wr.drew.drew _ _ _
        repeat (refine (wpStill_step (fun K hK=>?_):_);go_simp;refine hK _ ?_;clear hK K)
        refine (wpStill_nil ?_:_);change Exit.then _ _ _ _ wr.drew.drew;go_wp2_with (at_builtin;refine zbd rfl _ _ 27 rfl 99 i0 _ 6 64 Tryz.underlying27 hi0 hz0 hz1 hz2 rfl (by decide) _ O rfl (HO.out.alloc _).drew.drew W1 HON.out (HF.out.alloc _).drew.drew wr.heap.size 1 ⟨x1,x2,x3,x4,x5,x6⟩ rfl (HNK.out _) rfl (zdj _) (by unfold maxLen;omega) (by omega) ?_);intro g6 o6 cap6 w6 hs6 hg6 hf6 hlt6;have HS6:=H_ hs6;have HF6:=H_ hf6;clear hs6 hf6;go_wp2;go_roundg g
        case rel=>exact ⟨i+1,_,_,_,rfl,rfl,by go_num,by omega,HSTP,H_ (by simpa using HS6.out),H_ (zbu hg6),HF6⟩
        case measure=>omega
      · have e1:Op.bytesLess x1.toList x1.toList=false:=zbp x1
        rw [show klt x1 x1=false from e1,show keq x1 x1=true from zqi x1] at hstep;have HSTP:Hid ((L.take (i+1)).foldl (doneSt ⟨kd,⟨x1,p2,p3,p4,p5,p6⟩,⟨q1,q2,q3,q4,q5,q6⟩⟩) ([],p0)=(O,true)):=H_ (by rw [hstep];simp);clear hstep;go_upto_region 6 with fail;refine wp_region_still_lit (by kernel_rfl) (by kernel_rfl) ?_;change wpStill _ _ wr.drew _ _ _
        repeat (refine (wpStill_step (fun K hK=>?_):_);go_simp;refine hK _ ?_;clear hK K)
        refine (wpStill_nil ?_:_);change Exit.then _ _ _ _ wr.drew;go_upto_region 9 with fail;refine wp_region_still_lit (by kernel_rfl) (by kernel_rfl) ?_;change wpStill _ _ wr.drew.drew _ _ _
        repeat (refine (wpStill_step (fun K hK=>?_):_);go_simp;refine hK _ ?_;clear hK K)
        refine (wpStill_nil ?_:_);change Exit.then _ _ _ _ wr.drew.drew;go_wp2;go_roundg g
        case rel=>exact ⟨i+1,_,_,_,rfl,rfl,by go_num,by omega,HSTP,H_ HO.out.drew.drew,HON,H_ HF.out.drew.drew⟩
        case measure=>omega
      obtain ⟨e1,e2,e3,e4,_⟩:=zid hc
      have e6:(x1.toList != p1.toList)=true:=(by unfold bne;rw [e4];rfl);rw [show klt x1 p1=false from e2,show keq x1 p1=false from e4] at hstep;have HSTP:Hid ((L.take (i+1)).foldl (doneSt ⟨kd,⟨p1,p2,p3,p4,p5,p6⟩,⟨q1,q2,q3,q4,q5,q6⟩⟩) ([],p0)=(O++[⟨x1,x2,x3,x4,x5,x6⟩],true)):=H_ (by rw [hstep];simp);clear hstep hc;go_upto_region 6 with fail;refine wp_region_still_lit (by kernel_rfl) (by kernel_rfl) ?_;change wpStill _ _ wr.drew _ _ _
      repeat (refine (wpStill_step (fun K hK=>?_):_);go_simp;refine hK _ ?_;clear hK K)
      refine (wpStill_nil ?_:_);change Exit.then _ _ _ _ wr.drew;go_upto_region 9 with fail;refine wp_region_still_lit (by kernel_rfl) (by kernel_rfl) ?_;change wpStill _ _ wr.drew.drew _ _ _
      repeat (refine (wpStill_step (fun K hK=>?_):_);go_simp;refine hK _ ?_;clear hK K)
      refine (wpStill_nil ?_:_);change Exit.then _ _ _ _ wr.drew.drew;go_wp2_with (at_builtin;refine zbd rfl _ _ 27 rfl 99 i0 _ 6 64 Tryz.underlying27 hi0 hz0 hz1 hz2 rfl (by decide) _ O rfl (HO.out.alloc _).drew.drew W1 HON.out (HF.out.alloc _).drew.drew wr.heap.size 1 ⟨x1,x2,x3,x4,x5,x6⟩ rfl (HNK.out _) rfl (zdj _) (by unfold maxLen;omega) (by omega) ?_);intro g6 o6 cap6 w6 hs6 hg6 hf6 hlt6;have HS6:=H_ hs6;have HF6:=H_ hf6;clear hs6 hf6;go_wp2;go_roundg g
      case rel=>exact ⟨i+1,_,_,_,rfl,rfl,by go_num,by omega,HSTP,H_ (by simpa using HS6.out),H_ (zbu hg6),HF6⟩
      case measure=>omega
    | false =>
      rcases zhg x1 p1 with hc | rfl | hc
      · obtain ⟨e1,e2,e3,e4,e5⟩:=zid hc
        rw [show klt x1 p1=true from hc,show keq x1 p1=false from e3] at hstep;have HSTP:Hid ((L.take (i+1)).foldl (doneSt ⟨kd,⟨p1,p2,p3,p4,p5,p6⟩,⟨q1,q2,q3,q4,q5,q6⟩⟩) ([],p0)=(O++[⟨x1,x2,x3,x4,x5,x6⟩],false)):=H_ (by rw [hstep];simp);clear hstep hc;go_upto_region 6 with fail;refine wp_region_still_lit (by kernel_rfl) (by kernel_rfl) ?_;change wpStill _ _ wr.drew _ _ _
        repeat (refine (wpStill_step (fun K hK=>?_):_);go_simp;refine hK _ ?_;clear hK K)
        refine (wpStill_nil ?_:_);change Exit.then _ _ _ _ wr.drew;go_upto_region 9 with fail;refine wp_region_still_lit (by kernel_rfl) (by kernel_rfl) ?_;change wpStill _ _ wr.drew.drew _ _ _
        repeat (refine (wpStill_step (fun K hK=>?_):_);go_simp;refine hK _ ?_;clear hK K)
        refine (wpStill_nil ?_:_);change Exit.then _ _ _ _ wr.drew.drew;go_wp2_with (at_builtin;refine zbd rfl _ _ 27 rfl 99 i0 _ 6 64 Tryz.underlying27 hi0 hz0 hz1 hz2 rfl (by decide) _ O rfl (HO.out.alloc _).drew.drew W1 HON.out (HF.out.alloc _).drew.drew wr.heap.size 1 ⟨x1,x2,x3,x4,x5,x6⟩ rfl (HNK.out _) rfl (zdj _) (by unfold maxLen;omega) (by omega) ?_);intro g6 o6 cap6 w6 hs6 hg6 hf6 hlt6;have HS6:=H_ hs6;have HF6:=H_ hf6;clear hs6 hf6;go_wp2;go_roundg g
        case rel=>exact ⟨i+1,_,_,_,rfl,rfl,by go_num,by omega,HSTP,H_ (by simpa using HS6.out),H_ (zbu hg6),HF6⟩
        case measure=>omega
      · have e1:Op.bytesLess x1.toList x1.toList=false:=zbp x1
        rw [show klt x1 x1=false from e1,show keq x1 x1=true from zqi x1] at hstep;have HSTP:Hid ((L.take (i+1)).foldl (doneSt ⟨kd,⟨x1,p2,p3,p4,p5,p6⟩,⟨q1,q2,q3,q4,q5,q6⟩⟩) ([],p0)=(O++[⟨x1,p2,p3,p4,p5,p6⟩],true)):=H_ (by rw [hstep];simp);clear hstep;go_upto_region 6 with fail;refine wp_region_still_lit (by kernel_rfl) (by kernel_rfl) ?_;change wpStill _ _ wr.drew _ _ _
        repeat (refine (wpStill_step (fun K hK=>?_):_);go_simp;refine hK _ ?_;clear hK K)
        refine (wpStill_nil ?_:_);change Exit.then _ _ _ _ wr.drew;go_upto_region 9 with (at_builtin;refine zbd rfl _ _ 27 rfl 99 i0 _ 6 64 Tryz.underlying27 hi0 hz0 hz1 hz2 rfl (by decide) _ O rfl (HO.out.alloc _).drew W1 HON.out (HF.out.alloc _).drew wr.heap.size 1 ⟨x1,p2,p3,p4,p5,p6⟩ rfl HNX.out rfl (zdj _) (by unfold maxLen;omega) (by omega) ?_);intro g5 o5 cap5 w5 hs5 hg5 hf5 hlt5;have HS5:=H_ hs5;have HF5:=H_ hf5;have hlen5:O.length+1=(O++[(⟨x1,p2,p3,p4,p5,p6⟩:Kv)]).length:=(by simp);have HL5:=H_ hlen5;clear hs5 hf5 hlen5 f0 f1 f2 f3 f4 f5 b0 b1 b2 b3 b4 b5 b6 lf lb;have hua5:=HV.out.fr0 HF5.out;have f05:=hua5.cell0 zae i HXI.out rfl;have f15:=hua5.cell zae i 1 HXI.out rfl;have f25:=hua5.cell zae i 2 HXI.out rfl;have f35:=hua5.cell zae i 3 HXI.out rfl;have f45:=hua5.cell zae i 4 HXI.out rfl
        have f55:=hua5.cell zae i 5 HXI.out rfl;have lf5:=World.block_lt_of_cell? _ _ f05;have hb5:=HF5.out.heap HB1.out id;have lb5:=zac hb5;have b05:=cellAt hb5 0 rfl;have b15:=cellAt hb5 1 rfl;have b25:=cellAt hb5 2 rfl;have b35:=cellAt hb5 3 rfl;have b45:=cellAt hb5 4 rfl;have b55:=cellAt hb5 5 rfl;have b65:=cellAt hb5 6 rfl;clear hua5 hb5;go_upto_region 9 with fail;refine wp_region_still_lit (by kernel_rfl) (by kernel_rfl) ?_;change wpStill _ _ w5.drew _ _ _
        repeat (refine (wpStill_step (fun K hK=>?_):_);go_simp;refine hK _ ?_;clear hK K)
        refine (wpStill_nil ?_:_);change Exit.then _ _ _ _ w5.drew;go_wp2;go_roundg g
        case rel=>exact ⟨i+1,_,_,_,rfl,rfl,by go_num,by omega,HSTP,H_ (by simpa using HS5.out.drew),H_ (zbu hg5),H_ HF5.out.drew⟩
        case measure=>omega
      obtain ⟨e1,e2,e3,e4,_⟩:=zid hc
      have e6:(x1.toList != p1.toList)=true:=(by unfold bne;rw [e4];rfl);rw [show klt x1 p1=false from e2,show keq x1 p1=false from e4] at hstep;have HSTP:Hid ((L.take (i+1)).foldl (doneSt ⟨kd,⟨p1,p2,p3,p4,p5,p6⟩,⟨q1,q2,q3,q4,q5,q6⟩⟩) ([],p0)=(O++[⟨p1,p2,p3,p4,p5,p6⟩]++[⟨x1,x2,x3,x4,x5,x6⟩],true)):=H_ (by rw [hstep];simp);clear hstep hc;go_upto_region 6 with fail;refine wp_region_still_lit (by kernel_rfl) (by kernel_rfl) ?_;change wpStill _ _ wr.drew _ _ _
      repeat (refine (wpStill_step (fun K hK=>?_):_);go_simp;refine hK _ ?_;clear hK K)
      refine (wpStill_nil ?_:_);change Exit.then _ _ _ _ wr.drew;go_upto_region 9 with (at_builtin;refine zbd rfl _ _ 27 rfl 99 i0 _ 6 64 Tryz.underlying27 hi0 hz0 hz1 hz2 rfl (by decide) _ O rfl (HO.out.alloc _).drew W1 HON.out (HF.out.alloc _).drew wr.heap.size 1 ⟨p1,p2,p3,p4,p5,p6⟩ rfl HNX.out rfl (zdj _) (by unfold maxLen;omega) (by omega) ?_);intro g5 o5 cap5 w5 hs5 hg5 hf5 hlt5;have HS5:=H_ hs5;have HF5:=H_ hf5;have hlen5:O.length+1=(O++[(⟨p1,p2,p3,p4,p5,p6⟩:Kv)]).length:=(by simp);have HL5:=H_ hlen5;clear hs5 hf5 hlen5 f0 f1 f2 f3 f4 f5 b0 b1 b2 b3 b4 b5 b6 lf lb;have hua5:=HV.out.fr0 HF5.out;have f05:=hua5.cell0 zae i HXI.out rfl;have f15:=hua5.cell zae i 1 HXI.out rfl;have f25:=hua5.cell zae i 2 HXI.out rfl;have f35:=hua5.cell zae i 3 HXI.out rfl;have f45:=hua5.cell zae i 4 HXI.out rfl
      have f55:=hua5.cell zae i 5 HXI.out rfl;have lf5:=World.block_lt_of_cell? _ _ f05;have hb5:=HF5.out.heap HB1.out id;have lb5:=zac hb5;have b05:=cellAt hb5 0 rfl;have b15:=cellAt hb5 1 rfl;have b25:=cellAt hb5 2 rfl;have b35:=cellAt hb5 3 rfl;have b45:=cellAt hb5 4 rfl;have b55:=cellAt hb5 5 rfl;have b65:=cellAt hb5 6 rfl;clear hua5 hb5;go_upto_region 9 with fail;refine wp_region_still_lit (by kernel_rfl) (by kernel_rfl) ?_;change wpStill _ _ w5.drew _ _ _
      repeat (refine (wpStill_step (fun K hK=>?_):_);go_simp;refine hK _ ?_;clear hK K)
      refine (wpStill_nil ?_:_);change Exit.then _ _ _ _ w5.drew;go_wp2_with (at_builtin;refine zbd rfl _ _ 27 rfl 99 i0 _ 6 64 Tryz.underlying27 hi0 hz0 hz1 hz2 rfl (by decide) _ (O++[⟨p1,p2,p3,p4,p5,p6⟩]) rfl (HS5.out.alloc _).drew W1 (zbu hg5) (HF5.out.alloc _).drew w5.heap.size 1 ⟨x1,x2,x3,x4,x5,x6⟩ rfl (HNK.out _) rfl (zdj _) (by simp only [List.length_append,List.length_singleton];unfold maxLen;omega) (by simp only [List.length_append,List.length_singleton];omega) ?_);intro g6 o6 cap6 w6 hs6 hg6 hf6 hlt6;have HS6:=H_ hs6;have HF6:=H_ hf6;clear hs6 hf6;go_wp2;go_roundg g
      case rel=>exact ⟨i+1,_,_,_,rfl,rfl,by go_num,by omega,HSTP,H_ (by simpa using HS6.out),H_ (zbu hg6),HF6⟩
      case measure=>omega
def docV (D:Doc) (vk ve:Value):Value:=.agg #[.int .i64 D.rev,.int .i64 D.mark,vk,ve]
structure DocR (w:World) (D:Doc) (vk ve:Value):Prop where
 kvs:SlR w 6 kvC vk D.kvs
 evs:SlR w 13 evC ve D.events
theorem DocR.fr0 {w w':World} {D:Doc} {vk ve:Value} (h:DocR w D vk ve) (hf:Fr No w w'):DocR w' D vk ve:=⟨h.kvs.fr0 hf,h.evs.fr0 hf⟩
def atP (D:Doc) (r:Int) (e:Ev):Bool:=decide (D.mark < e.kv.mod) && decide (e.kv.mod<=r)
def atTo (D:Doc) (r:Int) (i:Nat):List Kv:=((D.events.take i).filter (atP D r)).foldl doneL D.kvs
theorem zeq (D:Doc) (r:Int):atTo D r D.events.length=D.at r:=by unfold atTo;rw [List.take_length];rfl
theorem ztx (D:Doc) (r:Int) {i:Nat} {e:Ev} (h:D.events[i]? = some e):atTo D r (i+1)=if atP D r e=true then doneL (atTo D r i) e else atTo D r i:=by
 unfold atTo;rw [List.take_add_one,h,List.filter_append];simp only [Option.toList_some,List.filter_cons,List.filter_nil]
 split <;> simp
theorem zep (D:Doc) (r:Int) (i:Nat):(atTo D r i).length<=D.kvs.length+i:=by
 unfold atTo
 have key:∀ (l:List Ev) (k:List Kv),(l.foldl doneL k).length<=k.length+l.length:=by
  intro l
  induction l with
  | nil=>intro k;exact Nat.le_refl _
  | cons e l ih=>intro k;rw [List.foldl_cons];have:=ih (doneL k e);have:=zji k e;simp only [List.length_cons];omega
 have:=key ((D.events.take i).filter (atP D r)) D.kvs;have h2:=List.length_filter_le (atP D r) (D.events.take i);have h3:(D.events.take i).length<=i:=List.length_take_le _ _;omega
theorem zpj {D:Doc} (h:KSorted D.kvs) (r:Int) (i:Nat):KSorted (atTo D r i):=zdh h _
set_option maxHeartbeats 8000000 in
theorem zeb (w:World) (D:Doc) (vk ve:Value) (hD:DocR w D vk ve) (hs:KSorted D.kvs) (hl:D.kvs.length+D.events.length<=100000000) (r:Int) :
 Calls Tryz.prog 80 #[docV D vk ve,.int .i64 r] w fun e w'=>∃ v',e = .returned v'/\SlR w' 6 kvC v' (D.at r)/\Fr No w w'/\((v'=vk/\D.at r=D.kvs)\/∀ b,v'.ownBlock=some b->w.heap.size<=b):=by
 obtain ⟨ea,ecap,rfl,he1,he2,he3⟩:=hD.evs.shape;have hb1:=zad w (Obj.cells #[.int .i64 D.rev,.int .i64 D.mark,vk,.slice ea D.events.length ecap] 30) _ rfl;have hf1:Fr No w (w.alloc (Obj.cells #[.int .i64 D.rev,.int .i64 D.mark,vk,.slice ea D.events.length ecap] 30)):=(Fr.refl No w).alloc _;have hk1:=hD.kvs.fr0 hf1;have hv1:=hD.evs.fr0 hf1;have hlen:=zep D r;have hso:=zpj hs r;have hall:=zeq D r;obtain ⟨ka,kcap,rfl,hk2,hk3,hk4⟩:=hD.kvs.shape;have HLEN:=H_ hlen;have HSO:=H_ hso;have HALL:=H_ hall;have HB1:=H_ hb1;have HF1:=H_ hf1;have HK1:=H_ hk1;have HV1:=H_ hv1;have HE3:=H_ he3;clear hb1 hf1 hk1 hv1 hlen hso hall hD hs he3 hk4;unfold docV;go_enter Tryz.func80,Tryz.ntmps80;go_wp2
 generalize w.alloc (Obj.cells #[.int .i64 D.rev,.int .i64 D.mark,.slice ka D.kvs.length kcap,.slice ea D.events.length ecap] 30)=W1 at *;have hws:w.heap.size < W1.heap.size:=zac HB1.out
 go_loopg [5,6] D.events.length (fun g s5 s6 wr=>∃ (i:Nat) (o:Value),s5=o/\s6 = .int .i64 i/\i+g=D.events.length/\Hid (SlR wr 6 kvC o (atTo D r i))/\Hid (Fr No W1 wr)/\Hid ((o = .slice ka D.kvs.length kcap/\atTo D r i=D.kvs)\/∀ b,o.ownBlock=some b->w.heap.size<=b))
 case atStart=>exact ⟨0,_,rfl,rfl,by simp,HK1,H_ (Fr.refl No W1),H_ (.inl ⟨rfl,by simp [atTo]⟩)⟩
 case round =>
  obtain ⟨i,o,rfl,rfl,hi,HO,HF,HOW⟩:=hrel;have hb:=HF.out.heap HB1.out id;have lb:=zac hb;have b1:=cellAt hb 1 rfl;have b3:=cellAt hb 3 rfl;clear hb
  cases gk with
  | zero =>
    have hil:¬ (i:Int) < (D.events.length:Int):=(by omega);have hie:i=D.events.length:=(by omega);subst hie;go_wp2;go_ret;exact ⟨_,rfl,by rw [<-HALL.out];exact HO.out,HF1.out.trans0 HF.out,by rw [<-HALL.out];exact HOW.out⟩
  | succ g =>
    have hil:(i:Int) < (D.events.length:Int):=(by omega);obtain ⟨x,hx⟩:∃ x,D.events[i]? = some x:=⟨_,List.getElem?_eq_getElem (by omega)⟩;obtain ⟨ga,go,rfl⟩:=HE3.out (by omega);have hstep:=ztx D r hx;have hlo:(atTo D r i).length<=100000000:=(by have:=HLEN.out i;omega);have hua:=HV1.out.fr0 HF.out;have x0:=hua.cell0 zab i hx rfl;have x1:=hua.cell zab i 1 hx rfl;have x2:=hua.cell zab i 2 hx rfl;have x3:=hua.cell zab i 3 hx rfl;have x4:=hua.cell zab i 4 hx rfl;have x5:=hua.cell zab i 5 hx rfl;have x6:=hua.cell zab i 6 hx rfl;have x7:=hua.cell zab i 7 hx rfl;have x8:=hua.cell zab i 8 hx rfl;have x9:=hua.cell zab i 9 hx rfl;have x10:=hua.cell zab i 10 hx rfl;have x11:=hua.cell zab i 11 hx rfl;have x12:=hua.cell zab i 12 hx rfl;have lf:=World.block_lt_of_cell? _ _ x0;have HSTEP:=H_ hstep
    have HC:=H_ (fun W (hW:Fr No wr W)=>zcj W _ _ (HO.out.fr0 hW) hlo x);clear hstep hua hx;unfold atP at HSTEP;by_cases hm:D.mark < x.kv.mod
    · have hm1:decide (D.mark < x.kv.mod)=true:=decide_eq_true hm
      have hm2:decide (x.kv.mod > D.mark)=true:=decide_eq_true hm;by_cases hr:x.kv.mod<=r
      · have hr1:decide (x.kv.mod<=r)=true:=decide_eq_true hr
        have HN:Hid (atTo D r (i+1)=doneL (atTo D r i) x):=H_ (by rw [HSTEP.out,hm1,hr1];rfl);have HDX:Hid (doneX (atTo D r i) x=doneL (atTo D r i) x):=H_ (zgt (HSO.out i) x);clear HSTEP;obtain ⟨kd,⟨p1,p2,p3,p4,p5,p6⟩,⟨q1,q2,q3,q4,q5,q6⟩⟩:=x;unfold evV at HC;dsimp only at x0 x1 x2 x3 x4 x5 x6 x7 x8 x9 x10 x11 x12 hm hm1 hm2 hr hr1 HC;go_upto_region 5 with fail;refine wp_region_still_lit (by kernel_rfl) (by kernel_rfl) ?_;change wpStill _ _ wr.drew _ _ _
        repeat (refine (wpStill_step (fun K hK=>?_):_);go_simp;refine hK _ ?_;clear hK K)
        refine (wpStill_nil ?_:_);change Exit.then _ _ _ _ wr.drew;go_wp2_with (go_at_call 73;with_reducible refine (HC.out _ (Fr.refl No wr).drew).mono ?_;rintro e w5 ⟨v5,rfl,hv5,hn5,hf5⟩);have HV5:=H_ (hv5.toR zae);have HF5:=H_ (HF.out.drew.trans0 hf5);have hsz5:w.heap.size<=wr.drew.heap.size:=Nat.le_trans (Nat.le_of_lt hws) HF.out.drew.size;have HN5:=H_ (fun b hb=>Nat.le_trans hsz5 (hn5 b hb));clear hv5 hn5 hf5;go_roundg g
        case rel=>exact ⟨i+1,_,rfl,by go_num,by omega,H_ (by rw [HN.out,<-HDX.out];exact HV5.out),HF5,H_ (.inr HN5.out)⟩
        case measure=>omega
      have hr1:decide (x.kv.mod<=r)=false:=decide_eq_false hr
      have HN:Hid (atTo D r (i+1)=atTo D r i):=H_ (by rw [HSTEP.out,hm1,hr1];rfl);clear HSTEP HC x0 x1 x2 x3 x5 x6 x7 x8 x9 x10 x11 x12;have lf:=World.block_lt_of_cell? _ _ x4;generalize x.kv.mod=xm at *;go_upto_region 5 with fail;refine wp_region_still_lit (by kernel_rfl) (by kernel_rfl) ?_;change wpStill _ _ wr.drew _ _ _
      repeat (refine (wpStill_step (fun K hK=>?_):_);go_simp;refine hK _ ?_;clear hK K)
      refine (wpStill_nil ?_:_);change Exit.then _ _ _ _ wr.drew;go_wp2;go_roundg g
      case rel=>exact ⟨i+1,_,rfl,by go_num,by omega,H_ (by rw [HN.out];exact HO.out),H_ HF.out.drew,H_ (by rw [HN.out];exact HOW.out)⟩
      case measure=>omega
    have hm1:decide (D.mark < x.kv.mod)=false:=decide_eq_false hm
    have hm2:decide (x.kv.mod > D.mark)=false:=decide_eq_false hm;have HN:Hid (atTo D r (i+1)=atTo D r i):=H_ (by rw [HSTEP.out,hm1];rfl);clear HSTEP HC x0 x1 x2 x3 x5 x6 x7 x8 x9 x10 x11 x12;have lf:=World.block_lt_of_cell? _ _ x4;generalize x.kv.mod=xm at *;go_upto_region 5 with fail;refine wp_region_still_lit (by kernel_rfl) (by kernel_rfl) ?_;change wpStill _ _ wr.drew _ _ _
    repeat (refine (wpStill_step (fun K hK=>?_):_);go_simp;refine hK _ ?_;clear hK K)
    refine (wpStill_nil ?_:_);change Exit.then _ _ _ _ wr.drew;go_wp2;go_roundg g
    case rel=>exact ⟨i+1,_,rfl,by go_num,by omega,H_ (by rw [HN.out];exact HO.out),H_ HF.out.drew,H_ (by rw [HN.out];exact HOW.out)⟩
    case measure=>omega
open Go Go.Proofs Go.RowKit Go.PlainAid
theorem zdf (s:ByteArray) (k:Nat):bt s k=((s.get! k).toNat:Int):=by
 unfold bt
 split
 · rename_i h
   rw [<-Go.Lib.getD_get!'];simp [List.getD,h]
   rfl
 rename_i h
 rw [<-Go.Lib.getD_get!'];have:s.data.toList[k]? = none:=List.getElem?_eq_none (by simpa using Nat.le_of_not_lt h);simp [List.getD,this]
theorem zrt (s:ByteArray) (i k:Nat):bt (s.extract i s.size) k=bt s (i+k):=by
 rw [zdf,zdf,Go.Lib.tail_get!]
def leadN (c:Int):Nat:=if 240<=c then 4 else if 224<=c then 3 else if 192<=c then 2 else 1
def leadV (c:Int):Int:=if 240<=c then c - 240 else if 224<=c then c - 224 else if 192<=c then c - 192 else c
def leadL (c:Int):Int:=if 240<=c then 65536 else if 224<=c then 2048 else if 192<=c then 128 else 0
def contK (s:ByteArray):Nat->Nat->Int->Option Int
 | 0,_,v=>some v
 | g+1,i,v=>if bt s i < 128\/191 < bt s i then none else contK s g (i+1) (v * 64+bt s i - 128)
def oneOf (s:ByteArray):Nat :=
 if 128<=bt s 0/\bt s 0 < 192 then 0
 else if 248<=bt s 0\/s.size < leadN (bt s 0) then 0
 else match contK s (leadN (bt s 0) - 1) 1 (leadV (bt s 0)) with
  | none=>0
  | some v=>if v < leadL (bt s 0)\/1114111 < v\/(55296<=v/\v<=57343) then 0 else leadN (bt s 0)
theorem zvd (l:List UInt8) (h:3<=l.length) (a b c:UInt8):(l.take 3 == [a,b,c])=(l.getD 0 0 == a && l.getD 1 0 == b && l.getD 2 0 == c):=by
 match l,h with
 | x :: y :: z :: t,_ =>
   show ((x :: y :: z :: t).take 3 == [a,b,c])=_
   simp [Bool.and_assoc]
theorem zuq (s:ByteArray):sign3 s=(decide (3<=s.size) && decide (bt s 0=239) && decide (bt s 1=191) && decide (bt s 2=189)):=by
 unfold sign3;by_cases h:3<=s.size
 · have hl:3<=s.data.toList.length:=by simpa using h
   have hx:(s.extract 0 3).toList=s.data.toList.take 3:=by
    rw [Lib.toList_data];simp [ByteArray.data_extract]
   rw [hx,zvd _ hl,Go.Lib.getD_get!',Go.Lib.getD_get!',Go.Lib.getD_get!',zdf,zdf,zdf]
   have key:∀ (x:UInt8) (n:Nat) (hn:n < 256),(x == UInt8.ofNat n)=decide ((x.toNat:Int)=(n:Int)):=by
    intro x n hn;rw [Bool.eq_iff_iff,beq_iff_eq,decide_eq_true_eq]
    constructor
    · rintro rfl;simp;omega
    intro e
    have e':x.toNat=n:=(by omega);rw [<-e'];simp
   have k0:=key (s.get! 0) 239 (by omega);have k1:=key (s.get! 1) 191 (by omega);have k2:=key (s.get! 2) 189 (by omega);have e0:(s.get! 0 == (239:UInt8))=(s.get! 0 == UInt8.ofNat 239):=rfl;have e1:(s.get! 1 == (191:UInt8))=(s.get! 1 == UInt8.ofNat 191):=rfl;have e2:(s.get! 2 == (189:UInt8))=(s.get! 2 == UInt8.ofNat 189):=rfl;rw [e0,e1,e2,k0,k1,k2];simp [h,Bool.and_assoc]
 simp [h]
set_option maxHeartbeats 4000000 in
theorem zre (s:ByteArray) (hs:0 < s.size):(((Utf8.decode s 0).1 == 65533 && !sign3 s)=true/\oneOf s=0) ∨
 (((Utf8.decode s 0).1 == 65533 && !sign3 s)=false/\1<=oneOf s/\oneOf s=(Utf8.decode s 0).2/\oneOf s<=s.size/\∀ k,1<=k->k < oneOf s->bt s k≠0):=by
 have hd:=Go.Lib.decode_at s 0;rw [zuq];have c0:=zdf s 0;have c1:=zdf s 1;have c2:=zdf s 2;have c3:=zdf s 3;have l0:(s.get! 0).toNat < 256:=(s.get! 0).toNat_lt;have l1:(s.get! 1).toNat < 256:=(s.get! 1).toNat_lt;have l2:(s.get! 2).toNat < 256:=(s.get! 2).toNat_lt;have l3:(s.get! 3).toNat < 256:=(s.get! 3).toNat_lt;simp only [Nat.zero_add,Nat.sub_zero] at hd;rw [hd];unfold oneOf
 have hbt:∀ k,1<=k->k < 4->bt s k=if k=1 then ((s.get! 1).toNat:Int) else if k=2 then ((s.get! 2).toNat:Int) else ((s.get! 3).toNat:Int):=by
  intro k h1 h2;have:k=1\/k=2\/k=3:=(by omega);rcases this with rfl | rfl | rfl <;> simp [c1,c2,c3]
 generalize hb0:(s.get! 0).toNat=b0 at *;generalize hb1:(s.get! 1).toNat=b1 at *;generalize hb2:(s.get! 2).toNat=b2 at *;generalize hb3:(s.get! 3).toNat=b3 at *
 have hK:contK s (leadN (b0:Int) - 1) 1 (leadV (b0:Int)) =
  if b0 < 192 then some (b0:Int)
  else if b0 < 224 then (if b1 < 128\/191 < b1 then none else some (((b0:Int) - 192) * 64+b1 - 128))
  else if b0 < 240 then (if b1 < 128\/191 < b1 then none else if b2 < 128\/191 < b2 then none else some ((((b0:Int) - 224) * 64+b1 - 128) * 64+b2 - 128))
  else (if b1 < 128\/191 < b1 then none else if b2 < 128\/191 < b2 then none else if b3 < 128\/191 < b3 then none else some (((((b0:Int) - 240) * 64+b1 - 128) * 64+b2 - 128) * 64+b3 - 128)):=by
  have q1:((b1:Int) < 128\/191 < (b1:Int)) ↔ (b1 < 128\/191 < b1):=(by omega);have q2:((b2:Int) < 128\/191 < (b2:Int)) ↔ (b2 < 128\/191 < b2):=(by omega);have q3:((b3:Int) < 128\/191 < (b3:Int)) ↔ (b3 < 128\/191 < b3):=(by omega);unfold leadN leadV;by_cases h1:b0 < 192
  · rw [if_pos h1,if_neg (by omega),if_neg (by omega),if_neg (by omega),if_neg (by omega),if_neg (by omega),if_neg (by omega)]
    rfl
  rw [if_neg h1]
  by_cases h2:b0 < 224
  · rw [if_pos h2,if_neg (by omega),if_neg (by omega),if_pos (by omega),if_neg (by omega),if_neg (by omega),if_pos (by omega)]
    simp only [contK,c1,Nat.reduceSub,q1]
  rw [if_neg h2]
  by_cases h3:b0 < 240
  · rw [if_pos h3,if_neg (by omega),if_pos (by omega),if_neg (by omega),if_pos (by omega)]
    simp only [contK,c1,c2,Nat.reduceSub,Nat.reduceAdd,q1,q2]
  rw [if_neg h3,if_pos (by omega),if_pos (by omega)]
  simp only [contK,c1,c2,c3,Nat.reduceSub,Nat.reduceAdd,q1,q2,q3]
 rw [c0,hK];rw [c1,c2]
 have hN:leadN (b0:Int)=if b0 < 192 then 1 else if b0 < 224 then 2 else if b0 < 240 then 3 else 4:=by
  unfold leadN
  repeat' split
  all_goals omega
 have hL:leadL (b0:Int)=if b0 < 192 then 0 else if b0 < 224 then 128 else if b0 < 240 then 2048 else 65536:=by
  unfold leadL
  repeat' split
  all_goals omega
 rw [hN,hL];clear hN hL hK hd;have fin:∀ (m w r:Nat),m<=4->(r,w)=(r,w)->True:=fun _ _ _ _ _=>trivial;clear fin;unfold Go.Lib.decodeN;by_cases h1:b0 < 128
 · right
   simp only [h1,if_true];have e1:¬ (128<=(b0:Int)/\(b0:Int) < 192):=(by omega);have e2:b0 < 192:=(by omega);have e3:¬ (248<=(b0:Int)\/s.size < 1):=(by omega);have e4:¬ ((b0:Int) < 0\/1114111 < (b0:Int)\/(55296<=(b0:Int)/\(b0:Int)<=57343)):=(by omega);simp only [if_neg e1,if_pos e2,if_neg e3,if_neg e4];refine ⟨?_,by omega,trivial,by omega,fun k h2 h3=>by omega⟩;have:(b0 == 65533)=false:=(by rw [beq_eq_false_iff_ne];omega);rw [this];rfl
 by_cases h2:b0 < 192
 · left
   have e1:(128<=(b0:Int)/\(b0:Int) < 192):=(by omega);rw [if_neg h1,if_neg (by omega),if_neg (by omega),if_neg (by omega),if_pos e1];have:(decide ((b0:Int)=239))=false:=(by rw [decide_eq_false_iff_not];omega);simp [this]
 have e1:¬ (128<=(b0:Int)/\(b0:Int) < 192):=by omega
 rw [if_neg e1,if_neg h1];simp only [if_neg h2];by_cases h3:b0 < 224
 · simp only [if_pos h3]
   by_cases h4:1 < s.size/\b1 / 64=2
   · rw [if_pos ⟨by omega,h4⟩,if_neg (by omega:¬ (248<=(b0:Int)\/s.size < 2)),if_neg (by omega:¬ (b1 < 128\/191 < b1))]
     by_cases h5:128<=b0 % 32 * 64+b1 % 64
     · right
       rw [if_pos h5];dsimp only;rw [if_neg (by omega)]
       refine ⟨?_,by omega,rfl,by omega,fun k h6 h7=>by rw [hbt k h6 (by omega)];have:k=1:=by omega
                                                        subst this;simp;omega⟩
       have:(b0 % 32 * 64+b1 % 64 == 65533)=false:=(by rw [beq_eq_false_iff_ne];omega);rw [this];rfl
     left
     rw [if_neg h5];dsimp only;rw [if_pos (by omega)];have:(decide ((b0:Int)=239))=false:=(by rw [decide_eq_false_iff_not];omega);simp [this]
   left
   rw [if_neg (fun h=>h4 h.2),if_neg (by omega),if_neg (by omega)];have:(decide ((b0:Int)=239))=false:=(by rw [decide_eq_false_iff_not];omega);refine ⟨by simp [this],?_⟩;by_cases h5:248<=(b0:Int)\/s.size < 2
   · rw [if_pos h5]
   rw [if_neg h5,if_pos (by omega)]
 simp only [if_neg h3]
 rw [if_neg (by omega:¬ (b0 / 32=6/\(1 < s.size/\b1 / 64=2)))];by_cases h3':b0 < 240
 · simp only [if_pos h3']
   by_cases h4:(1 < s.size/\b1 / 64=2)/\(2 < s.size/\b2 / 64=2)
   · rw [if_pos ⟨by omega,h4⟩,if_neg (by omega:¬ (248<=(b0:Int)\/s.size < 3)),if_neg (by omega:¬ (b1 < 128\/191 < b1)),if_neg (by omega:¬ (b2 < 128\/191 < b2))]
     by_cases h5:b0 % 16 * 4096+b1 % 64 * 64+b2 % 64 ≥ 2048/\(b0 % 16 * 4096+b1 % 64 * 64+b2 % 64 < 55296\/(57344<=b0 % 16 * 4096+b1 % 64 * 64+b2 % 64/\b0 % 16 * 4096+b1 % 64 * 64+b2 % 64<=1114111))
     · right
       rw [if_pos h5];dsimp only;rw [if_neg (by omega)];refine ⟨?_,by omega,rfl,by omega,fun k h6 h7=>?_⟩
       · by_cases h8:b0 % 16 * 4096+b1 % 64 * 64+b2 % 64=65533
         · have:(decide (3<=s.size) && decide ((b0:Int)=239) && decide ((b1:Int)=191) && decide ((b2:Int)=189))=true:=by
            simp only [Bool.and_eq_true,decide_eq_true_eq];omega
           rw [this];simp
         have:(b0 % 16 * 4096+b1 % 64 * 64+b2 % 64 == 65533)=false:=by rw [beq_eq_false_iff_ne];omega
         rw [this];rfl
       rw [hbt k h6 (by omega)]
       have:k=1\/k=2:=(by omega);rcases this with rfl | rfl <;> simp <;> omega
     left
     rw [if_neg h5];dsimp only;rw [if_pos (by omega)]
     have:(decide (3<=s.size) && decide ((b0:Int)=239) && decide ((b1:Int)=191) && decide ((b2:Int)=189))=false:=by
      rw [Bool.eq_false_iff];simp only [ne_eq,Bool.and_eq_true,decide_eq_true_eq];omega
     rw [this];simp
   left
   rw [if_neg (fun h=>h4 h.2),if_neg (by omega)]
   have:(decide (3<=s.size) && decide ((b0:Int)=239) && decide ((b1:Int)=191) && decide ((b2:Int)=189))=false:=by
    rw [Bool.eq_false_iff];simp only [ne_eq,Bool.and_eq_true,decide_eq_true_eq];omega
   refine ⟨by rw [this];simp,?_⟩;by_cases h5:248<=(b0:Int)\/s.size < 3
   · rw [if_pos h5]
   rw [if_neg h5]
   by_cases h6:b1 < 128\/191 < b1
   · rw [if_pos h6]
   rw [if_neg h6,if_pos (by omega)]
 simp only [if_neg h3']
 have hn239:(decide ((b0:Int)=239))=false:=(by rw [decide_eq_false_iff_not];omega);rw [if_neg (by omega:¬ (b0 / 16=14/\(1 < s.size/\b1 / 64=2)/\(2 < s.size/\b2 / 64=2)))];by_cases h4:b0 / 8=30/\(1 < s.size/\b1 / 64=2)/\(2 < s.size/\b2 / 64=2)/\(3 < s.size/\b3 / 64=2)
 · rw [if_pos h4,if_neg (by omega:¬ (248<=(b0:Int)\/s.size < 4)),if_neg (by omega:¬ (b1 < 128\/191 < b1)),if_neg (by omega:¬ (b2 < 128\/191 < b2)),if_neg (by omega:¬ (b3 < 128\/191 < b3))]
   by_cases h5:b0 % 8 * 262144+b1 % 64 * 4096+b2 % 64 * 64+b3 % 64 ≥ 65536/\(b0 % 8 * 262144+b1 % 64 * 4096+b2 % 64 * 64+b3 % 64 < 55296\/(57344<=b0 % 8 * 262144+b1 % 64 * 4096+b2 % 64 * 64+b3 % 64/\b0 % 8 * 262144+b1 % 64 * 4096+b2 % 64 * 64+b3 % 64<=1114111))
   · right
     rw [if_pos h5];dsimp only;rw [if_neg (by omega)];refine ⟨?_,by omega,rfl,by omega,fun k h6 h7=>?_⟩
     · have:(b0 % 8 * 262144+b1 % 64 * 4096+b2 % 64 * 64+b3 % 64 == 65533)=false:=by rw [beq_eq_false_iff_ne];omega
       rw [this];rfl
     rw [hbt k h6 (by omega)]
     have:k=1\/k=2\/k=3:=(by omega);rcases this with rfl | rfl | rfl <;> simp <;> omega
   left
   rw [if_neg h5];dsimp only;rw [if_pos (by omega)];simp [hn239]
 left
 rw [if_neg h4];refine ⟨by simp [hn239],?_⟩;by_cases h5:248<=(b0:Int)\/s.size < 4
 · rw [if_pos h5]
 rw [if_neg h5]
 by_cases h6:b1 < 128\/191 < b1
 · rw [if_pos h6]
 rw [if_neg h6]
 by_cases h7:b2 < 128\/191 < b2
 · rw [if_pos h7]
 rw [if_neg h7,if_pos (by omega)]
def refK (s:ByteArray):Nat->Nat->Bool
 | 0,_=>true
 | g+1,i=>if i < s.size then (if oneOf (s.extract i s.size)=0\/bt s i=0 then false else refK s g (i+oneOf (s.extract i s.size))) else true
def zoe (s:ByteArray):Int:=if s.size=0 then 30 else if refK s s.size 0=false then 30 else if 64 < s.size then 31 else 0
theorem one_at (s:ByteArray) (i:Nat) (h:i < s.size):(zet s i=true/\oneOf (s.extract i s.size)=0) ∨
 (zet s i=false/\1<=oneOf (s.extract i s.size)/\oneOf (s.extract i s.size)=(Utf8.decode s i).2/\i+oneOf (s.extract i s.size)<=s.size/\∀ k,i+1<=k->k < i+oneOf (s.extract i s.size)->bt s k≠0):=by
 have hz:(s.extract i s.size).size=s.size - i:=by simp
 have h1:=zre (s.extract i s.size) (by omega);rw [Go.Lib.tail_decode] at h1;unfold zet;rcases h1 with h1 | ⟨h1,h2,h3,h4,h5⟩
 · exact .inl h1
 refine .inr ⟨h1,h2,h3,by omega,fun k hk1 hk2=>?_⟩
 have:=h5 (k - i) (by omega) (by omega);rw [zrt] at this;rw [show k=i+(k - i) by omega];exact this
theorem zkf (s:ByteArray):∀ (g i:Nat) (n:Int),i<=s.size->s.size<=i+g->0<=n →
 (refK s g i=true->n<=runesK s g i n/\(i < s.size->n < runesK s g i n)/\∀ k,i<=k->k < s.size->bt s k≠0) ∧
 (refK s g i=false->runesK s g i n = -1\/∃ k,i<=k/\k < s.size/\bt s k=0)
 | 0,i,n,h,hg,hn=>by
   refine ⟨fun _=>⟨by simp [runesK],fun h'=>by omega,fun k h1 h2=>by omega⟩,fun h'=>by simp [refK] at h'⟩
 | g+1,i,n,h,hg,hn=>by
   unfold refK runesK;by_cases hi:i < s.size
   · simp only [if_pos hi]
     rcases one_at s i hi with ⟨h1,h2⟩ | ⟨h1,h2,h3,h4,h5⟩
     · rw [if_pos (.inl h2),h1]
       exact ⟨fun h'=>by simp at h',fun _=>.inl (by simp)⟩
     by_cases hb:bt s i=0
     · rw [if_pos (.inr hb)]
       exact ⟨fun h'=>by simp at h',fun _=>.inr ⟨i,Nat.le_refl _,hi,hb⟩⟩
     rw [if_neg (fun h'=>h'.elim (fun e=>by omega) (fun e=>hb e)),h1,if_neg (by simp),<-h3]
     obtain ⟨ha,hc⟩:=zkf s g (i+oneOf (s.extract i s.size)) (n+1) h4 (by omega) (by omega);refine ⟨fun hr=>?_,fun hr=>?_⟩
     · obtain ⟨q1,q2,q3⟩:=ha hr
       refine ⟨by omega,fun _=>by omega,fun k hk1 hk2=>?_⟩;by_cases e:k=i
       · rw [e];exact hb
       by_cases e':k < i+oneOf (s.extract i s.size)
       · exact h5 k (by omega) e'
       exact q3 k (by omega) hk2
     rcases hc hr with q | ⟨k,q1,q2,q3⟩
     · exact .inl q
     exact .inr ⟨k,by omega,q2,q3⟩
   rw [if_neg hi,if_neg hi]
   exact ⟨fun _=>⟨Int.le_refl _,fun h'=>absurd h' hi,fun k h1 h2=>by omega⟩,fun h'=>by simp at h'⟩
theorem zjd (s:ByteArray):0<=firstIdx s 0 ↔ ∃ k,k < s.size/\bt s k=0:=by
 have h:=firstIdx_nonneg s 0;have h1:(0<=firstIdx s 0) ↔ s.data.toList.any (· == 0)=true:=by rw [<-h,decide_eq_true_eq]
 rw [h1,List.any_eq_true]
 constructor
 · rintro ⟨x,hx,h0⟩
   obtain ⟨k,hk⟩:=List.mem_iff_getElem?.1 hx;have hlt:k < s.data.toList.length:=(List.getElem?_eq_some_iff.1 hk).1;refine ⟨k,by simpa using hlt,?_⟩;rw [zdf,<-Go.Lib.getD_get!',List.getD,hk];rw [beq_iff_eq] at h0;subst h0
   rfl
 rintro ⟨k,hk,h0⟩
 have hlt:k < s.data.toList.length:=(by simpa using hk);refine ⟨s.data.toList[k],List.getElem_mem hlt,?_⟩;rw [zdf,<-Go.Lib.getD_get!',List.getD,List.getElem?_eq_getElem hlt] at h0;rw [beq_iff_eq];have:(s.data.toList[k]).toNat=0:=(by simpa using h0);exact UInt8.toNat_inj.1 (by simpa using this)
theorem zra (s:ByteArray):zoe s=keyE s:=by
 unfold zoe keyE runes;obtain ⟨ha,hb⟩:=zkf s s.size 0 0 (by omega) (by omega) (by omega);by_cases h0:s.size=0
 · have h1:runesK s s.size 0 0 < 1:=by rw [h0];exact Int.zero_lt_one
   rw [if_pos h0,if_pos (.inl h1)]
 rw [if_neg h0]
 cases hr:refK s s.size 0 with
 | true =>
   obtain ⟨q1,q2,q3⟩:=ha hr;have:=q2 (by omega);rw [if_neg (by simp),if_neg (c:=_\/_)];rintro (h | h)
   · omega
   obtain ⟨k,hk,h'⟩:=(zjd s).1 h
   exact q3 k (by omega) hk h'
 | false =>
   rw [if_pos rfl,if_pos];rcases hb hr with q | ⟨k,q1,q2,q3⟩
   · left;omega
   right;exact (zjd s).2 ⟨k,q2,q3⟩
end Go.Proofs.YthljnnjpmdgkoaaGreat