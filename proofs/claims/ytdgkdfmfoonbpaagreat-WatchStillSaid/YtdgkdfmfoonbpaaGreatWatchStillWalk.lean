/- The statement's function WatchStill, walked: it returns true, whatever its arguments are. -/
import Derived.Test.YtdgkdfmfoonbpaaGreatW30
import Derived.Test.YtdgkdfmfoonbpaaGreatW31
import Derived.Test.YtdgkdfmfoonbpaaGreatW32
import Derived.Deep.DeepCutAuto
namespace Go.Proofs.YtdgkdfmfoonbpaaGreat
open Go Go.Proofs Go.RowKit
set_option maxRecDepth 100000
theorem Fr.setCells {S:Nat->Prop} {a:World} {b:Nat} (hb:S b\/a.heap.size<=b) (vs:List Value):∀ {w:World} (o:Nat),Fr S a w->Fr S a (w.setCells b o vs):=by
 induction vs with
 | nil=>exact fun _ h=>h
 | cons v vs ih=>exact fun o h=>ih (o+1) (h.setCell (p:=⟨b,o,none⟩) hb v)
theorem zua {α:Type} {f:α->List Value} {w:World} {e sz g o cap:Nat} {L:List α} (hf:∀ x,(f x).length=sz) (hsz:0<sz) (h:SlF w e sz f (.slice (some ⟨g,o,none⟩) L.length cap) L):w.there g o (L.length * sz):=by
 intro j d;refine ⟨?_,h.free _⟩;have c:j / sz<L.length:=Nat.div_lt_of_lt_mul (by rw [Nat.mul_comm];exact d);have k:L[j / sz]?=some L[j / sz]:=List.getElem?_eq_getElem c;have i:j % sz<(f L[j / sz]).length:=by rw [hf];exact Nat.mod_lt _ hsz
 have a:=h.cell hf (j / sz) (j % sz) k (List.getElem?_eq_getElem i);have b:o+j / sz * sz+j % sz=o+j:=by rw [Nat.add_assoc,Nat.div_add_mod' j sz]
 rw [b] at a;rw [a];rfl
theorem zgz {P:Program} {ops:Array Oper} {rest:List Oper} {op:Oper} {a:Act} {w:World} {Q:Exit->Act->World->Prop} (hgd:op.guard=none) (hd:op.dst=none) (ty:TypeId) (x y:Operand) (ho:op.op=.store ty x y)
 (b o:Nat) (cs:List Value) (hx:a.eval x=.pointer (some ⟨b,o,none⟩)) (hy:a.eval y=.agg cs.toArray) (ht:w.there b o cs.length) (hi:(P.info? ty).map (·.size)=some cs.length) (h1:cs.all (·.oneCell')=true)
 (h:wpList P ops Q rest a (w.setCells b o cs)):wpList P ops Q (op :: rest) a w:=by
 have c:a.put op.dst undef=a:=by rw [hd];rfl
 refine wpList_store_mid hgd ty x y ho b o cs.toArray hx hy (by simpa using ht) (by simpa using hi) (by simpa using h1) ?_;rw [c];exact h
def ev77:List Value:=[.int .i64 77,.string ByteArray.empty,.string ByteArray.empty,.int .i64 0,.int .i64 0,.int .i64 0,.int .i64 0,.string ByteArray.empty,.string ByteArray.empty,.int .i64 0,.int .i64 0,.int .i64 0,.int .i64 0]
theorem info72s:(Tryz.prog.info? 72).map (·.size)=some 13:=by kernel_rfl
set_option maxHeartbeats 16000000 in
theorem zhd {TA:zan} (hT:TreeOk TA 1000000) (hTD:TreeDl TA) (w:World) (v:Value) (l:List ActQ) (hv:ActR w v l) :
 Calls Tryz.prog 7 #[v] w fun e w'=>e=.returned (.bool true)/\Fr No w w':=by
 have J:=zdt w v l hv;have aj:=fun W=>zea hT W;obtain ⟨va,c7,ba,cm,cn,aw⟩:=hv.sl.shape
 cases hfl:zcx l with
 | false =>
   rw [hfl] at J;clear hv aw;subst ba;have CA:=H_ J;clear J;go_enter Tryz.func7,Tryz.ntmps7
   go_wp2_with (first
    | (go_at_call 9;(with_reducible refine CA.out.mono ?_);rintro e w1 ⟨rfl,P⟩)
    | (go_at_call 10;refine (aj _).mono ?_;rintro e w2 ⟨rfl,y⟩))
   go_ret;exact ⟨rfl,P.trans0 y⟩
 | true =>
   rw [hfl] at J;have am:=zfu hfl;subst ba;have c6:=am.1;have CA:=H_ J;have HV:=H_ hv;have bG:=H_ aw;have bu:=H_ am.2;have bm:=H_ aj;clear J hv aw am aj;go_enter Tryz.func7,Tryz.ntmps7
   go_upto_region 4 with (first
    | (go_at_call 9;(with_reducible refine CA.out.mono ?_);rintro e w1 ⟨rfl,P⟩)
    | (go_at_call 19;refine (zcf hT _).mono ?_;rintro e w2 ⟨s,rfl,F0,b6,y,b0⟩))
   have ae:=H_ b6;have aa:=H_ (P.trans0 y);have aM:Hid (∀ b,F0 b->w.heap.size<=b):=H_ fun b f=>Nat.le_trans P.size (b0 b f);clear b6 P y b0 CA;go_upto_region 5 with (go_at_call 19;refine (zcf hT _).mono ?_;rintro e w3 ⟨t,rfl,G0,b7,C,ao⟩);have ag:=H_ b7;have aO:=H_ (ae.out.fr0 hT C);have aE:Hid (∀ b,F0 b->¬ G0 b):=H_ fun b f d=>by have:=ao b d;have:=ae.out.lt hT b f;omega
   have aL:Hid (∀ b,G0 b->w.heap.size<=b):=H_ fun b f=>Nat.le_trans aa.out.size (ao b f);have ab:=H_ (aa.out.trans0 C);clear b7 C ao ae aa
   go_wp2_with (first
    | (go_at_call 11;refine (Both.made hT Good.new aO.out (Int.le_refl 0)).mono ?_;rintro e w4 ⟨h,rfl,B0,aS,I,ap⟩))
   have aB:Hid (Both TA w4 h s 0 0 newS newD ⟨newS.rev,0,[]⟩ B0):=H_ aS;have aI:=H_ (ag.out.fr0 hT I);have aF:Hid (∀ b,B0 b->¬ G0 b):=H_ fun b f d=>(ap b f).elim (fun r=>aE.out b r d) fun r=>by have:=ag.out.lt hT b d;omega
   have aN:Hid (∀ b,B0 b->w.heap.size<=b):=H_ fun b f=>(ap b f).elim (aM.out b) fun x=>by have:=ab.out.size;omega
   have L:=H_ (ab.out.trans0 I);clear aS I ap aO aM ag aE ab
   go_loopg [7] l.length (fun g s7 wr=>∃ (i:Nat) (S:St) (D:Doc) (H:Hb) (B G:Nat->Prop),s7=.int .i64 i/\i+g=l.length/\Hid (Both TA wr h s i i S D H B)/\Hid (zai TA wr t S G)/\Hid (∀ b,B b->¬ G b)/\Hid (∀ b,B b->w.heap.size<=b)/\Hid (∀ b,G b->w.heap.size<=b)/\Hid (Fr No w wr))
   case atStart=>exact ⟨0,newS,newD,_,B0,G0,rfl,by omega,aB,aI,aF,aN,aL,L⟩
   case round =>
    clear aB aI aF aN aL L;obtain ⟨i,S,D,H,B,G,rfl,hi,HB,HG,HE,HN,HM,HF⟩:=hrel
    cases gk with
    | zero =>
      as_aux_lemma =>
      have bJ:¬ (i:Int)<(l.length:Int):=(by omega);have an:=HB.out.p.good;have ar:=zrs an (by omega);obtain ⟨_,F2,G2,_,a2,_⟩:=HB.out;have af:=H_ fun W s F hS=>zmj hT an (by omega) W s F hS;have bl:=H_ a2;have al:=fun W=>zmz W S.rev S.mark;have au:=fun W u1 u2 v1 v2 r h2 h3 h4=>zpw W S.rev S.mark u1 u2 v1 v2 (zam S S.T S.mark) S.events r h2 h3 h4 ar.1 ar.2;unfold stateV at al au af;have aD:=H_ al;have bC:=H_ au;clear an ar al au a2 HB;generalize zam S S.T S.mark=KL at *;generalize S.events=EL at *
      go_wp2_with (first
       | (go_at_call 30;(with_reducible refine (af.out _ _ _ bl.out).mono ?_);rintro e w2 ⟨a1,c1,a2,c2,rfl,aY,aT,y,_,_⟩
          have bD:=H_ (HG.out.fr0 hT y);have bw:=H_ aY;have bp:=H_ aT;have bs:=H_ y;clear aY aT y)
       | (go_at_call 29;(with_reducible refine (aD.out w2 KL.length EL.length c1 c2 a1 a2).mono ?_);rintro e w3 ⟨rfl,C⟩
          have ah:=H_ (bD.out.fr0 hT C);have aG:=H_ C;clear C)
       | (go_at_call 30;(with_reducible refine (af.out _ _ _ ah.out).mono ?_);rintro e w4 ⟨a3,c3,a4,c4,rfl,aZ,aU,I,_,_⟩
          have bx:=H_ aZ;have bq:=H_ aU;have L:=H_ I;clear aZ aU I)
       | (go_at_call 29;(with_reducible refine (aD.out w4 KL.length EL.length c3 c4 a3 a4).mono ?_);rintro e w5 ⟨rfl,E⟩
          have Q:=aG.out.trans0 (L.out.trans0 E);have bB:=H_ (bC.out w5 _ _ _ _ (bw.out.fr0 Q) (bx.out.fr0 E) (bp.out.fr0 Q) (bq.out.fr0 E));have n:=H_ (((HF.out.trans0 bs.out).trans0 aG.out).trans0 (L.out.trans0 E));clear E Q)
       | (go_at_call 28;(with_reducible refine bB.out.mono ?_);rintro e A ⟨rfl,aV⟩;have bt:=H_ aV;clear aV)
       | (go_at_call 10;refine (bm.out _).mono ?_;rintro e w7 ⟨rfl,V⟩))
      go_ret;exact ⟨rfl,(n.out.trans0 bt.out).trans0 V⟩
    | succ g =>
      have bJ:(i:Int)<(l.length:Int):=(by omega);obtain ⟨ga,go,rfl⟩:=bG.out (by omega);obtain ⟨q,d⟩:∃ q,l[i]?=some q:=⟨_,List.getElem?_eq_getElem (by omega)⟩;obtain ⟨aq,b5,_⟩:=bu.out q (List.mem_of_getElem? d);have av:=HV.out.fr0 HF.out;have RG:=H_ (av.sl.rangeAt zap i d);have lg:ga<wr.heap.size:=World.block_lt_of_cell? _ _ (av.sl.cell0 zap i d rfl);have N:=H_ (HV.out.id i q d);have AF:=H_ (actF hT hTD HB.out (by omega) aq b5 (HV.out.frm i q d) (HV.out.ops i q d) (HV.out.keys i q d) HN.out HF.out)
      have DT:Hid (∀ W,Fr No w W->zai TA W t S G->Calls Tryz.prog 27 #[.pointer (some ⟨t,0,none⟩),.agg (calC q.call).toArray] W fun e w'=>e=.returned (.int .i64 (doE S q.call))/\∃ G',zai TA w' t (doT S q.call) G'/\Fr G W w'/\∀ b,G' b->G b\/W.heap.size<=b):=by
       have ho:=HV.out.ops i q d;have hk:=HV.out.keys i q d;exact H_ fun W hW hS=>zpn hT hTD HB.out.p.good (by omega) W t G hS q.call aq (ho.fr0 hW) (hk.fr0 hW) (fun hp b f d=>by have:=ho.lt zae (by decide) hp b f;have:=HM.out b d;omega) (fun hp b f d=>by have:=hk.lt zck (by decide) hp b f;have:=HM.out b d;omega)
      have aQ:Hid (∀ u∈actC q,u.oneCell'=true):=by
       obtain ⟨oa,oc,ho⟩:=AF.out.os;obtain ⟨ka,kc,hk⟩:=AF.out.ks;exact H_ (zpl ho hk)
      have U:=H_ (zad wr (.cells (actC q).toArray 31) _ rfl);have aH:Hid (Fr No wr (wr.alloc (.cells (actC q).toArray 31))):=H_ ((Fr.refl No wr).alloc _);have aK:=H_ fun W=>zgk W q;have ck:=zfk q.kind;have co:IntKind.i64.wrap ((i:Int)+1)=i+1:=(by rw [IntKind.wrap_i64];omega);clear d av aq b5;generalize kindN q.kind=kk at *
      go_upto_region 12 with (first
       | (with_reducible show wpList _ _ _ ({ dst:=some 38,op:=_,type:=_,pos:=_,after:=_,guard:=_ } :: _) _ _
          refine zau rfl 31 _ rfl ga (go+i * 20) rfl (actC q) RG.out row31 (info31l q) ?_)
       | (with_reducible show wpList _ _ _ ({ dst:=none,op:=_,type:=_,pos:=_,after:=_,guard:=_ } :: _) _ _
          refine zed rfl rfl 31 _ _ rfl _ (actC q) rfl rfl (info31l q) (by rw [zap];rfl) aQ.out ?_))
      generalize wr.alloc (.cells (actC q).toArray 31)=W1 at *;clear RG aQ;have lb:=zaf U.out
      go_cut [40] (fun s40 wx=>s40=.int .i64 kk/\Hid (Fr No W1 wx))
      case first =>
       as_aux_lemma =>
       go_wp2_with (first
        | (with_reducible show wpList _ _ _ ({ dst:=some 39,op:=_,type:=_,pos:=_,after:=_,guard:=_ } :: _) _ _
           refine zau rfl 31 _ rfl wr.heap.size 0 rfl (actC q) (ActAt.of U.out).all row31 (info31l q) ?_)
        | (go_at_call 20;(with_reducible refine (aK.out _).mono ?_);rintro e w5 ⟨rfl,E⟩))
       go_meet
       case rel=>exact ⟨rfl,H_ E⟩
      case rest =>
      obtain ⟨rfl,HX⟩:=hcut;clear aK;have n:=H_ (aH.out.trans0 HX.out);have a8:=H_ (HX.out.heap U.out fun h=>h);have AA:=H_ (ActAt.of a8.out);have ct:wr.heap.size<wc.heap.size:=Nat.lt_of_lt_of_le lb HX.out.size;clear HX U aH lb;generalize wc=w5 at *;have aJ:=H_ (HG.out.lt hT);have bn:=H_ (HB.out.lt hT);have c:Hid (∀ {W':World} {B':Nat->Prop},Fr B w5 W'->(∀ b,B' b->B b\/w5.heap.size<=b)->zai TA W' t S G/\∀ b,B' b->¬ G b):=H_ fun r h2=>⟨(HG.out.fr0 hT n.out).fr hT r fun b f d=>HE.out b d f,fun b f d=>(h2 b f).elim (fun h3=>HE.out b h3 d) fun h3=>by have:=aJ.out b d;have:=n.out.size;omega⟩;by_cases k3:kk=3
      · subst k3
        as_aux_lemma =>
        go_wp2_with (go_at_call 13;(with_reducible refine (AF.out.feed _ n.out).mono ?_);rintro e A ⟨rfl,R,a⟩);go_roundg g
        case rel=>exact ⟨i+1,S,D,feedH D H,R,G,by go_num,by omega,H_ a.1,H_ (c.out a.2.1 a.2.2.1).1,H_ (c.out a.2.1 a.2.2.1).2,H_ a.2.2.2.1,HM,H_ a.2.2.2.2⟩
        case measure=>omega
      by_cases k4:kk=4
      · subst k4
        as_aux_lemma =>
        have X:=AF.out.opn w5 n.out;generalize (if openE q.w=0 then H.last+1 else 0)=on at X;generalize (if openE q.w=0 then openH H q.w else H)=H6 at X;have bz:=H_ X;clear X
        go_wp2_with (first
         | (with_reducible show wpList _ _ _ ({ dst:=some 57,op:=_,type:=_,pos:=_,after:=_,guard:=_ } :: _) _ _
            refine zau rfl 29 _ rfl wr.heap.size 13 rfl (wtC q.w) AA.out.w row29 (info29l q.w) ?_)
         | (go_at_call 12;(with_reducible refine bz.out.mono ?_);rintro e A ⟨rfl,R,a⟩))
        go_roundg g
        case rel=>exact ⟨i+1,S,D,H6,R,G,by go_num,by omega,H_ a.1,H_ (c.out a.2.1 a.2.2.1).1,H_ (c.out a.2.1 a.2.2.1).2,H_ a.2.2.2.1,HM,H_ a.2.2.2.2⟩
        case measure=>omega
      by_cases k7:kk=7
      · subst k7
        as_aux_lemma =>
        have aW:=AA.out.id;go_wp2_with (go_at_call 15;(with_reducible refine (AF.out.close w5 _ N.out n.out).mono ?_);rintro e A ⟨rfl,R,a⟩);go_roundg g
        case rel=>exact ⟨i+1,S,D,closeH H q.id,R,G,by go_num,by omega,H_ a.1,H_ (c.out a.2.1 a.2.2.1).1,H_ (c.out a.2.1 a.2.2.1).2,H_ a.2.2.2.1,HM,H_ a.2.2.2.2⟩
        case measure=>omega
      by_cases k56:kk=5\/kk=6
      · have aW:=AA.out.id
        have Y:=AF.out.take w5 q.id N.out n.out;unfold batV at Y;generalize takeB D H q.id=bR at *;obtain ⟨K,tr,tc⟩:=bR;generalize takeH D H q.id=H6 at *;dsimp only at Y;have aP:=H_ Y;clear Y;rcases k56 with k5 | k5 <;> subst k5
        all_goals
         as_aux_lemma =>
         go_upto_region 22 with (go_at_call 14;(with_reducible refine aP.out.mono ?_);rintro e A ⟨tv,rfl,Z,R,a,b4⟩;obtain ⟨ta,z,rfl,cl,bM,b8⟩:=Z.shape)
         have TH:Hid (∀ g o,ta=some ⟨g,o,none⟩->A.there g o (K.length * 13)):=H_ fun g o e=>by
          subst e;exact zua zaa (by decide) Z
         have TL:=H_ Z.lt;have ah:=H_ b8;have m:=H_ a;have ad:=H_ b4;have O:=H_ (c.out a.2.1 a.2.2.1);have aC:=H_ (zad A (.cells #[.slice ta K.length z,.int .i64 tr,.bool tc] 43) _ rfl);have M:Hid (Fr No A (A.alloc (.cells #[.slice ta K.length z,.int .i64 tr,.bool tc] 43))):=H_ ((Fr.refl No A).alloc _);unfold maxLen at bM;clear Z a b4 b8 aP c AF DT AA a8 N HB;generalize A.alloc (.cells #[.slice ta K.length z,.int .i64 tr,.bool tc] 43)=W7 at *;have cv:=zaf aC.out;go_wp2_with fail;obtain ⟨wx,bO⟩:∃ wx,wx=wr:=⟨_,rfl⟩;subst bO
         go_loopg [11] K.length (fun gg s11 wq=>∃ k:Nat,s11=.int .i64 k/\k+gg=K.length/\Hid (Fr (fun b=>(Value.slice ta K.length z).ownBlock=some b) W7 wq)/\Hid (∀ g o,ta=some ⟨g,o,none⟩->wq.there g o (K.length * 13)))
         case atStart=>exact ⟨0,rfl,by omega,H_ (Fr.refl _ _),H_ fun g o e j hj=>by
          have r:=TH.out g o e j hj;have h2:g<A.heap.size:=TL.out g (by rw [e];rfl);refine ⟨?_,?_⟩
          · cases hc:A.cell? ⟨g,o+j,none⟩ with
            | none=>rw [hc] at r;cases r.1
            | some u=>rw [M.out.cell0 hc];rfl
          have f:=M.out.block g h2 (fun h=>h)
          have:=r.2;unfold World.frozen? at this ⊢
          rw [f];exact this⟩
         case round =>
          obtain ⟨k,rfl,hk,GF,GT⟩:=hrel;have ak:=GF.out.heap aC.out fun e=>by have:=TL.out _ e;omega
          have cq:=cellAt ak 0 rfl;have lq:=zaf ak;clear ak
          cases gk with
          | zero =>
            have bK:¬ (k:Int)<(K.length:Int):=(by omega);go_wp2;go_roundg g
            case rel =>
             have cr:=n.out.size;have cs:=m.out.2.1.size;refine ⟨i+1,S,D,H6,R,G,by go_num,by omega,H_ ((m.out.1.fr0 hT M.out).fr hT GF.out fun b f d=>(ad.out b d).2.2 f),H_ ((O.out.1.fr0 hT M.out).fr hT GF.out fun b f d=>?_),H_ O.out.2,H_ m.out.2.2.2.1,HM,H_ ((m.out.2.2.2.2.trans0 M.out).trans GF.out fun b f d=>by have:=(ad.out b d).1;omega)⟩;rcases (ad.out b d).2.1 with r | r
             · exact HE.out b r f
             have:=aJ.out b f
             omega
            case measure=>omega
          | succ g2 =>
            have bK:(k:Int)<(K.length:Int):=(by omega);have cp:IntKind.i64.wrap ((k:Int)+1)=k+1:=(by rw [IntKind.wrap_i64];omega);obtain ⟨gb,og,rfl⟩:=ah.out (by omega)
            have b9:wr.there gb (og+k * 13) 13:=fun j hj=>by
             have r:k * 13+j<K.length * 13:=(by omega);have:=GT.out gb og rfl (k * 13+j) r
             rwa [<-Nat.add_assoc] at this
            have bF:=H_ b9;have cw:gb<wr.heap.size:=(by have:=TL.out gb rfl;have:=GF.out.size;omega);clear b9
            go_wp2_with (with_reducible show wpList _ _ _ ({ dst:=none,op:=_,type:=_,pos:=_,after:=_,guard:=_ } :: _) _ _
                         refine zgz rfl rfl 72 _ _ rfl gb (og+k * 13) ev77 rfl rfl bF.out info72s (by decide) ?_)
            go_roundg g2
            case rel=>exact ⟨k+1,by go_num,by omega,H_ (Fr.setCells (S:=fun b=>(Value.slice (some ⟨gb,og,none⟩) K.length z).ownBlock=some b) (.inl rfl) _ _ GF.out),H_ fun g o e=>World.there_setCells (GT.out g o e) _ _ _⟩
            case measure=>omega
      have k5:¬ kk=5:=fun e=>k56 (.inl e)
      have k6:¬ kk=6:=fun e=>k56 (.inr e);clear k56
      as_aux_lemma =>
      go_wp2_with (first
       | (with_reducible show wpList _ _ _ ({ dst:=some 43,op:=_,type:=_,pos:=_,after:=_,guard:=_ } :: _) _ _
          refine zau rfl 27 _ rfl wr.heap.size 1 rfl (calC q.call) AA.out.call row27 (info27l q.call) ?_)
       | (with_reducible show wpList _ _ _ ({ dst:=some 47,op:=_,type:=_,pos:=_,after:=_,guard:=_ } :: _) _ _
          refine zau rfl 27 _ rfl wr.heap.size 1 rfl (calC q.call) bj.out.call row27 (info27l q.call) ?_)
       | (go_at_call 27;(with_reducible refine (AF.out.does w5 n.out).mono ?_);rintro e A ⟨rfl,R,a⟩
          have a9:=a.2.1.heap a8.out fun d=>absurd (bn.out _ d) (Nat.lt_irrefl _);have bj:=H_ (ActAt.of a9);have cu:=zaf a9;have m:=H_ a;have bH:Hid (Fr No w A):=H_ a.2.2.2.2;have bE:Hid (zai TA A t S G):=H_ (c.out a.2.1 a.2.2.1).1;have O:=H_ (c.out a.2.1 a.2.2.1);clear a9 a)
       | (go_at_call 27;(with_reducible refine (DT.out A bH.out bE.out).mono ?_);rintro e w7 ⟨rfl,G7,bN,V,b3⟩))
      go_roundg g
      case rel =>
       have bL:=m.out.1.lt hT;refine ⟨i+1,_,_,H,R,G7,by go_num,by omega,H_ (m.out.1.fr hT V O.out.2),H_ bN,H_ fun b f d=>(b3 b d).elim (O.out.2 b f) fun r=>by have:=bL b f;omega,H_ m.out.2.2.2.1,H_ fun b f=>(b3 b f).elim (HM.out b) fun r=>by have:=m.out.2.2.2.2.size;omega,H_ (m.out.2.2.2.2.trans V fun b f d=>by have:=HM.out b d;omega)⟩
      case measure=>omega
end Go.Proofs.YtdgkdfmfoonbpaaGreat
