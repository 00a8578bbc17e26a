/- Own lemmas. -/
import Derived.Test.YthljnnjpmdgkoaaGreatI10
import Derived.Test.YthljnnjpmdgkoaaGreatI01
import Derived.Test.YthljnnjpmdgkoaaGreatI09
namespace Go.Proofs.YthljnnjpmdgkoaaGreat
open Go Go.Proofs Go.RowKit Go.Shelf
set_option maxRecDepth 100000
attribute [local go_sem] Oper.semAt_some
theorem zss (f:Nat->Pairs):∀ (P:Pairs) (K:List Nat) (p:ByteArray×Int) (k:Nat),K.length=P.length->rwv f (P++[p]) (K++[k])=rwv f P K++p :: f k
 | [],[],p,k,_=>by simp [rwv]
 | [],_ :: _,_,_,h=>by simp at h
 | _ :: _,[],_,_,h=>by simp at h
 | q :: P,c :: K,p,k,h=>by simp [rwv,zss f P K p k (by simpa using h)]
def zjm (n₀ Bo:Nat) (J Jx:Pairs->World->Prop) (pre0 S:Pairs) (W:World) (e:Ending) (W':World):Prop :=
 (e=.returned (.bool true)/\J (pre0++S) W'/\KpR n₀ Bo W W')\/(e=.returned (.bool false)/\∃ pre,pre <+: S/\Jx (pre0++pre) W')
def segW (f:Nat->Pairs) (P:Pairs) (K:List Nat) (s0 k:Nat):Pairs:=rwv f ((P.drop s0).take (k-s0)) ((K.drop (s0+1)).take (k-s0))
theorem zou (f:Nat->Pairs) (P:Pairs) (K:List Nat) (s0:Nat):segW f P K s0 s0 = []:=by unfold segW;simp [rwv]
theorem zjw (f:Nat->Pairs) (P:Pairs) (K:List Nat) (s0 k:Nat) (x:ByteArray×Int) (c:Nat) (h:s0<=k) (hx:P[k]?=some x) (hc:K[k+1]?=some c) (hl:K.length=P.length+1):segW f P K s0 (k+1)=segW f P K s0 k++x :: f c:=by
 have a:=(List.getElem?_eq_some_iff.1 hx).1;unfold segW;rw [show k+1-s0=(k-s0)+1 by omega,List.take_add_one,List.take_add_one,List.getElem?_drop,List.getElem?_drop,show s0+(k-s0)=k by omega,show s0+1+(k-s0)=k+1 by omega,hx,hc];exact zss f _ _ x c (by simp;omega)
theorem zmx (f:Nat->Pairs) (P:Pairs) (K:List Nat) (s0:Nat) (hl:K.length=P.length+1):segW f P K s0 P.length=rwv f (P.drop s0) (K.drop (s0+1)):=by
 unfold segW;rw [List.take_of_length_le (by simp),List.take_of_length_le (by simp;omega)]
theorem zgu (f:Nat->Pairs) (P:Pairs) (K:List Nat) (s0:Nat) (hl:K.length=P.length+1):∀ (m k:Nat),k+m=P.length->s0<=k->segW f P K s0 k <+: rwv f (P.drop s0) (K.drop (s0+1))
 | 0,k,h,_=>by obtain rfl:k=P.length:=by omega
               rw [zmx f P K s0 hl];exact List.prefix_refl _
 | m+1,k,h,hs=>by
   have a:=zgu f P K s0 hl m (k+1) (by omega) (by omega);rw [zjw f P K s0 k _ _ hs (List.getElem?_eq_getElem (by omega)) (List.getElem?_eq_getElem (by omega)) hl] at a;exact (List.prefix_append _ _).trans a
set_option maxHeartbeats 4000000 in
theorem zvp (n l t n₀ Bo:Nat) (hBo:Bo<n₀) (nv fv:Value) (Z:List Nz) (fl:List Nat) (root:Nat) (many:Int) (frm:ByteArray) (J Jx:Pairs->World->Prop) (N:Nat)
 (hJ:∀ pre W W',J pre W->Fr No W W'->J pre W')
 (hY:∀ m pre x W,J pre W->pre.length<N->YieldAt Fence.wide m Tryz.prog l (zev x) W fun e W' =>
   (e=.returned (.bool true)/\J (pre++[x]) W'/\KpR n₀ Bo W W')\/(e=.returned (.bool false)/\Jx (pre++[x]) W'))
 (at_:Nat) (z:Nz) (hz:Z[at_]?=some z) (h9:z.nd.pairs.length<=9) (hl:z.nd.kids.length=z.nd.pairs.length+1) (f:Nat->Pairs)
 (hIH:∀ (m c:Nat) (pre:Pairs) (W:World),c∈z.nd.kids->zfm W t n₀ Bo nv fv Z fl root many->pre.length+(f c).length<=N->J pre W →
   CallsIn Fence.wide m Tryz.prog 153 #[.pointer (some ⟨t,0,none⟩),.int .i64 c,.string frm,.func (.yield l) #[] #[]] W (zjm n₀ Bo J Jx pre (f c) W))
 (pre0 first:Pairs) (hfirst:first=if hitOf z.nd.pairs frm then [] else f (z.nd.kids.getD (spotOf z.nd.pairs frm) 0))
 (hN:pre0.length+(first++rwv f (z.nd.pairs.drop (spotOf z.nd.pairs frm)) (z.nd.kids.drop (spotOf z.nd.pairs frm+1))).length<=N)
 (W:World) (h:zfm W t n₀ Bo nv fv Z fl root many) (h0:J pre0 W) :
 CallsIn Fence.wide n Tryz.prog 153 #[.pointer (some ⟨t,0,none⟩),.int .i64 at_,.string frm,.func (.yield l) #[] #[]] W
  (zjm n₀ Bo J Jx pre0 (first++rwv f (z.nd.pairs.drop (spotOf z.nd.pairs frm)) (z.nd.kids.drop (spotOf z.nd.pairs frm+1))) W):=by
 have a9:=spotZ h.r at_ z hz h9 h.few frm;unfold zce at a9;have bC:=h.few;have bi:at_<Z.length:=(List.getElem?_eq_some_iff.1 hz).1;obtain ⟨nb,no,cap,rfl,bk⟩:=h.r.headLen (by omega);have c0:=h.r.obj.cell 0 rfl;obtain ⟨n0,n1,_,_⟩:=h.r.look at_ z hz;obtain ⟨V,a,az,bt,bu,aS⟩:=(h.r.pairs at_ z hz).shape;obtain ⟨ka,b,a8,bv,bw,aM⟩:=(h.r.kids at_ z hz).shape;obtain ⟨q,K,rfl⟩:=aM (by omega);rw [az] at n0;rw [a8] at n1;have aU:=zby z.nd.pairs frm;have bj:(at_:Int)<(Z.length:Int):=by omega
 have bn:t<W.heap.size:=h.r.obj.lt;have bm:nb<W.heap.size:=h.r.nodes.lt nb rfl;have bx:q<n₀/\q≠Bo:=h.low q (.inr (.inr (.inr ⟨at_,z,hz,.inr (by rw [a8];rfl)⟩)));obtain ⟨c,hc⟩:∃ c,z.nd.kids[spotOf z.nd.pairs frm]?=some c:=⟨_,List.getElem?_eq_getElem (by omega)⟩;have aJ:z.nd.kids.getD (spotOf z.nd.pairs frm) 0=c:=by simp [List.getD,hc]
 rw [aJ] at hfirst;have ax:=h.r.kids at_ z hz;rw [a8] at ax;have k0:=ax.cell1 zag _ hc rfl;have aK:=List.mem_of_getElem? hc;have H:=H_ h;have HA:=H_ aS;have HZ:=H_ hz;have aD:=H_ az;have aC:=H_ a8;have am:=H_ hIH;have aA:=H_ hfirst;have HN:=H_ hN;have HL:=H_ hl;have b5:=H_ aK;have aa:=h.size;have bl:q<W.heap.size:=by omega
 have bz:(0:Int)<(z.nd.kids.length:Int):=by omega
 have bB:(spotOf z.nd.pairs frm:Int)<(z.nd.kids.length:Int):=by omega
 have bs:Bo<W.heap.size:=by omega
 clear h aS hz az a8 aM hIH hfirst hN hl ax aJ hc aK;refine callsIn_of_wp Tryz.func153 rfl trivial ?_ rfl;simp only [Tryz.ntmps153,List.size_toArray,List.length_cons,List.length_nil,Nat.reduceAdd,Nat.reduceSub,Array.replicate_succ,Array.replicate_zero,List.push_toArray,List.append_toArray,List.nil_append,List.cons_append];generalize hitOf z.nd.pairs frm=ba at *;generalize spotOf z.nd.pairs frm=E at *;have af:Fr No W (W.alloc (Obj.cells #[.slice V z.nd.pairs.length a,.slice (some ⟨q,K,none⟩) z.nd.kids.length b] 231)):=(Fr.refl No W).alloc _;have ah:KpR n₀ Bo W (W.alloc (Obj.cells #[.slice V z.nd.pairs.length a,.slice (some ⟨q,K,none⟩) z.nd.kids.length b] 231)):=KpR.of_fr af aa (fun _ s=>s.elim)
 have aH:(W.alloc (Obj.cells #[.slice V z.nd.pairs.length a,.slice (some ⟨q,K,none⟩) z.nd.kids.length b] 231)).heap[W.heap.size]?=some (.cells #[.slice V z.nd.pairs.length a,.slice (some ⟨q,K,none⟩) z.nd.kids.length b] 231 (0,0)):=heap_alloc_new _ _;have bq:=H_ af;have a1:=H_ ah;have aj:=H_ aH;have aB:=H_ (hJ _ _ _ h0 af);clear af ah aH h0;cases ba
 · have Q:first=f c:=by have:=aA.out;simpa using this
   have I:=am.out (n-1) c pre0 _ b5.out (H.out.kp a1.out) (by have:=HN.out;rw [Q] at this;simp only [List.length_append] at this;omega) aB.out;have b6:=H_ I;have ak:=H_ Q;clear I Q
   gi_wp2_with (first
    | (refine ⟨trivial,hdd _,?_⟩;gi_at_call 157;refine (callsIn_wide.2 a9).mono ?_;clear a9;rintro e w' ⟨rfl,rfl⟩)
    | (refine ⟨trivial,hdd _,?_⟩;gi_at_call 153;refine b6.out.mono ?_;rintro e w2 (⟨rfl,aF,a7⟩ | ⟨rfl,pre,d,T⟩)))
   · have u:=(a7.rows _ _ _ _ aj.out (by decide) (by omega)).trans aj.out
     have X:=H_ u;have an:Hid (J (pre0++first) w2):=H_ (by rw [ak.out];exact aF);have aq:=H_ (a1.out.trans a7);clear u aF a7 k0 n0 n1 c0;have u:w2.heap[W.heap.size]?=some (.cells #[.slice V z.nd.pairs.length a,.slice (some ⟨q,K,none⟩) z.nd.kids.length b] 231 (0,0)):=X.out;have q0:w2.cell? ⟨W.heap.size,0,none⟩=some (.slice V z.nd.pairs.length a):=cellAt u 0 rfl;have q1:w2.cell? ⟨W.heap.size,1,none⟩=some (.slice (some ⟨q,K,none⟩) z.nd.kids.length b):=cellAt u 1 rfl;clear u
     gi_wp2
     gi_loopw [9] (fun i wr=>∃ k:Nat,E<=k/\k<=z.nd.pairs.length/\i=.int .i64 k/\Hid (J (pre0++first++segW f z.nd.pairs z.nd.kids E k) wr)/\Hid (KpR n₀ Bo W wr)/\wr.heap[W.heap.size]?=some (.cells #[.slice V z.nd.pairs.length a,.slice (some ⟨q,K,none⟩) z.nd.kids.length b] 231 (0,0)))
      (fun i _=>z.nd.pairs.length-(intOf i).toNat)
     case atStart=>exact ⟨E,Nat.le_refl _,aU,rfl,H_ (by rw [zou,List.append_nil];exact an.out),aq,X.out⟩
     case round =>
      obtain ⟨k,aw,a7,rfl,v,w,g⟩:=hrel;have p0:wr.cell? ⟨W.heap.size,0,none⟩=some (.slice V z.nd.pairs.length a):=cellAt g 0 rfl;have p1:wr.cell? ⟨W.heap.size,1,none⟩=some (.slice (some ⟨q,K,none⟩) z.nd.kids.length b):=cellAt g 1 rfl;by_cases hlt:k<z.nd.pairs.length
      · obtain ⟨pb,po,rfl⟩:=HA.out (by omega)
        obtain ⟨x,T⟩:∃ x,z.nd.pairs[k]?=some x:=⟨_,List.getElem?_eq_getElem hlt⟩;obtain ⟨U,P⟩:∃ U,z.nd.kids[k+1]?=some U:=⟨_,List.getElem?_eq_getElem (by have:=HL.out;omega)⟩;have y:=H.out.kp w.out
        have C:SlF wr 122 2 pairC (.slice (some ⟨pb,po,none⟩) z.nd.pairs.length a) z.nd.pairs:=by
         have:=y.r.pairs at_ z HZ.out
         rwa [aD.out] at this
        have x0:=C.cell0 zae k T rfl;have x1:=C.cell zae k 1 T rfl;have S:=zgu f z.nd.pairs z.nd.kids E HL.out (z.nd.pairs.length-(k+1)) (k+1) (by omega) (by omega);have D:=zjw f z.nd.pairs z.nd.kids E k x U aw T P HL.out;have p:=S.length_le;have M:=HN.out
        have j:(pre0++first++segW f z.nd.pairs z.nd.kids E k).length<N:=by
         rw [D] at p;simp only [List.length_append,List.length_cons] at p M ⊢
         omega
        have o:(pre0++first++segW f z.nd.pairs z.nd.kids E k++[x]).length+(f U).length<=N:=by
         rw [D] at p;simp only [List.length_append,List.length_cons,List.length_nil] at p M ⊢
         omega
        obtain ⟨fn,aY,ae,aE,hy,hR⟩:=hY (n-1) _ x wr v.out j;dsimp only [zev] at hy;have aO:(k:Int)<(z.nd.pairs.length:Int):=(by omega);have aP:(k:Int)+1<(z.nd.kids.length:Int):=(by have:=HL.out;omega);have aQ:(0:Int)<=(k:Int)+1:=(by omega);have aR:((k:Int)+1).toNat=k+1:=(by omega);have HX:=H_ T;have a0:=H_ P;have L:=H_ D;have a3:=H_ S;have aI:n₀<=wr.heap.size:=Nat.le_trans aa w.out.size;have aT:pb<wr.heap.size:=C.lt pb rfl;have aG:W.heap.size<wr.heap.size:=zab g;clear T C P D S p M j
        gi_wp2
        refine ⟨hdd _,hR.mono ?_⟩;rintro e W3 (⟨rfl,a5,B⟩ | ⟨rfl,G⟩)
        · have A:=(B.rows _ _ _ _ g (by decide) (by omega)).trans g
          have q0:W3.cell? ⟨W.heap.size,0,none⟩=some (.slice (some ⟨pb,po,none⟩) z.nd.pairs.length a):=cellAt A 0 rfl;have q1:W3.cell? ⟨W.heap.size,1,none⟩=some (.slice (some ⟨q,K,none⟩) z.nd.kids.length b):=cellAt A 1 rfl;have O:=y.kp B
          have ay:W3.cell? ⟨q,K+(k+1),none⟩=some (.int .i64 (U:Int)):=by
           have hh:=O.r.kids at_ z HZ.out;rw [aC.out] at hh;exact hh.cell1 zag _ a0.out rfl
          have aN:q<W3.heap.size:=World.block_lt_of_cell? _ _ ay;have I:=am.out (n-1) U _ W3 (List.mem_of_getElem? a0.out) O o a5;have al:=H_ I;have a2:=H_ B;have Y:=H_ A;clear a5 v p0 p1 x0 x1 I B A O y o
          gi_wp2_with (first
           | (refine ⟨trivial,hdd _,?_⟩;gi_at_call 153;refine al.out.mono ?_;rintro e w4 (⟨rfl,a6,R⟩ | ⟨rfl,pre,d,ab⟩)))
          · have av:=(R.rows _ _ _ _ Y.out (by decide) (by omega)).trans Y.out
            have ap:=H_ a6;have ar:=H_ R;clear a6 R
            gi_wp2
            go_roundw
            case rel =>
             refine ⟨k+1,by omega,by omega,by go_num,H_ ?_,H_ ((w.out.trans a2.out).trans ar.out),av⟩;have:=ap.out;rw [L.out];simpa using this
            case measure=>simp [intOf];omega
          have au:=H_ ab
          have F:=H_ d;clear ab d
          gi_wp2
          go_ret;refine .inr ⟨rfl,first++(segW f z.nd.pairs z.nd.kids E k++x :: pre),?_,by have:=au.out;simpa using this⟩;refine (List.prefix_append_right_inj first).2 (List.IsPrefix.trans ?_ a3.out);rw [L.out];refine (List.prefix_append_right_inj _).2 ?_;exact List.cons_prefix_cons.2 ⟨rfl,F.out⟩
        have ao:=H_ G
        clear G v p0 p1 x0 x1 y
        gi_wp2
        go_ret;refine .inr ⟨rfl,first++(segW f z.nd.pairs z.nd.kids E k++[x]),?_,by have:=ao.out;simpa using this⟩;refine (List.prefix_append_right_inj first).2 (List.IsPrefix.trans ?_ a3.out);rw [L.out];refine (List.prefix_append_right_inj _).2 ?_;exact List.cons_prefix_cons.2 ⟨rfl,List.nil_prefix⟩
      obtain rfl:k=z.nd.pairs.length:=by omega
      gi_wp2
      go_ret;exact .inl ⟨rfl,by have:=v.out;rw [zmx f _ _ _ HL.out,List.append_assoc] at this;exact this,w.out⟩
   have HX:=H_ T
   have F:=H_ d;clear T d
   gi_wp2
   go_ret;refine .inr ⟨rfl,pre,?_,HX.out⟩;rw [ak.out];exact F.out.trans (List.prefix_append _ _)
 have Q:first = []:=by have:=aA.out;simpa using this
 gi_wp2_with (first
  | (refine ⟨trivial,hdd _,?_⟩;gi_at_call 157;refine (callsIn_wide.2 a9).mono ?_;clear a9;rintro e w' ⟨rfl,rfl⟩))
 refine ⟨trivial,?_⟩;have X:=aj;have an:Hid (J (pre0++first) _):=H_ (by rw [Q,List.append_nil];exact aB.out);have aq:=a1;generalize (W.alloc (Obj.cells #[.slice V z.nd.pairs.length a,.slice (some ⟨q,K,none⟩) z.nd.kids.length b] 231))=w2 at *;have ak:=H_ Q;clear Q k0 n0 n1 c0;have u:w2.heap[W.heap.size]?=some (.cells #[.slice V z.nd.pairs.length a,.slice (some ⟨q,K,none⟩) z.nd.kids.length b] 231 (0,0)):=X.out;have q0:w2.cell? ⟨W.heap.size,0,none⟩=some (.slice V z.nd.pairs.length a):=cellAt u 0 rfl;have q1:w2.cell? ⟨W.heap.size,1,none⟩=some (.slice (some ⟨q,K,none⟩) z.nd.kids.length b):=cellAt u 1 rfl;clear u
 gi_wp2
 gi_loopw [9] (fun i wr=>∃ k:Nat,E<=k/\k<=z.nd.pairs.length/\i=.int .i64 k/\Hid (J (pre0++first++segW f z.nd.pairs z.nd.kids E k) wr)/\Hid (KpR n₀ Bo W wr)/\wr.heap[W.heap.size]?=some (.cells #[.slice V z.nd.pairs.length a,.slice (some ⟨q,K,none⟩) z.nd.kids.length b] 231 (0,0)))
  (fun i _=>z.nd.pairs.length-(intOf i).toNat)
 case atStart=>exact ⟨E,Nat.le_refl _,aU,rfl,H_ (by rw [zou,List.append_nil];exact an.out),aq,X.out⟩
 case round =>
  obtain ⟨k,aw,a7,rfl,v,w,g⟩:=hrel;have p0:wr.cell? ⟨W.heap.size,0,none⟩=some (.slice V z.nd.pairs.length a):=cellAt g 0 rfl;have p1:wr.cell? ⟨W.heap.size,1,none⟩=some (.slice (some ⟨q,K,none⟩) z.nd.kids.length b):=cellAt g 1 rfl;by_cases hlt:k<z.nd.pairs.length
  · obtain ⟨pb,po,rfl⟩:=HA.out (by omega)
    obtain ⟨x,T⟩:∃ x,z.nd.pairs[k]?=some x:=⟨_,List.getElem?_eq_getElem hlt⟩;obtain ⟨U,P⟩:∃ U,z.nd.kids[k+1]?=some U:=⟨_,List.getElem?_eq_getElem (by have:=HL.out;omega)⟩;have y:=H.out.kp w.out
    have C:SlF wr 122 2 pairC (.slice (some ⟨pb,po,none⟩) z.nd.pairs.length a) z.nd.pairs:=by
     have:=y.r.pairs at_ z HZ.out
     rwa [aD.out] at this
    have x0:=C.cell0 zae k T rfl;have x1:=C.cell zae k 1 T rfl;have S:=zgu f z.nd.pairs z.nd.kids E HL.out (z.nd.pairs.length-(k+1)) (k+1) (by omega) (by omega);have D:=zjw f z.nd.pairs z.nd.kids E k x U aw T P HL.out;have p:=S.length_le;have M:=HN.out
    have j:(pre0++first++segW f z.nd.pairs z.nd.kids E k).length<N:=by
     rw [D] at p;simp only [List.length_append,List.length_cons] at p M ⊢
     omega
    have o:(pre0++first++segW f z.nd.pairs z.nd.kids E k++[x]).length+(f U).length<=N:=by
     rw [D] at p;simp only [List.length_append,List.length_cons,List.length_nil] at p M ⊢
     omega
    obtain ⟨fn,aY,ae,aE,hy,hR⟩:=hY (n-1) _ x wr v.out j;dsimp only [zev] at hy;have aO:(k:Int)<(z.nd.pairs.length:Int):=(by omega);have aP:(k:Int)+1<(z.nd.kids.length:Int):=(by have:=HL.out;omega);have aQ:(0:Int)<=(k:Int)+1:=(by omega);have aR:((k:Int)+1).toNat=k+1:=(by omega);have HX:=H_ T;have a0:=H_ P;have L:=H_ D;have a3:=H_ S;have aI:n₀<=wr.heap.size:=Nat.le_trans aa w.out.size;have aT:pb<wr.heap.size:=C.lt pb rfl;have aG:W.heap.size<wr.heap.size:=zab g;clear T C P D S p M j
    gi_wp2
    refine ⟨hdd _,hR.mono ?_⟩;rintro e W3 (⟨rfl,a5,B⟩ | ⟨rfl,G⟩)
    · have A:=(B.rows _ _ _ _ g (by decide) (by omega)).trans g
      have q0:W3.cell? ⟨W.heap.size,0,none⟩=some (.slice (some ⟨pb,po,none⟩) z.nd.pairs.length a):=cellAt A 0 rfl;have q1:W3.cell? ⟨W.heap.size,1,none⟩=some (.slice (some ⟨q,K,none⟩) z.nd.kids.length b):=cellAt A 1 rfl;have O:=y.kp B
      have ay:W3.cell? ⟨q,K+(k+1),none⟩=some (.int .i64 (U:Int)):=by
       have hh:=O.r.kids at_ z HZ.out;rw [aC.out] at hh;exact hh.cell1 zag _ a0.out rfl
      have aN:q<W3.heap.size:=World.block_lt_of_cell? _ _ ay;have I:=am.out (n-1) U _ W3 (List.mem_of_getElem? a0.out) O o a5;have al:=H_ I;have a2:=H_ B;have Y:=H_ A;clear a5 v p0 p1 x0 x1 I B A O y o
      gi_wp2_with (first
       | (refine ⟨trivial,hdd _,?_⟩;gi_at_call 153;refine al.out.mono ?_;rintro e w4 (⟨rfl,a6,R⟩ | ⟨rfl,pre,d,ab⟩)))
      · have av:=(R.rows _ _ _ _ Y.out (by decide) (by omega)).trans Y.out
        have ap:=H_ a6;have ar:=H_ R;clear a6 R
        gi_wp2
        go_roundw
        case rel =>
         refine ⟨k+1,by omega,by omega,by go_num,H_ ?_,H_ ((w.out.trans a2.out).trans ar.out),av⟩;have:=ap.out;rw [L.out];simpa using this
        case measure=>simp [intOf];omega
      have au:=H_ ab
      have F:=H_ d;clear ab d
      gi_wp2
      go_ret;refine .inr ⟨rfl,first++(segW f z.nd.pairs z.nd.kids E k++x :: pre),?_,by have:=au.out;simpa using this⟩;refine (List.prefix_append_right_inj first).2 (List.IsPrefix.trans ?_ a3.out);rw [L.out];refine (List.prefix_append_right_inj _).2 ?_;exact List.cons_prefix_cons.2 ⟨rfl,F.out⟩
    have ao:=H_ G
    clear G v p0 p1 x0 x1 y
    gi_wp2
    go_ret;refine .inr ⟨rfl,first++(segW f z.nd.pairs z.nd.kids E k++[x]),?_,by have:=ao.out;simpa using this⟩;refine (List.prefix_append_right_inj first).2 (List.IsPrefix.trans ?_ a3.out);rw [L.out];refine (List.prefix_append_right_inj _).2 ?_;exact List.cons_prefix_cons.2 ⟨rfl,List.nil_prefix⟩
  obtain rfl:k=z.nd.pairs.length:=by omega
  gi_wp2
  go_ret;exact .inl ⟨rfl,by have:=v.out;rw [zmx f _ _ _ HL.out,List.append_assoc] at this;exact this,w.out⟩
theorem zvi (w:World) (t:Nat) (frm tO:ByteArray) :
 Calls Tryz.prog 60 #[.pointer (some ⟨t,0,none⟩),.string frm,.string tO,.int .i64 0] w fun e w'=>e=.returned (.slice none 0 0)/\Fr No w w':=by
 go_enter Tryz.func60,Tryz.ntmps60;go_wp2;go_ret;exact ⟨rfl,(((Fr.refl No w).alloc _).alloc _).alloc _⟩
abbrev zao:=World->Nat->Pairs->(Nat->Prop)->Prop
structure TreeOk (TA:zao) (N:Nat):Prop where
 lt:∀ {w t T F},TA w t T F->∀ b,F b->b<w.heap.size
 fr:∀ {w w' t T F S},TA w t T F->Fr S w w'->(∀ b,F b->¬ S b)->TA w' t T F
 root:∀ {w t T F},TA w t T F->F t
 sorted:∀ {w t T F},TA w t T F->Sorted T
 new:∀ w:World,Calls Tryz.prog 51 #[] w fun e w'=>∃ t,e=.returned (.pointer (some ⟨t,0,none⟩))/\∃ F,TA w' t [] F/\Fr No w w'/\(∀ b,F b->w.heap.size<=b)
 len:∀ {w t T F},TA w t T F->Calls Tryz.prog 61 #[.pointer (some ⟨t,0,none⟩)] w fun e w'=>e=.returned (.int .i64 T.length)/\w=w'
 get:∀ {w t T F} (key:ByteArray),TA w t T F->Calls Tryz.prog 121 #[.pointer (some ⟨t,0,none⟩),.string key] w fun e w'=>e=.returned (zdb (getT T key))/\Fr No w w'
 set:∀ {w t T F} (key:ByteArray) (m:Int),TA w t T F->T.length<N →
  Calls Tryz.prog 116 #[.pointer (some ⟨t,0,none⟩),.string key,.int .i64 m] w fun e w'=>(∃ v,e=.returned v)/\∃ F',TA w' t (insT T key m) F'/\Fr F w w'/\(∀ b,F' b->F b\/w.heap.size<=b)
 range:∀ {w t T F} (frm tO:ByteArray),TA w t T F →
  Calls Tryz.prog 60 #[.pointer (some ⟨t,0,none⟩),.string frm,.string tO,.int .i64 T.length] w fun e w'=>∃ v,e=.returned v/\SlF w' 122 2 pairC v (rangeT T frm tO)/\Fr No w w'/\(∀ b,v.ownBlock=some b->w.heap.size<=b)
attribute [local go_sem] Oper.semAt_some
theorem zsk (l t n₀ Bo:Nat) (hBo:Bo<n₀) (nv fv:Value) (Z:List Nz) (fl:List Nat) (root:Nat) (many:Int) (frm:ByteArray) (J Jx:Pairs->World->Prop) (N:Nat)
 (hJ:∀ pre W W',J pre W->Fr No W W'->J pre W')
 (hY:∀ m pre x W,J pre W->pre.length<N->YieldAt Fence.wide m Tryz.prog l (zev x) W fun e W' =>
   (e=.returned (.bool true)/\J (pre++[x]) W'/\KpR n₀ Bo W W')\/(e=.returned (.bool false)/\Jx (pre++[x]) W')) :
 ∀ (d n at_:Nat) (pre0:Pairs) (W:World),zfm W t n₀ Bo nv fv Z fl root many->nWf (ndsZ Z) d (ndA (ndsZ Z) at_)->at_<(ndsZ Z).length->(ndA (ndsZ Z) at_).pairs.length<=9->Sorted (trav (ndsZ Z) d at_) →
  pre0.length+(fromT (trav (ndsZ Z) d at_) frm).length<=N->J pre0 W →
  CallsIn Fence.wide n Tryz.prog 153 #[.pointer (some ⟨t,0,none⟩),.int .i64 at_,.string frm,.func (.yield l) #[] #[]] W (zjm n₀ Bo J Jx pre0 (fromT (trav (ndsZ Z) d at_) frm) W)
 | 0,n,at_,pre0,W,h,hw,hl,h9,hs,hN,h0=>by
   obtain ⟨z,hz,hnd⟩:=zdf hl;have hf:=zvo (frm:=frm) hs;rw [hnd] at hf h9;have hk0:z.nd.kids = []:=(by rw [<-hnd];exact hw);rw [hf] at hN ⊢
   exact zyi n l t n₀ Bo hBo nv fv Z fl root many frm J Jx N hJ hY at_ z hz h9 hk0 pre0 hN W h h0
 | d+1,n,at_,pre0,W,h,hw,hl,h9,hs,hN,h0=>by
   obtain ⟨z,hz,hnd⟩:=zdf hl;have hf:=zty (frm:=frm) hw hs;have hkl:(ndA (ndsZ Z) at_).kids.length=(ndA (ndsZ Z) at_).pairs.length+1:=hw.1
   have hK:∀ c∈(ndA (ndsZ Z) at_).kids,Sorted (trav (ndsZ Z) d c):=by
    intro c b;obtain ⟨K1,K2,e⟩:=List.append_of_mem b;have f:K1.length+1+K2.length=(ndA (ndsZ Z) at_).pairs.length+1:=(by rw [e] at hkl;simp at hkl;omega)
    have g:ndA (ndsZ Z) at_=⟨(ndA (ndsZ Z) at_).pairs.take K1.length++[]++(ndA (ndsZ Z) at_).pairs.drop K1.length,K1++[c]++K2⟩:=by
     rw [List.append_nil,List.take_append_drop,List.append_assoc,List.singleton_append,<-e]
    have i:=zbj (d:=d) g (by simp;omega) (by simp;omega) rfl;rw [i] at hs;exact hs.left.right
   have a:=hw.2;unfold kidA at hf;rw [hnd] at hf h9 hkl hK a;rw [hf] at hN ⊢
   exact zvp n l t n₀ Bo hBo nv fv Z fl root many frm J Jx N hJ hY at_ z hz h9 hkl (fun k=>fromT (trav (ndsZ Z) d k) frm)
    (fun m c pre W' b hW hp hJ'=>zsk l t n₀ Bo hBo nv fv Z fl root many frm J Jx N hJ hY d m c pre W' hW (a c b).2.2.2 (a c b).1 (a c b).2.2.1 (hK c b) hp hJ') pre0 _ rfl hN W h h0
theorem zzba (n l t n₀ Bo Bt Bf:Nat) (hBo:Bo<n₀) (nv fv:Value) (Z:List Nz) (fl:List Nat) (root:Nat) (many:Int) (T:Pairs) (frm:ByteArray) (hg:GoodT (ndsZ Z) fl root T) (J Jx:Pairs->World->Prop)
 (hJ:∀ pre W W',J pre W->Fr No W W'->J pre W')
 (hY:∀ m pre x W,J pre W->pre.length<T.length->YieldAt Fence.wide m Tryz.prog l (zev x) W fun e W' =>
   (e=.returned (.bool true)/\J (pre++[x]) W'/\KpR n₀ Bo W W')\/(e=.returned (.bool false)/\Jx (pre++[x]) W'))
 (W:World) (h:zfm W t n₀ Bo nv fv Z fl root many)
 (hbt:W.cell? ⟨Bt,0,none⟩=some (.pointer (some ⟨t,0,none⟩))) (hbf:W.cell? ⟨Bf,0,none⟩=some (.string frm)) (h0:J [] W) :
 CallsIn Fence.wide n Tryz.prog 152 #[.func (.yield l) #[] #[],.pointer (some ⟨Bt,0,none⟩),.pointer (some ⟨Bf,0,none⟩)] W fun e W'=>(∃ v,e=.returned v) ∧
  ((∃ ys,ys=T.drop (spotOf T frm)/\J ys W')\/(∃ pre,pre <+: T.drop (spotOf T frm)/\Jx pre W')):=by
 have o:=h.r.obj.cell 2 rfl;obtain ⟨D,a⟩:=hg;have b:fromT (trav (ndsZ Z) D root) frm=T.drop (spotOf T frm):=by rw [a.trav];exact (zem T a.sorted frm).symm
 have c:=zsk l t n₀ Bo hBo nv fv Z fl root many frm J Jx T.length hJ hY D (n-1) root [] W.drew (h.kp (KpR.of_fr (Fr.refl No W).drew h.size fun _ s=>s.elim)) a.pt.wf a.pt.lt a.hi (by rw [a.trav];exact a.sorted)
  (by rw [b];simp) (hJ _ _ _ h0 (Fr.refl _ _).drew)
 rw [b] at c;unfold zjm at c;simp only [List.nil_append] at c;clear hJ hY h h0 b a;refine callsIn_of_wp Tryz.func152 rfl trivial ?_ rfl;simp only [Tryz.ntmps152,List.size_toArray,List.length_cons,List.length_nil,Nat.reduceAdd,Nat.reduceSub,Array.replicate_succ,Array.replicate_zero,List.push_toArray,List.append_toArray,List.nil_append,List.cons_append]
 gi_wp2
 refine zcw 7 (fun _=>trivial) rfl (fun f args w R h=>callsIn_wide.2 h) (by kernel_rfl) (by kernel_rfl) ?_;simp only [List.take_succ_cons,List.take_zero,List.drop_succ_cons,List.drop_zero]
 repeat (refine wpStill_step (fun K hK=>?_);go_simp;(try go_bits);refine hK _ ?_;clear hK K)
 refine wpStill_nil ?_
 gi_wp2_with (refine ⟨trivial,hdd _,?_⟩;gi_at_call 153;refine c.mono ?_;clear c;rintro e k (⟨rfl,d,g⟩ | ⟨rfl,q,i,j⟩))
 · go_end0
   exact ⟨⟨_,rfl⟩,.inl ⟨_,rfl,d⟩⟩
 go_end0
 exact ⟨⟨_,rfl⟩,.inr ⟨q,i,j⟩⟩
theorem zvg (n t n₀ Bo Bt Bf:Nat) (hBo:Bo<n₀) (nv fv:Value) (Z:List Nz) (fl:List Nat) (root:Nat) (many:Int) (T:Pairs) (frm:ByteArray) (hg:GoodT (ndsZ Z) fl root T)
 (w:World) (h:zfm w t n₀ Bo nv fv Z fl root many)
 (hbt:w.cell? ⟨Bt,0,none⟩=some (.pointer (some ⟨t,0,none⟩))) (hbf:w.cell? ⟨Bf,0,none⟩=some (.string frm)) :
 SeqStopsK Fence.wide n Tryz.prog 152 #[.pointer (some ⟨Bt,0,none⟩),.pointer (some ⟨Bf,0,none⟩)] zev (KpR n₀ Bo) (fun ys=>ys=T.drop (spotOf T frm)) (fun pre=>pre <+: T.drop (spotOf T frm)) T.length w:=fun l J Jx W hW hJ _ hY h0=>by
 have hf:Fr No w W:=⟨hW.os,hW.tape,hW.output,hW.size,fun k hk _=>hW.block k hk⟩
 refine zzba n l t n₀ Bo Bt Bf hBo nv fv Z fl root many T frm hg J Jx (fun pre A B hA hAB=>?_) (fun m pre x W1 h1 h2=>zln rfl m (hY pre x W1 h1 h2)) W
  (h.kp (KpR.of_fr hf h.size fun _ s=>s.elim)) (hf.cell0 hbt) (hf.cell0 hbf) h0
 exact hJ _ _ _ none hA (zrg hAB) (fun r e=>by cases e)
set_option maxHeartbeats 1000000 in
theorem zyg (n:Nat) (hn:6<=n) (w:World) (t:Nat) (nv fv:Value) (Z:List Nz) (fl:List Nat) (root:Nat) (many:Int) (T:Pairs) (frm upr:ByteArray) (h:TreeR w t nv fv Z fl root many) (hg:GoodT (ndsZ Z) fl root T) (hZl:Z.length<=1099511627) (hs:Sorted T) (hT:T.length<=10000000) (hpos:0<T.length) :
 CallsIn Fence.wide n Tryz.prog 60 #[.pointer (some ⟨t,0,none⟩),.string frm,.string upr,.int .i64 T.length] w fun e w' =>
  ∃ v,e=.returned v/\SlF w' 122 2 pairC v (rangeT T frm upr)/\Below w.heap.size w w'/\(∀ b,v.ownBlock=some b->w.heap.size<=b):=by
 have P:1<=n:=by omega
 have H:=H_ h;clear h;have aG:¬ (T.length:Int)<1:=by omega
 refine callsIn_of_wp_marks Tryz.func60 rfl trivial ?_ rfl;simp only [Tryz.ntmps60,List.size_toArray,List.length_cons,List.length_nil,Nat.reduceAdd,Nat.reduceSub,Array.replicate_succ,Array.replicate_zero,List.push_toArray,List.append_toArray,List.nil_append,List.cons_append]
 gi_wp2_with (refine ⟨trivial,?_⟩;gi_at_call 114;refine (callsIn_wide.2 (zyd _ _ _)).mono ?_;rintro e w' ⟨rfl,rfl⟩)
 obtain ⟨z,j⟩:∃ z,(((((w.alloc (Obj.cells #[Value.string upr] 9)).alloc (Obj.cells #[Value.int IntKind.i64 (T.length:Int)] 3)).alloc (Obj.cells #[Value.slice none 0 0] 119)).alloc
  (Obj.cells #[Value.pointer (some { block:=t,off:=0 })] 103)).alloc (Obj.cells #[Value.string frm] 9))=z:=⟨_,rfl⟩
 have aM:z.heap.size=w.heap.size+5:=by rw [<-j];simp
 have b0:z.heap[w.heap.size]?=some (.cells #[Value.string upr] 9 (0,0)):=by rw [<-j];exact zai (zai (zai (zai (zad _ _ _ rfl) _) _) _) _
 have b1:z.heap[w.heap.size+1]?=some (.cells #[Value.int .i64 (T.length:Int)] 3 (0,0)):=by rw [<-j];exact zai (zai (zai (zad _ _ _ (by simp)) _) _) _
 have b2:z.heap[w.heap.size+1+1]?=some (.cells #[Value.slice none 0 0] 119 (0,0)):=by rw [<-j];exact zai (zai (zad _ _ _ (by simp)) _) _
 have b3:z.heap[w.heap.size+1+1+1]?=some (.cells #[Value.pointer (some { block:=t,off:=0 })] 103 (0,0)):=by rw [<-j];exact zai (zad _ _ _ (by simp)) _
 have b4:z.heap[w.heap.size+1+1+1+1]?=some (.cells #[Value.string frm] 9 (0,0)):=by rw [<-j];exact zad _ _ _ (by simp)
 have a6:Fr No w z:=by rw [<-j];exact (((((Fr.refl No w).alloc _).alloc _).alloc _).alloc _).alloc _
 simp only [j];clear j;have ap:TreeR z t nv fv Z fl root many:=H.out.fr0 a6;have aN:=H.out.obj.lt;obtain ⟨i0,a9,ad,ae,af⟩:=info_parts info127'
 refine wpIn_rangeFunc_ownH rfl P (gf:=152) (lb:=#[.pointer (some ⟨w.heap.size+1+1+1,0,none⟩),.pointer (some ⟨w.heap.size+1+1+1+1,0,none⟩)]) rfl trivial (enters_of Tryz.func152 (by kernel_rfl) rfl)
  (zvg (n-1) t z.heap.size (w.heap.size+1+1) (w.heap.size+1+1+1) (w.heap.size+1+1+1+1) (by omega) nv fv Z fl root many T frm hg z
    ⟨ap,Nat.le_refl _,fun b hb=>by have:=H.out.lt b hb;omega,hZl⟩ (by simp [World.cell?,b3]) (by simp [World.cell?,b4]))
  KpR.trans (KpR.putObj (Nat.le_refl _)) (Below.refl _ _) (fun _=>rfl)
  (fun a W=>RgI w upr T.length z.heap.size a W/\Hid ((∀ x∈a,ahead upr x=true)/\a.length<T.length))
  (fun c a W=>match c with
    | .exit id=>id=0/\∃ i,RgI w upr T.length z.heap.size i W/\Hid ((∃ x,a=i++[x]/\(∀ y∈i,ahead upr y=true)/\ahead upr x=false)\/(i=a/\(∀ y∈i,ahead upr y=true)/\i.length=T.length))
    | _=>False)
  (fun s W W' row hs hg N=>⟨hs.1.own (by omega) hg N,hs.2⟩)
  (fun c s W W' row hs hg N=>by
    cases c with
    | exit id=>obtain ⟨P,i,S,h3⟩:=hs;exact ⟨P,i,S.own (by omega) hg N,h3⟩
    | _=>exact hs.elim)
  ⟨⟨b0,b1,⟨_,b2,SlF.nil _ _ _ _,by simp [Value.ownBlock]⟩,a6.below0,Nat.le_refl _⟩,H_ ⟨by simp,by simpa using hpos⟩⟩
  (fun x a' W=>∃ L,z.heap.size<=L/\W.heap[L]?=some (.cells #[.string x.1,.int .i64 x.2] 122 (0,0))/\a'=⟨#[.pointer (some ⟨t,0,none⟩),.string frm,.string upr,.int .i64 T.length,undef,undef,.pointer (some ⟨w.heap.size,0,none⟩),.pointer (some ⟨w.heap.size+1,0,none⟩),.slice none 0 0,.pointer (some ⟨w.heap.size+1+1,0,none⟩),.pointer (some ⟨L,0,none⟩),.int .i64 T.length,.bool false,.pointer (some ⟨t,0,none⟩),.string frm,.func (.func 152) #[] #[.pointer (some ⟨w.heap.size+1+1+1,0,none⟩),.pointer (some ⟨w.heap.size+1+1+1+1,0,none⟩)],.agg #[.string x.1,.int .i64 x.2],undef,undef,undef,undef,undef,undef,undef,undef,undef,undef,undef,undef,undef,undef,undef,undef,undef],[]⟩)
  (fun x a' s W W' row hs hg N=>by
    obtain ⟨L,P,S,h3⟩:=hs;exact ⟨L,P,(hg.block L (zab S) fun e'=>by obtain ⟨_,o,ho,hc⟩:=N L e'.symm;rw [S] at ho;cases ho;cases hc).trans S,h3⟩)
  ?assign ?body ?done ?stop
 case assign =>
  rintro l a x W K ⟨p,d⟩ M;have ao:=H_ M;clear M;dsimp only [zev]
  gi_wp2
  exact ao.out _ _ ((KeepsOthers.alloc _ _).from _) (KpR.of_fr ((Fr.refl No W).alloc _) p.size fun _ s=>s.elim) ⟨p.fr ((Fr.refl _ _).alloc _),d⟩ ⟨W.heap.size,p.size,heap_alloc_new _ _,rfl⟩
 case body =>
  rintro l a x a' W hl ⟨r,N⟩ ⟨p,d⟩ ⟨L,aE,bX,rfl⟩ aJ;obtain ⟨v,R,E,q⟩:=p.b2;obtain ⟨Y,f,rfl,_,_,_⟩:=E.shape;have x0:W.cell? ⟨L,0,none⟩=some (.string x.1):=cellAt bX 0 rfl;have x1:W.cell? ⟨L,1,none⟩=some (.int .i64 x.2):=cellAt bX 1 rfl;have y0:W.cell? ⟨w.heap.size,0,none⟩=some (.string upr):=(by simp [World.cell?,p.b0]);have y1:W.cell? ⟨w.heap.size+1,0,none⟩=some (.int .i64 T.length):=(by simp [World.cell?,p.b1]);have y2:W.cell? ⟨w.heap.size+1+1,0,none⟩=some (.slice Y a.length f):=cellAt R 0 rfl;have HP:=d;have aK:=d.out.2;have C:=zbb W [.string x.1,.int .i64 x.2] 122 (0,0);have aD:=zab bX;have aL:w.heap.size+1+1<W.heap.size:=zab R;have HI:=H_ p;clear p d;by_cases hah:ahead upr x=true
  · have Q:upr.toList.isEmpty=true\/(upr.toList.isEmpty=false/\Op.bytesLess x.1.toList upr.toList=true):=by
     unfold ahead klt at hah;cases h0:upr.toList.isEmpty
     · right;refine ⟨rfl,?_⟩;simpa [h0] using hah
     left;rfl
    have O:=H_ hah;clear hah;by_cases hlast:a.length+1=T.length
    · have hd:((a.length:Int)+1==(T.length:Int))=true:=by simp;omega
      have U:=H_ hlast;clear hlast;rcases Q with he | ⟨he,B⟩
      all_goals
       gi_wp2_with (gi_at_builtin;refine zed rfl _ _ 119 rfl 122 i0 _ 2 24 Tryz.underlying119 a9 ad ae af rfl (by decide) (.slice Y a.length f) a rfl (E.alloc _) W.heap.size 1 x rfl (by simpa [pairC] using C) rfl (by intro u hu;simp [pairC] at hu;rcases hu with rfl | rfl <;> rfl) (by unfold maxLen;omega) (by omega) ?_)
       intro g o' cap w1 I A G aa;obtain ⟨V,G1,G2,G3⟩:=RgI.grow HI.out (by omega) R E q I A (by simpa using G);have z2:w1.cell? ⟨w.heap.size+1+1,0,none⟩=some (.slice Y a.length f):=cellAt V 0 rfl;have zf:w1.frozen? ⟨w.heap.size+1+1,0,none⟩=false:=(by simp [World.frozen?,V]);have HF:Fr (fun b=>(Value.slice Y a.length f).ownBlock=some b) W w1:=(((Fr.refl _ W).alloc _).grown A fun k B=>.inl B);have z1:=HF.cell y1 (fun e=>by have:=q _ e;simp at this;omega);have HG:=H_ (And.intro G1 (And.intro G2 G3));clear I A G G1 G2 G3 HF C V
       gi_wp2
       have F:∀ y∈a++[x],ahead upr y=true:=by
        intro y hy;rcases List.mem_append.1 hy with h | h
        · exact HP.out.1 y h
        simp at h;subst h;exact O.out
       exact ⟨HG.out.2.1,rfl,_,HG.out.1,H_ (.inr ⟨rfl,F,by simpa using U.out⟩)⟩
    have hd:((a.length:Int)+1==(T.length:Int))=false:=by simp;omega
    rcases Q with he | ⟨he,B⟩
    all_goals
     gi_wp2_with (gi_at_builtin;refine zed rfl _ _ 119 rfl 122 i0 _ 2 24 Tryz.underlying119 a9 ad ae af rfl (by decide) (.slice Y a.length f) a rfl (E.alloc _) W.heap.size 1 x rfl (by simpa [pairC] using C) rfl (by intro u hu;simp [pairC] at hu;rcases hu with rfl | rfl <;> rfl) (by unfold maxLen;omega) (by omega) ?_)
     intro g o' cap w1 I A G aa;obtain ⟨V,G1,G2,G3⟩:=RgI.grow HI.out (by omega) R E q I A (by simpa using G);have z2:w1.cell? ⟨w.heap.size+1+1,0,none⟩=some (.slice Y a.length f):=cellAt V 0 rfl;have zf:w1.frozen? ⟨w.heap.size+1+1,0,none⟩=false:=(by simp [World.frozen?,V]);have HF:Fr (fun b=>(Value.slice Y a.length f).ownBlock=some b) W w1:=(((Fr.refl _ W).alloc _).grown A fun k B=>.inl B);have z1:=HF.cell y1 (fun e=>by have:=q _ e;simp at this;omega);have HG:=H_ (And.intro G1 (And.intro G2 G3));clear I A G G1 G2 G3 HF C V
     gi_wp2
     have F:∀ y∈a++[x],ahead upr y=true:=by
      intro y hy;rcases List.mem_append.1 hy with h | h
      · exact HP.out.1 y h
      simp at h;subst h;exact O.out
     exact ⟨HG.out.2.1,HG.out.2.2,HG.out.1,H_ ⟨F,by simp;omega⟩⟩
  simp only [Bool.not_eq_true] at hah
  have O:=H_ hah
  have Q:upr.toList.isEmpty=false/\Op.bytesLess x.1.toList upr.toList=false:=by
   unfold ahead klt at hah;simpa using hah
  obtain ⟨he,B⟩:=Q;clear hah
  gi_wp2
  exact ⟨KeepsFrom.refl _ _,rfl,a,HI.out,H_ (.inl ⟨x,rfl,HP.out.1,O.out⟩)⟩
 case done =>
  rintro D xs W hD rfl ⟨p,d⟩ M;obtain ⟨v,R,E,q⟩:=p.b2;have y2:W.cell? ⟨w.heap.size+1+1,0,none⟩=some v:=cellAt R 0 rfl;have N:Hid (rangeT T frm upr=T.drop (spotOf T frm)):=H_ (by rw [zpa T hs];exact zhk d.out.1)
  gi_wp2
  refine ⟨by simp,.inl ⟨_,_,rfl,run_takeDeferred M,?_⟩⟩;have hg:=grownBy_putObj' W D (.deferred none);refine ⟨_,results_tmp rfl _ _ _,v,rfl,?_,p.below.grown hg p.below.size (fun k e=>by cases e;omega),fun b hb=>by have:=q b hb;omega⟩;rw [N.out];refine Sl.keep E fun k B=>hg.block k (E.lt k B) fun e=>?_;cases e
  rcases E.2 with ⟨rfl,_⟩ | ⟨g',o',a5,al,rfl,X,_⟩
  · simp [Value.ownBlock] at B
  obtain rfl:g'=D:=by simpa [Value.ownBlock] using B
  rw [X] at M;cases M
 case stop =>
  rintro D c a W hD a8 a7 M
  cases c with
  | exit id =>
    obtain ⟨rfl,i,p,HO⟩:=a7;obtain ⟨v,R,E,q⟩:=p.b2;have y2:W.cell? ⟨w.heap.size+1+1,0,none⟩=some v:=cellAt R 0 rfl
    have N:Hid (rangeT T frm upr=i):=H_ (by
     rw [zpa T hs];rcases HO.out with ⟨x,rfl,P,S⟩ | ⟨rfl,P,S⟩
     · obtain ⟨J,m⟩:=a8
       exact zlq (r:=J) (by rw [<-m];simp) P S
     obtain ⟨J,m⟩:=a8
     have hl:=congrArg List.length m;simp at hl;obtain rfl:J = []:=List.eq_nil_of_length_eq_zero (by omega);rw [<-m,List.append_nil];exact zhk P)
    gi_wp2
    refine ⟨by simp,.inl ⟨_,_,rfl,run_takeDeferred M,?_⟩⟩;have hg:=grownBy_putObj' W D (.deferred none);refine ⟨_,results_tmp rfl _ _ _,v,rfl,?_,p.below.grown hg p.below.size (fun k e=>by cases e;omega),fun b hb=>by have:=q b hb;omega⟩;rw [N.out];refine Sl.keep E fun k B=>hg.block k (E.lt k B) fun e=>?_;cases e
    rcases E.2 with ⟨rfl,_⟩ | ⟨g',o',a5,al,rfl,X,_⟩
    · simp [Value.ownBlock] at B
    obtain rfl:g'=D:=by simpa [Value.ownBlock] using B
    rw [X] at M;cases M
  | _=>exact a7.elim
def zye (w:World) (t:Nat) (T:Pairs) (F:Nat->Prop):Prop :=
 ∃ A fl root,TreeZ w t A fl root T.length F/\GoodT A fl root T/\A.length<=1000002/\T.length<=1000000
theorem zic:TreeOk zye 1000000 where
 lt h:=by obtain ⟨A,fl,root,h,_⟩:=h;exact h.lt
 fr h hf hn:=by obtain ⟨A,fl,root,h,h2⟩:=h;exact ⟨A,fl,root,h.fr hf hn,h2⟩
 root h:=by obtain ⟨A,fl,root,⟨nv,fv,Z,_,_,hF⟩,h2⟩:=h;exact (hF _).2 (.inl rfl)
 sorted h:=by obtain ⟨A,fl,root,_,⟨D,hD⟩,_⟩:=h;exact hD.sorted
 new w:=by
  refine (zvj w).mono ?_;rintro e w' ⟨t,rfl,F,h1,h2,h3⟩;exact ⟨t,rfl,F,⟨_,_,_,h1,zzr,by simp,by simp⟩,h2,h3⟩
 len h:=by obtain ⟨A,fl,root,h,_⟩:=h;exact zvk _ _ _ _ _ _ _ h
 get key h:=by obtain ⟨A,fl,root,h,h2,h3,_⟩:=h;exact zms _ _ _ _ _ _ _ _ key h h2 (by omega)
 set {w t T F} key m h hl:=by
  obtain ⟨A,fl,root,h,h2,h3,_⟩:=h;obtain ⟨g,a1,a2,a3,a4,a5⟩:=zzah h2 key m 1000000 (by omega) hl;refine (zvh w t A fl root T.length F T key m h h2 1000000 (Nat.le_refl _) (by omega) hl ⟨by omega,by omega⟩ g a1 a4).mono ?_;rintro e w' ⟨he,F',b1,b2,b3⟩
  have hlen:(insT T key m).length=T.length+if (getT T key).2 then 1-1 else 1:=by
   obtain ⟨D,hD⟩:=h2;exact ztj key m T hD.sorted
  refine ⟨he,F',⟨_,_,_,?_,a3,by omega,by rw [hlen];split <;> omega⟩,b2,b3⟩
  have e2:((insT T key m).length:Int)=(T.length:Int)+if (setA g (growA A fl root).1 (growA A fl root).2.1 (growA A fl root).2.2 key m).2.2 then 1 else 0:=by
   rw [a2,hlen];cases (getT T key).2 <;> simp
  rw [e2];exact b1
 range {w t T F} frm upr h:=by
  obtain ⟨A,fl,root,⟨nv,fv,Z,h,rfl,hF⟩,h2,h3,h4⟩:=h;rcases Nat.eq_zero_or_pos T.length with h0 | hp
  · obtain rfl:=List.eq_nil_of_length_eq_zero h0
    refine (zvi w t frm upr).mono ?_;rintro e w' ⟨rfl,hf⟩;exact ⟨_,rfl,SlF.nil _ _ _ _,hf,by simp [Value.ownBlock]⟩
  have hsT:Sorted T:=by obtain ⟨D,hD⟩:=h2;exact hD.sorted
  rw [zay] at h3;refine (callsIn_wide.1 (zyg 6 (by omega) w t nv fv Z fl root T.length T frm upr h h2 (by omega) hsT (by omega) hp)).mono ?_;rintro e w' ⟨v,rfl,h1,h2,h3⟩;exact ⟨v,rfl,h1,Fr.of_below h2,h3⟩
end Go.Proofs.YthljnnjpmdgkoaaGreat