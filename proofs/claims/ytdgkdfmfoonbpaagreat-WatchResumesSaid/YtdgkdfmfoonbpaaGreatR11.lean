/- Own lemmas. -/
import Derived.Test.YtdgkdfmfoonbpaaGreatR10
import Derived.Test.YtdgkdfmfoonbpaaGreatR01
import Derived.Test.YtdgkdfmfoonbpaaGreatR09
namespace Go.Proofs.YtdgkdfmfoonbpaaGreat
open Go Go.Proofs Go.RowKit Go.Shelf
set_option maxRecDepth 100000
attribute [local go_sem] Oper.semAt_some
theorem zot (f:Nat->Pairs):∀ (P:Pairs) (K:List Nat) (p:ByteArray×Int) (k:Nat),K.length=P.length->rwv f (P++[p]) (K++[k])=rwv f P K++p :: f k
 | [],[],p,k,_=>by simp [rwv]
 | [],_ :: _,_,_,h=>by simp at h
 | _ :: _,[],_,_,h=>by simp at h
 | q :: P,c :: K,p,k,h=>by simp [rwv,zot f P K p k (by simpa using h)]
def zhn (n₀ Bo:Nat) (J Jx:Pairs->World->Prop) (pre0 S:Pairs) (W:World) (e:Ending) (W':World):Prop :=
 (e=.returned (.bool true)/\J (pre0++S) W'/\KpR n₀ Bo W W')\/(e=.returned (.bool false)/\∃ pre,pre <+: S/\Jx (pre0++pre) W')
def segW (f:Nat->Pairs) (P:Pairs) (K:List Nat) (s0 k:Nat):Pairs:=rwv f ((P.drop s0).take (k-s0)) ((K.drop (s0+1)).take (k-s0))
theorem zlh (f:Nat->Pairs) (P:Pairs) (K:List Nat) (s0:Nat):segW f P K s0 s0 = []:=by unfold segW;simp [rwv]
theorem zhw (f:Nat->Pairs) (P:Pairs) (K:List Nat) (s0 k:Nat) (x:ByteArray×Int) (c:Nat) (h:s0<=k) (hx:P[k]?=some x) (hc:K[k+1]?=some c) (hl:K.length=P.length+1):segW f P K s0 (k+1)=segW f P K s0 k++x :: f c:=by
 have a:=(List.getElem?_eq_some_iff.1 hx).1;unfold segW;rw [show k+1-s0=(k-s0)+1 by omega,List.take_add_one,List.take_add_one,List.getElem?_drop,List.getElem?_drop,show s0+(k-s0)=k by omega,show s0+1+(k-s0)=k+1 by omega,hx,hc];exact zot f _ _ x c (by simp;omega)
theorem zjx (f:Nat->Pairs) (P:Pairs) (K:List Nat) (s0:Nat) (hl:K.length=P.length+1):segW f P K s0 P.length=rwv f (P.drop s0) (K.drop (s0+1)):=by
 unfold segW;rw [List.take_of_length_le (by simp),List.take_of_length_le (by simp;omega)]
theorem zfn (f:Nat->Pairs) (P:Pairs) (K:List Nat) (s0:Nat) (hl:K.length=P.length+1):∀ (m k:Nat),k+m=P.length->s0<=k->segW f P K s0 k <+: rwv f (P.drop s0) (K.drop (s0+1))
 | 0,k,h,_=>by obtain rfl:k=P.length:=by omega
               rw [zjx f P K s0 hl];exact List.prefix_refl _
 | m+1,k,h,hs=>by
   have a:=zfn f P K s0 hl m (k+1) (by omega) (by omega);rw [zhw f P K s0 k _ _ hs (List.getElem?_eq_getElem (by omega)) (List.getElem?_eq_getElem (by omega)) hl] at a;exact (List.prefix_append _ _).trans a
set_option maxHeartbeats 4000000 in
theorem zrl (n l t n₀ Bo:Nat) (hBo:Bo<n₀) (nv fv:Value) (Z:List Nz) (fl:List Nat) (root:Nat) (many:Int) (frm:ByteArray) (J Jx:Pairs->World->Prop) (N:Nat)
 (hJ:∀ pre W W',J pre W->Fr No W W'->J pre W')
 (hY:∀ m pre x W,J pre W->pre.length<N->YieldAt Fence.wide m Tryz.prog l (zdw x) W fun e W' =>
   (e=.returned (.bool true)/\J (pre++[x]) W'/\KpR n₀ Bo W W')\/(e=.returned (.bool false)/\Jx (pre++[x]) W'))
 (at_:Nat) (z:Nz) (hz:Z[at_]?=some z) (h9:z.nd.pairs.length<=9) (hl:z.nd.kids.length=z.nd.pairs.length+1) (f:Nat->Pairs)
 (hIH:∀ (m c:Nat) (pre:Pairs) (W:World),c∈z.nd.kids->zek W t n₀ Bo nv fv Z fl root many->pre.length+(f c).length<=N->J pre W →
   CallsIn Fence.wide m Tryz.prog 116 #[.pointer (some ⟨t,0,none⟩),.int .i64 c,.string frm,.func (.yield l) #[] #[]] W (zhn n₀ Bo J Jx pre (f c) W))
 (pre0 first:Pairs) (hfirst:first=if hitOf z.nd.pairs frm then [] else f (z.nd.kids.getD (spotOf z.nd.pairs frm) 0))
 (hN:pre0.length+(first++rwv f (z.nd.pairs.drop (spotOf z.nd.pairs frm)) (z.nd.kids.drop (spotOf z.nd.pairs frm+1))).length<=N)
 (W:World) (h:zek W t n₀ Bo nv fv Z fl root many) (h0:J pre0 W) :
 CallsIn Fence.wide n Tryz.prog 116 #[.pointer (some ⟨t,0,none⟩),.int .i64 at_,.string frm,.func (.yield l) #[] #[]] W
  (zhn n₀ Bo J Jx pre0 (first++rwv f (z.nd.pairs.drop (spotOf z.nd.pairs frm)) (z.nd.kids.drop (spotOf z.nd.pairs frm+1))) W):=by
 have aa:=spotZ h.r at_ z hz h9 h.few frm;unfold zbq at aa;have bD:=h.few;have bj:at_<Z.length:=(List.getElem?_eq_some_iff.1 hz).1;obtain ⟨nb,no,cap,rfl,bl⟩:=h.r.headLen (by omega);have c0:=h.r.obj.cell 0 rfl;obtain ⟨n0,n1,_,_⟩:=h.r.look at_ z hz;obtain ⟨X,a,aA,bu,bv,aT⟩:=(h.r.pairs at_ z hz).shape;obtain ⟨ka,b,a9,bw,bx,aN⟩:=(h.r.kids at_ z hz).shape;obtain ⟨u,L,rfl⟩:=aN (by omega);rw [aA] at n0;rw [a9] at n1;have aV:=zbm z.nd.pairs frm;have bk:(at_:Int)<(Z.length:Int):=by omega
 have bo:t<W.heap.size:=h.r.obj.lt;have bn:nb<W.heap.size:=h.r.nodes.lt nb rfl;have bz:u<n₀/\u≠Bo:=h.low u (.inr (.inr (.inr ⟨at_,z,hz,.inr (by rw [a9];rfl)⟩)));obtain ⟨c,hc⟩:∃ c,z.nd.kids[spotOf z.nd.pairs frm]?=some c:=⟨_,List.getElem?_eq_getElem (by omega)⟩;have aK:z.nd.kids.getD (spotOf z.nd.pairs frm) 0=c:=by simp [List.getD,hc]
 rw [aK] at hfirst;have ay:=h.r.kids at_ z hz;rw [a9] at ay;have k0:=ay.cell1 zag _ hc rfl;have aL:=List.mem_of_getElem? hc;have H:=H_ h;have HA:=H_ aT;have HZ:=H_ hz;have aE:=H_ aA;have aD:=H_ a9;have an:=H_ hIH;have aB:=H_ hfirst;have HN:=H_ hN;have HL:=H_ hl;have b6:=H_ aL;have ab:=h.size;have bm:u<W.heap.size:=by omega
 have bB:(0:Int)<(z.nd.kids.length:Int):=by omega
 have bC:(spotOf z.nd.pairs frm:Int)<(z.nd.kids.length:Int):=by omega
 have bt:Bo<W.heap.size:=by omega
 clear h aT hz aA a9 aN hIH hfirst hN hl ay aK hc aL;refine callsIn_of_wp Tryz.func116 rfl trivial ?_ rfl;simp only [Tryz.ntmps116,List.size_toArray,List.length_cons,List.length_nil,Nat.reduceAdd,Nat.reduceSub,Array.replicate_succ,Array.replicate_zero,List.push_toArray,List.append_toArray,List.nil_append,List.cons_append];generalize hitOf z.nd.pairs frm=bb at *;generalize spotOf z.nd.pairs frm=F at *;have ag:Fr No W (W.alloc (Obj.cells #[.slice X z.nd.pairs.length a,.slice (some ⟨u,L,none⟩) z.nd.kids.length b] 194)):=(Fr.refl No W).alloc _;have ai:KpR n₀ Bo W (W.alloc (Obj.cells #[.slice X z.nd.pairs.length a,.slice (some ⟨u,L,none⟩) z.nd.kids.length b] 194)):=KpR.of_fr ag ab (fun _ s=>s.elim)
 have aI:(W.alloc (Obj.cells #[.slice X z.nd.pairs.length a,.slice (some ⟨u,L,none⟩) z.nd.kids.length b] 194)).heap[W.heap.size]?=some (.cells #[.slice X z.nd.pairs.length a,.slice (some ⟨u,L,none⟩) z.nd.kids.length b] 194 (0,0)):=heap_alloc_new _ _;have br:=H_ ag;have a2:=H_ ai;have ak:=H_ aI;have aC:=H_ (hJ _ _ _ h0 ag);clear ag ai aI h0;cases bb
 · have R:first=f c:=by have:=aB.out;simpa using this
   have K:=an.out (n-1) c pre0 _ b6.out (H.out.kp a2.out) (by have:=HN.out;rw [R] at this;simp only [List.length_append] at this;omega) aC.out;have b7:=H_ K;have al:=H_ R;clear K R
   gi_wp2_with (first
    | (refine ⟨trivial,hdd _,?_⟩;gi_at_call 134;refine (callsIn_wide.2 aa).mono ?_;clear aa;rintro e w' ⟨rfl,rfl⟩)
    | (refine ⟨trivial,hdd _,?_⟩;gi_at_call 116;refine b7.out.mono ?_;rintro e w2 (⟨rfl,aG,a8⟩ | ⟨rfl,pre,d,U⟩)))
   · have v:=(a8.rows _ _ _ _ ak.out (by decide) (by omega)).trans ak.out
     have Y:=H_ v;have ao:Hid (J (pre0++first) w2):=H_ (by rw [al.out];exact aG);have ar:=H_ (a2.out.trans a8);clear v aG a8 k0 n0 n1 c0;have v:w2.heap[W.heap.size]?=some (.cells #[.slice X z.nd.pairs.length a,.slice (some ⟨u,L,none⟩) z.nd.kids.length b] 194 (0,0)):=Y.out;have q0:w2.cell? ⟨W.heap.size,0,none⟩=some (.slice X z.nd.pairs.length a):=cellAt v 0 rfl;have q1:w2.cell? ⟨W.heap.size,1,none⟩=some (.slice (some ⟨u,L,none⟩) z.nd.kids.length b):=cellAt v 1 rfl;clear v
     gi_wp2
     gi_loopw [9] (fun i wr=>∃ k:Nat,F<=k/\k<=z.nd.pairs.length/\i=.int .i64 k/\Hid (J (pre0++first++segW f z.nd.pairs z.nd.kids F k) wr)/\Hid (KpR n₀ Bo W wr)/\wr.heap[W.heap.size]?=some (.cells #[.slice X z.nd.pairs.length a,.slice (some ⟨u,L,none⟩) z.nd.kids.length b] 194 (0,0)))
      (fun i _=>z.nd.pairs.length-(intOf i).toNat)
     case atStart=>exact ⟨F,Nat.le_refl _,aV,rfl,H_ (by rw [zlh,List.append_nil];exact ao.out),ar,Y.out⟩
     case round =>
      obtain ⟨k,ax,a8,rfl,w,y,g⟩:=hrel;have p0:wr.cell? ⟨W.heap.size,0,none⟩=some (.slice X z.nd.pairs.length a):=cellAt g 0 rfl;have p1:wr.cell? ⟨W.heap.size,1,none⟩=some (.slice (some ⟨u,L,none⟩) z.nd.kids.length b):=cellAt g 1 rfl;by_cases hlt:k<z.nd.pairs.length
      · obtain ⟨pb,po,rfl⟩:=HA.out (by omega)
        obtain ⟨x,U⟩:∃ x,z.nd.pairs[k]?=some x:=⟨_,List.getElem?_eq_getElem hlt⟩;obtain ⟨V,Q⟩:∃ V,z.nd.kids[k+1]?=some V:=⟨_,List.getElem?_eq_getElem (by have:=HL.out;omega)⟩;have A:=H.out.kp y.out
        have D:SlF wr 125 2 pairC (.slice (some ⟨pb,po,none⟩) z.nd.pairs.length a) z.nd.pairs:=by
         have:=A.r.pairs at_ z HZ.out
         rwa [aE.out] at this
        have x0:=D.cell0 zad k U rfl;have x1:=D.cell zad k 1 U rfl;have T:=zfn f z.nd.pairs z.nd.kids F HL.out (z.nd.pairs.length-(k+1)) (k+1) (by omega) (by omega);have E:=zhw f z.nd.pairs z.nd.kids F k x V ax U Q HL.out;have q:=T.length_le;have O:=HN.out
        have j:(pre0++first++segW f z.nd.pairs z.nd.kids F k).length<N:=by
         rw [E] at q;simp only [List.length_append,List.length_cons] at q O ⊢
         omega
        have o:(pre0++first++segW f z.nd.pairs z.nd.kids F k++[x]).length+(f V).length<=N:=by
         rw [E] at q;simp only [List.length_append,List.length_cons,List.length_nil] at q O ⊢
         omega
        obtain ⟨fn,aZ,af,aF,hy,hR⟩:=hY (n-1) _ x wr w.out j;dsimp only [zdw] at hy;have aP:(k:Int)<(z.nd.pairs.length:Int):=(by omega);have aQ:(k:Int)+1<(z.nd.kids.length:Int):=(by have:=HL.out;omega);have aR:(0:Int)<=(k:Int)+1:=(by omega);have aS:((k:Int)+1).toNat=k+1:=(by omega);have HX:=H_ U;have a1:=H_ Q;have M:=H_ E;have a4:=H_ T;have aJ:n₀<=wr.heap.size:=Nat.le_trans ab y.out.size;have aU:pb<wr.heap.size:=D.lt pb rfl;have aH:W.heap.size<wr.heap.size:=zac g;clear U D Q E T q O j
        gi_wp2
        refine ⟨hdd _,hR.mono ?_⟩;rintro e W3 (⟨rfl,a6,C⟩ | ⟨rfl,I⟩)
        · have B:=(C.rows _ _ _ _ g (by decide) (by omega)).trans g
          have q0:W3.cell? ⟨W.heap.size,0,none⟩=some (.slice (some ⟨pb,po,none⟩) z.nd.pairs.length a):=cellAt B 0 rfl;have q1:W3.cell? ⟨W.heap.size,1,none⟩=some (.slice (some ⟨u,L,none⟩) z.nd.kids.length b):=cellAt B 1 rfl;have P:=A.kp C
          have az:W3.cell? ⟨u,L+(k+1),none⟩=some (.int .i64 (V:Int)):=by
           have hh:=P.r.kids at_ z HZ.out;rw [aD.out] at hh;exact hh.cell1 zag _ a1.out rfl
          have aO:u<W3.heap.size:=World.block_lt_of_cell? _ _ az;have K:=an.out (n-1) V _ W3 (List.mem_of_getElem? a1.out) P o a6;have am:=H_ K;have a3:=H_ C;have a0:=H_ B;clear a6 w p0 p1 x0 x1 K C B P A o
          gi_wp2_with (first
           | (refine ⟨trivial,hdd _,?_⟩;gi_at_call 116;refine am.out.mono ?_;rintro e w4 (⟨rfl,a7,S⟩ | ⟨rfl,pre,d,ad⟩)))
          · have aw:=(S.rows _ _ _ _ a0.out (by decide) (by omega)).trans a0.out
            have aq:=H_ a7;have au:=H_ S;clear a7 S
            gi_wp2
            go_roundw
            case rel =>
             refine ⟨k+1,by omega,by omega,by go_num,H_ ?_,H_ ((y.out.trans a3.out).trans au.out),aw⟩;have:=aq.out;rw [M.out];simpa using this
            case measure=>simp [intOf];omega
          have av:=H_ ad
          have G:=H_ d;clear ad d
          gi_wp2
          go_ret;refine .inr ⟨rfl,first++(segW f z.nd.pairs z.nd.kids F k++x :: pre),?_,by have:=av.out;simpa using this⟩;refine (List.prefix_append_right_inj first).2 (List.IsPrefix.trans ?_ a4.out);rw [M.out];refine (List.prefix_append_right_inj _).2 ?_;exact List.cons_prefix_cons.2 ⟨rfl,G.out⟩
        have ap:=H_ I
        clear I w p0 p1 x0 x1 A
        gi_wp2
        go_ret;refine .inr ⟨rfl,first++(segW f z.nd.pairs z.nd.kids F k++[x]),?_,by have:=ap.out;simpa using this⟩;refine (List.prefix_append_right_inj first).2 (List.IsPrefix.trans ?_ a4.out);rw [M.out];refine (List.prefix_append_right_inj _).2 ?_;exact List.cons_prefix_cons.2 ⟨rfl,List.nil_prefix⟩
      obtain rfl:k=z.nd.pairs.length:=by omega
      gi_wp2
      go_ret;exact .inl ⟨rfl,by have:=w.out;rw [zjx f _ _ _ HL.out,List.append_assoc] at this;exact this,y.out⟩
   have HX:=H_ U
   have G:=H_ d;clear U d
   gi_wp2
   go_ret;refine .inr ⟨rfl,pre,?_,HX.out⟩;rw [al.out];exact G.out.trans (List.prefix_append _ _)
 have R:first = []:=by have:=aB.out;simpa using this
 gi_wp2_with (first
  | (refine ⟨trivial,hdd _,?_⟩;gi_at_call 134;refine (callsIn_wide.2 aa).mono ?_;clear aa;rintro e w' ⟨rfl,rfl⟩))
 refine ⟨trivial,?_⟩;have Y:=ak;have ao:Hid (J (pre0++first) _):=H_ (by rw [R,List.append_nil];exact aC.out);have ar:=a2;generalize (W.alloc (Obj.cells #[.slice X z.nd.pairs.length a,.slice (some ⟨u,L,none⟩) z.nd.kids.length b] 194))=w2 at *;have al:=H_ R;clear R k0 n0 n1 c0;have v:w2.heap[W.heap.size]?=some (.cells #[.slice X z.nd.pairs.length a,.slice (some ⟨u,L,none⟩) z.nd.kids.length b] 194 (0,0)):=Y.out;have q0:w2.cell? ⟨W.heap.size,0,none⟩=some (.slice X z.nd.pairs.length a):=cellAt v 0 rfl;have q1:w2.cell? ⟨W.heap.size,1,none⟩=some (.slice (some ⟨u,L,none⟩) z.nd.kids.length b):=cellAt v 1 rfl;clear v
 gi_wp2
 gi_loopw [9] (fun i wr=>∃ k:Nat,F<=k/\k<=z.nd.pairs.length/\i=.int .i64 k/\Hid (J (pre0++first++segW f z.nd.pairs z.nd.kids F k) wr)/\Hid (KpR n₀ Bo W wr)/\wr.heap[W.heap.size]?=some (.cells #[.slice X z.nd.pairs.length a,.slice (some ⟨u,L,none⟩) z.nd.kids.length b] 194 (0,0)))
  (fun i _=>z.nd.pairs.length-(intOf i).toNat)
 case atStart=>exact ⟨F,Nat.le_refl _,aV,rfl,H_ (by rw [zlh,List.append_nil];exact ao.out),ar,Y.out⟩
 case round =>
  obtain ⟨k,ax,a8,rfl,w,y,g⟩:=hrel;have p0:wr.cell? ⟨W.heap.size,0,none⟩=some (.slice X z.nd.pairs.length a):=cellAt g 0 rfl;have p1:wr.cell? ⟨W.heap.size,1,none⟩=some (.slice (some ⟨u,L,none⟩) z.nd.kids.length b):=cellAt g 1 rfl;by_cases hlt:k<z.nd.pairs.length
  · obtain ⟨pb,po,rfl⟩:=HA.out (by omega)
    obtain ⟨x,U⟩:∃ x,z.nd.pairs[k]?=some x:=⟨_,List.getElem?_eq_getElem hlt⟩;obtain ⟨V,Q⟩:∃ V,z.nd.kids[k+1]?=some V:=⟨_,List.getElem?_eq_getElem (by have:=HL.out;omega)⟩;have A:=H.out.kp y.out
    have D:SlF wr 125 2 pairC (.slice (some ⟨pb,po,none⟩) z.nd.pairs.length a) z.nd.pairs:=by
     have:=A.r.pairs at_ z HZ.out
     rwa [aE.out] at this
    have x0:=D.cell0 zad k U rfl;have x1:=D.cell zad k 1 U rfl;have T:=zfn f z.nd.pairs z.nd.kids F HL.out (z.nd.pairs.length-(k+1)) (k+1) (by omega) (by omega);have E:=zhw f z.nd.pairs z.nd.kids F k x V ax U Q HL.out;have q:=T.length_le;have O:=HN.out
    have j:(pre0++first++segW f z.nd.pairs z.nd.kids F k).length<N:=by
     rw [E] at q;simp only [List.length_append,List.length_cons] at q O ⊢
     omega
    have o:(pre0++first++segW f z.nd.pairs z.nd.kids F k++[x]).length+(f V).length<=N:=by
     rw [E] at q;simp only [List.length_append,List.length_cons,List.length_nil] at q O ⊢
     omega
    obtain ⟨fn,aZ,af,aF,hy,hR⟩:=hY (n-1) _ x wr w.out j;dsimp only [zdw] at hy;have aP:(k:Int)<(z.nd.pairs.length:Int):=(by omega);have aQ:(k:Int)+1<(z.nd.kids.length:Int):=(by have:=HL.out;omega);have aR:(0:Int)<=(k:Int)+1:=(by omega);have aS:((k:Int)+1).toNat=k+1:=(by omega);have HX:=H_ U;have a1:=H_ Q;have M:=H_ E;have a4:=H_ T;have aJ:n₀<=wr.heap.size:=Nat.le_trans ab y.out.size;have aU:pb<wr.heap.size:=D.lt pb rfl;have aH:W.heap.size<wr.heap.size:=zac g;clear U D Q E T q O j
    gi_wp2
    refine ⟨hdd _,hR.mono ?_⟩;rintro e W3 (⟨rfl,a6,C⟩ | ⟨rfl,I⟩)
    · have B:=(C.rows _ _ _ _ g (by decide) (by omega)).trans g
      have q0:W3.cell? ⟨W.heap.size,0,none⟩=some (.slice (some ⟨pb,po,none⟩) z.nd.pairs.length a):=cellAt B 0 rfl;have q1:W3.cell? ⟨W.heap.size,1,none⟩=some (.slice (some ⟨u,L,none⟩) z.nd.kids.length b):=cellAt B 1 rfl;have P:=A.kp C
      have az:W3.cell? ⟨u,L+(k+1),none⟩=some (.int .i64 (V:Int)):=by
       have hh:=P.r.kids at_ z HZ.out;rw [aD.out] at hh;exact hh.cell1 zag _ a1.out rfl
      have aO:u<W3.heap.size:=World.block_lt_of_cell? _ _ az;have K:=an.out (n-1) V _ W3 (List.mem_of_getElem? a1.out) P o a6;have am:=H_ K;have a3:=H_ C;have a0:=H_ B;clear a6 w p0 p1 x0 x1 K C B P A o
      gi_wp2_with (first
       | (refine ⟨trivial,hdd _,?_⟩;gi_at_call 116;refine am.out.mono ?_;rintro e w4 (⟨rfl,a7,S⟩ | ⟨rfl,pre,d,ad⟩)))
      · have aw:=(S.rows _ _ _ _ a0.out (by decide) (by omega)).trans a0.out
        have aq:=H_ a7;have au:=H_ S;clear a7 S
        gi_wp2
        go_roundw
        case rel =>
         refine ⟨k+1,by omega,by omega,by go_num,H_ ?_,H_ ((y.out.trans a3.out).trans au.out),aw⟩;have:=aq.out;rw [M.out];simpa using this
        case measure=>simp [intOf];omega
      have av:=H_ ad
      have G:=H_ d;clear ad d
      gi_wp2
      go_ret;refine .inr ⟨rfl,first++(segW f z.nd.pairs z.nd.kids F k++x :: pre),?_,by have:=av.out;simpa using this⟩;refine (List.prefix_append_right_inj first).2 (List.IsPrefix.trans ?_ a4.out);rw [M.out];refine (List.prefix_append_right_inj _).2 ?_;exact List.cons_prefix_cons.2 ⟨rfl,G.out⟩
    have ap:=H_ I
    clear I w p0 p1 x0 x1 A
    gi_wp2
    go_ret;refine .inr ⟨rfl,first++(segW f z.nd.pairs z.nd.kids F k++[x]),?_,by have:=ap.out;simpa using this⟩;refine (List.prefix_append_right_inj first).2 (List.IsPrefix.trans ?_ a4.out);rw [M.out];refine (List.prefix_append_right_inj _).2 ?_;exact List.cons_prefix_cons.2 ⟨rfl,List.nil_prefix⟩
  obtain rfl:k=z.nd.pairs.length:=by omega
  gi_wp2
  go_ret;exact .inl ⟨rfl,by have:=w.out;rw [zjx f _ _ _ HL.out,List.append_assoc] at this;exact this,y.out⟩
theorem zrb (w:World) (t:Nat) (frm tO:ByteArray) :
 Calls Tryz.prog 58 #[.pointer (some ⟨t,0,none⟩),.string frm,.string tO,.int .i64 0] w fun e w'=>e=.returned (.slice none 0 0)/\Fr No w w':=by
 go_enter Tryz.func58,Tryz.ntmps58;go_wp2;go_ret;exact ⟨rfl,(((Fr.refl No w).alloc _).alloc _).alloc _⟩
abbrev zai:=World->Nat->Pairs->(Nat->Prop)->Prop
structure TreeOk (TA:zai) (N:Nat):Prop where
 lt:∀ {w t T F},TA w t T F->∀ b,F b->b<w.heap.size
 fr:∀ {w w' t T F S},TA w t T F->Fr S w w'->(∀ b,F b->¬ S b)->TA w' t T F
 root:∀ {w t T F},TA w t T F->F t
 sorted:∀ {w t T F},TA w t T F->Sorted T
 new:∀ w:World,Calls Tryz.prog 49 #[] w fun e w'=>∃ t,e=.returned (.pointer (some ⟨t,0,none⟩))/\∃ F,TA w' t [] F/\Fr No w w'/\(∀ b,F b->w.heap.size<=b)
 len:∀ {w t T F},TA w t T F->Calls Tryz.prog 59 #[.pointer (some ⟨t,0,none⟩)] w fun e w'=>e=.returned (.int .i64 T.length)/\w=w'
 get:∀ {w t T F} (key:ByteArray),TA w t T F->Calls Tryz.prog 105 #[.pointer (some ⟨t,0,none⟩),.string key] w fun e w'=>e=.returned (zcg (getT T key))/\Fr No w w'
 set:∀ {w t T F} (key:ByteArray) (m:Int),TA w t T F->T.length<N →
  Calls Tryz.prog 139 #[.pointer (some ⟨t,0,none⟩),.string key,.int .i64 m] w fun e w'=>(∃ v,e=.returned v)/\∃ F',TA w' t (insT T key m) F'/\Fr F w w'/\(∀ b,F' b->F b\/w.heap.size<=b)
 range:∀ {w t T F} (frm tO:ByteArray),TA w t T F →
  Calls Tryz.prog 58 #[.pointer (some ⟨t,0,none⟩),.string frm,.string tO,.int .i64 T.length] w fun e w'=>∃ v,e=.returned v/\SlF w' 125 2 pairC v (rangeT T frm tO)/\Fr No w w'/\(∀ b,v.ownBlock=some b->w.heap.size<=b)
attribute [local go_sem] Oper.semAt_some
theorem zon (l t n₀ Bo:Nat) (hBo:Bo<n₀) (nv fv:Value) (Z:List Nz) (fl:List Nat) (root:Nat) (many:Int) (frm:ByteArray) (J Jx:Pairs->World->Prop) (N:Nat)
 (hJ:∀ pre W W',J pre W->Fr No W W'->J pre W')
 (hY:∀ m pre x W,J pre W->pre.length<N->YieldAt Fence.wide m Tryz.prog l (zdw x) W fun e W' =>
   (e=.returned (.bool true)/\J (pre++[x]) W'/\KpR n₀ Bo W W')\/(e=.returned (.bool false)/\Jx (pre++[x]) W')) :
 ∀ (d n at_:Nat) (pre0:Pairs) (W:World),zek W t n₀ Bo nv fv Z fl root many->nWf (ndsZ Z) d (ndA (ndsZ Z) at_)->at_<(ndsZ Z).length->(ndA (ndsZ Z) at_).pairs.length<=9->Sorted (trav (ndsZ Z) d at_) →
  pre0.length+(fromT (trav (ndsZ Z) d at_) frm).length<=N->J pre0 W →
  CallsIn Fence.wide n Tryz.prog 116 #[.pointer (some ⟨t,0,none⟩),.int .i64 at_,.string frm,.func (.yield l) #[] #[]] W (zhn n₀ Bo J Jx pre0 (fromT (trav (ndsZ Z) d at_) frm) W)
 | 0,n,at_,pre0,W,h,hw,hl,h9,hs,hN,h0=>by
   obtain ⟨z,hz,hnd⟩:=zcj hl;have hf:=zrk (frm:=frm) hs;rw [hnd] at hf h9;have hk0:z.nd.kids = []:=(by rw [<-hnd];exact hw);rw [hf] at hN ⊢
   exact zty n l t n₀ Bo hBo nv fv Z fl root many frm J Jx N hJ hY at_ z hz h9 hk0 pre0 hN W h h0
 | d+1,n,at_,pre0,W,h,hw,hl,h9,hs,hN,h0=>by
   obtain ⟨z,hz,hnd⟩:=zcj hl;have hf:=zpo (frm:=frm) hw hs;have hkl:(ndA (ndsZ Z) at_).kids.length=(ndA (ndsZ Z) at_).pairs.length+1:=hw.1
   have hK:∀ c∈(ndA (ndsZ Z) at_).kids,Sorted (trav (ndsZ Z) d c):=by
    intro c b;obtain ⟨K1,K2,e⟩:=List.append_of_mem b;have f:K1.length+1+K2.length=(ndA (ndsZ Z) at_).pairs.length+1:=(by rw [e] at hkl;simp at hkl;omega)
    have g:ndA (ndsZ Z) at_=⟨(ndA (ndsZ Z) at_).pairs.take K1.length++[]++(ndA (ndsZ Z) at_).pairs.drop K1.length,K1++[c]++K2⟩:=by
     rw [List.append_nil,List.take_append_drop,List.append_assoc,List.singleton_append,<-e]
    have i:=zbb (d:=d) g (by simp;omega) (by simp;omega) rfl;rw [i] at hs;exact hs.left.right
   have a:=hw.2;unfold kidA at hf;rw [hnd] at hf h9 hkl hK a;rw [hf] at hN ⊢
   exact zrl n l t n₀ Bo hBo nv fv Z fl root many frm J Jx N hJ hY at_ z hz h9 hkl (fun k=>fromT (trav (ndsZ Z) d k) frm)
    (fun m c pre W' b hW hp hJ'=>zon l t n₀ Bo hBo nv fv Z fl root many frm J Jx N hJ hY d m c pre W' hW (a c b).2.2.2 (a c b).1 (a c b).2.2.1 (hK c b) hp hJ') pre0 _ rfl hN W h h0
theorem zwv (n l t n₀ Bo Bt Bf:Nat) (hBo:Bo<n₀) (nv fv:Value) (Z:List Nz) (fl:List Nat) (root:Nat) (many:Int) (T:Pairs) (frm:ByteArray) (hg:GoodT (ndsZ Z) fl root T) (J Jx:Pairs->World->Prop)
 (hJ:∀ pre W W',J pre W->Fr No W W'->J pre W')
 (hY:∀ m pre x W,J pre W->pre.length<T.length->YieldAt Fence.wide m Tryz.prog l (zdw x) W fun e W' =>
   (e=.returned (.bool true)/\J (pre++[x]) W'/\KpR n₀ Bo W W')\/(e=.returned (.bool false)/\Jx (pre++[x]) W'))
 (W:World) (h:zek W t n₀ Bo nv fv Z fl root many)
 (hbt:W.cell? ⟨Bt,0,none⟩=some (.pointer (some ⟨t,0,none⟩))) (hbf:W.cell? ⟨Bf,0,none⟩=some (.string frm)) (h0:J [] W) :
 CallsIn Fence.wide n Tryz.prog 115 #[.func (.yield l) #[] #[],.pointer (some ⟨Bt,0,none⟩),.pointer (some ⟨Bf,0,none⟩)] W fun e W'=>(∃ v,e=.returned v) ∧
  ((∃ ys,ys=T.drop (spotOf T frm)/\J ys W')\/(∃ pre,pre <+: T.drop (spotOf T frm)/\Jx pre W')):=by
 have o:=h.r.obj.cell 2 rfl;obtain ⟨D,a⟩:=hg;have b:fromT (trav (ndsZ Z) D root) frm=T.drop (spotOf T frm):=by rw [a.trav];exact (zdm T a.sorted frm).symm
 have c:=zon l t n₀ Bo hBo nv fv Z fl root many frm J Jx T.length hJ hY D (n-1) root [] W.drew (h.kp (KpR.of_fr (Fr.refl No W).drew h.size fun _ s=>s.elim)) a.pt.wf a.pt.lt a.hi (by rw [a.trav];exact a.sorted)
  (by rw [b];simp) (hJ _ _ _ h0 (Fr.refl _ _).drew)
 rw [b] at c;unfold zhn at c;simp only [List.nil_append] at c;clear hJ hY h h0 b a;refine callsIn_of_wp Tryz.func115 rfl trivial ?_ rfl;simp only [Tryz.ntmps115,List.size_toArray,List.length_cons,List.length_nil,Nat.reduceAdd,Nat.reduceSub,Array.replicate_succ,Array.replicate_zero,List.push_toArray,List.append_toArray,List.nil_append,List.cons_append]
 gi_wp2
 refine zcc 7 (fun _=>trivial) rfl (fun f args w R h=>callsIn_wide.2 h) (by kernel_rfl) (by kernel_rfl) ?_;simp only [List.take_succ_cons,List.take_zero,List.drop_succ_cons,List.drop_zero]
 repeat (refine wpStill_step (fun K hK=>?_);go_simp;(try go_bits);refine hK _ ?_;clear hK K)
 refine wpStill_nil ?_
 gi_wp2_with (refine ⟨trivial,hdd _,?_⟩;gi_at_call 116;refine c.mono ?_;clear c;rintro e k (⟨rfl,d,g⟩ | ⟨rfl,q,i,j⟩))
 · go_end0
   exact ⟨⟨_,rfl⟩,.inl ⟨_,rfl,d⟩⟩
 go_end0
 exact ⟨⟨_,rfl⟩,.inr ⟨q,i,j⟩⟩
theorem zqx (n t n₀ Bo Bt Bf:Nat) (hBo:Bo<n₀) (nv fv:Value) (Z:List Nz) (fl:List Nat) (root:Nat) (many:Int) (T:Pairs) (frm:ByteArray) (hg:GoodT (ndsZ Z) fl root T)
 (w:World) (h:zek w t n₀ Bo nv fv Z fl root many)
 (hbt:w.cell? ⟨Bt,0,none⟩=some (.pointer (some ⟨t,0,none⟩))) (hbf:w.cell? ⟨Bf,0,none⟩=some (.string frm)) :
 SeqStopsK Fence.wide n Tryz.prog 115 #[.pointer (some ⟨Bt,0,none⟩),.pointer (some ⟨Bf,0,none⟩)] zdw (KpR n₀ Bo) (fun ys=>ys=T.drop (spotOf T frm)) (fun pre=>pre <+: T.drop (spotOf T frm)) T.length w:=fun l J Jx W hW hJ _ hY h0=>by
 have hf:Fr No w W:=⟨hW.os,hW.tape,hW.output,hW.size,fun k hk _=>hW.block k hk⟩
 refine zwv n l t n₀ Bo Bt Bf hBo nv fv Z fl root many T frm hg J Jx (fun pre A B hA hAB=>?_) (fun m pre x W1 h1 h2=>ziw rfl m (hY pre x W1 h1 h2)) W
  (h.kp (KpR.of_fr hf h.size fun _ s=>s.elim)) (hf.cell0 hbt) (hf.cell0 hbf) h0
 exact hJ _ _ _ none hA (znp hAB) (fun r e=>by cases e)
set_option maxHeartbeats 1000000 in
theorem ztu (n:Nat) (hn:6<=n) (w:World) (t:Nat) (nv fv:Value) (Z:List Nz) (fl:List Nat) (root:Nat) (many:Int) (T:Pairs) (frm upr:ByteArray) (h:TreeR w t nv fv Z fl root many) (hg:GoodT (ndsZ Z) fl root T) (hZl:Z.length<=1099511627) (hs:Sorted T) (hT:T.length<=10000000) (hpos:0<T.length) :
 CallsIn Fence.wide n Tryz.prog 58 #[.pointer (some ⟨t,0,none⟩),.string frm,.string upr,.int .i64 T.length] w fun e w' =>
  ∃ v,e=.returned v/\SlF w' 125 2 pairC v (rangeT T frm upr)/\Below w.heap.size w w'/\(∀ b,v.ownBlock=some b->w.heap.size<=b):=by
 have Q:1<=n:=by omega
 have H:=H_ h;clear h;have aH:¬ (T.length:Int)<1:=by omega
 refine callsIn_of_wp_marks Tryz.func58 rfl trivial ?_ rfl;simp only [Tryz.ntmps58,List.size_toArray,List.length_cons,List.length_nil,Nat.reduceAdd,Nat.reduceSub,Array.replicate_succ,Array.replicate_zero,List.push_toArray,List.append_toArray,List.nil_append,List.cons_append]
 gi_wp2_with (refine ⟨trivial,?_⟩;gi_at_call 92;refine (callsIn_wide.2 (ztp _ _ _)).mono ?_;rintro e w' ⟨rfl,rfl⟩)
 obtain ⟨A,j⟩:∃ A,(((((w.alloc (Obj.cells #[Value.string upr] 9)).alloc (Obj.cells #[Value.int IntKind.i64 (T.length:Int)] 3)).alloc (Obj.cells #[Value.slice none 0 0] 122)).alloc
  (Obj.cells #[Value.pointer (some { block:=t,off:=0 })] 107)).alloc (Obj.cells #[Value.string frm] 9))=A:=⟨_,rfl⟩
 have aN:A.heap.size=w.heap.size+5:=by rw [<-j];simp
 have b0:A.heap[w.heap.size]?=some (.cells #[Value.string upr] 9 (0,0)):=by rw [<-j];exact zaq (zaq (zaq (zaq (zae _ _ _ rfl) _) _) _) _
 have b1:A.heap[w.heap.size+1]?=some (.cells #[Value.int .i64 (T.length:Int)] 3 (0,0)):=by rw [<-j];exact zaq (zaq (zaq (zae _ _ _ (by simp)) _) _) _
 have b2:A.heap[w.heap.size+1+1]?=some (.cells #[Value.slice none 0 0] 122 (0,0)):=by rw [<-j];exact zaq (zaq (zae _ _ _ (by simp)) _) _
 have b3:A.heap[w.heap.size+1+1+1]?=some (.cells #[Value.pointer (some { block:=t,off:=0 })] 107 (0,0)):=by rw [<-j];exact zaq (zae _ _ _ (by simp)) _
 have b4:A.heap[w.heap.size+1+1+1+1]?=some (.cells #[Value.string frm] 9 (0,0)):=by rw [<-j];exact zae _ _ _ (by simp)
 have a7:Fr No w A:=by rw [<-j];exact (((((Fr.refl No w).alloc _).alloc _).alloc _).alloc _).alloc _
 simp only [j];clear j;have aq:TreeR A t nv fv Z fl root many:=H.out.fr0 a7;have aO:=H.out.obj.lt;obtain ⟨i0,aa,ae,af,ag⟩:=info_parts info127'
 refine wpIn_rangeFunc_ownH rfl Q (gf:=115) (lb:=#[.pointer (some ⟨w.heap.size+1+1+1,0,none⟩),.pointer (some ⟨w.heap.size+1+1+1+1,0,none⟩)]) rfl trivial (enters_of Tryz.func115 (by kernel_rfl) rfl)
  (zqx (n-1) t A.heap.size (w.heap.size+1+1) (w.heap.size+1+1+1) (w.heap.size+1+1+1+1) (by omega) nv fv Z fl root many T frm hg A
    ⟨aq,Nat.le_refl _,fun b hb=>by have:=H.out.lt b hb;omega,hZl⟩ (by simp [World.cell?,b3]) (by simp [World.cell?,b4]))
  KpR.trans (KpR.putObj (Nat.le_refl _)) (Below.refl _ _) (fun _=>rfl)
  (fun a W=>RgI w upr T.length A.heap.size a W/\Hid ((∀ x∈a,ahead upr x=true)/\a.length<T.length))
  (fun c a W=>match c with
    | .exit id=>id=0/\∃ i,RgI w upr T.length A.heap.size i W/\Hid ((∃ x,a=i++[x]/\(∀ y∈i,ahead upr y=true)/\ahead upr x=false)\/(i=a/\(∀ y∈i,ahead upr y=true)/\i.length=T.length))
    | _=>False)
  (fun s W W' row hs hg O=>⟨hs.1.own (by omega) hg O,hs.2⟩)
  (fun c s W W' row hs hg O=>by
    cases c with
    | exit id=>obtain ⟨Q,i,U,h3⟩:=hs;exact ⟨Q,i,U.own (by omega) hg O,h3⟩
    | _=>exact hs.elim)
  ⟨⟨b0,b1,⟨_,b2,SlF.nil _ _ _ _,by simp [Value.ownBlock]⟩,a7.below0,Nat.le_refl _⟩,H_ ⟨by simp,by simpa using hpos⟩⟩
  (fun x a' W=>∃ M,A.heap.size<=M/\W.heap[M]?=some (.cells #[.string x.1,.int .i64 x.2] 125 (0,0))/\a'=⟨#[.pointer (some ⟨t,0,none⟩),.string frm,.string upr,.int .i64 T.length,undef,undef,.pointer (some ⟨w.heap.size,0,none⟩),.pointer (some ⟨w.heap.size+1,0,none⟩),.slice none 0 0,.pointer (some ⟨w.heap.size+1+1,0,none⟩),.pointer (some ⟨M,0,none⟩),.int .i64 T.length,.bool false,.pointer (some ⟨t,0,none⟩),.string frm,.func (.func 115) #[] #[.pointer (some ⟨w.heap.size+1+1+1,0,none⟩),.pointer (some ⟨w.heap.size+1+1+1+1,0,none⟩)],.agg #[.string x.1,.int .i64 x.2],undef,undef,undef,undef,undef,undef,undef,undef,undef,undef,undef,undef,undef,undef,undef,undef,undef],[]⟩)
  (fun x a' s W W' row hs hg O=>by
    obtain ⟨M,Q,U,h3⟩:=hs;exact ⟨M,Q,(hg.block M (zac U) fun e'=>by obtain ⟨_,o,ho,hc⟩:=O M e'.symm;rw [U] at ho;cases ho;cases hc).trans U,h3⟩)
  ?assign ?body ?done ?stop
 case assign =>
  rintro l a x W K ⟨q,d⟩ N;have ap:=H_ N;clear N;dsimp only [zdw]
  gi_wp2
  exact ap.out _ _ ((KeepsOthers.alloc _ _).from _) (KpR.of_fr ((Fr.refl No W).alloc _) q.size fun _ s=>s.elim) ⟨q.fr ((Fr.refl _ _).alloc _),d⟩ ⟨W.heap.size,q.size,heap_alloc_new _ _,rfl⟩
 case body =>
  rintro l a x a' W hl ⟨r,O⟩ ⟨q,d⟩ ⟨M,aF,bX,rfl⟩ aK;obtain ⟨v,S,F,z⟩:=q.b2;obtain ⟨va,f,rfl,_,_,_⟩:=F.shape;have x0:W.cell? ⟨M,0,none⟩=some (.string x.1):=cellAt bX 0 rfl;have x1:W.cell? ⟨M,1,none⟩=some (.int .i64 x.2):=cellAt bX 1 rfl;have y0:W.cell? ⟨w.heap.size,0,none⟩=some (.string upr):=(by simp [World.cell?,q.b0]);have y1:W.cell? ⟨w.heap.size+1,0,none⟩=some (.int .i64 T.length):=(by simp [World.cell?,q.b1]);have y2:W.cell? ⟨w.heap.size+1+1,0,none⟩=some (.slice va a.length f):=cellAt S 0 rfl;have HP:=d;have aL:=d.out.2;have E:=zav W [.string x.1,.int .i64 x.2] 125 (0,0);have aE:=zac bX;have aM:w.heap.size+1+1<W.heap.size:=zac S;have HI:=H_ q;clear q d;by_cases hah:ahead upr x=true
  · have R:upr.toList.isEmpty=true\/(upr.toList.isEmpty=false/\Op.bytesLess x.1.toList upr.toList=true):=by
     unfold ahead klt at hah;cases h0:upr.toList.isEmpty
     · right;refine ⟨rfl,?_⟩;simpa [h0] using hah
     left;rfl
    have P:=H_ hah;clear hah;by_cases hlast:a.length+1=T.length
    · have hd:((a.length:Int)+1==(T.length:Int))=true:=by simp;omega
      have V:=H_ hlast;clear hlast;rcases R with he | ⟨he,C⟩
      all_goals
       gi_wp2_with (gi_at_builtin;refine zdd rfl _ _ 122 rfl 125 i0 _ 2 24 Tryz.underlying122 aa ae af ag rfl (by decide) (.slice va a.length f) a rfl (F.alloc _) W.heap.size 1 x rfl (by simpa [pairC] using E) rfl (by intro u hu;simp [pairC] at hu;rcases hu with rfl | rfl <;> rfl) (by unfold maxLen;omega) (by omega) ?_)
       intro g o' cap w1 J B I ab;obtain ⟨X,G1,G2,G3⟩:=RgI.grow HI.out (by omega) S F z J B (by simpa using I);have z2:w1.cell? ⟨w.heap.size+1+1,0,none⟩=some (.slice va a.length f):=cellAt X 0 rfl;have zf:w1.frozen? ⟨w.heap.size+1+1,0,none⟩=false:=(by simp [World.frozen?,X]);have HF:Fr (fun b=>(Value.slice va a.length f).ownBlock=some b) W w1:=(((Fr.refl _ W).alloc _).grown B fun k C=>.inl C);have z1:=HF.cell y1 (fun e=>by have:=z _ e;simp at this;omega);have HG:=H_ (And.intro G1 (And.intro G2 G3));clear J B I G1 G2 G3 HF E X
       gi_wp2
       have G:∀ y∈a++[x],ahead upr y=true:=by
        intro y hy;rcases List.mem_append.1 hy with h | h
        · exact HP.out.1 y h
        simp at h;subst h;exact P.out
       exact ⟨HG.out.2.1,rfl,_,HG.out.1,H_ (.inr ⟨rfl,G,by simpa using V.out⟩)⟩
    have hd:((a.length:Int)+1==(T.length:Int))=false:=by simp;omega
    rcases R with he | ⟨he,C⟩
    all_goals
     gi_wp2_with (gi_at_builtin;refine zdd rfl _ _ 122 rfl 125 i0 _ 2 24 Tryz.underlying122 aa ae af ag rfl (by decide) (.slice va a.length f) a rfl (F.alloc _) W.heap.size 1 x rfl (by simpa [pairC] using E) rfl (by intro u hu;simp [pairC] at hu;rcases hu with rfl | rfl <;> rfl) (by unfold maxLen;omega) (by omega) ?_)
     intro g o' cap w1 J B I ab;obtain ⟨X,G1,G2,G3⟩:=RgI.grow HI.out (by omega) S F z J B (by simpa using I);have z2:w1.cell? ⟨w.heap.size+1+1,0,none⟩=some (.slice va a.length f):=cellAt X 0 rfl;have zf:w1.frozen? ⟨w.heap.size+1+1,0,none⟩=false:=(by simp [World.frozen?,X]);have HF:Fr (fun b=>(Value.slice va a.length f).ownBlock=some b) W w1:=(((Fr.refl _ W).alloc _).grown B fun k C=>.inl C);have z1:=HF.cell y1 (fun e=>by have:=z _ e;simp at this;omega);have HG:=H_ (And.intro G1 (And.intro G2 G3));clear J B I G1 G2 G3 HF E X
     gi_wp2
     have G:∀ y∈a++[x],ahead upr y=true:=by
      intro y hy;rcases List.mem_append.1 hy with h | h
      · exact HP.out.1 y h
      simp at h;subst h;exact P.out
     exact ⟨HG.out.2.1,HG.out.2.2,HG.out.1,H_ ⟨G,by simp;omega⟩⟩
  simp only [Bool.not_eq_true] at hah
  have P:=H_ hah
  have R:upr.toList.isEmpty=false/\Op.bytesLess x.1.toList upr.toList=false:=by
   unfold ahead klt at hah;simpa using hah
  obtain ⟨he,C⟩:=R;clear hah
  gi_wp2
  exact ⟨KeepsFrom.refl _ _,rfl,a,HI.out,H_ (.inl ⟨x,rfl,HP.out.1,P.out⟩)⟩
 case done =>
  rintro D xs W hD rfl ⟨q,d⟩ N;obtain ⟨v,S,F,z⟩:=q.b2;have y2:W.cell? ⟨w.heap.size+1+1,0,none⟩=some v:=cellAt S 0 rfl;have O:Hid (rangeT T frm upr=T.drop (spotOf T frm)):=H_ (by rw [zlm T hs];exact zfv d.out.1)
  gi_wp2
  refine ⟨by simp,.inl ⟨_,_,rfl,run_takeDeferred N,?_⟩⟩;have hg:=grownBy_putObj' W D (.deferred none);refine ⟨_,results_tmp rfl _ _ _,v,rfl,?_,q.below.grown hg q.below.size (fun k e=>by cases e;omega),fun b hb=>by have:=z b hb;omega⟩;rw [O.out];refine Sl.keep F fun k C=>hg.block k (F.lt k C) fun e=>?_;cases e
  rcases F.2 with ⟨rfl,_⟩ | ⟨g',o',a6,am,rfl,Y,_⟩
  · simp [Value.ownBlock] at C
  obtain rfl:g'=D:=by simpa [Value.ownBlock] using C
  rw [Y] at N;cases N
 case stop =>
  rintro D c a W hD a9 a8 N
  cases c with
  | exit id =>
    obtain ⟨rfl,i,q,HO⟩:=a8;obtain ⟨v,S,F,z⟩:=q.b2;have y2:W.cell? ⟨w.heap.size+1+1,0,none⟩=some v:=cellAt S 0 rfl
    have O:Hid (rangeT T frm upr=i):=H_ (by
     rw [zlm T hs];rcases HO.out with ⟨x,rfl,Q,U⟩ | ⟨rfl,Q,U⟩
     · obtain ⟨L,m⟩:=a9
       exact ziz (r:=L) (by rw [<-m];simp) Q U
     obtain ⟨L,m⟩:=a9
     have hl:=congrArg List.length m;simp at hl;obtain rfl:L = []:=List.eq_nil_of_length_eq_zero (by omega);rw [<-m,List.append_nil];exact zfv Q)
    gi_wp2
    refine ⟨by simp,.inl ⟨_,_,rfl,run_takeDeferred N,?_⟩⟩;have hg:=grownBy_putObj' W D (.deferred none);refine ⟨_,results_tmp rfl _ _ _,v,rfl,?_,q.below.grown hg q.below.size (fun k e=>by cases e;omega),fun b hb=>by have:=z b hb;omega⟩;rw [O.out];refine Sl.keep F fun k C=>hg.block k (F.lt k C) fun e=>?_;cases e
    rcases F.2 with ⟨rfl,_⟩ | ⟨g',o',a6,am,rfl,Y,_⟩
    · simp [Value.ownBlock] at C
    obtain rfl:g'=D:=by simpa [Value.ownBlock] using C
    rw [Y] at N;cases N
  | _=>exact a8.elim
def ztq (w:World) (t:Nat) (T:Pairs) (F:Nat->Prop):Prop :=
 ∃ A fl root,TreeZ w t A fl root T.length F/\GoodT A fl root T/\A.length<=1000002/\T.length<=1000000
theorem zrr:TreeOk ztq 1000000 where
 lt h:=by obtain ⟨A,fl,root,h,_⟩:=h;exact h.lt
 fr h hf hn:=by obtain ⟨A,fl,root,h,h2⟩:=h;exact ⟨A,fl,root,h.fr hf hn,h2⟩
 root h:=by obtain ⟨A,fl,root,⟨nv,fv,Z,_,_,hF⟩,h2⟩:=h;exact (hF _).2 (.inl rfl)
 sorted h:=by obtain ⟨A,fl,root,_,⟨D,hD⟩,_⟩:=h;exact hD.sorted
 new w:=by
  refine (zrd w).mono ?_;rintro e w' ⟨t,rfl,F,h1,h2,h3⟩;exact ⟨t,rfl,F,⟨_,_,_,h1,zvg,by simp,by simp⟩,h2,h3⟩
 len h:=by obtain ⟨A,fl,root,h,_⟩:=h;exact zre _ _ _ _ _ _ _ h
 get key h:=by obtain ⟨A,fl,root,h,h2,h3,_⟩:=h;exact zju _ _ _ _ _ _ _ _ key h h2 (by omega)
 set {w t T F} key m h hl:=by
  obtain ⟨A,fl,root,h,h2,h3,_⟩:=h;obtain ⟨g,a1,a2,a3,a4,a5⟩:=zvz h2 key m 1000000 (by omega) hl;refine (zra w t A fl root T.length F T key m h h2 1000000 (Nat.le_refl _) (by omega) hl ⟨by omega,by omega⟩ g a1 a4).mono ?_;rintro e w' ⟨he,F',b1,b2,b3⟩
  have hlen:(insT T key m).length=T.length+if (getT T key).2 then 1-1 else 1:=by
   obtain ⟨D,hD⟩:=h2;exact zpe key m T hD.sorted
  refine ⟨he,F',⟨_,_,_,?_,a3,by omega,by rw [hlen];split <;> omega⟩,b2,b3⟩
  have e2:((insT T key m).length:Int)=(T.length:Int)+if (setA g (growA A fl root).1 (growA A fl root).2.1 (growA A fl root).2.2 key m).2.2 then 1 else 0:=by
   rw [a2,hlen];cases (getT T key).2 <;> simp
  rw [e2];exact b1
 range {w t T F} frm upr h:=by
  obtain ⟨A,fl,root,⟨nv,fv,Z,h,rfl,hF⟩,h2,h3,h4⟩:=h;rcases Nat.eq_zero_or_pos T.length with h0 | hp
  · obtain rfl:=List.eq_nil_of_length_eq_zero h0
    refine (zrb w t frm upr).mono ?_;rintro e w' ⟨rfl,hf⟩;exact ⟨_,rfl,SlF.nil _ _ _ _,hf,by simp [Value.ownBlock]⟩
  have hsT:Sorted T:=by obtain ⟨D,hD⟩:=h2;exact hD.sorted
  rw [zas] at h3;refine (callsIn_wide.1 (ztu 6 (by omega) w t nv fv Z fl root T.length T frm upr h h2 (by omega) hsT (by omega) hp)).mono ?_;rintro e w' ⟨v,rfl,h1,h2,h3⟩;exact ⟨v,rfl,h1,Fr.of_below h2,h3⟩
end Go.Proofs.YtdgkdfmfoonbpaaGreat