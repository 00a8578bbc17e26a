/- Own lemmas. -/
import Derived.Test.YthljnnjpmdgkoaaGreatK10
import Derived.Test.YthljnnjpmdgkoaaGreatK01
import Derived.Test.YthljnnjpmdgkoaaGreatK09
namespace Go.Proofs.YthljnnjpmdgkoaaGreat
open Go Go.Proofs Go.RowKit Go.Shelf
set_option maxRecDepth 100000
attribute [local go_sem] Oper.semAt_some
theorem zra (f:Nat->Pairs):∀ (P:Pairs) (K:List Nat) (p:ByteArray×Int) (k:Nat),K.length=P.length->rwv f (P++[p]) (K++[k])=rwv f P K++p :: f k
 | [],[],p,k,_=>by simp [rwv]
 | [],_ :: _,_,_,h=>by simp at h
 | _ :: _,[],_,_,h=>by simp at h
 | q :: P,c :: K,p,k,h=>by simp [rwv,zra f P K p k (by simpa using h)]
def zin (n₀ Bo:Nat) (J Jx:Pairs->World->Prop) (pre0 S:Pairs) (W:World) (e:Ending) (W':World):Prop :=
 (e=.returned (.bool true)/\J (pre0++S) W'/\KpR n₀ Bo W W')\/(e=.returned (.bool false)/\∃ pre,pre <+: S/\Jx (pre0++pre) W')
def segW (f:Nat->Pairs) (P:Pairs) (K:List Nat) (s0 k:Nat):Pairs:=rwv f ((P.drop s0).take (k-s0)) ((K.drop (s0+1)).take (k-s0))
theorem zna (f:Nat->Pairs) (P:Pairs) (K:List Nat) (s0:Nat):segW f P K s0 s0 = []:=by unfold segW;simp [rwv]
theorem ziu (f:Nat->Pairs) (P:Pairs) (K:List Nat) (s0 k:Nat) (x:ByteArray×Int) (c:Nat) (h:s0<=k) (hx:P[k]?=some x) (hc:K[k+1]?=some c) (hl:K.length=P.length+1):segW f P K s0 (k+1)=segW f P K s0 k++x :: f c:=by
 have a:=(List.getElem?_eq_some_iff.1 hx).1;unfold segW;rw [show k+1-s0=(k-s0)+1 by omega,List.take_add_one,List.take_add_one,List.getElem?_drop,List.getElem?_drop,show s0+(k-s0)=k by omega,show s0+1+(k-s0)=k+1 by omega,hx,hc];exact zra f _ _ x c (by simp;omega)
theorem zlk (f:Nat->Pairs) (P:Pairs) (K:List Nat) (s0:Nat) (hl:K.length=P.length+1):segW f P K s0 P.length=rwv f (P.drop s0) (K.drop (s0+1)):=by
 unfold segW;rw [List.take_of_length_le (by simp),List.take_of_length_le (by simp;omega)]
theorem zgn (f:Nat->Pairs) (P:Pairs) (K:List Nat) (s0:Nat) (hl:K.length=P.length+1):∀ (m k:Nat),k+m=P.length->s0<=k->segW f P K s0 k <+: rwv f (P.drop s0) (K.drop (s0+1))
 | 0,k,h,_=>by obtain rfl:k=P.length:=by omega
               rw [zlk f P K s0 hl];exact List.prefix_refl _
 | m+1,k,h,hs=>by
   have a:=zgn f P K s0 hl m (k+1) (by omega) (by omega);rw [ziu f P K s0 k _ _ hs (List.getElem?_eq_getElem (by omega)) (List.getElem?_eq_getElem (by omega)) hl] at a;exact (List.prefix_append _ _).trans a
set_option maxHeartbeats 4000000 in
theorem ztt (n l t n₀ Bo:Nat) (hBo:Bo<n₀) (nv fv:Value) (Z:List Nz) (fl:List Nat) (root:Nat) (many:Int) (frm:ByteArray) (J Jx:Pairs->World->Prop) (N:Nat)
 (hJ:∀ pre W W',J pre W->Fr No W W'->J pre W')
 (hY:∀ m pre x W,J pre W->pre.length<N->YieldAt Fence.wide m Tryz.prog l (zem x) W fun e W' =>
   (e=.returned (.bool true)/\J (pre++[x]) W'/\KpR n₀ Bo W W')\/(e=.returned (.bool false)/\Jx (pre++[x]) W'))
 (at_:Nat) (z:Nz) (hz:Z[at_]?=some z) (h9:z.nd.pairs.length<=9) (hl:z.nd.kids.length=z.nd.pairs.length+1) (f:Nat->Pairs)
 (hIH:∀ (m c:Nat) (pre:Pairs) (W:World),c∈z.nd.kids->zey W t n₀ Bo nv fv Z fl root many->pre.length+(f c).length<=N->J pre W →
   CallsIn Fence.wide m Tryz.prog 153 #[.pointer (some ⟨t,0,none⟩),.int .i64 c,.string frm,.func (.yield l) #[] #[]] W (zin n₀ Bo J Jx pre (f c) W))
 (pre0 first:Pairs) (hfirst:first=if hitOf z.nd.pairs frm then [] else f (z.nd.kids.getD (spotOf z.nd.pairs frm) 0))
 (hN:pre0.length+(first++rwv f (z.nd.pairs.drop (spotOf z.nd.pairs frm)) (z.nd.kids.drop (spotOf z.nd.pairs frm+1))).length<=N)
 (W:World) (h:zey W t n₀ Bo nv fv Z fl root many) (h0:J pre0 W) :
 CallsIn Fence.wide n Tryz.prog 153 #[.pointer (some ⟨t,0,none⟩),.int .i64 at_,.string frm,.func (.yield l) #[] #[]] W
  (zin n₀ Bo J Jx pre0 (first++rwv f (z.nd.pairs.drop (spotOf z.nd.pairs frm)) (z.nd.kids.drop (spotOf z.nd.pairs frm+1))) W):=by
 have a0:=spotZ h.r at_ z hz h9 h.few frm;unfold zbv at a0;have br:=h.few;have bl:at_<Z.length:=(List.getElem?_eq_some_iff.1 hz).1;obtain ⟨nb,no,cap,rfl,bi⟩:=h.r.headLen (by omega);have c0:=h.r.obj.cell 0 rfl;obtain ⟨n0,n1,_,_⟩:=h.r.look at_ z hz;obtain ⟨U,a,au,bx,bt,aQ⟩:=(h.r.pairs at_ z hz).shape;obtain ⟨ka,b,a2,bE,bu,aW⟩:=(h.r.kids at_ z hz).shape;obtain ⟨o,G,rfl⟩:=aW (by omega);rw [au] at n0;rw [a2] at n1;have aB:=zbq z.nd.pairs frm;have bg:(at_:Int)<(Z.length:Int):=by omega
 have bp:t<W.heap.size:=h.r.obj.lt;have bn:nb<W.heap.size:=h.r.nodes.lt nb rfl;have bq:o<n₀/\o≠Bo:=h.low o (.inr (.inr (.inr ⟨at_,z,hz,.inr (by rw [a2];rfl)⟩)));obtain ⟨c,hc⟩:∃ c,z.nd.kids[spotOf z.nd.pairs frm]?=some c:=⟨_,List.getElem?_eq_getElem (by omega)⟩;have aU:z.nd.kids.getD (spotOf z.nd.pairs frm) 0=c:=by simp [List.getD,hc]
 rw [aU] at hfirst;have ar:=h.r.kids at_ z hz;rw [a2] at ar;have k0:=ar.cell1 zah _ hc rfl;have aZ:=List.mem_of_getElem? hc;have H:=H_ h;have HA:=H_ aQ;have HZ:=H_ hz;have b0:=H_ au;have aC:=H_ a2;have al:=H_ hIH;have aD:=H_ hfirst;have HN:=H_ hN;have HL:=H_ hl;have bb:=H_ aZ;have ab:=h.size;have bm:o<W.heap.size:=by omega
 have bC:(0:Int)<(z.nd.kids.length:Int):=by omega
 have bD:(spotOf z.nd.pairs frm:Int)<(z.nd.kids.length:Int):=by omega
 have bv:Bo<W.heap.size:=by omega
 clear h aQ hz au a2 aW hIH hfirst hN hl ar aU hc aZ;refine callsIn_of_wp Tryz.func153 rfl trivial ?_ rfl;simp only [Tryz.ntmps153,List.size_toArray,List.length_cons,List.length_nil,Nat.reduceAdd,Nat.reduceSub,Array.replicate_succ,Array.replicate_zero,List.push_toArray,List.append_toArray,List.nil_append,List.cons_append];generalize hitOf z.nd.pairs frm=ba at *;generalize spotOf z.nd.pairs frm=E at *;have af:Fr No W (W.alloc (Obj.cells #[.slice U z.nd.pairs.length a,.slice (some ⟨o,G,none⟩) z.nd.kids.length b] 231)):=(Fr.refl No W).alloc _;have ai:KpR n₀ Bo W (W.alloc (Obj.cells #[.slice U z.nd.pairs.length a,.slice (some ⟨o,G,none⟩) z.nd.kids.length b] 231)):=KpR.of_fr af ab (fun _ s=>s.elim)
 have aR:(W.alloc (Obj.cells #[.slice U z.nd.pairs.length a,.slice (some ⟨o,G,none⟩) z.nd.kids.length b] 231)).heap[W.heap.size]?=some (.cells #[.slice U z.nd.pairs.length a,.slice (some ⟨o,G,none⟩) z.nd.kids.length b] 231 (0,0)):=heap_alloc_new _ _;have bz:=H_ af;have Y:=H_ ai;have av:=H_ aR;have aO:=H_ (hJ _ _ _ h0 af);clear af ai aR h0;cases ba
 · have P:first=f c:=by have:=aD.out;simpa using this
   have F:=al.out (n-1) c pre0 _ bb.out (H.out.kp Y.out) (by have:=HN.out;rw [P] at this;simp only [List.length_append] at this;omega) aO.out;have bc:=H_ F;have ap:=H_ P;clear F P
   gi_wp2_with (first
    | (refine ⟨trivial,hdd _,?_⟩;gi_at_call 157;refine (callsIn_wide.2 a0).mono ?_;clear a0;rintro e w' ⟨rfl,rfl⟩)
    | (refine ⟨trivial,hdd _,?_⟩;gi_at_call 153;refine bc.out.mono ?_;rintro e w2 (⟨rfl,aT,a3⟩ | ⟨rfl,pre,d,T⟩)))
   · have u:=(a3.rows _ _ _ _ av.out (by decide) (by omega)).trans av.out
     have a5:=H_ u;have az:Hid (J (pre0++first) w2):=H_ (by rw [ap.out];exact aT);have an:=H_ (Y.out.trans a3);clear u aT a3 k0 n0 n1 c0;have u:w2.heap[W.heap.size]?=some (.cells #[.slice U z.nd.pairs.length a,.slice (some ⟨o,G,none⟩) z.nd.kids.length b] 231 (0,0)):=a5.out;have q0:w2.cell? ⟨W.heap.size,0,none⟩=some (.slice U z.nd.pairs.length a):=cellAt u 0 rfl;have q1:w2.cell? ⟨W.heap.size,1,none⟩=some (.slice (some ⟨o,G,none⟩) z.nd.kids.length b):=cellAt u 1 rfl;clear u
     gi_wp2
     gi_loopw [9] (fun i wr=>∃ k:Nat,E<=k/\k<=z.nd.pairs.length/\i=.int .i64 k/\Hid (J (pre0++first++segW f z.nd.pairs z.nd.kids E k) wr)/\Hid (KpR n₀ Bo W wr)/\wr.heap[W.heap.size]?=some (.cells #[.slice U z.nd.pairs.length a,.slice (some ⟨o,G,none⟩) z.nd.kids.length b] 231 (0,0)))
      (fun i _=>z.nd.pairs.length-(intOf i).toNat)
     case atStart=>exact ⟨E,Nat.le_refl _,aB,rfl,H_ (by rw [zna,List.append_nil];exact az.out),an,a5.out⟩
     case round =>
      obtain ⟨k,aw,a3,rfl,D,y,q⟩:=hrel;have p0:wr.cell? ⟨W.heap.size,0,none⟩=some (.slice U z.nd.pairs.length a):=cellAt q 0 rfl;have p1:wr.cell? ⟨W.heap.size,1,none⟩=some (.slice (some ⟨o,G,none⟩) z.nd.kids.length b):=cellAt q 1 rfl;by_cases hlt:k<z.nd.pairs.length
      · obtain ⟨pb,po,rfl⟩:=HA.out (by omega)
        obtain ⟨x,T⟩:∃ x,z.nd.pairs[k]?=some x:=⟨_,List.getElem?_eq_getElem hlt⟩;obtain ⟨V,O⟩:∃ V,z.nd.kids[k+1]?=some V:=⟨_,List.getElem?_eq_getElem (by have:=HL.out;omega)⟩;have C:=H.out.kp y.out
        have B:SlF wr 122 2 pairC (.slice (some ⟨pb,po,none⟩) z.nd.pairs.length a) z.nd.pairs:=by
         have:=C.r.pairs at_ z HZ.out
         rwa [b0.out] at this
        have x0:=B.cell0 zag k T rfl;have x1:=B.cell zag k 1 T rfl;have M:=zgn f z.nd.pairs z.nd.kids E HL.out (z.nd.pairs.length-(k+1)) (k+1) (by omega) (by omega);have w:=ziu f z.nd.pairs z.nd.kids E k x V aw T O HL.out;have g:=M.length_le;have Q:=HN.out
        have p:(pre0++first++segW f z.nd.pairs z.nd.kids E k).length<N:=by
         rw [w] at g;simp only [List.length_append,List.length_cons] at g Q ⊢
         omega
        have j:(pre0++first++segW f z.nd.pairs z.nd.kids E k++[x]).length+(f V).length<=N:=by
         rw [w] at g;simp only [List.length_append,List.length_cons,List.length_nil] at g Q ⊢
         omega
        obtain ⟨fn,aM,ae,aE,hy,hR⟩:=hY (n-1) _ x wr D.out p;dsimp only [zem] at hy;have aV:(k:Int)<(z.nd.pairs.length:Int):=(by omega);have aN:(k:Int)+1<(z.nd.kids.length:Int):=(by have:=HL.out;omega);have aJ:(0:Int)<=(k:Int)+1:=(by omega);have aL:((k:Int)+1).toNat=k+1:=(by omega);have HX:=H_ T;have a4:=H_ O;have R:=H_ w;have a9:=H_ M;have aS:n₀<=wr.heap.size:=Nat.le_trans ab y.out.size;have aG:pb<wr.heap.size:=B.lt pb rfl;have aY:W.heap.size<wr.heap.size:=zaa q;clear T B O w M g Q p
        gi_wp2
        refine ⟨hdd _,hR.mono ?_⟩;rintro e W3 (⟨rfl,a7,v⟩ | ⟨rfl,I⟩)
        · have A:=(v.rows _ _ _ _ q (by decide) (by omega)).trans q
          have q0:W3.cell? ⟨W.heap.size,0,none⟩=some (.slice (some ⟨pb,po,none⟩) z.nd.pairs.length a):=cellAt A 0 rfl;have q1:W3.cell? ⟨W.heap.size,1,none⟩=some (.slice (some ⟨o,G,none⟩) z.nd.kids.length b):=cellAt A 1 rfl;have L:=C.kp v
          have aq:W3.cell? ⟨o,G+(k+1),none⟩=some (.int .i64 (V:Int)):=by
           have hh:=L.r.kids at_ z HZ.out;rw [aC.out] at hh;exact hh.cell1 zah _ a4.out rfl
          have aP:o<W3.heap.size:=World.block_lt_of_cell? _ _ aq;have F:=al.out (n-1) V _ W3 (List.mem_of_getElem? a4.out) L j a7;have ax:=H_ F;have a6:=H_ v;have a8:=H_ A;clear a7 D p0 p1 x0 x1 F v A L C j
          gi_wp2_with (first
           | (refine ⟨trivial,hdd _,?_⟩;gi_at_call 153;refine ax.out.mono ?_;rintro e w4 (⟨rfl,X,S⟩ | ⟨rfl,pre,d,aa⟩)))
          · have am:=(S.rows _ _ _ _ a8.out (by decide) (by omega)).trans a8.out
            have aj:=H_ X;have ak:=H_ S;clear X S
            gi_wp2
            go_roundw
            case rel =>
             refine ⟨k+1,by omega,by omega,by go_num,H_ ?_,H_ ((y.out.trans a6.out).trans ak.out),am⟩;have:=aj.out;rw [R.out];simpa using this
            case measure=>simp [intOf];omega
          have ao:=H_ aa
          have K:=H_ d;clear aa d
          gi_wp2
          go_ret;refine .inr ⟨rfl,first++(segW f z.nd.pairs z.nd.kids E k++x :: pre),?_,by have:=ao.out;simpa using this⟩;refine (List.prefix_append_right_inj first).2 (List.IsPrefix.trans ?_ a9.out);rw [R.out];refine (List.prefix_append_right_inj _).2 ?_;exact List.cons_prefix_cons.2 ⟨rfl,K.out⟩
        have ay:=H_ I
        clear I D p0 p1 x0 x1 C
        gi_wp2
        go_ret;refine .inr ⟨rfl,first++(segW f z.nd.pairs z.nd.kids E k++[x]),?_,by have:=ay.out;simpa using this⟩;refine (List.prefix_append_right_inj first).2 (List.IsPrefix.trans ?_ a9.out);rw [R.out];refine (List.prefix_append_right_inj _).2 ?_;exact List.cons_prefix_cons.2 ⟨rfl,List.nil_prefix⟩
      obtain rfl:k=z.nd.pairs.length:=by omega
      gi_wp2
      go_ret;exact .inl ⟨rfl,by have:=D.out;rw [zlk f _ _ _ HL.out,List.append_assoc] at this;exact this,y.out⟩
   have HX:=H_ T
   have K:=H_ d;clear T d
   gi_wp2
   go_ret;refine .inr ⟨rfl,pre,?_,HX.out⟩;rw [ap.out];exact K.out.trans (List.prefix_append _ _)
 have P:first = []:=by have:=aD.out;simpa using this
 gi_wp2_with (first
  | (refine ⟨trivial,hdd _,?_⟩;gi_at_call 157;refine (callsIn_wide.2 a0).mono ?_;clear a0;rintro e w' ⟨rfl,rfl⟩))
 refine ⟨trivial,?_⟩;have a5:=av;have az:Hid (J (pre0++first) _):=H_ (by rw [P,List.append_nil];exact aO.out);have an:=Y;generalize (W.alloc (Obj.cells #[.slice U z.nd.pairs.length a,.slice (some ⟨o,G,none⟩) z.nd.kids.length b] 231))=w2 at *;have ap:=H_ P;clear P k0 n0 n1 c0;have u:w2.heap[W.heap.size]?=some (.cells #[.slice U z.nd.pairs.length a,.slice (some ⟨o,G,none⟩) z.nd.kids.length b] 231 (0,0)):=a5.out;have q0:w2.cell? ⟨W.heap.size,0,none⟩=some (.slice U z.nd.pairs.length a):=cellAt u 0 rfl;have q1:w2.cell? ⟨W.heap.size,1,none⟩=some (.slice (some ⟨o,G,none⟩) z.nd.kids.length b):=cellAt u 1 rfl;clear u
 gi_wp2
 gi_loopw [9] (fun i wr=>∃ k:Nat,E<=k/\k<=z.nd.pairs.length/\i=.int .i64 k/\Hid (J (pre0++first++segW f z.nd.pairs z.nd.kids E k) wr)/\Hid (KpR n₀ Bo W wr)/\wr.heap[W.heap.size]?=some (.cells #[.slice U z.nd.pairs.length a,.slice (some ⟨o,G,none⟩) z.nd.kids.length b] 231 (0,0)))
  (fun i _=>z.nd.pairs.length-(intOf i).toNat)
 case atStart=>exact ⟨E,Nat.le_refl _,aB,rfl,H_ (by rw [zna,List.append_nil];exact az.out),an,a5.out⟩
 case round =>
  obtain ⟨k,aw,a3,rfl,D,y,q⟩:=hrel;have p0:wr.cell? ⟨W.heap.size,0,none⟩=some (.slice U z.nd.pairs.length a):=cellAt q 0 rfl;have p1:wr.cell? ⟨W.heap.size,1,none⟩=some (.slice (some ⟨o,G,none⟩) z.nd.kids.length b):=cellAt q 1 rfl;by_cases hlt:k<z.nd.pairs.length
  · obtain ⟨pb,po,rfl⟩:=HA.out (by omega)
    obtain ⟨x,T⟩:∃ x,z.nd.pairs[k]?=some x:=⟨_,List.getElem?_eq_getElem hlt⟩;obtain ⟨V,O⟩:∃ V,z.nd.kids[k+1]?=some V:=⟨_,List.getElem?_eq_getElem (by have:=HL.out;omega)⟩;have C:=H.out.kp y.out
    have B:SlF wr 122 2 pairC (.slice (some ⟨pb,po,none⟩) z.nd.pairs.length a) z.nd.pairs:=by
     have:=C.r.pairs at_ z HZ.out
     rwa [b0.out] at this
    have x0:=B.cell0 zag k T rfl;have x1:=B.cell zag k 1 T rfl;have M:=zgn f z.nd.pairs z.nd.kids E HL.out (z.nd.pairs.length-(k+1)) (k+1) (by omega) (by omega);have w:=ziu f z.nd.pairs z.nd.kids E k x V aw T O HL.out;have g:=M.length_le;have Q:=HN.out
    have p:(pre0++first++segW f z.nd.pairs z.nd.kids E k).length<N:=by
     rw [w] at g;simp only [List.length_append,List.length_cons] at g Q ⊢
     omega
    have j:(pre0++first++segW f z.nd.pairs z.nd.kids E k++[x]).length+(f V).length<=N:=by
     rw [w] at g;simp only [List.length_append,List.length_cons,List.length_nil] at g Q ⊢
     omega
    obtain ⟨fn,aM,ae,aE,hy,hR⟩:=hY (n-1) _ x wr D.out p;dsimp only [zem] at hy;have aV:(k:Int)<(z.nd.pairs.length:Int):=(by omega);have aN:(k:Int)+1<(z.nd.kids.length:Int):=(by have:=HL.out;omega);have aJ:(0:Int)<=(k:Int)+1:=(by omega);have aL:((k:Int)+1).toNat=k+1:=(by omega);have HX:=H_ T;have a4:=H_ O;have R:=H_ w;have a9:=H_ M;have aS:n₀<=wr.heap.size:=Nat.le_trans ab y.out.size;have aG:pb<wr.heap.size:=B.lt pb rfl;have aY:W.heap.size<wr.heap.size:=zaa q;clear T B O w M g Q p
    gi_wp2
    refine ⟨hdd _,hR.mono ?_⟩;rintro e W3 (⟨rfl,a7,v⟩ | ⟨rfl,I⟩)
    · have A:=(v.rows _ _ _ _ q (by decide) (by omega)).trans q
      have q0:W3.cell? ⟨W.heap.size,0,none⟩=some (.slice (some ⟨pb,po,none⟩) z.nd.pairs.length a):=cellAt A 0 rfl;have q1:W3.cell? ⟨W.heap.size,1,none⟩=some (.slice (some ⟨o,G,none⟩) z.nd.kids.length b):=cellAt A 1 rfl;have L:=C.kp v
      have aq:W3.cell? ⟨o,G+(k+1),none⟩=some (.int .i64 (V:Int)):=by
       have hh:=L.r.kids at_ z HZ.out;rw [aC.out] at hh;exact hh.cell1 zah _ a4.out rfl
      have aP:o<W3.heap.size:=World.block_lt_of_cell? _ _ aq;have F:=al.out (n-1) V _ W3 (List.mem_of_getElem? a4.out) L j a7;have ax:=H_ F;have a6:=H_ v;have a8:=H_ A;clear a7 D p0 p1 x0 x1 F v A L C j
      gi_wp2_with (first
       | (refine ⟨trivial,hdd _,?_⟩;gi_at_call 153;refine ax.out.mono ?_;rintro e w4 (⟨rfl,X,S⟩ | ⟨rfl,pre,d,aa⟩)))
      · have am:=(S.rows _ _ _ _ a8.out (by decide) (by omega)).trans a8.out
        have aj:=H_ X;have ak:=H_ S;clear X S
        gi_wp2
        go_roundw
        case rel =>
         refine ⟨k+1,by omega,by omega,by go_num,H_ ?_,H_ ((y.out.trans a6.out).trans ak.out),am⟩;have:=aj.out;rw [R.out];simpa using this
        case measure=>simp [intOf];omega
      have ao:=H_ aa
      have K:=H_ d;clear aa d
      gi_wp2
      go_ret;refine .inr ⟨rfl,first++(segW f z.nd.pairs z.nd.kids E k++x :: pre),?_,by have:=ao.out;simpa using this⟩;refine (List.prefix_append_right_inj first).2 (List.IsPrefix.trans ?_ a9.out);rw [R.out];refine (List.prefix_append_right_inj _).2 ?_;exact List.cons_prefix_cons.2 ⟨rfl,K.out⟩
    have ay:=H_ I
    clear I D p0 p1 x0 x1 C
    gi_wp2
    go_ret;refine .inr ⟨rfl,first++(segW f z.nd.pairs z.nd.kids E k++[x]),?_,by have:=ay.out;simpa using this⟩;refine (List.prefix_append_right_inj first).2 (List.IsPrefix.trans ?_ a9.out);rw [R.out];refine (List.prefix_append_right_inj _).2 ?_;exact List.cons_prefix_cons.2 ⟨rfl,List.nil_prefix⟩
  obtain rfl:k=z.nd.pairs.length:=by omega
  gi_wp2
  go_ret;exact .inl ⟨rfl,by have:=D.out;rw [zlk f _ _ _ HL.out,List.append_assoc] at this;exact this,y.out⟩
theorem ztm (w:World) (t:Nat) (frm tO:ByteArray) :
 Calls Tryz.prog 60 #[.pointer (some ⟨t,0,none⟩),.string frm,.string tO,.int .i64 0] w fun e w'=>e=.returned (.slice none 0 0)/\Fr No w w':=by
 go_enter Tryz.func60,Tryz.ntmps60;go_wp2;go_ret;exact ⟨rfl,(((Fr.refl No w).alloc _).alloc _).alloc _⟩
abbrev zaq:=World->Nat->Pairs->(Nat->Prop)->Prop
structure TreeOk (TA:zaq) (N:Nat):Prop where
 lt:∀ {w t T F},TA w t T F->∀ b,F b->b<w.heap.size
 fr:∀ {w w' t T F S},TA w t T F->Fr S w w'->(∀ b,F b->¬ S b)->TA w' t T F
 root:∀ {w t T F},TA w t T F->F t
 sorted:∀ {w t T F},TA w t T F->Sorted T
 new:∀ w:World,Calls Tryz.prog 51 #[] w fun e w'=>∃ t,e=.returned (.pointer (some ⟨t,0,none⟩))/\∃ F,TA w' t [] F/\Fr No w w'/\(∀ b,F b->w.heap.size<=b)
 len:∀ {w t T F},TA w t T F->Calls Tryz.prog 61 #[.pointer (some ⟨t,0,none⟩)] w fun e w'=>e=.returned (.int .i64 T.length)/\w=w'
 get:∀ {w t T F} (key:ByteArray),TA w t T F->Calls Tryz.prog 121 #[.pointer (some ⟨t,0,none⟩),.string key] w fun e w'=>e=.returned (zcw (getT T key))/\Fr No w w'
 set:∀ {w t T F} (key:ByteArray) (m:Int),TA w t T F->T.length<N →
  Calls Tryz.prog 116 #[.pointer (some ⟨t,0,none⟩),.string key,.int .i64 m] w fun e w'=>(∃ v,e=.returned v)/\∃ F',TA w' t (insT T key m) F'/\Fr F w w'/\(∀ b,F' b->F b\/w.heap.size<=b)
 range:∀ {w t T F} (frm tO:ByteArray),TA w t T F →
  Calls Tryz.prog 60 #[.pointer (some ⟨t,0,none⟩),.string frm,.string tO,.int .i64 T.length] w fun e w'=>∃ v,e=.returned v/\SlF w' 122 2 pairC v (rangeT T frm tO)/\Fr No w w'/\(∀ b,v.ownBlock=some b->w.heap.size<=b)
attribute [local go_sem] Oper.semAt_some
theorem zqu (l t n₀ Bo:Nat) (hBo:Bo<n₀) (nv fv:Value) (Z:List Nz) (fl:List Nat) (root:Nat) (many:Int) (frm:ByteArray) (J Jx:Pairs->World->Prop) (N:Nat)
 (hJ:∀ pre W W',J pre W->Fr No W W'->J pre W')
 (hY:∀ m pre x W,J pre W->pre.length<N->YieldAt Fence.wide m Tryz.prog l (zem x) W fun e W' =>
   (e=.returned (.bool true)/\J (pre++[x]) W'/\KpR n₀ Bo W W')\/(e=.returned (.bool false)/\Jx (pre++[x]) W')) :
 ∀ (d n at_:Nat) (pre0:Pairs) (W:World),zey W t n₀ Bo nv fv Z fl root many->nWf (ndsZ Z) d (ndA (ndsZ Z) at_)->at_<(ndsZ Z).length->(ndA (ndsZ Z) at_).pairs.length<=9->Sorted (trav (ndsZ Z) d at_) →
  pre0.length+(fromT (trav (ndsZ Z) d at_) frm).length<=N->J pre0 W →
  CallsIn Fence.wide n Tryz.prog 153 #[.pointer (some ⟨t,0,none⟩),.int .i64 at_,.string frm,.func (.yield l) #[] #[]] W (zin n₀ Bo J Jx pre0 (fromT (trav (ndsZ Z) d at_) frm) W)
 | 0,n,at_,pre0,W,h,hw,hl,h9,hs,hN,h0=>by
   obtain ⟨z,hz,hnd⟩:=zdb hl;have hf:=zts (frm:=frm) hs;rw [hnd] at hf h9;have hk0:z.nd.kids = []:=(by rw [<-hnd];exact hw);rw [hf] at hN ⊢
   exact zwk n l t n₀ Bo hBo nv fv Z fl root many frm J Jx N hJ hY at_ z hz h9 hk0 pre0 hN W h h0
 | d+1,n,at_,pre0,W,h,hw,hl,h9,hs,hN,h0=>by
   obtain ⟨z,hz,hnd⟩:=zdb hl;have hf:=zrx (frm:=frm) hw hs;have hkl:(ndA (ndsZ Z) at_).kids.length=(ndA (ndsZ Z) at_).pairs.length+1:=hw.1
   have hK:∀ c∈(ndA (ndsZ Z) at_).kids,Sorted (trav (ndsZ Z) d c):=by
    intro c b;obtain ⟨K1,K2,e⟩:=List.append_of_mem b;have f:K1.length+1+K2.length=(ndA (ndsZ Z) at_).pairs.length+1:=(by rw [e] at hkl;simp at hkl;omega)
    have g:ndA (ndsZ Z) at_=⟨(ndA (ndsZ Z) at_).pairs.take K1.length++[]++(ndA (ndsZ Z) at_).pairs.drop K1.length,K1++[c]++K2⟩:=by
     rw [List.append_nil,List.take_append_drop,List.append_assoc,List.singleton_append,<-e]
    have i:=zbd (d:=d) g (by simp;omega) (by simp;omega) rfl;rw [i] at hs;exact hs.left.right
   have a:=hw.2;unfold kidA at hf;rw [hnd] at hf h9 hkl hK a;rw [hf] at hN ⊢
   exact ztt n l t n₀ Bo hBo nv fv Z fl root many frm J Jx N hJ hY at_ z hz h9 hkl (fun k=>fromT (trav (ndsZ Z) d k) frm)
    (fun m c pre W' b hW hp hJ'=>zqu l t n₀ Bo hBo nv fv Z fl root many frm J Jx N hJ hY d m c pre W' hW (a c b).2.2.2 (a c b).1 (a c b).2.2.1 (hK c b) hp hJ') pre0 _ rfl hN W h h0
theorem zzh (n l t n₀ Bo Bt Bf:Nat) (hBo:Bo<n₀) (nv fv:Value) (Z:List Nz) (fl:List Nat) (root:Nat) (many:Int) (T:Pairs) (frm:ByteArray) (hg:GoodT (ndsZ Z) fl root T) (J Jx:Pairs->World->Prop)
 (hJ:∀ pre W W',J pre W->Fr No W W'->J pre W')
 (hY:∀ m pre x W,J pre W->pre.length<T.length->YieldAt Fence.wide m Tryz.prog l (zem x) W fun e W' =>
   (e=.returned (.bool true)/\J (pre++[x]) W'/\KpR n₀ Bo W W')\/(e=.returned (.bool false)/\Jx (pre++[x]) W'))
 (W:World) (h:zey W t n₀ Bo nv fv Z fl root many)
 (hbt:W.cell? ⟨Bt,0,none⟩=some (.pointer (some ⟨t,0,none⟩))) (hbf:W.cell? ⟨Bf,0,none⟩=some (.string frm)) (h0:J [] W) :
 CallsIn Fence.wide n Tryz.prog 152 #[.func (.yield l) #[] #[],.pointer (some ⟨Bt,0,none⟩),.pointer (some ⟨Bf,0,none⟩)] W fun e W'=>(∃ v,e=.returned v) ∧
  ((∃ ys,ys=T.drop (spotOf T frm)/\J ys W')\/(∃ pre,pre <+: T.drop (spotOf T frm)/\Jx pre W')):=by
 have k:=h.r.obj.cell 2 rfl;obtain ⟨D,a⟩:=hg;have b:fromT (trav (ndsZ Z) D root) frm=T.drop (spotOf T frm):=by rw [a.trav];exact (zef T a.sorted frm).symm
 have c:=zqu l t n₀ Bo hBo nv fv Z fl root many frm J Jx T.length hJ hY D (n-1) root [] W.drew (h.kp (KpR.of_fr (Fr.refl No W).drew h.size fun _ s=>s.elim)) a.pt.wf a.pt.lt a.hi (by rw [a.trav];exact a.sorted)
  (by rw [b];simp) (hJ _ _ _ h0 (Fr.refl _ _).drew)
 rw [b] at c;unfold zin at c;simp only [List.nil_append] at c;clear hJ hY h h0 b a;refine callsIn_of_wp Tryz.func152 rfl trivial ?_ rfl;simp only [Tryz.ntmps152,List.size_toArray,List.length_cons,List.length_nil,Nat.reduceAdd,Nat.reduceSub,Array.replicate_succ,Array.replicate_zero,List.push_toArray,List.append_toArray,List.nil_append,List.cons_append]
 gi_wp2
 refine zcq 7 (fun _=>trivial) rfl (fun f args w R h=>callsIn_wide.2 h) (by kernel_rfl) (by kernel_rfl) ?_;simp only [List.take_succ_cons,List.take_zero,List.drop_succ_cons,List.drop_zero]
 repeat (refine wpStill_step (fun K hK=>?_);go_simp;(try go_bits);refine hK _ ?_;clear hK K)
 refine wpStill_nil ?_
 gi_wp2_with (refine ⟨trivial,hdd _,?_⟩;gi_at_call 153;refine c.mono ?_;clear c;rintro e o (⟨rfl,d,i⟩ | ⟨rfl,q,j,g⟩))
 · go_end0
   exact ⟨⟨_,rfl⟩,.inl ⟨_,rfl,d⟩⟩
 go_end0
 exact ⟨⟨_,rfl⟩,.inr ⟨q,j,g⟩⟩
theorem ztk (n t n₀ Bo Bt Bf:Nat) (hBo:Bo<n₀) (nv fv:Value) (Z:List Nz) (fl:List Nat) (root:Nat) (many:Int) (T:Pairs) (frm:ByteArray) (hg:GoodT (ndsZ Z) fl root T)
 (w:World) (h:zey w t n₀ Bo nv fv Z fl root many)
 (hbt:w.cell? ⟨Bt,0,none⟩=some (.pointer (some ⟨t,0,none⟩))) (hbf:w.cell? ⟨Bf,0,none⟩=some (.string frm)) :
 SeqStopsK Fence.wide n Tryz.prog 152 #[.pointer (some ⟨Bt,0,none⟩),.pointer (some ⟨Bf,0,none⟩)] zem (KpR n₀ Bo) (fun ys=>ys=T.drop (spotOf T frm)) (fun pre=>pre <+: T.drop (spotOf T frm)) T.length w:=fun l J Jx W hW hJ _ hY h0=>by
 have hf:Fr No w W:=⟨hW.os,hW.tape,hW.output,hW.size,fun k hk _=>hW.block k hk⟩
 refine zzh n l t n₀ Bo Bt Bf hBo nv fv Z fl root many T frm hg J Jx (fun pre A B hA hAB=>?_) (fun m pre x W1 h1 h2=>zkd rfl m (hY pre x W1 h1 h2)) W
  (h.kp (KpR.of_fr hf h.size fun _ s=>s.elim)) (hf.cell0 hbt) (hf.cell0 hbf) h0
 exact hJ _ _ _ none hA (zpp hAB) (fun r e=>by cases e)
set_option maxHeartbeats 1000000 in
theorem zwf (n:Nat) (hn:6<=n) (w:World) (t:Nat) (nv fv:Value) (Z:List Nz) (fl:List Nat) (root:Nat) (many:Int) (T:Pairs) (frm upr:ByteArray) (h:TreeR w t nv fv Z fl root many) (hg:GoodT (ndsZ Z) fl root T) (hZl:Z.length<=1099511627) (hs:Sorted T) (hT:T.length<=10000000) (hpos:0<T.length) :
 CallsIn Fence.wide n Tryz.prog 60 #[.pointer (some ⟨t,0,none⟩),.string frm,.string upr,.int .i64 T.length] w fun e w' =>
  ∃ v,e=.returned v/\SlF w' 122 2 pairC v (rangeT T frm upr)/\Below w.heap.size w w'/\(∀ b,v.ownBlock=some b->w.heap.size<=b):=by
 have O:1<=n:=by omega
 have H:=H_ h;clear h;have aF:¬ (T.length:Int)<1:=by omega
 refine callsIn_of_wp_marks Tryz.func60 rfl trivial ?_ rfl;simp only [Tryz.ntmps60,List.size_toArray,List.length_cons,List.length_nil,Nat.reduceAdd,Nat.reduceSub,Array.replicate_succ,Array.replicate_zero,List.push_toArray,List.append_toArray,List.nil_append,List.cons_append]
 gi_wp2_with (refine ⟨trivial,?_⟩;gi_at_call 114;refine (callsIn_wide.2 (zwc _ _ _)).mono ?_;rintro e w' ⟨rfl,rfl⟩)
 obtain ⟨z,m⟩:∃ z,(((((w.alloc (Obj.cells #[Value.string upr] 9)).alloc (Obj.cells #[Value.int IntKind.i64 (T.length:Int)] 3)).alloc (Obj.cells #[Value.slice none 0 0] 119)).alloc
  (Obj.cells #[Value.pointer (some { block:=t,off:=0 })] 103)).alloc (Obj.cells #[Value.string frm] 9))=z:=⟨_,rfl⟩
 have aM:z.heap.size=w.heap.size+5:=by rw [<-m];simp
 have b0:z.heap[w.heap.size]?=some (.cells #[Value.string upr] 9 (0,0)):=by rw [<-m];exact zaj (zaj (zaj (zaj (zad _ _ _ rfl) _) _) _) _
 have b1:z.heap[w.heap.size+1]?=some (.cells #[Value.int .i64 (T.length:Int)] 3 (0,0)):=by rw [<-m];exact zaj (zaj (zaj (zad _ _ _ (by simp)) _) _) _
 have b2:z.heap[w.heap.size+1+1]?=some (.cells #[Value.slice none 0 0] 119 (0,0)):=by rw [<-m];exact zaj (zaj (zad _ _ _ (by simp)) _) _
 have b3:z.heap[w.heap.size+1+1+1]?=some (.cells #[Value.pointer (some { block:=t,off:=0 })] 103 (0,0)):=by rw [<-m];exact zaj (zad _ _ _ (by simp)) _
 have b4:z.heap[w.heap.size+1+1+1+1]?=some (.cells #[Value.string frm] 9 (0,0)):=by rw [<-m];exact zad _ _ _ (by simp)
 have ab:Fr No w z:=by rw [<-m];exact (((((Fr.refl No w).alloc _).alloc _).alloc _).alloc _).alloc _
 simp only [m];clear m;have ah:TreeR z t nv fv Z fl root many:=H.out.fr0 ab;have aG:=H.out.obj.lt;obtain ⟨i0,a5,a2,a1,aa⟩:=info_parts info127'
 refine wpIn_rangeFunc_ownH rfl O (gf:=152) (lb:=#[.pointer (some ⟨w.heap.size+1+1+1,0,none⟩),.pointer (some ⟨w.heap.size+1+1+1+1,0,none⟩)]) rfl trivial (enters_of Tryz.func152 (by kernel_rfl) rfl)
  (ztk (n-1) t z.heap.size (w.heap.size+1+1) (w.heap.size+1+1+1) (w.heap.size+1+1+1+1) (by omega) nv fv Z fl root many T frm hg z
    ⟨ah,Nat.le_refl _,fun b hb=>by have:=H.out.lt b hb;omega,hZl⟩ (by simp [World.cell?,b3]) (by simp [World.cell?,b4]))
  KpR.trans (KpR.putObj (Nat.le_refl _)) (Below.refl _ _) (fun _=>rfl)
  (fun a W=>RgI w upr T.length z.heap.size a W/\Hid ((∀ x∈a,ahead upr x=true)/\a.length<T.length))
  (fun c a W=>match c with
    | .exit id=>id=0/\∃ i,RgI w upr T.length z.heap.size i W/\Hid ((∃ x,a=i++[x]/\(∀ y∈i,ahead upr y=true)/\ahead upr x=false)\/(i=a/\(∀ y∈i,ahead upr y=true)/\i.length=T.length))
    | _=>False)
  (fun s W W' row hs hg M=>⟨hs.1.own (by omega) hg M,hs.2⟩)
  (fun c s W W' row hs hg M=>by
    cases c with
    | exit id=>obtain ⟨O,i,R,h3⟩:=hs;exact ⟨O,i,R.own (by omega) hg M,h3⟩
    | _=>exact hs.elim)
  ⟨⟨b0,b1,⟨_,b2,SlF.nil _ _ _ _,by simp [Value.ownBlock]⟩,ab.below0,Nat.le_refl _⟩,H_ ⟨by simp,by simpa using hpos⟩⟩
  (fun x a' W=>∃ N,z.heap.size<=N/\W.heap[N]?=some (.cells #[.string x.1,.int .i64 x.2] 122 (0,0))/\a'=⟨#[.pointer (some ⟨t,0,none⟩),.string frm,.string upr,.int .i64 T.length,undef,undef,.pointer (some ⟨w.heap.size,0,none⟩),.pointer (some ⟨w.heap.size+1,0,none⟩),.slice none 0 0,.pointer (some ⟨w.heap.size+1+1,0,none⟩),.pointer (some ⟨N,0,none⟩),.int .i64 T.length,.bool false,.pointer (some ⟨t,0,none⟩),.string frm,.func (.func 152) #[] #[.pointer (some ⟨w.heap.size+1+1+1,0,none⟩),.pointer (some ⟨w.heap.size+1+1+1+1,0,none⟩)],.agg #[.string x.1,.int .i64 x.2],undef,undef,undef,undef,undef,undef,undef,undef,undef,undef,undef,undef,undef,undef,undef,undef,undef],[]⟩)
  (fun x a' s W W' row hs hg M=>by
    obtain ⟨N,O,R,h3⟩:=hs;exact ⟨N,O,(hg.block N (zaa R) fun e'=>by obtain ⟨_,o,ho,hc⟩:=M N e'.symm;rw [R] at ho;cases ho;cases hc).trans R,h3⟩)
  ?assign ?body ?done ?stop
 case assign =>
  rintro l a x W K ⟨p,d⟩ L;have aq:=H_ L;clear L;dsimp only [zem]
  gi_wp2
  exact aq.out _ _ ((KeepsOthers.alloc _ _).from _) (KpR.of_fr ((Fr.refl No W).alloc _) p.size fun _ s=>s.elim) ⟨p.fr ((Fr.refl _ _).alloc _),d⟩ ⟨W.heap.size,p.size,heap_alloc_new _ _,rfl⟩
 case body =>
  rintro l a x a' W hl ⟨r,M⟩ ⟨p,d⟩ ⟨N,aB,bX,rfl⟩ aD;obtain ⟨v,S,E,q⟩:=p.b2;obtain ⟨va,f,rfl,_,_,_⟩:=E.shape;have x0:W.cell? ⟨N,0,none⟩=some (.string x.1):=cellAt bX 0 rfl;have x1:W.cell? ⟨N,1,none⟩=some (.int .i64 x.2):=cellAt bX 1 rfl;have y0:W.cell? ⟨w.heap.size,0,none⟩=some (.string upr):=(by simp [World.cell?,p.b0]);have y1:W.cell? ⟨w.heap.size+1,0,none⟩=some (.int .i64 T.length):=(by simp [World.cell?,p.b1]);have y2:W.cell? ⟨w.heap.size+1+1,0,none⟩=some (.slice va a.length f):=cellAt S 0 rfl;have HP:=d;have aE:=d.out.2;have B:=zar W [.string x.1,.int .i64 x.2] 122 (0,0);have aH:=zaa bX;have aA:w.heap.size+1+1<W.heap.size:=zaa S;have HI:=H_ p;clear p d;by_cases hah:ahead upr x=true
  · have Q:upr.toList.isEmpty=true\/(upr.toList.isEmpty=false/\Op.bytesLess x.1.toList upr.toList=true):=by
     unfold ahead klt at hah;cases h0:upr.toList.isEmpty
     · right;refine ⟨rfl,?_⟩;simpa [h0] using hah
     left;rfl
    have P:=H_ hah;clear hah;by_cases hlast:a.length+1=T.length
    · have hd:((a.length:Int)+1==(T.length:Int))=true:=by simp;omega
      have U:=H_ hlast;clear hlast;rcases Q with he | ⟨he,C⟩
      all_goals
       gi_wp2_with (gi_at_builtin;refine zdw rfl _ _ 119 rfl 122 i0 _ 2 24 Tryz.underlying119 a5 a2 a1 aa rfl (by decide) (.slice va a.length f) a rfl (E.alloc _) W.heap.size 1 x rfl (by simpa [pairC] using B) rfl (by intro u hu;simp [pairC] at hu;rcases hu with rfl | rfl <;> rfl) (by unfold maxLen;omega) (by omega) ?_)
       intro g o' cap w1 J A G a4;obtain ⟨X,G1,G2,G3⟩:=RgI.grow HI.out (by omega) S E q J A (by simpa using G);have z2:w1.cell? ⟨w.heap.size+1+1,0,none⟩=some (.slice va a.length f):=cellAt X 0 rfl;have zf:w1.frozen? ⟨w.heap.size+1+1,0,none⟩=false:=(by simp [World.frozen?,X]);have HF:Fr (fun b=>(Value.slice va a.length f).ownBlock=some b) W w1:=(((Fr.refl _ W).alloc _).grown A fun k C=>.inl C);have z1:=HF.cell y1 (fun e=>by have:=q _ e;simp at this;omega);have Y:=H_ (And.intro G1 (And.intro G2 G3));clear J A G G1 G2 G3 HF B X
       gi_wp2
       have F:∀ y∈a++[x],ahead upr y=true:=by
        intro y hy;rcases List.mem_append.1 hy with h | h
        · exact HP.out.1 y h
        simp at h;subst h;exact P.out
       exact ⟨Y.out.2.1,rfl,_,Y.out.1,H_ (.inr ⟨rfl,F,by simpa using U.out⟩)⟩
    have hd:((a.length:Int)+1==(T.length:Int))=false:=by simp;omega
    rcases Q with he | ⟨he,C⟩
    all_goals
     gi_wp2_with (gi_at_builtin;refine zdw rfl _ _ 119 rfl 122 i0 _ 2 24 Tryz.underlying119 a5 a2 a1 aa rfl (by decide) (.slice va a.length f) a rfl (E.alloc _) W.heap.size 1 x rfl (by simpa [pairC] using B) rfl (by intro u hu;simp [pairC] at hu;rcases hu with rfl | rfl <;> rfl) (by unfold maxLen;omega) (by omega) ?_)
     intro g o' cap w1 J A G a4;obtain ⟨X,G1,G2,G3⟩:=RgI.grow HI.out (by omega) S E q J A (by simpa using G);have z2:w1.cell? ⟨w.heap.size+1+1,0,none⟩=some (.slice va a.length f):=cellAt X 0 rfl;have zf:w1.frozen? ⟨w.heap.size+1+1,0,none⟩=false:=(by simp [World.frozen?,X]);have HF:Fr (fun b=>(Value.slice va a.length f).ownBlock=some b) W w1:=(((Fr.refl _ W).alloc _).grown A fun k C=>.inl C);have z1:=HF.cell y1 (fun e=>by have:=q _ e;simp at this;omega);have Y:=H_ (And.intro G1 (And.intro G2 G3));clear J A G G1 G2 G3 HF B X
     gi_wp2
     have F:∀ y∈a++[x],ahead upr y=true:=by
      intro y hy;rcases List.mem_append.1 hy with h | h
      · exact HP.out.1 y h
      simp at h;subst h;exact P.out
     exact ⟨Y.out.2.1,Y.out.2.2,Y.out.1,H_ ⟨F,by simp;omega⟩⟩
  simp only [Bool.not_eq_true] at hah
  have P:=H_ hah
  have Q:upr.toList.isEmpty=false/\Op.bytesLess x.1.toList upr.toList=false:=by
   unfold ahead klt at hah;simpa using hah
  obtain ⟨he,C⟩:=Q;clear hah
  gi_wp2
  exact ⟨KeepsFrom.refl _ _,rfl,a,HI.out,H_ (.inl ⟨x,rfl,HP.out.1,P.out⟩)⟩
 case done =>
  rintro D xs W hD rfl ⟨p,d⟩ L;obtain ⟨v,S,E,q⟩:=p.b2;have y2:W.cell? ⟨w.heap.size+1+1,0,none⟩=some v:=cellAt S 0 rfl;have M:Hid (rangeT T frm upr=T.drop (spotOf T frm)):=H_ (by rw [znh T hs];exact zgv d.out.1)
  gi_wp2
  refine ⟨by simp,.inl ⟨_,_,rfl,run_takeDeferred L,?_⟩⟩;have hg:=grownBy_putObj' W D (.deferred none);refine ⟨_,results_tmp rfl _ _ _,v,rfl,?_,p.below.grown hg p.below.size (fun k e=>by cases e;omega),fun b hb=>by have:=q b hb;omega⟩;rw [M.out];refine Sl.keep E fun k C=>hg.block k (E.lt k C) fun e=>?_;cases e
  rcases E.2 with ⟨rfl,_⟩ | ⟨g',o',a7,am,rfl,V,_⟩
  · simp [Value.ownBlock] at C
  obtain rfl:g'=D:=by simpa [Value.ownBlock] using C
  rw [V] at L;cases L
 case stop =>
  rintro D c a W hD ae a8 L
  cases c with
  | exit id =>
    obtain ⟨rfl,i,p,HO⟩:=a8;obtain ⟨v,S,E,q⟩:=p.b2;have y2:W.cell? ⟨w.heap.size+1+1,0,none⟩=some v:=cellAt S 0 rfl
    have M:Hid (rangeT T frm upr=i):=H_ (by
     rw [znh T hs];rcases HO.out with ⟨x,rfl,O,R⟩ | ⟨rfl,O,R⟩
     · obtain ⟨I,j⟩:=ae
       exact zkf (r:=I) (by rw [<-j];simp) O R
     obtain ⟨I,j⟩:=ae
     have hl:=congrArg List.length j;simp at hl;obtain rfl:I = []:=List.eq_nil_of_length_eq_zero (by omega);rw [<-j,List.append_nil];exact zgv O)
    gi_wp2
    refine ⟨by simp,.inl ⟨_,_,rfl,run_takeDeferred L,?_⟩⟩;have hg:=grownBy_putObj' W D (.deferred none);refine ⟨_,results_tmp rfl _ _ _,v,rfl,?_,p.below.grown hg p.below.size (fun k e=>by cases e;omega),fun b hb=>by have:=q b hb;omega⟩;rw [M.out];refine Sl.keep E fun k C=>hg.block k (E.lt k C) fun e=>?_;cases e
    rcases E.2 with ⟨rfl,_⟩ | ⟨g',o',a7,am,rfl,V,_⟩
    · simp [Value.ownBlock] at C
    obtain rfl:g'=D:=by simpa [Value.ownBlock] using C
    rw [V] at L;cases L
  | _=>exact a8.elim
def zwd (w:World) (t:Nat) (T:Pairs) (F:Nat->Prop):Prop :=
 ∃ A fl root,TreeZ w t A fl root T.length F/\GoodT A fl root T/\A.length<=1000002/\T.length<=1000000
theorem ztx:TreeOk zwd 1000000 where
 lt h:=by obtain ⟨A,fl,root,h,_⟩:=h;exact h.lt
 fr h hf hn:=by obtain ⟨A,fl,root,h,h2⟩:=h;exact ⟨A,fl,root,h.fr hf hn,h2⟩
 root h:=by obtain ⟨A,fl,root,⟨nv,fv,Z,_,_,hF⟩,h2⟩:=h;exact (hF _).2 (.inl rfl)
 sorted h:=by obtain ⟨A,fl,root,_,⟨D,hD⟩,_⟩:=h;exact hD.sorted
 new w:=by
  refine (ztn w).mono ?_;rintro e w' ⟨t,rfl,F,h1,h2,h3⟩;exact ⟨t,rfl,F,⟨_,_,_,h1,zxu,by simp,by simp⟩,h2,h3⟩
 len h:=by obtain ⟨A,fl,root,h,_⟩:=h;exact zto _ _ _ _ _ _ _ h
 get key h:=by obtain ⟨A,fl,root,h,h2,h3,_⟩:=h;exact zlc _ _ _ _ _ _ _ _ key h h2 (by omega)
 set {w t T F} key m h hl:=by
  obtain ⟨A,fl,root,h,h2,h3,_⟩:=h;obtain ⟨g,a1,a2,a3,a4,a5⟩:=zyn h2 key m 1000000 (by omega) hl;refine (ztl w t A fl root T.length F T key m h h2 1000000 (Nat.le_refl _) (by omega) hl ⟨by omega,by omega⟩ g a1 a4).mono ?_;rintro e w' ⟨he,F',b1,b2,b3⟩
  have hlen:(insT T key m).length=T.length+if (getT T key).2 then 1-1 else 1:=by
   obtain ⟨D,hD⟩:=h2;exact zrm key m T hD.sorted
  refine ⟨he,F',⟨_,_,_,?_,a3,by omega,by rw [hlen];split <;> omega⟩,b2,b3⟩
  have e2:((insT T key m).length:Int)=(T.length:Int)+if (setA g (growA A fl root).1 (growA A fl root).2.1 (growA A fl root).2.2 key m).2.2 then 1 else 0:=by
   rw [a2,hlen];cases (getT T key).2 <;> simp
  rw [e2];exact b1
 range {w t T F} frm upr h:=by
  obtain ⟨A,fl,root,⟨nv,fv,Z,h,rfl,hF⟩,h2,h3,h4⟩:=h;rcases Nat.eq_zero_or_pos T.length with h0 | hp
  · obtain rfl:=List.eq_nil_of_length_eq_zero h0
    refine (ztm w t frm upr).mono ?_;rintro e w' ⟨rfl,hf⟩;exact ⟨_,rfl,SlF.nil _ _ _ _,hf,by simp [Value.ownBlock]⟩
  have hsT:Sorted T:=by obtain ⟨D,hD⟩:=h2;exact hD.sorted
  rw [zaw] at h3;refine (callsIn_wide.1 (zwf 6 (by omega) w t nv fv Z fl root T.length T frm upr h h2 (by omega) hsT (by omega) hp)).mono ?_;rintro e w' ⟨v,rfl,h1,h2,h3⟩;exact ⟨v,rfl,h1,Fr.of_below h2,h3⟩
end Go.Proofs.YthljnnjpmdgkoaaGreat