/- Own lemmas and contracts that the claim's proof needs, laid together. The conditions stand in each. -/
import Derived.Test.YthljnnjpmdgkoaaN09
import Derived.Test.YthljnnjpmdgkoaaN00
import Derived.Maps.OwnOps
import Derived.Maps.OwnSet
namespace Go.Proofs.Ythljnnjpmdgkoaa
open Go Go.Proofs Go.RowKit Go.Shelf
set_option maxRecDepth 100000
attribute [local go_sem] Oper.semAt_some
theorem znh (f:Nat->Pairs):∀ (P:Pairs) (K:List Nat) (p:ByteArray × Int) (k:Nat),K.length=P.length->rwv f (P++[p]) (K++[k])=rwv f P K++p :: f k
 | [],[],p,k,_=>by simp [rwv]
 | [],_ :: _,_,_,h=>by simp at h
 | _ :: _,[],_,_,h=>by simp at h
 | q :: P,c :: K,p,k,h=>by simp [rwv,znh f P K p k (by simpa using h)]
def zgn (n₀ Bo:Nat) (J Jx:Pairs->World->Prop) (pre0 S:Pairs) (W:World) (e:Ending) (W':World):Prop :=
 (e = .returned (.bool true)/\J (pre0++S) W'/\KpR n₀ Bo W W')\/(e = .returned (.bool false)/\∃ pre,pre <+: S/\Jx (pre0++pre) W')
def segW (f:Nat->Pairs) (P:Pairs) (K:List Nat) (s0 k:Nat):Pairs:=rwv f ((P.drop s0).take (k - s0)) ((K.drop (s0+1)).take (k - s0))
theorem zki (f:Nat->Pairs) (P:Pairs) (K:List Nat) (s0:Nat):segW f P K s0 s0 = []:=by unfold segW;simp [rwv]
theorem zgz (f:Nat->Pairs) (P:Pairs) (K:List Nat) (s0 k:Nat) (x:ByteArray × Int) (c:Nat) (h:s0<=k) (hx:P[k]? = some x) (hc:K[k+1]? = some c) (hl:K.length=P.length+1):segW f P K s0 (k+1)=segW f P K s0 k++x :: f c:=by
 have hk:=(List.getElem?_eq_some_iff.1 hx).1;unfold segW;rw [show k+1 - s0=(k - s0)+1 by omega,List.take_add_one,List.take_add_one,List.getElem?_drop,List.getElem?_drop,show s0+(k - s0)=k by omega,show s0+1+(k - s0)=k+1 by omega,hx,hc];exact znh f _ _ x c (by simp;omega)
theorem zjf (f:Nat->Pairs) (P:Pairs) (K:List Nat) (s0:Nat) (hl:K.length=P.length+1):segW f P K s0 P.length=rwv f (P.drop s0) (K.drop (s0+1)):=by
 unfold segW;rw [List.take_of_length_le (by simp),List.take_of_length_le (by simp;omega)]
theorem zeo (f:Nat->Pairs) (P:Pairs) (K:List Nat) (s0:Nat) (hl:K.length=P.length+1):∀ (m k:Nat),k+m=P.length->s0<=k->segW f P K s0 k <+: rwv f (P.drop s0) (K.drop (s0+1))
 | 0,k,h,_=>by obtain rfl:k=P.length:=by omega
               rw [zjf f P K s0 hl];exact List.prefix_refl _
 | m+1,k,h,hs=>by
   have ih:=zeo f P K s0 hl m (k+1) (by omega) (by omega);rw [zgz f P K s0 k _ _ hs (List.getElem?_eq_getElem (by omega)) (List.getElem?_eq_getElem (by omega)) hl] at ih;exact (List.prefix_append _ _).trans ih
set_option maxHeartbeats 4000000 in
theorem zpn (n l t n₀ Bo:Nat) (hBo:Bo < n₀) (nv fv:Value) (Z:List Nz) (fl:List Nat) (root:Nat) (many:Int) (frm:ByteArray) (J Jx:Pairs->World->Prop) (N:Nat)
 (hJ:∀ pre W W',J pre W->Fr No W W'->J pre W')
 (hY:∀ m pre x W,J pre W->pre.length < N->YieldAt Fence.wide m Try.prog l (zde x) W fun e W' =>
   (e = .returned (.bool true)/\J (pre++[x]) W'/\KpR n₀ Bo W W')\/(e = .returned (.bool false)/\Jx (pre++[x]) W'))
 (at_:Nat) (z:Nz) (hz:Z[at_]? = some z) (h9:z.nd.pairs.length<=9) (hl:z.nd.kids.length=z.nd.pairs.length+1) (f:Nat->Pairs)
 (hIH:∀ (m c:Nat) (pre:Pairs) (W:World),c∈z.nd.kids->zdm W t n₀ Bo nv fv Z fl root many->pre.length+(f c).length<=N->J pre W →
   CallsIn Fence.wide m Try.prog 128 #[.pointer (some ⟨t,0,none⟩),.int .i64 c,.string frm,.func (.yield l) #[] #[]] W (zgn n₀ Bo J Jx pre (f c) W))
 (pre0 first:Pairs) (hfirst:first=if hitOf z.nd.pairs frm then [] else f (z.nd.kids.getD (spotOf z.nd.pairs frm) 0))
 (hN:pre0.length+(first++rwv f (z.nd.pairs.drop (spotOf z.nd.pairs frm)) (z.nd.kids.drop (spotOf z.nd.pairs frm+1))).length<=N)
 (W:World) (h:zdm W t n₀ Bo nv fv Z fl root many) (h0:J pre0 W) :
 CallsIn Fence.wide n Try.prog 128 #[.pointer (some ⟨t,0,none⟩),.int .i64 at_,.string frm,.func (.yield l) #[] #[]] W
  (zgn n₀ Bo J Jx pre0 (first++rwv f (z.nd.pairs.drop (spotOf z.nd.pairs frm)) (z.nd.kids.drop (spotOf z.nd.pairs frm+1))) W):=by
 have hsp:=spotZ h.r at_ z hz h9 h.few frm;unfold zbt at hsp;have hzl:=h.few;have hatl:at_ < Z.length:=(List.getElem?_eq_some_iff.1 hz).1;obtain ⟨nb,no,cap,rfl,hcap⟩:=h.r.headLen (by omega);have c0:=h.r.obj.cell 0 rfl;obtain ⟨n0,n1,_,_⟩:=h.r.look at_ z hz;obtain ⟨pa,pcap,hpv,hc3,hc4,hpa⟩:=(h.r.pairs at_ z hz).shape;obtain ⟨ka,kcap,hkv,hc5,hc6,hka⟩:=(h.r.kids at_ z hz).shape;obtain ⟨kb,ko,rfl⟩:=hka (by omega);rw [hpv] at n0;rw [hkv] at n1;have hsl:=zbm z.nd.pairs frm;have hatz:(at_:Int) < (Z.length:Int):=by omega
 have hltW:t < W.heap.size:=h.r.obj.lt;have hlnb:nb < W.heap.size:=h.r.nodes.lt nb rfl;have hkb:kb < n₀/\kb≠Bo:=h.low kb (.inr (.inr (.inr ⟨at_,z,hz,.inr (by rw [hkv];rfl)⟩)));obtain ⟨c,hc⟩:∃ c,z.nd.kids[spotOf z.nd.pairs frm]? = some c:=⟨_,List.getElem?_eq_getElem (by omega)⟩;have hcd:z.nd.kids.getD (spotOf z.nd.pairs frm) 0=c:=by simp [List.getD,hc]
 rw [hcd] at hfirst;have hkk:=h.r.kids at_ z hz;rw [hkv] at hkk;have k0:=hkk.cell1 zak _ hc rfl;have hcm:=List.mem_of_getElem? hc;have H:=H_ h;have HA:=H_ hpa;have HZ:=H_ hz;have HPV:=H_ hpv;have HKV:=H_ hkv;have HIH:=H_ hIH;have HFI:=H_ hfirst;have HN:=H_ hN;have HL:=H_ hl;have HCM:=H_ hcm;have hsz0:=h.size;have hlkb:kb < W.heap.size:=by omega
 have hkz:(0:Int) < (z.nd.kids.length:Int):=by omega
 have hsz:(spotOf z.nd.pairs frm:Int) < (z.nd.kids.length:Int):=by omega
 have hBW:Bo < W.heap.size:=by omega
 clear h hpa hz hpv hkv hka hIH hfirst hN hl hkk hcd hc hcm;refine callsIn_of_wp Try.func128 rfl trivial ?_ rfl;simp only [Try.ntmps128,List.size_toArray,List.length_cons,List.length_nil,Nat.reduceAdd,Nat.reduceSub,Array.replicate_succ,Array.replicate_zero,List.push_toArray,List.append_toArray,List.nil_append,List.cons_append];generalize hitOf z.nd.pairs frm=hit at *;generalize spotOf z.nd.pairs frm=s0 at *;have hA0:Fr No W (W.alloc (Obj.cells #[.slice pa z.nd.pairs.length pcap,.slice (some ⟨kb,ko,none⟩) z.nd.kids.length kcap] 198)):=(Fr.refl No W).alloc _;have hkp0:KpR n₀ Bo W (W.alloc (Obj.cells #[.slice pa z.nd.pairs.length pcap,.slice (some ⟨kb,ko,none⟩) z.nd.kids.length kcap] 198)):=KpR.of_fr hA0 hsz0 (fun _ s=>s.elim)
 have hb0:(W.alloc (Obj.cells #[.slice pa z.nd.pairs.length pcap,.slice (some ⟨kb,ko,none⟩) z.nd.kids.length kcap] 198)).heap[W.heap.size]? = some (.cells #[.slice pa z.nd.pairs.length pcap,.slice (some ⟨kb,ko,none⟩) z.nd.kids.length kcap] 198 (0,0)):=heap_alloc_new _ _;have HA0:=H_ hA0;have HKP0:=H_ hkp0;have HB0:=H_ hb0;have HJ0:=H_ (hJ _ _ _ h0 hA0);clear hA0 hkp0 hb0 h0;cases hit
 · have hff:first=f c:=by have:=HFI.out;simpa using this
   have hih:=HIH.out (n - 1) c pre0 _ HCM.out (H.out.kp HKP0.out) (by have:=HN.out;rw [hff] at this;simp only [List.length_append] at this;omega) HJ0.out;have HI1:=H_ hih;have HFF:=H_ hff;clear hih hff
   gi_wp2_with (first
    | (refine ⟨trivial,hdd _,?_⟩;gi_at_call 130;refine (callsIn_wide.2 hsp).mono ?_;clear hsp;rintro e w' ⟨rfl,rfl⟩)
    | (refine ⟨trivial,hdd _,?_⟩;gi_at_call 128;refine HI1.out.mono ?_;rintro e w2 (⟨rfl,hJ2,hk2⟩ | ⟨rfl,pre,hpre,hx⟩)))
   · have hb2:=(hk2.rows _ _ _ _ HB0.out (by decide) (by omega)).trans HB0.out
     have HB2:=H_ hb2;have HJ2:Hid (J (pre0++first) w2):=H_ (by rw [HFF.out];exact hJ2);have HK2:=H_ (HKP0.out.trans hk2);clear hb2 hJ2 hk2 k0 n0 n1 c0;have hb2:w2.heap[W.heap.size]? = some (.cells #[.slice pa z.nd.pairs.length pcap,.slice (some ⟨kb,ko,none⟩) z.nd.kids.length kcap] 198 (0,0)):=HB2.out;have q0:w2.cell? ⟨W.heap.size,0,none⟩=some (.slice pa z.nd.pairs.length pcap):=cellAt hb2 0 rfl;have q1:w2.cell? ⟨W.heap.size,1,none⟩=some (.slice (some ⟨kb,ko,none⟩) z.nd.kids.length kcap):=cellAt hb2 1 rfl;clear hb2
     gi_wp2
     gi_loopw [9] (fun i wr=>∃ k:Nat,s0<=k/\k<=z.nd.pairs.length/\i = .int .i64 k/\Hid (J (pre0++first++segW f z.nd.pairs z.nd.kids s0 k) wr)/\Hid (KpR n₀ Bo W wr)/\wr.heap[W.heap.size]? = some (.cells #[.slice pa z.nd.pairs.length pcap,.slice (some ⟨kb,ko,none⟩) z.nd.kids.length kcap] 198 (0,0)))
      (fun i _=>z.nd.pairs.length - (intOf i).toNat)
     case atStart=>exact ⟨s0,Nat.le_refl _,hsl,rfl,H_ (by rw [zki,List.append_nil];exact HJ2.out),HK2,HB2.out⟩
     case round =>
      obtain ⟨k,hk1,hk2,rfl,hJs,hKp,hbp⟩:=hrel;have p0:wr.cell? ⟨W.heap.size,0,none⟩=some (.slice pa z.nd.pairs.length pcap):=cellAt hbp 0 rfl;have p1:wr.cell? ⟨W.heap.size,1,none⟩=some (.slice (some ⟨kb,ko,none⟩) z.nd.kids.length kcap):=cellAt hbp 1 rfl;by_cases hlt:k < z.nd.pairs.length
      · obtain ⟨pb,po,rfl⟩:=HA.out (by omega)
        obtain ⟨x,hx⟩:∃ x,z.nd.pairs[k]? = some x:=⟨_,List.getElem?_eq_getElem hlt⟩;obtain ⟨c',hc'⟩:∃ c',z.nd.kids[k+1]? = some c':=⟨_,List.getElem?_eq_getElem (by have:=HL.out;omega)⟩;have hWk:=H.out.kp hKp.out
        have hpw:SlF wr 127 2 pairC (.slice (some ⟨pb,po,none⟩) z.nd.pairs.length pcap) z.nd.pairs:=by
         have:=hWk.r.pairs at_ z HZ.out
         rwa [HPV.out] at this
        have x0:=hpw.cell0 zaf k hx rfl;have x1:=hpw.cell zaf k 1 hx rfl;have hpf:=zeo f z.nd.pairs z.nd.kids s0 HL.out (z.nd.pairs.length - (k+1)) (k+1) (by omega) (by omega);have hsu:=zgz f z.nd.pairs z.nd.kids s0 k x c' hk1 hx hc' HL.out;have hpl:=hpf.length_le;have hNN:=HN.out
        have hlen1:(pre0++first++segW f z.nd.pairs z.nd.kids s0 k).length < N:=by
         rw [hsu] at hpl;simp only [List.length_append,List.length_cons] at hpl hNN ⊢
         omega
        have hlen2:(pre0++first++segW f z.nd.pairs z.nd.kids s0 k++[x]).length+(f c').length<=N:=by
         rw [hsu] at hpl;simp only [List.length_append,List.length_cons,List.length_nil] at hpl hNN ⊢
         omega
        obtain ⟨fn,tmps,assign,body,hy,hR⟩:=hY (n - 1) _ x wr hJs.out hlen1;dsimp only [zde] at hy;have hkz2:(k:Int) < (z.nd.pairs.length:Int):=(by omega);have hkz3:(k:Int)+1 < (z.nd.kids.length:Int):=(by have:=HL.out;omega);have hkz4:(0:Int)<=(k:Int)+1:=(by omega);have hkz5:((k:Int)+1).toNat=k+1:=(by omega);have HX:=H_ hx;have HC':=H_ hc';have HSU:=H_ hsu;have HPF:=H_ hpf;have hbl2:n₀<=wr.heap.size:=Nat.le_trans hsz0 hKp.out.size;have hpbl:pb < wr.heap.size:=hpw.lt pb rfl;have hWlt:W.heap.size < wr.heap.size:=zab hbp;clear hx hpw hc' hsu hpf hpl hNN hlen1
        gi_wp2
        refine ⟨hdd _,hR.mono ?_⟩;rintro e W3 (⟨rfl,hJ3,hk3⟩ | ⟨rfl,hJx3⟩)
        · have hb3:=(hk3.rows _ _ _ _ hbp (by decide) (by omega)).trans hbp
          have q0:W3.cell? ⟨W.heap.size,0,none⟩=some (.slice (some ⟨pb,po,none⟩) z.nd.pairs.length pcap):=cellAt hb3 0 rfl;have q1:W3.cell? ⟨W.heap.size,1,none⟩=some (.slice (some ⟨kb,ko,none⟩) z.nd.kids.length kcap):=cellAt hb3 1 rfl;have hW3:=hWk.kp hk3
          have hkq:W3.cell? ⟨kb,ko+(k+1),none⟩=some (.int .i64 (c':Int)):=by
           have hh:=hW3.r.kids at_ z HZ.out;rw [HKV.out] at hh;exact hh.cell1 zak _ HC'.out rfl
          have hkb3:kb < W3.heap.size:=World.block_lt_of_cell? _ _ hkq;have hih:=HIH.out (n - 1) c' _ W3 (List.mem_of_getElem? HC'.out) hW3 hlen2 hJ3;have HI2:=H_ hih;have HKP3:=H_ hk3;have HB3:=H_ hb3;clear hJ3 hJs p0 p1 x0 x1 hih hk3 hb3 hW3 hWk hlen2
          gi_wp2_with (first
           | (refine ⟨trivial,hdd _,?_⟩;gi_at_call 128;refine HI2.out.mono ?_;rintro e w4 (⟨rfl,hJ4,hk4⟩ | ⟨rfl,pre,hpre,hx4⟩)))
          · have hb4:=(hk4.rows _ _ _ _ HB3.out (by decide) (by omega)).trans HB3.out
            have HJ4:=H_ hJ4;have HK4:=H_ hk4;clear hJ4 hk4
            gi_wp2
            go_roundw
            case rel =>
             refine ⟨k+1,by omega,by omega,by go_num,H_ ?_,H_ ((hKp.out.trans HKP3.out).trans HK4.out),hb4⟩;have:=HJ4.out;rw [HSU.out];simpa using this
            case measure=>simp [intOf];omega
          have HX4:=H_ hx4
          have HPRE:=H_ hpre;clear hx4 hpre
          gi_wp2
          go_ret;refine .inr ⟨rfl,first++(segW f z.nd.pairs z.nd.kids s0 k++x :: pre),?_,by have:=HX4.out;simpa using this⟩;refine (List.prefix_append_right_inj first).2 (List.IsPrefix.trans ?_ HPF.out);rw [HSU.out];refine (List.prefix_append_right_inj _).2 ?_;exact List.cons_prefix_cons.2 ⟨rfl,HPRE.out⟩
        have HJ3:=H_ hJx3
        clear hJx3 hJs p0 p1 x0 x1 hWk
        gi_wp2
        go_ret;refine .inr ⟨rfl,first++(segW f z.nd.pairs z.nd.kids s0 k++[x]),?_,by have:=HJ3.out;simpa using this⟩;refine (List.prefix_append_right_inj first).2 (List.IsPrefix.trans ?_ HPF.out);rw [HSU.out];refine (List.prefix_append_right_inj _).2 ?_;exact List.cons_prefix_cons.2 ⟨rfl,List.nil_prefix⟩
      obtain rfl:k=z.nd.pairs.length:=by omega
      gi_wp2
      go_ret;exact .inl ⟨rfl,by have:=hJs.out;rw [zjf f _ _ _ HL.out,List.append_assoc] at this;exact this,hKp.out⟩
   have HX:=H_ hx
   have HPRE:=H_ hpre;clear hx hpre
   gi_wp2
   go_ret;refine .inr ⟨rfl,pre,?_,HX.out⟩;rw [HFF.out];exact HPRE.out.trans (List.prefix_append _ _)
 have hff:first = []:=by have:=HFI.out;simpa using this
 gi_wp2_with (first
  | (refine ⟨trivial,hdd _,?_⟩;gi_at_call 130;refine (callsIn_wide.2 hsp).mono ?_;clear hsp;rintro e w' ⟨rfl,rfl⟩))
 refine ⟨trivial,?_⟩;have HB2:=HB0;have HJ2:Hid (J (pre0++first) _):=H_ (by rw [hff,List.append_nil];exact HJ0.out);have HK2:=HKP0;generalize (W.alloc (Obj.cells #[.slice pa z.nd.pairs.length pcap,.slice (some ⟨kb,ko,none⟩) z.nd.kids.length kcap] 198))=w2 at *;have HFF:=H_ hff;clear hff k0 n0 n1 c0;have hb2:w2.heap[W.heap.size]? = some (.cells #[.slice pa z.nd.pairs.length pcap,.slice (some ⟨kb,ko,none⟩) z.nd.kids.length kcap] 198 (0,0)):=HB2.out;have q0:w2.cell? ⟨W.heap.size,0,none⟩=some (.slice pa z.nd.pairs.length pcap):=cellAt hb2 0 rfl;have q1:w2.cell? ⟨W.heap.size,1,none⟩=some (.slice (some ⟨kb,ko,none⟩) z.nd.kids.length kcap):=cellAt hb2 1 rfl;clear hb2
 gi_wp2
 gi_loopw [9] (fun i wr=>∃ k:Nat,s0<=k/\k<=z.nd.pairs.length/\i = .int .i64 k/\Hid (J (pre0++first++segW f z.nd.pairs z.nd.kids s0 k) wr)/\Hid (KpR n₀ Bo W wr)/\wr.heap[W.heap.size]? = some (.cells #[.slice pa z.nd.pairs.length pcap,.slice (some ⟨kb,ko,none⟩) z.nd.kids.length kcap] 198 (0,0)))
  (fun i _=>z.nd.pairs.length - (intOf i).toNat)
 case atStart=>exact ⟨s0,Nat.le_refl _,hsl,rfl,H_ (by rw [zki,List.append_nil];exact HJ2.out),HK2,HB2.out⟩
 case round =>
  obtain ⟨k,hk1,hk2,rfl,hJs,hKp,hbp⟩:=hrel;have p0:wr.cell? ⟨W.heap.size,0,none⟩=some (.slice pa z.nd.pairs.length pcap):=cellAt hbp 0 rfl;have p1:wr.cell? ⟨W.heap.size,1,none⟩=some (.slice (some ⟨kb,ko,none⟩) z.nd.kids.length kcap):=cellAt hbp 1 rfl;by_cases hlt:k < z.nd.pairs.length
  · obtain ⟨pb,po,rfl⟩:=HA.out (by omega)
    obtain ⟨x,hx⟩:∃ x,z.nd.pairs[k]? = some x:=⟨_,List.getElem?_eq_getElem hlt⟩;obtain ⟨c',hc'⟩:∃ c',z.nd.kids[k+1]? = some c':=⟨_,List.getElem?_eq_getElem (by have:=HL.out;omega)⟩;have hWk:=H.out.kp hKp.out
    have hpw:SlF wr 127 2 pairC (.slice (some ⟨pb,po,none⟩) z.nd.pairs.length pcap) z.nd.pairs:=by
     have:=hWk.r.pairs at_ z HZ.out
     rwa [HPV.out] at this
    have x0:=hpw.cell0 zaf k hx rfl;have x1:=hpw.cell zaf k 1 hx rfl;have hpf:=zeo f z.nd.pairs z.nd.kids s0 HL.out (z.nd.pairs.length - (k+1)) (k+1) (by omega) (by omega);have hsu:=zgz f z.nd.pairs z.nd.kids s0 k x c' hk1 hx hc' HL.out;have hpl:=hpf.length_le;have hNN:=HN.out
    have hlen1:(pre0++first++segW f z.nd.pairs z.nd.kids s0 k).length < N:=by
     rw [hsu] at hpl;simp only [List.length_append,List.length_cons] at hpl hNN ⊢
     omega
    have hlen2:(pre0++first++segW f z.nd.pairs z.nd.kids s0 k++[x]).length+(f c').length<=N:=by
     rw [hsu] at hpl;simp only [List.length_append,List.length_cons,List.length_nil] at hpl hNN ⊢
     omega
    obtain ⟨fn,tmps,assign,body,hy,hR⟩:=hY (n - 1) _ x wr hJs.out hlen1;dsimp only [zde] at hy;have hkz2:(k:Int) < (z.nd.pairs.length:Int):=(by omega);have hkz3:(k:Int)+1 < (z.nd.kids.length:Int):=(by have:=HL.out;omega);have hkz4:(0:Int)<=(k:Int)+1:=(by omega);have hkz5:((k:Int)+1).toNat=k+1:=(by omega);have HX:=H_ hx;have HC':=H_ hc';have HSU:=H_ hsu;have HPF:=H_ hpf;have hbl2:n₀<=wr.heap.size:=Nat.le_trans hsz0 hKp.out.size;have hpbl:pb < wr.heap.size:=hpw.lt pb rfl;have hWlt:W.heap.size < wr.heap.size:=zab hbp;clear hx hpw hc' hsu hpf hpl hNN hlen1
    gi_wp2
    refine ⟨hdd _,hR.mono ?_⟩;rintro e W3 (⟨rfl,hJ3,hk3⟩ | ⟨rfl,hJx3⟩)
    · have hb3:=(hk3.rows _ _ _ _ hbp (by decide) (by omega)).trans hbp
      have q0:W3.cell? ⟨W.heap.size,0,none⟩=some (.slice (some ⟨pb,po,none⟩) z.nd.pairs.length pcap):=cellAt hb3 0 rfl;have q1:W3.cell? ⟨W.heap.size,1,none⟩=some (.slice (some ⟨kb,ko,none⟩) z.nd.kids.length kcap):=cellAt hb3 1 rfl;have hW3:=hWk.kp hk3
      have hkq:W3.cell? ⟨kb,ko+(k+1),none⟩=some (.int .i64 (c':Int)):=by
       have hh:=hW3.r.kids at_ z HZ.out;rw [HKV.out] at hh;exact hh.cell1 zak _ HC'.out rfl
      have hkb3:kb < W3.heap.size:=World.block_lt_of_cell? _ _ hkq;have hih:=HIH.out (n - 1) c' _ W3 (List.mem_of_getElem? HC'.out) hW3 hlen2 hJ3;have HI2:=H_ hih;have HKP3:=H_ hk3;have HB3:=H_ hb3;clear hJ3 hJs p0 p1 x0 x1 hih hk3 hb3 hW3 hWk hlen2
      gi_wp2_with (first
       | (refine ⟨trivial,hdd _,?_⟩;gi_at_call 128;refine HI2.out.mono ?_;rintro e w4 (⟨rfl,hJ4,hk4⟩ | ⟨rfl,pre,hpre,hx4⟩)))
      · have hb4:=(hk4.rows _ _ _ _ HB3.out (by decide) (by omega)).trans HB3.out
        have HJ4:=H_ hJ4;have HK4:=H_ hk4;clear hJ4 hk4
        gi_wp2
        go_roundw
        case rel =>
         refine ⟨k+1,by omega,by omega,by go_num,H_ ?_,H_ ((hKp.out.trans HKP3.out).trans HK4.out),hb4⟩;have:=HJ4.out;rw [HSU.out];simpa using this
        case measure=>simp [intOf];omega
      have HX4:=H_ hx4
      have HPRE:=H_ hpre;clear hx4 hpre
      gi_wp2
      go_ret;refine .inr ⟨rfl,first++(segW f z.nd.pairs z.nd.kids s0 k++x :: pre),?_,by have:=HX4.out;simpa using this⟩;refine (List.prefix_append_right_inj first).2 (List.IsPrefix.trans ?_ HPF.out);rw [HSU.out];refine (List.prefix_append_right_inj _).2 ?_;exact List.cons_prefix_cons.2 ⟨rfl,HPRE.out⟩
    have HJ3:=H_ hJx3
    clear hJx3 hJs p0 p1 x0 x1 hWk
    gi_wp2
    go_ret;refine .inr ⟨rfl,first++(segW f z.nd.pairs z.nd.kids s0 k++[x]),?_,by have:=HJ3.out;simpa using this⟩;refine (List.prefix_append_right_inj first).2 (List.IsPrefix.trans ?_ HPF.out);rw [HSU.out];refine (List.prefix_append_right_inj _).2 ?_;exact List.cons_prefix_cons.2 ⟨rfl,List.nil_prefix⟩
  obtain rfl:k=z.nd.pairs.length:=by omega
  gi_wp2
  go_ret;exact .inl ⟨rfl,by have:=hJs.out;rw [zjf f _ _ _ HL.out,List.append_assoc] at this;exact this,hKp.out⟩
open Go Go.RowKit Go.WideElems Go.ChangeMaps
def MapAt (w:World) (b:Nat) (f:Int->Option Value):Prop :=
 ∃ es clock,w.heap[b]? = some (.map es clock)/\MapKept.Stamped es clock/\(∀ e∈es.toList,∃ n,e.key = .int .i64 n/\(Lit.int .i64 n).wf=true/\f n=some e.val) ∧
  ∀ n v,f n=some v->∃ e∈es.toList,e.key = .int .i64 n/\e.val=v
theorem Fr.setAt {b:Nat} {a w:World} (h:Fr (fun x=>x=b) a w) (i:Nat) (u:Value):Fr (fun x=>x=b) a (w.setCell ⟨b,i,none⟩ u):=h.setCell (p:=⟨b,i,none⟩) (.inl rfl) u
theorem MapAt.lt {w:World} {b:Nat} {f:Int->Option Value} (h:MapAt w b f):b < w.heap.size:=by
 obtain ⟨es,clock,hb,_⟩:=h;exact zab hb
theorem MapAt.keep {w w':World} {b:Nat} {f:Int->Option Value} (h:MapAt w b f) (hk:w'.heap[b]? = w.heap[b]?):MapAt w' b f:=by
 obtain ⟨es,clock,hb,h⟩:=h;exact ⟨es,clock,hk.trans hb,h⟩
theorem MapAt.fr {w w':World} {b:Nat} {f:Int->Option Value} {S:Nat->Prop} (h:MapAt w b f) (hf:Fr S w w') (hn:¬ S b):MapAt w' b f:=h.keep (hf.block b h.lt hn)
theorem MapAt.alloc {w:World} {b:Nat} {f:Int->Option Value} (h:MapAt w b f) (o:Obj):MapAt (w.alloc o) b f:=h.keep (Below.heap_alloc w o b h.lt)
theorem MapAt.made (w:World):MapAt (w.alloc (.map #[] 0)) w.heap.size fun _=>none :=
 ⟨#[],0,heap_alloc_new w _,MapKept.stamped_empty 0,by simp,by simp⟩
theorem MapAt.apart {w:World} {b:Nat} {f:Int->Option Value} (h:MapAt w b f) {cs:List Value} {c:Nat} (hc:Has w c cs):b≠c:=by
 rintro rfl;obtain ⟨es,clock,hb,_⟩:=h;obtain ⟨e,hc⟩:=hc;rw [hb] at hc;cases hc
section
variable {P:Program} {w:World} {b:Nat} {f:Int->Option Value} {t k e:TypeId}
theorem zqv (hk:P.underlying k=some (.int .i64)) {es:List MapEntry} (h:∀ e∈es,∃ n,e.key = .int .i64 n/\(Lit.int .i64 n).wf=true/\f n=some e.val):∀ e∈es,∃ l,keyOf P k e.key=some l:=by
 intro e he;obtain ⟨n,h1,h2,_⟩:=h e he;exact ⟨_,by rw [h1];exact Maps.keyOf_int_mk hk h2⟩
theorem MapAt.look (h:MapAt w b f) (ht:P.underlying t=some (.map k e)) (hk:P.underlying k=some (.int .i64)) {n:Int} (hn:(Lit.int .i64 n).wf=true) {z:Value} (hz:(zeroValue e).run P w = .ok z w) :
 (Instr.lookup t (.map (some b)) (.int .i64 n) false).run P w = .ok ((f n).getD z) w:=by
 obtain ⟨es,clock,hb,hst,h1,h2⟩:=h;have K:=Maps.int_keyed hk;have hkey:=Maps.keyOf_int_mk hk hn;rcases K.find w hkey es.toList (zqv hk h1) with ⟨g1,g2⟩ | ⟨j,e0,g1,g2,g3⟩
 · have:f n=none:=by
    cases hf:f n with
    | none=>rfl
    | some v =>
      obtain ⟨e1,he1,hek,_⟩:=h2 n v hf;exact absurd hek (g2 e1 he1)
   simp [Instr.lookup,run_underlying ht,MapKept.run_getObj_map hb,K.check w _ hkey,g1,hz,Result.andThen,this]
 obtain ⟨m,hm,_,hfm⟩:=h1 e0 (List.mem_of_getElem? g2)
 rw [g3] at hm;cases hm;simp [Instr.lookup,run_underlying ht,MapKept.run_getObj_map hb,K.check w _ hkey,g1,Result.andThen,hfm]
theorem MapAt.store (h:MapAt w b f) (ht:P.underlying t=some (.map k e)) (hk:P.underlying k=some (.int .i64)) {n:Int} (hn:(Lit.int .i64 n).wf=true) (v:Value) :
 ∃ w',(Instr.mapUpdate t (.map (some b)) (.int .i64 n) v).run P w = .ok () w'/\MapAt w' b (fun m=>if m=n then some v else f m)/\Fr (fun x=>x=b) w w'/\w'.heap.size=w.heap.size:=by
 obtain ⟨es,clock,hb,hst,h1,h2⟩:=h;have K:=Maps.int_keyed hk;have hkey:=Maps.keyOf_int_mk hk hn;have hfr:∀ o,Fr (fun x=>x=b) w (setBlock w b o):=fun o=>⟨rfl,rfl,rfl,by simp [setBlock],fun i _ hi=>heap_setBlock_other hb _ hi⟩;rcases K.find w hkey es.toList (zqv hk h1) with ⟨g1,g2⟩ | ⟨j,e0,g1,g2,g3⟩
 · refine ⟨setBlock w b (.map (es.push ⟨.int .i64 n,v,clock⟩) (clock+1)),?_,⟨_,_,heap_setBlock_same hb _,MapKept.stamped_push hst g2,?_,?_⟩,hfr _,by simp [setBlock]⟩
   · simp [Instr.mapUpdate,run_underlying ht,MapKept.run_getObj_map hb,K.check w false hkey,g1,MapKept.run_setObj_map _ hb,Result.andThen,setBlock]
   · intro x hx
     simp only [Array.toList_push,List.mem_append,List.mem_singleton] at hx;rcases hx with hx | rfl
     · obtain ⟨m,e1,e2,e3⟩:=h1 x hx
       refine ⟨m,e1,e2,?_⟩;dsimp only;rw [if_neg (fun e=>g2 x hx (by rw [e1,e]))];exact e3
     exact ⟨n,rfl,hn,by simp⟩
   intro m u hu
   simp only [Array.toList_push,List.mem_append,List.mem_singleton];by_cases hmn:m=n
   · subst hmn
     simp at hu;subst hu;exact ⟨_,.inr rfl,rfl,rfl⟩
   dsimp only at hu
   rw [if_neg hmn] at hu;obtain ⟨x,hx,hx'⟩:=h2 m u hu;exact ⟨x,.inl hx,hx'⟩
 have hj:es[j]? = some e0:=by simpa using g2
 have hjl:j < es.size:=(Array.getElem?_eq_some_iff.1 hj).1;have hkeyf:∀ e',es[j]? = some e'->({ e' with key:=.int .i64 n,val:=v }:MapEntry).key=e'.key:=fun e' he'=>by rw [hj] at he';cases he';exact g3.symm
 have hnd:es.toList.Pairwise (fun x y=>x.key≠y.key):=((MapKept.stamped_iff _ _).1 hst).2.2
 have hother:∀ i x,es[i]? = some x->i≠j->x.key ≠ .int .i64 n:=by
  intro i x hx hij e1;have hil:=(Array.getElem?_eq_some_iff.1 hx).1;rw [List.pairwise_iff_getElem] at hnd;have ex:es[i] = x:=(Array.getElem?_eq_some_iff.1 hx).2;have e0':es[j] = e0:=(Array.getElem?_eq_some_iff.1 hj).2;rcases Nat.lt_or_gt_of_ne hij with h | h
  · exact hnd i j (by simpa using hil) (by simpa using hjl) h (by simp [ex,e0',e1,g3])
  exact hnd j i (by simpa using hjl) (by simpa using hil) h (by simp [ex,e0',e1,g3])
 refine ⟨setBlock w b (.map (es.modify j (fun e'=>{ e' with key:=.int .i64 n,val:=v })) clock),?_,
  ⟨_,_,heap_setBlock_same hb _,MapKept.stamped_modify hst _ _ (fun _ _=>rfl) (fun e' _ he'=>hkeyf e' he'),?_,?_⟩,hfr _,by simp [setBlock]⟩
 · simp [Instr.mapUpdate,run_underlying ht,MapKept.run_getObj_map hb,K.check w false hkey,g1,hj,g3,K.stays w hkey,MapKept.run_setObj_map _ hb,Result.andThen,setBlock]
 · intro x hx
   obtain ⟨i,hi⟩:=List.getElem?_of_mem hx;have hi':(es.modify j (fun e'=>{ e' with key:=.int .i64 n,val:=v }))[i]? = some x:=(by rw [Array.getElem?_toList] at hi;exact hi);rw [Array.getElem?_modify] at hi';by_cases hji:j=i
   · rw [if_pos hji] at hi'
     obtain ⟨y,hy,rfl⟩:=Option.map_eq_some_iff.1 hi';exact ⟨n,rfl,hn,by simp⟩
   rw [if_neg hji] at hi'
   obtain ⟨m,e1,e2,e3⟩:=h1 x (List.mem_of_getElem? (by simpa using hi'));refine ⟨m,e1,e2,?_⟩;dsimp only;rw [if_neg (fun e=>hother i x hi' (fun e'=>hji e'.symm) (by rw [e1,e]))];exact e3
 intro m u hu
 by_cases hmn:m=n
 · subst hmn
   simp at hu;subst hu;refine ⟨{ e0 with key:=.int .i64 m,val:=v },?_,rfl,rfl⟩;refine List.mem_of_getElem? (i:=j) ?_;have:(es.modify j (fun e'=>{ e' with key:=.int .i64 m,val:=v }))[j]? = some { e0 with key:=.int .i64 m,val:=v }:=(by rw [Array.getElem?_modify,if_pos rfl,hj];rfl);rw [Array.getElem?_toList];exact this
 dsimp only at hu
 rw [if_neg hmn] at hu;obtain ⟨x,hx,hx1,hx2⟩:=h2 m u hu;obtain ⟨i,hi⟩:=List.getElem?_of_mem hx;have hi':es[i]? = some x:=(by simpa using hi)
 have hij:j≠i:=by
  rintro rfl;rw [hj] at hi';cases hi';rw [g3] at hx1;cases hx1;exact hmn rfl
 refine ⟨x,List.mem_of_getElem? (i:=i) ?_,hx1,hx2⟩;have:(es.modify j (fun e'=>{ e' with key:=.int .i64 n,val:=v }))[i]? = some x:=(by rw [Array.getElem?_modify,if_neg hij];exact hi');rw [Array.getElem?_toList];exact this
def mapUpW (P:Program) (t:TypeId) (b:Nat) (n:Int) (v:Value) (w:World):World:=match (Instr.mapUpdate t (.map (some b)) (.int .i64 n) v).run P w with
 | .ok _ w'=>w'
 | .halt _ w'=>w'
theorem MapAt.up (h:MapAt w b f) (ht:P.underlying t=some (.map k e)) (hk:P.underlying k=some (.int .i64)) {n:Int} (hn:(Lit.int .i64 n).wf=true) (v:Value) :
 (Instr.mapUpdate t (.map (some b)) (.int .i64 n) v).run P w = .ok () (mapUpW P t b n v w)/\MapAt (mapUpW P t b n v w) b (fun m=>if m=n then some v else f m)/\Fr (fun x=>x=b) w (mapUpW P t b n v w)/\(mapUpW P t b n v w).heap.size=w.heap.size:=by
 obtain ⟨w',hrun,h1,h2,h3⟩:=h.store ht hk hn v;have e1:mapUpW P t b n v w=w':=by unfold mapUpW;rw [hrun]
 rw [e1];exact ⟨hrun,h1,h2,h3⟩
end
theorem zen {P:Program} {w:World} {ops:Array Oper} {rest:List Oper} {o:Oper} {a:Act} {Q:Exit->Act->World->Prop} (hg:o.guard=none) (m x:Operand) (t:TypeId) (hop:o.op=Op.lookup t m x false)
 (k e:TypeId) (ht:P.underlying t=some (.map k e)) (hk:P.underlying k=some (.int .i64)) (b:Nat) (f:Int->Option Value) (hm:a.eval m = .map (some b)) (h:MapAt w b f) (n:Int) (hx:a.eval x = .int .i64 n)
 (hn:(Lit.int .i64 n).wf=true) (z:Value) (hz:(zeroValue e).run P w = .ok z w) (v:Value) (hv:(f n).getD z=v) (hK:wpList P ops Q rest (a.put o.dst v) w):wpList P ops Q (o :: rest) a w:=by
 refine wpList_plain hg fun K' hK'=>?_;have hrun:=h.look ht hk hn hz;rw [hv] at hrun;unfold Oper.wp;simp [execOp,hop,hm,hx,hrun,Result.andThen];exact hK' _ _ hK
theorem zdn {P:Program} {w:World} {ops:Array Oper} {rest:List Oper} {o:Oper} {a:Act} {Q:Exit->Act->World->Prop} (hg:o.guard=none) (m x v:Operand) (t:TypeId) (hop:o.op=Op.mapUpdate t m x v)
 (k e:TypeId) (ht:P.underlying t=some (.map k e)) (hk:P.underlying k=some (.int .i64)) (b:Nat) (f:Int->Option Value) (hm:a.eval m = .map (some b)) (h:MapAt w b f) (n:Int) (hx:a.eval x = .int .i64 n)
 (hn:(Lit.int .i64 n).wf=true) (u:Value) (hv:a.eval v=u)
 (hK:∀ w',MapAt w' b (fun m=>if m=n then some u else f m)->Fr (fun x=>x=b) w w'->w'.heap.size=w.heap.size->wpList P ops Q rest (a.put o.dst undef) w'):wpList P ops Q (o :: rest) a w:=by
 refine wpList_plain hg fun K' hK'=>?_;obtain ⟨w',hrun,r1,r2,r3⟩:=h.store ht hk hn u;unfold Oper.wp;simp [execOp,hop,hm,hx,hv,hrun,Result.andThen];exact hK' _ _ (hK w' r1 r2 r3)
end Go.Proofs.Ythljnnjpmdgkoaa