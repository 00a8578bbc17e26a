/- Own lemmas. -/
import Derived.Test.YthljnnjpmdgkoaaGreatI16
import Derived.Test.YthljnnjpmdgkoaaGreatI06
import Derived.Deep.DeepCutAuto
import Derived.BigRegion

namespace Go.Proofs.YthljnnjpmdgkoaaGreat
open Go Go.Proofs Go.RowKit
set_option maxRecDepth 100000
def LstP {σ:Type} (C:Cod σ) (w:World) (F:Nat->Prop) (gx:Nat) (ex:TypeId) (cx:List Value) (ox:Nat) (v:Value) {α:Type} (e sz:Nat) (f:α->List Value) (s':σ) (L':List α) (w':World):Prop :=
 ∃ F' v',C.At w' s' F'/\w'.heap[gx]?=some (.cells (cx.set ox v').toArray ex (0,0))/\SlF w' e sz f v' L'/\(∀ b,v'.ownBlock=some b->¬ F' b/\b≠gx/\(v.ownBlock=some b\/w.heap.size<=b)) ∧
  Fr (fun b=>F b\/b=gx\/v.ownBlock=some b) w w'/\(∀ b,F' b->F b\/w.heap.size<=b)
set_option maxHeartbeats 8000000 in
theorem zqw {σ:Type} {C:Cod σ} (K:CodOk C) (w:World) (s:σ) (F:Nat->Prop) (gx:Nat) (ex:TypeId) (cx:List Value) (ox:Nat) (v:Value) (L:List Kv) (gr:Nat) (s':σ) (L':List Kv)
 (hA:C.At w s F) (hgx:w.heap[gx]?=some (.cells cx.toArray ex (0,0))) (hv:cx[ox]?=some v) (nF:¬ F gx) (hL:SlF w 99 6 kvC v L) (hLF:∀ b,v.ownBlock=some b->¬ F b/\b≠gx)
 (hr:Lst C.way (kvS C) kv0 (C.num s L.length).2 gr (C.num s L.length).1 L 0 s' L') (hsm:C.small s') (hle:L.length+gr<=10000000000) :
 Calls Tryz.prog 140 #[.pointer (some ⟨C.c,0,none⟩),.pointer (some ⟨gx,ox,none⟩),.func (.func 141) #[.pointer (some ⟨C.c,0,none⟩)] #[]] w fun en w'=>en=.returned (.tuple #[])/\LstP C w F gx ex cx ox v 99 6 kvC s' L' w':=by
 obtain ⟨J,a,rfl,bK,bL,_⟩:=hL.shape;have bT:=K.enf;have af:=K.cell _ _ _ hA;have c0:=af.cell 0 rfl;have lc:=af.lt;have lg:=zab hgx;have gv:w.cell? ⟨gx,ox,none⟩=some (.slice J L.length a):=cellAt hgx ox (by simpa using hv);have aR:C.small (C.num s L.length).1:=hr.small (fun s x h=>zdr K s x h) hsm;have bg:=K.lt _ _ _ hA;have aQ:¬ F w.heap.size:=fun h=>by have:=bg _ h;omega
 have aP:=zad w (Obj.cells #[.int .i64 L.length] 3) _ rfl;have ae:Fr No w (w.alloc (Obj.cells #[.int .i64 L.length] 3)):=(Fr.refl No w).alloc _;have aE:=K.num (w.alloc (Obj.cells #[.int .i64 L.length] 3)) s F w.heap.size 3 [.int .i64 L.length] 0 L.length (K.at0 hA ae) (by simpa using aP) rfl aQ aR;have an:=H_ aE;have b9:=H_ hgx;have HL:=H_ hL;have ax:=H_ hLF;have HR:=H_ hr;have b7:=H_ ae;have O:=H_ hv;clear aE hgx hL hLF hr hA aP ae aR hv af;go_enter Tryz.func140,Tryz.ntmps140;go_upto_region 2 with (go_at_fn C.nf;refine an.out.mono ?_;rintro en w2 ⟨rfl,F2,a2,g2,f2,n2⟩);have bj:(w.alloc (Obj.cells #[.int .i64 L.length] 3)).heap.size=w.heap.size+1:=by simp
 have e:Fr (fun b=>F b\/b=w.heap.size) w w2:=(b7.out.mono fun _ _ h=>h.elim).trans f2 fun _ _ h=>h
 have aJ:w2.heap[gx]?=some (.cells (cx.set ox (.slice J L.length a)).toArray ex (0,0)):=by
  have h1:=e.heap b9.out (by rintro (h | h);exact nF h;omega)
  have d:cx.set ox (.slice J L.length a)=cx:=by
   apply List.ext_getElem?;intro j;by_cases hj:ox=j
   · subst hj
     have:=(List.getElem?_eq_some_iff.1 O.out).1;rw [List.getElem?_set_self this,O.out]
   rw [List.getElem?_set_ne hj]
  rw [d];exact h1
 have au:=H_ aJ;have X:Hid (w2.heap[w.heap.size]?=some (.cells #[.int .i64 (C.num s L.length).2] 3 (0,0))):=H_ (by simpa using g2);have am:=H_ a2
 have V:Hid (Fr (fun b=>F b\/b=gx\/(Value.slice J L.length a).ownBlock=some b) w w2):=H_ ⟨e.os,e.tape,e.output,e.size,fun b hb hn=>e.block b hb (by
  rintro (h | h)
  · exact hn (.inl h)
  omega)⟩
 have aw:=H_ (HL.out.fr e fun b hb=>by
  have:=HL.out.lt b hb;rintro (h | h)
  · exact (ax.out b hb).1 h
  omega)
 have Z:∀ b,F2 b->F b\/w.heap.size+1<=b:=fun b hb=>by
  have:=n2 b hb;rw [bj] at this;exact this
 have n:=H_ Z;clear aJ g2 a2 f2 n2 e Z an;generalize c3:(C.num s L.length).2=n' at *;generalize (C.num s L.length).1=s1 at *;go_wp2_with fail
 go_loopg [7] gr (fun g s7 wr=>∃ (i:Nat) (si:σ) (m:List Kv) (y:Nat->Prop) (vi:Value),s7=.int .i64 i/\i<=m.length/\m.length+g<=10000000000/\Hid (Lst C.way (kvS C) kv0 n' g si m i s' L')/\Hid (C.At wr si y)/\Hid (wr.heap[gx]?=some (.cells (cx.set ox vi).toArray ex (0,0))) ∧
  Hid (SlF wr 99 6 kvC vi m)/\Hid (∀ b,vi.ownBlock=some b->¬ y b/\b≠gx/\b≠w.heap.size/\((Value.slice J L.length a).ownBlock=some b\/w.heap.size<=b))/\Hid (wr.heap[w.heap.size]?=some (.cells #[.int .i64 n'] 3 (0,0)))/\Hid (¬ y w.heap.size/\¬ y gx) ∧
  Hid (Fr (fun b=>F b\/b=gx\/(Value.slice J L.length a).ownBlock=some b) w wr)/\Hid (∀ b,y b->F b\/w.heap.size<=b))
 case atStart =>
  refine ⟨0,s1,L,F2,.slice J L.length a,rfl,by omega,by omega,HR,am,au,aw,H_ (fun b hb=>?_),X,H_ ⟨fun h=>?_,fun h=>?_⟩,V,H_ fun b hb=>?_⟩
  · have h1:=ax.out b hb
    have d:=HL.out.lt b hb;refine ⟨fun h=>?_,h1.2,by omega,.inl hb⟩;rcases n.out b h with h | h
    · exact h1.1 h
    omega
  · rcases n.out _ h with h | h
    · exact aQ h
    omega
  · rcases n.out _ h with h | h
    · exact nF h
    omega
  rcases n.out b hb with h | h
  · exact .inl h
  exact .inr (by omega)
 case round =>
  clear HR am au aw X V n c0 gv;obtain ⟨i,si,m,y,vi,rfl,bX,bY,W,z,t,G,l,N,D,HF,a9⟩:=hrel;have hk:=K.cell _ _ _ z.out;have c2:=hk.cell 2 rfl;have c5:=hk.lt;have c8:=zab t.out;have c9:=zab N.out;have n0:wr.cell? ⟨w.heap.size,0,none⟩=some (.int .i64 n'):=cellAt N.out 0 rfl;clear hk
  cases gk with
  | zero =>
    have hl:=W.out
    cases hl with
    | stop _ _ _ hcond =>
      have U:Hid (LstP C w F gx ex cx ox (.slice J L.length a) 99 6 kvC s' L' wr):=H_ ⟨y,vi,z.out,t.out,G.out,fun b hb=>⟨(l.out b hb).1,(l.out b hb).2.1,(l.out b hb).2.2.2⟩,HF.out,a9.out⟩;by_cases hlt:(i:Int)<n'
      · have o:C.bad s'=true:=by
         cases h:C.bad s' with
         | true=>rfl
         | false=>exact absurd ⟨hlt,h⟩ hcond
        rw [o] at c2;have hd:decide ((i:Int)<n')=true:=decide_eq_true hlt;clear hcond o;go_wp2_with fail;refine bodyPost_end (results_none rfl _ _ _) rfl ⟨rfl,U.out⟩
      have hd:decide ((i:Int)<n')=false:=decide_eq_false hlt
      clear hcond;go_wp2_with fail;refine bodyPost_end (results_none rfl _ _ _) rfl ⟨rfl,U.out⟩
  | succ g =>
    have hl:=W.out
    cases hl with
    | step _ _ _ L1 _ x _ _ hcond hL1 hx hrest =>
      have hd:decide ((i:Int)<n')=true:=decide_eq_true hcond.1;have o:C.bad si=false:=hcond.2;rw [o] at c2;obtain ⟨ia,q,rfl,bC,bD,_⟩:=G.out.shape
      have gv:wr.cell? ⟨gx,ox,none⟩=some (.slice ia m.length q):=cellAt t.out ox (by
       have:=(List.getElem?_eq_some_iff.1 O.out).1;rw [List.getElem?_toArray,List.getElem?_set_self this])
      have gz:wr.frozen? ⟨gx,ox,none⟩=false:=(by unfold World.frozen?;rw [t.out];rfl);have E:=H_ hrest;have aC:=H_ hx;have ab:=H_ hL1;clear hcond o hL1 hx hrest;go_upto_if 35 with fail
      go_cut [7] (fun s7 wx=>s7=.int .i64 i/\∃ v1,Hid (C.At wx si y)/\Hid (wx.heap[gx]?=some (.cells (cx.set ox v1).toArray ex (0,0)))/\Hid (SlF wx 99 6 kvC v1 L1)/\Hid (∀ b,v1.ownBlock=some b->¬ y b/\b≠gx/\b≠w.heap.size/\((Value.slice J L.length a).ownBlock=some b\/w.heap.size<=b))/\Hid (wx.heap[w.heap.size]?=some (.cells #[.int .i64 n'] 3 (0,0))) ∧
       Hid (Fr (fun b=>F b\/b=gx\/(Value.slice J L.length a).ownBlock=some b) w wx)/\wr.heap.size<=wx.heap.size)
      case first =>
       by_cases hnew:i=m.length
       · have he:((i:Int)==(m.length:Int))=true:=by rw [hnew];exact beq_self_eq_true _
         have az:=H_ hnew;clear hnew;go_upto_region 7 with fail;have ai:=zad wr (Obj.cells #[.string ⟨#[]⟩,.string ⟨#[]⟩,.int .i64 0,.int .i64 0,.int .i64 0,.int .i64 0] 99) _ rfl;have H:Fr No wr (wr.alloc (Obj.cells #[.string ⟨#[]⟩,.string ⟨#[]⟩,.int .i64 0,.int .i64 0,.int .i64 0,.int .i64 0] 99)):=(Fr.refl No wr).alloc _;generalize wr.alloc (Obj.cells #[.string ⟨#[]⟩,.string ⟨#[]⟩,.int .i64 0,.int .i64 0,.int .i64 0,.int .i64 0] 99)=W5 at *;generalize aT:wr.heap.size=zb at *;obtain ⟨r0,r1,r2,r3,r4,r5⟩:=cells6 ai;have ca:=zab ai;have ad:=H.cell0 gv;have bf:=H.free0 gv gz;have c7:=World.block_lt_of_cell? _ _ ad;have ag:(Value.slice ia m.length q).ownBlock≠some gx:=fun h=>(l.out gx h).2.1 rfl;obtain ⟨i0,aM,bk,aU,aV⟩:=info_parts info57
         have ah:=zbb W5.drew [.string ⟨#[]⟩,.string ⟨#[]⟩,.int .i64 0,.int .i64 0,.int .i64 0,.int .i64 0] 99 (0,0);have aa:=H_ H;have aA:=H_ (G.out.fr0 H);have bc:=H_ ag;have be:=H_ aT;clear ai H aT gv gz
         go_region_law (refine zck rfl _ _ 27 rfl 99 i0 _ 6 64 Tryz.underlying27 aM bk aU aV rfl (by decide) _ m rfl (aA.out.fr0 ((Fr.refl No W5).drew.alloc _)) W5.heap.size 1 kv0 rfl ah rfl (zzap _) (by unfold maxLen;omega) (by omega) ?_;intro M o' cap w6 aS aK aG bG;have Q:Fr (fun k=>(Value.slice ia m.length q).ownBlock=some k) W5 w6:=((Fr.refl _ W5).drew.alloc _).grown aK (fun k hk=>.inl hk);have e6:=Q.cell ad ag;have bS:=Q.free ad bf ag;have bd:=H_ aS;have b4:=H_ aG;have ar:=H_ Q;clear aS aK aG Q)
         all_goals
          go_wp2;go_meet
          case rel =>
           have bJ:=aa.out.size;have bM:=be.out;have bH:=G.out.lt
           have I:M≠gx/\M≠w.heap.size/\¬ y M/\((Value.slice J L.length a).ownBlock=some M\/w.heap.size<=M):=by
            rcases b4.out with h | h
            · have d:=l.out M h
              exact ⟨d.2.1,d.2.2.1,d.1,d.2.2.2⟩
            have h':M=W5.heap.size+1:=by simpa using h
            have hl:=K.lt _ _ _ z.out;exact ⟨by omega,by omega,fun d=>by have:=hl _ d;omega,.inr (by omega)⟩
           have R:Fr (fun b=>(Value.slice ia m.length q).ownBlock=some b\/b=gx) wr (w6.setCell ⟨gx,ox,none⟩ (.slice (some ⟨M,o',none⟩) (m.length+1) cap)) :=
            (((aa.out.mono fun _ _ h=>h.elim).trans ar.out fun _ _ h=>h).mono fun _ _ h=>.inl h).setCell (p:=⟨gx,ox,none⟩) (.inl (.inr rfl)) _
           have aL:w6.heap[gx]?=some (.cells (cx.set ox (.slice ia m.length q)).toArray ex (0,0)):=ar.out.heap (aa.out.heap t.out id) bc.out;refine ⟨rfl,.slice (some ⟨M,o',none⟩) (m.length+1) cap,H_ (K.fr _ _ _ _ _ z.out R fun b hb=>?_),H_ ?_,H_ ?_,H_ (fun b hb=>?_),H_ ?_,H_ ?_,?_⟩
           · rcases hb with h | rfl
             · exact (l.out b h).1
             exact D.out.2
           · rw [zaa aL]
             simp
           · have r:L1=m++[kv0]:=by rw [ab.out,if_pos az.out]
             rw [r];exact bd.out.other ⟨gx,ox,none⟩ _ (by simp [Value.ownBlock];exact I.1)
           · obtain rfl:M=b:=by simpa [Value.ownBlock] using hb
             exact ⟨I.2.2.1,I.1,I.2.1,I.2.2.2⟩
           · exact R.heap N.out (by
              rintro (h | h)
              · exact (l.out _ h).2.2.1 rfl
              omega)
           · refine HF.out.trans R fun b _ h=>?_
             rcases h with h | h
             · rcases (l.out b h).2.2.2 with d | d
               · exact .inr (.inr d)
               omega
             exact .inr (.inl h)
           have:=R.size
           omega
       have he:((i:Int)==(m.length:Int))=false:=beq_eq_false_iff_ne.2 (by omega)
       have r:L1=m:=(by rw [ab.out,if_neg hnew]);have av:=H_ r;clear r hnew;go_wp2_with fail;go_meet
       case rel=>exact ⟨rfl,_,z,t,H_ (by rw [av.out];exact G.out),l,N,HF,Nat.le_refl _⟩
      case rest =>
       obtain ⟨rfl,v1,T,A,Y,aB,ay,aq,bI⟩:=hcut;have bh:i<L1.length:=(List.getElem?_eq_some_iff.1 aC.out).1;have bz:L1.length<=m.length+1:=(by rw [ab.out];split <;> simp);obtain ⟨ja,a6,rfl,bE,bF,bi⟩:=Y.out.shape;obtain ⟨B,oB,rfl⟩:=bi (by omega);obtain ⟨cs,P,aH,aI,a0,a1,a3⟩:=Y.out.row zak
       have bU:wc.cell? ⟨gx,ox,none⟩=some (.slice (some ⟨B,oB,none⟩) L1.length a6):=cellAt A.out ox (by
        have:=(List.getElem?_eq_some_iff.1 O.out).1;rw [List.getElem?_toArray,List.getElem?_set_self this])
       have c6:=zab A.out;have lB:=zab P;have aj:=aB.out B rfl;have a4:C.small (kvS C si x).1:=E.out.small (fun s x h=>zdr K s x h) hsm;have aF:=zhe K wc si y B 99 cs (oB+i * 6) x T.out P (fun j u hu=>a3 i x aC.out j u hu) aj.1 a4;have b5:=H_ aF;have f:=H_ aj;have bQ:=H_ P;have ao:=H_ a0;have ap:=H_ a1;have bZ:(i:Int)<(L1.length:Int):=(by omega);have aM:0<=(i:Int):=(by omega);clear aF aj P a1 a3 a0 a4;go_wp2_with (go_at_call 141;refine b5.out.mono ?_;rintro en w5 ⟨rfl,F5,a5,g5,f5,n5⟩);have b3:=H_ a5;have b8:=H_ g5;have a8:=H_ f5;have bb:=H_ n5;clear a5 g5 f5 n5;go_roundg g
       case rel =>
        have c1:=K.lt _ _ _ T.out;have bW:=aq.out.size;have S:∀ b,F5 b->y b\/wc.heap.size<=b:=bb.out;refine ⟨i+1,_,L1.set i _,F5,.slice (some ⟨B,oB,none⟩) L1.length a6,by go_num,by rw [List.length_set];omega,by rw [List.length_set];omega,E,b3,H_ ?_,H_ ?_,H_ (fun b hb=>?_),H_ ?_,H_ ⟨fun h=>?_,fun h=>?_⟩,H_ ?_,H_ fun b hb=>?_⟩
        · exact a8.out.heap A.out (by
           rintro (h | h)
           · exact D.out.2 h
           exact f.out.2.1 h.symm)
        · exact SlF.laidAt zak aH aI ao.out ap.out bh _ b8.out
        · obtain rfl:B=b:=by simpa [Value.ownBlock] using hb
          refine ⟨fun h=>?_,f.out.2.1,f.out.2.2.1,f.out.2.2.2⟩;rcases S _ h with d | d
          · exact f.out.1 d
          omega
        · exact a8.out.heap ay.out (by
           rintro (h | h)
           · exact D.out.1 h
           exact f.out.2.2.1 h.symm)
        · rcases S _ h with d | d
          · exact D.out.1 d
          omega
        · rcases S _ h with d | d
          · exact D.out.2 d
          omega
        · refine aq.out.trans a8.out fun b hb h=>?_
          rcases h with h | h
          · rcases a9.out b h with d | d
            · exact .inl d
            omega
          subst h
          rcases f.out.2.2.2 with d | d
          · exact .inr (.inr d)
          omega
        rcases S _ hb with d | d
        · exact a9.out b d
        exact .inr (by omega)
       case measure=>omega
theorem zzav (y:Ev):∀ u∈evC y,u.oneCell'=true:=by intro u a;simp [evC,kvC] at a;rcases a with rfl | rfl | rfl | rfl | rfl | rfl | rfl | rfl | rfl | rfl | rfl | rfl | rfl <;> rfl
set_option maxHeartbeats 8000000 in
theorem zqx {σ:Type} {C:Cod σ} (K:CodOk C) (w:World) (s:σ) (F:Nat->Prop) (gx:Nat) (ex:TypeId) (cx:List Value) (ox:Nat) (v:Value) (L:List Ev) (gr:Nat) (s':σ) (L':List Ev)
 (hA:C.At w s F) (hgx:w.heap[gx]?=some (.cells cx.toArray ex (0,0))) (hv:cx[ox]?=some v) (nF:¬ F gx) (hL:SlF w 101 13 evC v L) (hLF:∀ b,v.ownBlock=some b->¬ F b/\b≠gx)
 (hr:Lst C.way (evS C) ⟨0,kv0,kv0⟩ (C.num s L.length).2 gr (C.num s L.length).1 L 0 s' L') (hsm:C.small s') (hle:L.length+gr<=10000000000) :
 Calls Tryz.prog 142 #[.pointer (some ⟨C.c,0,none⟩),.pointer (some ⟨gx,ox,none⟩),.func (.func 143) #[.pointer (some ⟨C.c,0,none⟩)] #[]] w fun en w'=>en=.returned (.tuple #[])/\LstP C w F gx ex cx ox v 101 13 evC s' L' w':=by
 obtain ⟨J,a,rfl,bK,bL,_⟩:=hL.shape;have bT:=K.enf;have af:=K.cell _ _ _ hA;have c0:=af.cell 0 rfl;have lc:=af.lt;have lg:=zab hgx;have gv:w.cell? ⟨gx,ox,none⟩=some (.slice J L.length a):=cellAt hgx ox (by simpa using hv);have aR:C.small (C.num s L.length).1:=hr.small (fun s x h=>zla K s x h) hsm;have bg:=K.lt _ _ _ hA;have aQ:¬ F w.heap.size:=fun h=>by have:=bg _ h;omega
 have aP:=zad w (Obj.cells #[.int .i64 L.length] 3) _ rfl;have ae:Fr No w (w.alloc (Obj.cells #[.int .i64 L.length] 3)):=(Fr.refl No w).alloc _;have aE:=K.num (w.alloc (Obj.cells #[.int .i64 L.length] 3)) s F w.heap.size 3 [.int .i64 L.length] 0 L.length (K.at0 hA ae) (by simpa using aP) rfl aQ aR;have an:=H_ aE;have b9:=H_ hgx;have HL:=H_ hL;have ax:=H_ hLF;have HR:=H_ hr;have b7:=H_ ae;have O:=H_ hv;clear aE hgx hL hLF hr hA aP ae aR hv af;go_enter Tryz.func142,Tryz.ntmps142;go_upto_region 2 with (go_at_fn C.nf;refine an.out.mono ?_;rintro en w2 ⟨rfl,F2,a2,g2,f2,n2⟩);have bj:(w.alloc (Obj.cells #[.int .i64 L.length] 3)).heap.size=w.heap.size+1:=by simp
 have e:Fr (fun b=>F b\/b=w.heap.size) w w2:=(b7.out.mono fun _ _ h=>h.elim).trans f2 fun _ _ h=>h
 have aJ:w2.heap[gx]?=some (.cells (cx.set ox (.slice J L.length a)).toArray ex (0,0)):=by
  have h1:=e.heap b9.out (by rintro (h | h);exact nF h;omega)
  have d:cx.set ox (.slice J L.length a)=cx:=by
   apply List.ext_getElem?;intro j;by_cases hj:ox=j
   · subst hj
     have:=(List.getElem?_eq_some_iff.1 O.out).1;rw [List.getElem?_set_self this,O.out]
   rw [List.getElem?_set_ne hj]
  rw [d];exact h1
 have au:=H_ aJ;have X:Hid (w2.heap[w.heap.size]?=some (.cells #[.int .i64 (C.num s L.length).2] 3 (0,0))):=H_ (by simpa using g2);have am:=H_ a2
 have V:Hid (Fr (fun b=>F b\/b=gx\/(Value.slice J L.length a).ownBlock=some b) w w2):=H_ ⟨e.os,e.tape,e.output,e.size,fun b hb hn=>e.block b hb (by
  rintro (h | h)
  · exact hn (.inl h)
  omega)⟩
 have aw:=H_ (HL.out.fr e fun b hb=>by
  have:=HL.out.lt b hb;rintro (h | h)
  · exact (ax.out b hb).1 h
  omega)
 have Z:∀ b,F2 b->F b\/w.heap.size+1<=b:=fun b hb=>by
  have:=n2 b hb;rw [bj] at this;exact this
 have n:=H_ Z;clear aJ g2 a2 f2 n2 e Z an;generalize c3:(C.num s L.length).2=n' at *;generalize (C.num s L.length).1=s1 at *;go_wp2_with fail
 go_loopg [7] gr (fun g s7 wr=>∃ (i:Nat) (si:σ) (m:List Ev) (y:Nat->Prop) (vi:Value),s7=.int .i64 i/\i<=m.length/\m.length+g<=10000000000/\Hid (Lst C.way (evS C) ⟨0,kv0,kv0⟩ n' g si m i s' L')/\Hid (C.At wr si y)/\Hid (wr.heap[gx]?=some (.cells (cx.set ox vi).toArray ex (0,0))) ∧
  Hid (SlF wr 101 13 evC vi m)/\Hid (∀ b,vi.ownBlock=some b->¬ y b/\b≠gx/\b≠w.heap.size/\((Value.slice J L.length a).ownBlock=some b\/w.heap.size<=b))/\Hid (wr.heap[w.heap.size]?=some (.cells #[.int .i64 n'] 3 (0,0)))/\Hid (¬ y w.heap.size/\¬ y gx) ∧
  Hid (Fr (fun b=>F b\/b=gx\/(Value.slice J L.length a).ownBlock=some b) w wr)/\Hid (∀ b,y b->F b\/w.heap.size<=b))
 case atStart =>
  refine ⟨0,s1,L,F2,.slice J L.length a,rfl,by omega,by omega,HR,am,au,aw,H_ (fun b hb=>?_),X,H_ ⟨fun h=>?_,fun h=>?_⟩,V,H_ fun b hb=>?_⟩
  · have h1:=ax.out b hb
    have d:=HL.out.lt b hb;refine ⟨fun h=>?_,h1.2,by omega,.inl hb⟩;rcases n.out b h with h | h
    · exact h1.1 h
    omega
  · rcases n.out _ h with h | h
    · exact aQ h
    omega
  · rcases n.out _ h with h | h
    · exact nF h
    omega
  rcases n.out b hb with h | h
  · exact .inl h
  exact .inr (by omega)
 case round =>
  clear HR am au aw X V n c0 gv;obtain ⟨i,si,m,y,vi,rfl,bX,bY,W,z,t,G,l,N,D,HF,a9⟩:=hrel;have hk:=K.cell _ _ _ z.out;have c2:=hk.cell 2 rfl;have c5:=hk.lt;have c8:=zab t.out;have c9:=zab N.out;have n0:wr.cell? ⟨w.heap.size,0,none⟩=some (.int .i64 n'):=cellAt N.out 0 rfl;clear hk
  cases gk with
  | zero =>
    have hl:=W.out
    cases hl with
    | stop _ _ _ hcond =>
      have U:Hid (LstP C w F gx ex cx ox (.slice J L.length a) 101 13 evC s' L' wr):=H_ ⟨y,vi,z.out,t.out,G.out,fun b hb=>⟨(l.out b hb).1,(l.out b hb).2.1,(l.out b hb).2.2.2⟩,HF.out,a9.out⟩;by_cases hlt:(i:Int)<n'
      · have o:C.bad s'=true:=by
         cases h:C.bad s' with
         | true=>rfl
         | false=>exact absurd ⟨hlt,h⟩ hcond
        rw [o] at c2;have hd:decide ((i:Int)<n')=true:=decide_eq_true hlt;clear hcond o;go_wp2_with fail;refine bodyPost_end (results_none rfl _ _ _) rfl ⟨rfl,U.out⟩
      have hd:decide ((i:Int)<n')=false:=decide_eq_false hlt
      clear hcond;go_wp2_with fail;refine bodyPost_end (results_none rfl _ _ _) rfl ⟨rfl,U.out⟩
  | succ g =>
    have hl:=W.out
    cases hl with
    | step _ _ _ L1 _ x _ _ hcond hL1 hx hrest =>
      have hd:decide ((i:Int)<n')=true:=decide_eq_true hcond.1;have o:C.bad si=false:=hcond.2;rw [o] at c2;obtain ⟨ia,q,rfl,bC,bD,_⟩:=G.out.shape
      have gv:wr.cell? ⟨gx,ox,none⟩=some (.slice ia m.length q):=cellAt t.out ox (by
       have:=(List.getElem?_eq_some_iff.1 O.out).1;rw [List.getElem?_toArray,List.getElem?_set_self this])
      have gz:wr.frozen? ⟨gx,ox,none⟩=false:=(by unfold World.frozen?;rw [t.out];rfl);have E:=H_ hrest;have aC:=H_ hx;have ab:=H_ hL1;clear hcond o hL1 hx hrest;go_upto_if 35 with fail
      go_cut [7] (fun s7 wx=>s7=.int .i64 i/\∃ v1,Hid (C.At wx si y)/\Hid (wx.heap[gx]?=some (.cells (cx.set ox v1).toArray ex (0,0)))/\Hid (SlF wx 101 13 evC v1 L1)/\Hid (∀ b,v1.ownBlock=some b->¬ y b/\b≠gx/\b≠w.heap.size/\((Value.slice J L.length a).ownBlock=some b\/w.heap.size<=b))/\Hid (wx.heap[w.heap.size]?=some (.cells #[.int .i64 n'] 3 (0,0))) ∧
       Hid (Fr (fun b=>F b\/b=gx\/(Value.slice J L.length a).ownBlock=some b) w wx)/\wr.heap.size<=wx.heap.size)
      case first =>
       by_cases hnew:i=m.length
       · have he:((i:Int)==(m.length:Int))=true:=by rw [hnew];exact beq_self_eq_true _
         have az:=H_ hnew;clear hnew;go_upto_region 7 with fail;have ai:=zad wr (Obj.cells #[.int .i64 0,.string ⟨#[]⟩,.string ⟨#[]⟩,.int .i64 0,.int .i64 0,.int .i64 0,.int .i64 0,.string ⟨#[]⟩,.string ⟨#[]⟩,.int .i64 0,.int .i64 0,.int .i64 0,.int .i64 0] 101) _ rfl;have H:Fr No wr (wr.alloc (Obj.cells #[.int .i64 0,.string ⟨#[]⟩,.string ⟨#[]⟩,.int .i64 0,.int .i64 0,.int .i64 0,.int .i64 0,.string ⟨#[]⟩,.string ⟨#[]⟩,.int .i64 0,.int .i64 0,.int .i64 0,.int .i64 0] 101)):=(Fr.refl No wr).alloc _;generalize wr.alloc (Obj.cells #[.int .i64 0,.string ⟨#[]⟩,.string ⟨#[]⟩,.int .i64 0,.int .i64 0,.int .i64 0,.int .i64 0,.string ⟨#[]⟩,.string ⟨#[]⟩,.int .i64 0,.int .i64 0,.int .i64 0,.int .i64 0] 101)=W5 at *;generalize aT:wr.heap.size=zb at *;obtain ⟨r0,r1,r2,r3,r4,r5,r6,r7,r8,r9,cb,cc,cd⟩:=cells13 ai
         have ca:=zab ai;have ad:=H.cell0 gv;have bf:=H.free0 gv gz;have c7:=World.block_lt_of_cell? _ _ ad;have ag:(Value.slice ia m.length q).ownBlock≠some gx:=fun h=>(l.out gx h).2.1 rfl;obtain ⟨i0,aM,bk,aU,aV⟩:=info_parts info73;have ah:=zbb W5.drew [.int .i64 0,.string ⟨#[]⟩,.string ⟨#[]⟩,.int .i64 0,.int .i64 0,.int .i64 0,.int .i64 0,.string ⟨#[]⟩,.string ⟨#[]⟩,.int .i64 0,.int .i64 0,.int .i64 0,.int .i64 0] 101 (0,0);have aa:=H_ H;have aA:=H_ (G.out.fr0 H);have bc:=H_ ag;have be:=H_ aT;clear ai H aT gv gz
         go_region_law (refine zck rfl _ _ 28 rfl 101 i0 _ 13 136 Tryz.underlying28 aM bk aU aV rfl (by decide) _ m rfl (aA.out.fr0 ((Fr.refl No W5).drew.alloc _)) W5.heap.size 1 ⟨0,kv0,kv0⟩ rfl ah rfl (zzav _) (by unfold maxLen;omega) (by omega) ?_;intro M o' cap w6 aS aK aG bG;have Q:Fr (fun k=>(Value.slice ia m.length q).ownBlock=some k) W5 w6:=((Fr.refl _ W5).drew.alloc _).grown aK (fun k hk=>.inl hk);have e6:=Q.cell ad ag;have bS:=Q.free ad bf ag;have bd:=H_ aS;have b4:=H_ aG;have ar:=H_ Q;clear aS aK aG Q)
         all_goals
          go_wp2;go_meet
          case rel =>
           have bJ:=aa.out.size;have bM:=be.out;have bH:=G.out.lt
           have I:M≠gx/\M≠w.heap.size/\¬ y M/\((Value.slice J L.length a).ownBlock=some M\/w.heap.size<=M):=by
            rcases b4.out with h | h
            · have d:=l.out M h
              exact ⟨d.2.1,d.2.2.1,d.1,d.2.2.2⟩
            have h':M=W5.heap.size+1:=by simpa using h
            have hl:=K.lt _ _ _ z.out;exact ⟨by omega,by omega,fun d=>by have:=hl _ d;omega,.inr (by omega)⟩
           have R:Fr (fun b=>(Value.slice ia m.length q).ownBlock=some b\/b=gx) wr (w6.setCell ⟨gx,ox,none⟩ (.slice (some ⟨M,o',none⟩) (m.length+1) cap)) :=
            (((aa.out.mono fun _ _ h=>h.elim).trans ar.out fun _ _ h=>h).mono fun _ _ h=>.inl h).setCell (p:=⟨gx,ox,none⟩) (.inl (.inr rfl)) _
           have aL:w6.heap[gx]?=some (.cells (cx.set ox (.slice ia m.length q)).toArray ex (0,0)):=ar.out.heap (aa.out.heap t.out id) bc.out;refine ⟨rfl,.slice (some ⟨M,o',none⟩) (m.length+1) cap,H_ (K.fr _ _ _ _ _ z.out R fun b hb=>?_),H_ ?_,H_ ?_,H_ (fun b hb=>?_),H_ ?_,H_ ?_,?_⟩
           · rcases hb with h | rfl
             · exact (l.out b h).1
             exact D.out.2
           · rw [zaa aL]
             simp
           · have r:L1=m++[⟨0,kv0,kv0⟩]:=by rw [ab.out,if_pos az.out]
             rw [r];exact bd.out.other ⟨gx,ox,none⟩ _ (by simp [Value.ownBlock];exact I.1)
           · obtain rfl:M=b:=by simpa [Value.ownBlock] using hb
             exact ⟨I.2.2.1,I.1,I.2.1,I.2.2.2⟩
           · exact R.heap N.out (by
              rintro (h | h)
              · exact (l.out _ h).2.2.1 rfl
              omega)
           · refine HF.out.trans R fun b _ h=>?_
             rcases h with h | h
             · rcases (l.out b h).2.2.2 with d | d
               · exact .inr (.inr d)
               omega
             exact .inr (.inl h)
           have:=R.size
           omega
       have he:((i:Int)==(m.length:Int))=false:=beq_eq_false_iff_ne.2 (by omega)
       have r:L1=m:=(by rw [ab.out,if_neg hnew]);have av:=H_ r;clear r hnew;go_wp2_with fail;go_meet
       case rel=>exact ⟨rfl,_,z,t,H_ (by rw [av.out];exact G.out),l,N,HF,Nat.le_refl _⟩
      case rest =>
       obtain ⟨rfl,v1,T,A,Y,aB,ay,aq,bI⟩:=hcut;have bh:i<L1.length:=(List.getElem?_eq_some_iff.1 aC.out).1;have bz:L1.length<=m.length+1:=(by rw [ab.out];split <;> simp);obtain ⟨ja,a6,rfl,bE,bF,bi⟩:=Y.out.shape;obtain ⟨B,oB,rfl⟩:=bi (by omega);obtain ⟨cs,P,aH,aI,a0,a1,a3⟩:=Y.out.row zac
       have bU:wc.cell? ⟨gx,ox,none⟩=some (.slice (some ⟨B,oB,none⟩) L1.length a6):=cellAt A.out ox (by
        have:=(List.getElem?_eq_some_iff.1 O.out).1;rw [List.getElem?_toArray,List.getElem?_set_self this])
       have c6:=zab A.out;have lB:=zab P;have aj:=aB.out B rfl;have a4:C.small (evS C si x).1:=E.out.small (fun s x h=>zla K s x h) hsm;have aF:=zrz K wc si y B 101 cs (oB+i * 13) x T.out P (fun j u hu=>a3 i x aC.out j u hu) aj.1 a4;have b5:=H_ aF;have f:=H_ aj;have bQ:=H_ P;have ao:=H_ a0;have ap:=H_ a1;have bZ:(i:Int)<(L1.length:Int):=(by omega);have aM:0<=(i:Int):=(by omega);clear aF aj P a1 a3 a0 a4;go_wp2_with (go_at_call 143;refine b5.out.mono ?_;rintro en w5 ⟨rfl,F5,a5,g5,f5,n5⟩);have b3:=H_ a5;have b8:=H_ g5;have a8:=H_ f5;have bb:=H_ n5;clear a5 g5 f5 n5;go_roundg g
       case rel =>
        have c1:=K.lt _ _ _ T.out;have bW:=aq.out.size;have S:∀ b,F5 b->y b\/wc.heap.size<=b:=bb.out;refine ⟨i+1,_,L1.set i _,F5,.slice (some ⟨B,oB,none⟩) L1.length a6,by go_num,by rw [List.length_set];omega,by rw [List.length_set];omega,E,b3,H_ ?_,H_ ?_,H_ (fun b hb=>?_),H_ ?_,H_ ⟨fun h=>?_,fun h=>?_⟩,H_ ?_,H_ fun b hb=>?_⟩
        · exact a8.out.heap A.out (by
           rintro (h | h)
           · exact D.out.2 h
           exact f.out.2.1 h.symm)
        · exact SlF.laidAt zac aH aI ao.out ap.out bh _ b8.out
        · obtain rfl:B=b:=by simpa [Value.ownBlock] using hb
          refine ⟨fun h=>?_,f.out.2.1,f.out.2.2.1,f.out.2.2.2⟩;rcases S _ h with d | d
          · exact f.out.1 d
          omega
        · exact a8.out.heap ay.out (by
           rintro (h | h)
           · exact D.out.1 h
           exact f.out.2.2.1 h.symm)
        · rcases S _ h with d | d
          · exact D.out.1 d
          omega
        · rcases S _ h with d | d
          · exact D.out.2 d
          omega
        · refine aq.out.trans a8.out fun b hb h=>?_
          rcases h with h | h
          · rcases a9.out b h with d | d
            · exact .inl d
            omega
          subst h
          rcases f.out.2.2.2 with d | d
          · exact .inr (.inr d)
          omega
        rcases S _ hb with d | d
        · exact a9.out b d
        exact .inr (by omega)
       case measure=>omega
def StP {σ:Type} (C:Cod σ) (w:World) (F:Nat->Prop) (gx:Nat) (ex:TypeId) (vk ve:Value) (s':σ) (rev' mark':Int) (kvs':List Kv) (evs':List Ev) (w':World):Prop :=
 ∃ F' vk' ve',C.At w' s' F'/\w'.heap[gx]?=some (.cells #[.int .i64 rev',.int .i64 mark',vk',ve'] ex (0,0))/\SlF w' 99 6 kvC vk' kvs'/\SlF w' 101 13 evC ve' evs' ∧
  Fr (fun b=>F b\/b=gx\/vk.ownBlock=some b\/ve.ownBlock=some b) w w'/\(∀ b,F' b->F b\/w.heap.size<=b) ∧
  (∀ b,vk'.ownBlock=some b->vk.ownBlock=some b\/w.heap.size<=b)/\(∀ b,ve'.ownBlock=some b->ve.ownBlock=some b\/w.heap.size<=b)
set_option maxHeartbeats 8000000 in
theorem zgr {σ:Type} {C:Cod σ} (K:CodOk C) (w:World) (s:σ) (F:Nat->Prop) (gx:Nat) (ex:TypeId) (rev mark:Int) (vk ve:Value) (kvs:List Kv) (evs:List Ev) (gr kr:Nat) (s':σ) (rev' mark':Int) (kvs':List Kv) (evs':List Ev)
 (hA:C.At w s F) (hgx:w.heap[gx]?=some (.cells #[.int .i64 rev,.int .i64 mark,vk,ve] ex (0,0))) (nF:¬ F gx) (hk:SlF w 99 6 kvC vk kvs) (he:SlF w 101 13 evC ve evs) (hkF:∀ b,vk.ownBlock=some b->¬ F b/\b≠gx) (heF:∀ b,ve.ownBlock=some b->¬ F b/\b≠gx)
 (hdis:∀ b,vk.ownBlock=some b->ve.ownBlock≠some b) (hst:StW C.way gr kr s rev mark kvs evs s' rev' mark' kvs' evs') (hsm:C.small s') (hle1:kvs.length+gr<=10000000000) (hle2:evs.length+kr<=10000000000) :
 Calls Tryz.prog 96 #[.pointer (some ⟨C.c,0,none⟩),.pointer (some ⟨gx,0,none⟩)] w fun en w'=>en=.returned (.tuple #[])/\StP C w F gx ex vk ve s' rev' mark' kvs' evs' w':=by
 obtain ⟨⟨s3,y,z⟩,e,f⟩:=hst;have R:C.small s3:=K.snum _ _ (z.small (fun s x h=>zla K s x h) hsm);have a5:C.small (C.num (C.num s rev).1 mark).1:=K.snum _ _ (y.small (fun s x h=>zdr K s x h) R);have v:=K.lt _ _ _ hA;have Q:¬ F w.heap.size:=fun h=>by have:=v _ h;omega
 have lg:=zab hgx;have p:w.heap[gx]?=some (.cells (List.toArray [.int .i64 rev,.int .i64 mark,vk,ve]) ex (0,0)):=hgx
 have M:=fun W (h:Fr No w W)=>zhp K W s F gx ex [.int .i64 rev,.int .i64 mark,vk,ve] 0 [rev,mark] w.heap.size 158 (K.at0 hA h) (h.heap p id)
  (fun j n hj=>by
    match j,hj with
    | 0,hj=>simp at hj;subst hj;rfl
    | 1,hj=>simp at hj;subst hj;rfl) nF a5 (by simp)
 have H1:=H_ M;have Z:=H_ y;have a0:=H_ z;have HK:=H_ hk;have T:=H_ he;have r:=H_ hkF;have a:=H_ heF;have l:=H_ hdis;have X:=H_ e;have Y:=H_ f;have ao:=H_ v;have aw:∀ (fn:Fn) (first cap:Array Value) (w:World),(Instr.makeFunc fn first cap).run Tryz.prog w=.ok (.func fn first cap) w:=fun _ _ _ _=>rfl;clear M y z hk he hkF heF hdis e f p hgx hA v;go_enter Tryz.func96,Tryz.ntmps96;go_wp2_with fail
 go_region_held3 (fun W=>True)
  (exact trivial)
  (first | (go_at_call 139;refine (H1.out _ ((Fr.refl No w).drew.alloc _) (zad _ _ _ rfl) Q (by omega)).mono ?_;rintro en w1 ⟨rfl,U,a1,g1,f1,n1⟩))
 have g:Fr (fun b=>F b\/b=gx) w w1:=((Fr.drew (Fr.refl _ w)).alloc _).trans f1 fun _ _ h=>h
 have i:∀ b,U b->F b\/w.heap.size<=b:=fun b hb=>by
  rcases n1 b hb with h | h
  · exact .inl h
  simp at h;exact .inr (by omega)
 have N:w1.heap[gx]?=some (.cells (List.toArray [.int .i64 rev',.int .i64 mark',vk,ve]) ex (0,0)):=by
  rw [X.out,Y.out];exact g1
 have a6:¬ U gx:=fun h=>by
  rcases i _ h with h | h
  · exact nF h
  omega
 have P:=HK.out.fr g fun b hb=>by
  have:=r.out b hb;rintro (h | h)
  · exact this.1 h
  exact this.2 h
 have e:=T.out.fr g fun b hb=>by
  have:=a.out b hb;rintro (h | h)
  · exact this.1 h
  exact this.2 h
 have J:=zqw K w1 _ U gx ex _ 2 vk kvs gr s3 kvs' a1 N rfl a6 P (fun b hb=>⟨fun h=>by
  rcases i _ h with h | h
  · exact (r.out b hb).1 h
  have:=HK.out.lt b hb;omega,(r.out b hb).2⟩) Z.out R hle1
 have B:=H_ J;have E:=H_ g;have t:=H_ i;have D:=H_ e;clear J f1 g n1 i N g1 a1 P e H1;go_upto_region 2 with (go_at_call 140;refine B.out.mono ?_;rintro en w2 ⟨rfl,S,A,a2,g2,l2,b2,f2,n2⟩);have av:=E.out.size
 have k:∀ b,S b->F b\/w.heap.size<=b:=fun b hb=>by
  rcases n2 b hb with h | h
  · exact t.out b h
  exact .inr (by omega)
 have O:w2.heap[gx]?=some (.cells (List.toArray [.int .i64 rev',.int .i64 mark',A,ve]) ex (0,0)):=g2
 have a7:¬ S gx:=fun h=>by
  rcases k _ h with h | h
  · exact nF h
  omega
 have f:=D.out.fr f2 fun b hb=>by
  rintro (h | h | h)
  · rcases t.out _ h with h | h
    · exact (a.out b hb).1 h
    have:=T.out.lt b hb;omega
  · exact (a.out b hb).2 h
  exact l.out b h hb
 have q:∀ b,A.ownBlock=some b->¬ S b/\b≠gx/\ve.ownBlock≠some b/\(vk.ownBlock=some b\/w.heap.size<=b):=fun b hb=>by
  obtain ⟨u,h2,o⟩:=b2 b hb;refine ⟨u,h2,?_,?_⟩
  · rcases o with o | o
    · exact l.out b o
    intro h
    have:=T.out.lt b h;omega
  rcases o with o | o
  · exact .inl o
  exact .inr (by omega)
 have I:Fr (fun b=>F b\/b=gx\/vk.ownBlock=some b) w w2:=(E.out.mono fun b _ h=>by
  rcases h with h | h
  · exact .inl h
  · exact .inr (.inl h)).trans f2 fun b hb h=>by
  rcases h with h | h | h
  · rcases t.out b h with h | h
    · exact .inl h
    omega
  · exact .inr (.inl h)
  exact .inr (.inr h)
 have L:=zqx K w2 _ S gx ex _ 3 ve evs kr s' evs' a2 O rfl a7 f (fun b hb=>⟨fun h=>by
  rcases k _ h with h | h
  · exact (a.out b hb).1 h
  have:=T.out.lt b hb;omega,(a.out b hb).2⟩) a0.out hsm hle2
 have V:=H_ L;have m:=H_ q;have d:=H_ I;have H:=H_ k;have G:=H_ l2;clear L q I k l2 b2 f2 n2 O g2 a2 f B;go_wp2_with (go_at_call 142;refine V.out.mono ?_;rintro en w3 ⟨rfl,F3,a8,a3,g3,l3,b3,f3,n3⟩);refine bodyPost_end (results_none rfl _ _ _) rfl ⟨rfl,F3,A,a8,a3,g3,?_,l3,?_,fun b hb=>?_,fun b hb=>(m.out b hb).2.2.2,fun b hb=>?_⟩
 · refine G.out.fr f3 fun b hb=>?_
   have h:=m.out b hb;rintro (u | u | u)
   · exact h.1 u
   · exact h.2.1 u
   exact h.2.2.1 u
 · refine (d.out.mono fun b _ h=>?_).trans f3 fun b hb h=>?_
   · rcases h with h | h | h
     · exact .inl h
     · exact .inr (.inl h)
     exact .inr (.inr (.inl h))
   rcases h with h | h | h
   · rcases H.out b h with h | h
     · exact .inl h
     omega
   · exact .inr (.inl h)
   exact .inr (.inr (.inr h))
 · have:=d.out.size
   rcases n3 b hb with h | h
   · exact H.out b h
   exact .inr (by omega)
 have:=d.out.size
 rcases (b3 b hb).2.2 with h | h
 · exact .inl h
 exact .inr (by omega)
end Go.Proofs.YthljnnjpmdgkoaaGreat