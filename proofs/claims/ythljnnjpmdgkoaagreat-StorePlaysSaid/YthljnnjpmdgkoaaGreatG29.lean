/- The document's Apply: what it answers. The condition: the lists are not too long, the mark's Kvs in order, keys are not too long, versions small (StepD). -/
import Derived.Test.YthljnnjpmdgkoaaGreatG25
import Derived.Test.YthljnnjpmdgkoaaGreatG28
import Derived.Test.YthljnnjpmdgkoaaGreatG19
import Derived.Test.YthljnnjpmdgkoaaGreatG07
namespace Go.Proofs.YthljnnjpmdgkoaaGreat
open Go Go.Proofs Go.RowKit
set_option maxRecDepth 100000
theorem zfk (y:Ans × Value) (h:y.2.oneCell'=true):∀ u∈ansC y,u.oneCell'=true:=by
 intro u hu;simp [ansC] at hu;rcases hu with rfl | rfl | rfl | rfl
 · rfl
 · exact h
 · rfl
 rfl
theorem SlF.one {α:Type} {f:α->List Value} (w:World) (e sz:Nat) (x:α) (hl:(f x).length=sz):SlF (w.alloc (.cells (f x).toArray e (0,0))) e sz f (.slice (some ⟨w.heap.size,0,none⟩) [x].length 1) [x]:=by
 unfold SlF Sl;refine ⟨by simp [hl],.inr ⟨_,0,1,(f x).toArray,rfl,zad _ _ _ rfl,Nat.le_refl 1,by unfold maxLen;omega,by simp [hl],by simp [<-hl]⟩⟩
theorem zqp {X:World} {b:Nat} {a0 a1 a2 a3:Value} (hk:X.heap[b]? = some (.cells #[a0,a1,a2,a3] 97 (0,0))) (v1 v2 v3:Value) :
 ∃ Z,(((X.setCell ⟨b,1,none⟩ v1).setCell ⟨b,2,none⟩ v2).setCell ⟨b,3,none⟩ v3)=Z/\Z.heap[b]? = some (.cells #[a0,v1,v2,v3] 97 (0,0))/\Fr (fun j=>j=b) X Z:=by
 have z1:=zaa hk 1 v1;have z2:=zaa z1 2 v2;have z3:=zaa z2 3 v3;exact ⟨_,rfl,by rw [z3];simp,(((Fr.refl (fun j=>j=b) X).setCell (p:=⟨b,1,none⟩) (.inl rfl) _).setCell (p:=⟨b,2,none⟩) (.inl rfl) _).setCell (p:=⟨b,3,none⟩) (.inl rfl) _⟩
theorem zns {X:World} {b:Nat} {a0 a1 a2 a3:Value} (hk:X.heap[b]? = some (.cells #[a0,a1,a2,a3] 97 (0,0))) (v1 v2:Value) :
 ∃ Z,((X.setCell ⟨b,1,none⟩ v1).setCell ⟨b,2,none⟩ v2)=Z/\Z.heap[b]? = some (.cells #[a0,v1,v2,a3] 97 (0,0))/\Fr (fun j=>j=b) X Z:=by
 have z1:=zaa hk 1 v1;have z2:=zaa z1 2 v2;exact ⟨_,rfl,by rw [z2];simp,((Fr.refl (fun j=>j=b) X).setCell (p:=⟨b,1,none⟩) (.inl rfl) _).setCell (p:=⟨b,2,none⟩) (.inl rfl) _⟩
structure StepD (r:RunD) (o:Opr):Prop where
 ks:KSorted r.now
 len:r.now.length<=1000000
 ev:r.E.length<=1000000
 ans:r.A.length<=1000000
 ver:0<=(wasL r.now o.rg.key).version/\(wasL r.now o.rg.key).version<=1099511627776
 one:oneE o=0
structure ApS (W2 w:World) (nv av ev:Value) (Z:List (Ans × Value)) (now:List Kv) (E:List Ev):Prop where
 nw:SlR w 6 kvC nv now
 ans:AnsR w av Z
 evs:SlF w 101 13 evC ev E
 fr:Fr No W2 w
 na:∀ b,ansF av Z b->W2.heap.size<=b
 ne:∀ b,ev.ownBlock=some b->W2.heap.size<=b
 xn:0 < now.length->∀ b,nv.ownBlock=some b->av.ownBlock≠some b/\ev.ownBlock≠some b
 xa:∀ b,ansF av Z b->ev.ownBlock≠some b
theorem ApS.fr0 {W2 w w':World} {nv av ev:Value} {Z:List (Ans × Value)} {now:List Kv} {E:List Ev} (h:ApS W2 w nv av ev Z now E) (hf:Fr No w w'):ApS W2 w' nv av ev Z now E :=
 ⟨h.nw.fr0 hf,h.ans.fr hf fun _ _ s=>s,h.evs.fr0 hf,h.fr.trans0 hf,h.na,h.ne,h.xn,h.xa⟩
theorem ApS.done {W2 w w':World} {nv av ev nv':Value} {Z:List (Ans × Value)} {now now':List Kv} {E:List Ev} (h:ApS W2 w nv av ev Z now E) (hf:Fr No w w') (hs:SlF w' 99 6 kvC nv' now') (ho:∀ b,nv'.ownBlock=some b->w.heap.size<=b):ApS W2 w' nv' av ev Z now' E:=by
 have h1:=h.fr0 hf;refine ⟨hs.toR zae,h1.ans,h1.evs,h1.fr,h.na,h.ne,fun _ b hb=>⟨fun e=>?_,fun e=>?_⟩,h.xa⟩
 · have:=h.ans.lt b (.inl e);have:=ho b hb;omega
 have:=h.evs.lt b e;have:=ho b hb;omega
theorem ApS.event {W2 w w':World} {nv av ev ev':Value} {Z:List (Ans × Value)} {now:List Kv} {E E':List Ev} (h:ApS W2 w nv av ev Z now E) (hf:Fr (fun b=>ev.ownBlock=some b) w w') (hs:SlF w' 101 13 evC ev' E') (ho:∀ b,ev'.ownBlock=some b->ev.ownBlock=some b\/w.heap.size<=b):ApS W2 w' nv av ev' Z now E':=by
 have hsz:=h.fr.size;refine ⟨h.nw.frp hf fun h0 b hb e=>(h.xn h0 b hb).2 e,h.ans.fr hf fun b hb e=>h.xa b hb e,hs,h.fr.trans hf fun b hb e=>absurd (h.ne b e) (by omega),h.na,fun b hb=>?_,fun h0 b hb=>⟨(h.xn h0 b hb).1,fun e=>?_⟩,fun b hb e=>?_⟩
 · rcases ho b hb with e | e
   · exact h.ne b e
   omega
 · rcases ho b e with e | e
   · exact (h.xn h0 b hb).2 e
   have:=h.nw.lt zae (by decide) h0 b hb;omega
 rcases ho b e with e | e
 · exact h.xa b hb e
 have:=h.ans.lt b hb;omega
theorem ApS.answer {W2 w w':World} {nv av ev av' kv:Value} {a:Ans} {Z:List (Ans × Value)} {now:List Kv} {E:List Ev} (h:ApS W2 w nv av ev Z now E) (hf:Fr (fun b=>av.ownBlock=some b) w w') (hs:SlF w' 97 4 ansC av' (Z++[(a,kv)]))
 (hk:SlF w 99 6 kvC kv a.kvs) (hd:∀ b,kv.ownBlock=some b->av.ownBlock≠some b/\ev.ownBlock≠some b/\W2.heap.size<=b) (ho:∀ b,av'.ownBlock=some b->av.ownBlock=some b\/w.heap.size<=b):ApS W2 w' nv av' ev (Z++[(a,kv)]) now E:=by
 have hsz:=h.fr.size
 have hq:∀ b,ansF av' (Z++[(a,kv)]) b->ansF av Z b\/w.heap.size<=b\/kv.ownBlock=some b:=by
  rintro b (e | ⟨i,q,hq,e⟩)
  · rcases ho b e with e | e
    · exact .inl (.inl e)
    exact .inr (.inl e)
  rcases Nat.lt_or_ge i Z.length with hi | hi
  · rw [List.getElem?_append_left hi] at hq
    exact .inl (.inr ⟨i,q,hq,e⟩)
  rw [List.getElem?_append_right hi] at hq
  have h0:=(List.getElem?_eq_some_iff.1 hq).1;have:i - Z.length=0:=(by simp at h0;omega);rw [this] at hq;obtain rfl:(a,kv)=q:=by simpa using hq
  exact .inr (.inr e)
 refine ⟨h.nw.frp hf fun h0 b hb e=>(h.xn h0 b hb).1 e,h.ans.snoc hf hs hk (fun b hb=>(hd b hb).1) ho,h.evs.fr hf fun b hb e=>h.xa b (.inl e) hb,h.fr.trans hf fun b hb e=>absurd (h.na b (.inl e)) (by omega),fun b hb=>?_,h.ne,fun h0 b hb=>⟨fun e=>?_,(h.xn h0 b hb).2⟩,fun b hb e=>?_⟩
 · rcases hq b hb with e | e | e
   · exact h.na b e
   · omega
   exact (hd b e).2.2
 · rcases ho b e with e | e
   · exact (h.xn h0 b hb).1 e
   have:=h.nw.lt zae (by decide) h0 b hb;omega
 rcases hq b hb with e' | e' | e'
 · exact h.xa b e' e
 · have:=h.evs.lt b e;omega
 exact (hd b e').2.1 e
def ApplyX (de:Int) (A:List Ans) (L:List Ev) (DD D0:Doc) (u1 u2:Value) (w:World) (e:Ending) (w':World):Prop :=
 ∃ v av a c Z,e = .returned (.tuple #[v,av,.slice a L.length c,.int .i64 de])/\DocVN DD w D0 u1 u2 w' v/\AnsR w' av Z/\Z.map (·.1)=A/\SlR w' 13 evC (.slice a L.length c) L/\Fr No w w'
theorem ApplyX.of {de de':Int} {A:List Ans} {L L':List Ev} {DD D0:Doc} {u1 u2:Value} {w w':World} {v av:Value} {a:Option Addr} {c n:Nat} {Z:List (Ans × Value)} (h1:de=de') (h2:L=L') (hn:n=L'.length) (h3:DocVN DD w D0 u1 u2 w' v) (h4:SlR w' 13 evC (.slice a L'.length c) L') (hA:AnsR w' av Z) (hZ:Z.map (·.1)=A) (h5:Fr No w w') :
 ApplyX de A L DD D0 u1 u2 w (.returned (.tuple #[v,av,.slice a n c,.int .i64 de'])) w':=by
 subst h1 h2 hn;exact ⟨v,av,a,c,Z,rfl,h3,hA,hZ,h4,h5⟩
def zui (D:Doc) (ops:List Opr) (u1 u2:Value) (w:World) (e:Ending) (w':World):Prop:=ApplyX (zaz D ops) (if zaz D ops=0 then (runD D ops).A else []) (if zaz D ops=0 then (runD D ops).E else []) (zdk D ops) D u1 u2 w e w'
theorem zko {D:Doc} {ops:List Opr} {i:Nat} (h:zax D (ops.take i)≠0):zax D ops=zax D (ops.take i):=by
 unfold zax at h ⊢
 cases hf:(ops.take i).find? fun o=>o.kind == 3 && whenD D o.rg.rev != 0 with
 | none=>rw [hf] at h;exact absurd rfl h
 | some o =>
   have:ops.find? (fun o=>o.kind == 3 && whenD D o.rg.rev != 0)=some o:=by
    conv=>lhs;rw [<-List.take_append_drop i ops]
    rw [List.find?_append,hf]
    rfl
   rw [this]
theorem zkp {D:Doc} {ops:List Opr} {i:Nat} {o:Opr} (ho:ops[i]? = some o) (h:zax D (ops.take i)=0):zax D (ops.take (i+1))=if o.kind=3 then whenD D o.rg.rev else 0:=by
 have hn:(ops.take i).find? (fun o=>o.kind == 3 && whenD D o.rg.rev != 0)=none:=by
  unfold zax at h
  cases hf:(ops.take i).find? fun o=>o.kind == 3 && whenD D o.rg.rev != 0 with
  | none=>rfl
  | some q =>
    rw [hf] at h;have:=List.find?_some hf;simp at this;exact absurd h this.2
 unfold zax;rw [List.take_add_one,ho,Option.toList_some,List.find?_append,hn,Option.none_or,List.find?_cons];by_cases hk:o.kind=3
 · rw [if_pos hk,hk]
   by_cases hw:whenD D o.rg.rev=0
   · rw [hw];rfl
   have:((3:Int) == 3 && whenD D o.rg.rev != 0)=true:=by simp [hw]
   rw [this]
 rw [if_neg hk]
 have:(o.kind == 3 && whenD D o.rg.rev != 0)=false:=(by simp [hk]);rw [this]
 rfl
theorem zwb (o:Opr) (l:List Kv):(allA (delG o) l).length=(outA (delG o) l).length:=by
 rw [zic];unfold allA delG;simp
set_option maxHeartbeats 32000000 in
theorem zjv (w:World) (D:Doc) (a1 a2:Option Addr) (k1 k2:Nat) (hD:DocR w D (.slice a1 D.kvs.length k1) (.slice a2 D.events.length k2)) (hs:KSorted D.kvs) (hl:D.kvs.length+D.events.length<=1000000) (hr : -1099511627776<=D.rev/\D.rev<=1099511627776)
 (vo:Value) (ops:List Opr) (hv:SlR w 10 opC vo ops) (hlo:ops.length<=100000) (hks:∀ o∈ops,o.rg.key.size<=1099511627776)
 (hrun:checkE ops=0->zax D ops=0->∀ i o,ops[i]? = some o->StepD (runD D (ops.take i)) o) (hfin:checkE ops=0->zax D ops=0->(runD D ops).E.length<=1000000) :
 Calls Tryz.prog 59 #[docV D (.slice a1 D.kvs.length k1) (.slice a2 D.events.length k2),vo] w (zui D ops (.slice a1 D.kvs.length k1) (.slice a2 D.events.length k2) w):=by
 obtain ⟨oa,oc,rfl,hv1,hv2,hv3⟩:=hv.shape;have hchk:=fun W (hW:Fr No w W)=>zju W _ ops (hv.fr0 hW) (by omega) hks;have hwhen:=fun W r=>zgn W D a1 a2 D.kvs.length D.events.length k1 k2 r;have hat:=fun W (hW:Fr No w W) r=>zeb W D _ _ (hD.fr0 hW) hs (by omega) r
 have hso:∀ r,(D.at r).length<=1000000:=fun r=>by
  rw [<-zeq];have:=zep D r D.events.length;omega
 have hbeh:=fun W (hW:Fr No w W) a3 k3 E hE (hEl:E.length<=1000000)=>zfa W D a1 a2 a3 D.kvs.length k1 k2 k3 E (hD.evs.fr0 hW) hE (by omega) hr;have hD0:=fun W (hW:Fr No w W)=>hD.fr0 hW;have hwr:IntKind.i64.wrap (D.rev+1)=D.rev+1:=by rw [IntKind.wrap_i64];omega
 have hde:zaz D ops=if checkE ops≠0 then checkE ops else if zax D ops≠0 then zax D ops else if (runD D ops).E≠[]/\1099511627776<=D.rev then 37 else 0:=rfl;obtain ⟨i0,hi0,hz0,hz1,hz2⟩:=info_parts info73;obtain ⟨i1,hi1,hy0,hy1,hy2⟩:=info_parts info90;have hb1:((w.alloc (Obj.cells #[.int .i64 D.rev,.int .i64 D.mark,.slice a1 D.kvs.length k1,.slice a2 D.events.length k2] 30)).alloc (Obj.cells #[.int .i64 0,.int .i64 0,.slice none 0 0,.slice none 0 0] 30)).heap[w.heap.size]? = some (Obj.cells #[.int .i64 D.rev,.int .i64 D.mark,.slice a1 D.kvs.length k1,.slice a2 D.events.length k2] 30 (0,0)):=zaj (zad w _ _ rfl) _
 have hb2:((w.alloc (Obj.cells #[.int .i64 D.rev,.int .i64 D.mark,.slice a1 D.kvs.length k1,.slice a2 D.events.length k2] 30)).alloc (Obj.cells #[.int .i64 0,.int .i64 0,.slice none 0 0,.slice none 0 0] 30)).heap[w.heap.size+1]? = some (Obj.cells #[.int .i64 0,.int .i64 0,.slice none 0 0,.slice none 0 0] 30 (0,0)):=zad _ _ _ (by simp);have hf2:Fr No w ((w.alloc (Obj.cells #[.int .i64 D.rev,.int .i64 D.mark,.slice a1 D.kvs.length k1,.slice a2 D.events.length k2] 30)).alloc (Obj.cells #[.int .i64 0,.int .i64 0,.slice none 0 0,.slice none 0 0] 30)):=((Fr.refl No w).alloc _).alloc _;have HB1:=H_ hb1;have HB2:=H_ hb2;have HF2:=H_ hf2;have HCHK:=H_ hchk;have HWHEN:=H_ hwhen
 have HAT:=H_ hat;have HSO:=H_ hso;have HBEH:=H_ hbeh;have HD0:=H_ hD0;have HDE:=H_ hde;have HRUN:=H_ hrun;have HFIN:=H_ hfin;have HV:=H_ hv;have HV3:=H_ hv3;clear hb1 hb2 hf2 hchk hwhen hat hso hbeh hD0 hde hrun hfin hv hv3 hD hs hl hks;unfold docV at *;go_enter Tryz.func59,Tryz.ntmps59;go_upto_region 1 with fail;generalize (w.alloc (Obj.cells #[.int .i64 D.rev,.int .i64 D.mark,.slice a1 D.kvs.length k1,.slice a2 D.events.length k2] 30)).alloc (Obj.cells #[.int .i64 0,.int .i64 0,.slice none 0 0,.slice none 0 0] 30)=W2 at *;generalize hrb:w.heap.size+1=rb at *;generalize hdb:w.heap.size=db at *;have HS:=H_ (fun W (hW:Fr No W2 W)=>cells4 (hW.heap HB1.out id))
 have HR:Hid (∀ W,Fr No W2 W->W.heap[rb]? = some (Obj.cells #[.int .i64 0,.int .i64 0,.slice none 0 0,.slice none 0 0] 30 (0,0))):=H_ (fun W hW=>hW.heap HB2.out id);have hdr:db≠rb:=by omega
 have l1:=zac HB1.out;have l2:=zac HB2.out;go_upto_region 3 with (go_at_call 112;(with_reducible refine (HCHK.out _ HF2.out).mono ?_);rintro e w3 ⟨rfl,h3⟩);have HF3:=H_ h3;clear h3;generalize hce:checkE ops=ce at *;have HCE:=H_ hce;clear hce
 go_loopg [8,9] ops.length (fun g s8 s9 wr=>∃ (i:Nat) (E:Int),s8 = .int .i64 E/\s9 = .int .i64 i/\i+g=ops.length/\Hid ((ce≠0/\E=ce/\i=0)\/(ce=0/\E=zax D (ops.take i)))/\Hid (Fr No W2 wr))
 case atStart=>exact ⟨0,ce,rfl,rfl,by omega,H_ (by
  by_cases h:ce=0
  · exact .inr ⟨h,h⟩
  exact .inl ⟨h,rfl,rfl⟩),HF3⟩
 case round =>
  obtain ⟨i,E,rfl,rfl,hi,HE,HF⟩:=hrel;by_cases hE0:E=0
  · subst hE0
    have hc0:ce=0:=by
     rcases HE.out with ⟨a,b,_⟩ | ⟨a,_⟩
     · exact absurd b.symm a
     exact a
    have hw0:zax D (ops.take i)=0:=by
     rcases HE.out with ⟨a,b,_⟩ | ⟨_,a⟩
     · exact absurd b.symm a
     exact a.symm
    subst hc0;have HW0:=H_ hw0;clear hw0 HE
    cases gk with
    | succ g =>
      have hil:(i:Int) < (ops.length:Int):=(by omega);obtain ⟨x,hx⟩:∃ x,ops[i]? = some x:=⟨_,List.getElem?_eq_getElem (by omega)⟩;obtain ⟨go,oo,rfl⟩:=HV3.out (by omega);have hsn:=zkp hx HW0.out;have hop:=HV.out.fr0 (HF2.out.trans0 HF.out);have c0:=hop.cell0 zaf i hx rfl;have c3:=hop.cell zaf i 3 hx rfl;have lo:=World.block_lt_of_cell? _ _ c0;have HSN:=H_ hsn;clear hsn hop hx;obtain ⟨p1,⟨g1,g2,g3,g4,g5,g6,g7⟩,p2,p3⟩:=x;dsimp only at c0 c3 HSN;by_cases hk:p1=3
      · subst hk
        have b1:=HS.out wr HF.out;have b1c:=And.intro c3 b1;have b2c:=And.intro (show wr.drew.cell? ⟨go,oo+i * 10+3,none⟩=some (.int .i64 g3) from c3) (HS.out wr.drew HF.out.drew);go_upto_region 6 with fail
        go_region_held3 (fun W=>W.cell? ⟨go,oo+i * 10+3,none⟩=some (.int .i64 g3)/\W.cell? ⟨db,0,none⟩=some (.int .i64 D.rev)/\W.cell? ⟨db,1,none⟩=some (.int .i64 D.mark)/\W.cell? ⟨db,2,none⟩=some (.slice a1 D.kvs.length k1)/\W.cell? ⟨db,3,none⟩=some (.slice a2 D.events.length k2))
         (first | with_reducible exact b1c | with_reducible exact b2c | with_reducible exact b3c)
         (first
           | (go_at_call 106;(with_reducible refine (HWHEN.out _ g3).mono ?_);rintro e w5 ⟨rfl,h5⟩
              have G5:=H_ (HF.out.drew.trans0 h5);have b3c:=And.intro ((Fr.refl No wr).drew.trans0 h5 |>.cell0 c3) (HS.out w5 G5.out);clear h5))
        go_wp2;go_roundg g
        case rel=>exact ⟨i+1,whenD D g3,rfl,by go_num,by omega,H_ (.inr ⟨by first | rfl | trivial,by rw [HSN.out];first | rw [if_pos rfl] | simp⟩),G5⟩
        case measure=>omega
      have hkb:(p1 == 3)=false:=beq_eq_false_iff_ne.2 hk
      go_wp2;go_roundg g
      case rel=>exact ⟨i+1,0,rfl,by go_num,by omega,H_ (.inr ⟨by first | rfl | trivial,by rw [HSN.out,if_neg hk]⟩),HF⟩
      case measure=>omega
    | zero =>
      have hil:¬ (i:Int) < (ops.length:Int):=(by omega);have hie:i=ops.length:=(by omega);subst hie;rw [List.take_length] at HW0;obtain ⟨x0,x1,x2,x3⟩:=HS.out wr HF.out;have lx:=World.block_lt_of_cell? _ _ x0;have HRUN2:=H_ (HRUN.out (by trivial) HW0.out);have HFIN2:=H_ (HFIN.out (by trivial) HW0.out)
      have hde2:zaz D ops=if (runD D ops).E≠[]/\1099511627776<=D.rev then 37 else 0:=by
       rw [HDE.out,HW0.out];simp
      have HDE2:=H_ hde2;clear hde2 HRUN HFIN HCHK HDE;go_upto_region 13 with (go_at_call 80;(with_reducible refine (HAT.out _ (HF2.out.trans0 HF.out) _).mono ?_);rintro e w4 ⟨v4,rfl,hs4,h4,_⟩);have hAP0:ApS W2 w4 v4 (.slice none 0 0) (.slice none 0 0) [] (D.at D.rev) []:=⟨hs4,AnsR.nil _,SlF.nil _ _ _ _,HF.out.trans0 h4,by rintro b (e | ⟨_,_,e,_⟩) <;> simp [Value.ownBlock] at e,by simp [Value.ownBlock],by simp [Value.ownBlock],by rintro b (e | ⟨_,_,e,_⟩) <;> simp [Value.ownBlock] at e⟩;have HAP0:=H_ hAP0;clear hAP0 hs4 h4 x0 x1 x2 x3 lx;have wr':∃ w0,w0=wr:=⟨_,rfl⟩;obtain ⟨w0,hw0⟩:=wr';subst hw0
      go_loopg [10,11,12,13] ops.length (fun g s10 s11 s12 s13 wr=>∃ (i:Nat) (nv av ev:Value) (Z:List (Ans × Value)),s10=nv/\s11=av/\s12=ev/\s13 = .int .i64 i/\i+g=ops.length/\Hid (ApS W2 wr nv av ev Z (runD D (ops.take i)).now (runD D (ops.take i)).E)/\Hid (Z.map (·.1)=(runD D (ops.take i)).A))
      case atStart=>exact ⟨0,_,_,_,[],rfl,rfl,rfl,rfl,by omega,HAP0,H_ rfl⟩
      case round =>
       obtain ⟨i,nv,av,ev,Z,rfl,rfl,rfl,rfl,hi,HAP,HZA⟩:=hrel
       cases gk with
       | zero =>
         have hil:¬ (i:Int) < (ops.length:Int):=(by omega);have hie:i=ops.length:=(by omega);subst hie;rw [List.take_length] at HAP HZA;obtain ⟨ea,ec,rfl,_,_,_⟩:=HAP.out.evs.shape;have hEl:(runD D ops).E = [] ↔ (runD D ops).E.length=0:=List.length_eq_zero_iff.symm;have hb:=HBEH.out wr (HF2.out.trans0 HAP.out.fr) ea ec (runD D ops).E (HAP.out.evs.toR zab) HFIN2.out;unfold zpq docV at hb;have hbk:(zbf D (runD D ops).E).kvs=D.kvs:=(by unfold zbf;split <;> rfl);have hd1:zaz D ops=0->zdk D ops=zbf D (runD D ops).E:=fun h=>if_pos h;have hbp:zaz D ops=0->(if zaz D ops=0 then (runD D ops).A else [])=(runD D ops).A:=fun h=>if_pos h;have hbe:zaz D ops=0->(if zaz D ops=0 then (runD D ops).E else [])=(runD D ops).E:=fun h=>if_pos h;generalize hbd:zbf D (runD D ops).E=BD at *;have HBK:=H_ hbk
         have HB:=H_ hb;have HD1:=H_ hd1;have HBP:=H_ hbp;have HBE:=H_ hbe;clear hb hbk hbd hd1 hbp hbe;have hAe:=HDE2.out;generalize hEq:(runD D ops).E=E at HAP HZA hEl HB hAe;have HEQ:=H_ hEq;clear hEq HDE2;obtain ⟨x0,x1,x2,x3⟩:=HS.out wr HAP.out.fr;have lx:=World.block_lt_of_cell? _ _ x0;by_cases hbad:E≠[]/\1099511627776<=D.rev
         · rw [if_pos hbad] at hAe
           have hpos:0 < (E.length:Int):=by
            have:E.length≠0:=fun h=>hbad.1 (hEl.2 h);omega
           have htop:1099511627776<=D.rev:=hbad.2;have HEE:=H_ hAe;have HNZ:Hid (zaz D ops≠0):=H_ (by rw [hAe];decide);clear hAe hbad hEl x0 x1 x2 x3 lx;have hrr:=HR.out wr HAP.out.fr;obtain ⟨x0,x1,x2,x3⟩:=HS.out wr HAP.out.fr;have lx:=World.block_lt_of_cell? _ _ x0;obtain ⟨y0,y1,y2,y3⟩:=cells4 hrr;have yf:∀ j,(wr).frozen? ⟨rb,j,none⟩=false:=fun j=>by simp [World.frozen?,hrr]
           have lr:=zac hrr;obtain ⟨Zw,hZ,hz,hzf,_⟩:=zba (w:=w) hrr (.int .i64 D.rev) (.int .i64 D.mark) (.slice a1 D.kvs.length k1) (.slice a2 D.events.length k2);have HZ:=H_ hZ;have HZ1:=H_ hz;have HZF:=H_ (hzf (HF2.out.trans0 HAP.out.fr) (by omega));clear hZ hz hzf hrr;go_wp2;rw [HZ.out];refine bodyPost_ret (zcs rfl _ _ rb 30 _ (0,0) _ rfl HZ1.out Tryz.underlying30 rfl (by kernel_rfl)) rfl ?_;refine ApplyX.of HEE.out (if_neg HNZ.out) rfl ?_ (SlR.nil _ _ _) (AnsR.nil _) (if_neg HNZ.out).symm HZF.out;rw [show zdk D ops=D from if_neg HNZ.out];exact ⟨a1,k1,a2,k2,rfl,HD0.out _ HZF.out,fun _ h0 h=>.inl ⟨h0,h⟩,fun _ h0 h=>.inl ⟨h0,h⟩⟩
         rw [if_neg hbad] at hAe
         have HE0:=H_ hAe;clear hAe;by_cases hE1:E = []
         · subst hE1
           simp only [List.length_nil] at *
           go_wp2_with (go_at_call 111;(with_reducible refine HB.out.mono ?_);rintro e w5 ⟨ba,bc,rfl,hs5,h5,hn5⟩
                        have hrr:=HR.out w5 (HAP.out.fr.trans0 h5);obtain ⟨y0,y1,y2,y3⟩:=cells4 hrr;have yf:∀ j,w5.frozen? ⟨rb,j,none⟩=false:=fun j=>by simp [World.frozen?,hrr]
                        have lr:=zac hrr;obtain ⟨Zw,hZ,hz,hzf,hzr⟩:=zba (w:=w) hrr (.int .i64 BD.rev) (.int .i64 BD.mark) (.slice a1 D.kvs.length k1) (.slice ba BD.events.length bc);have HZ:=H_ hZ;have HZ1:=H_ hz;have HZF:=H_ (hzf ((HF2.out.trans0 HAP.out.fr).trans0 h5) (by omega));have HZR:=H_ hzr;have HOB:Hid (0 < BD.events.length->∀ b,(Value.slice ba BD.events.length bc).ownBlock=some b->b=rb->False):=H_ (fun h0 b hb hbr=>hs5.not4 (a0:=.int .i64 0) (a1:=.int .i64 0) (a2:=.slice none 0 0) (a3:=.slice none 0 0) (t:=30) h0 hb (by rw [hbr];exact hrr));have HS5:=H_ hs5;have H5:=H_ h5;have HN5:=H_ hn5;clear hZ hz hzf hzr hrr hs5 h5 hn5)
           rw [HZ.out];refine bodyPost_ret (zcs rfl _ _ rb 30 _ (0,0) _ rfl HZ1.out Tryz.underlying30 rfl (by kernel_rfl)) rfl ?_;have hw5:Fr (fun j=>j=rb) wr Zw:=((H5.out.mono fun _ _ h=>h.elim)).trans HZR.out fun _ _ h=>h;refine ApplyX.of HE0.out ((HBE.out HE0.out).trans HEQ.out) rfl ?_ ?_ (HAP.out.ans.fr hw5 fun b hb hbr=>?_) (by rw [HBP.out HE0.out];exact HZA.out) HZF.out
           · rw [HD1.out HE0.out]
             refine ⟨a1,k1,ba,bc,by rw [HBK.out];rfl,⟨by rw [HBK.out];exact (HD0.out _ HZF.out).kvs,HS5.out.frp HZR.out fun h0 b hb hbr=>HOB.out h0 b hb hbr⟩,fun _ h0 h=>.inl ⟨by rw [HBK.out] at h0;exact h0,zef.trans h⟩,fun b h0 hb=>(HN5.out b h0 hb).imp id fun h=>by have:=(HF2.out.trans0 HAP.out.fr).size;omega⟩
           · refine (HAP.out.evs.toR zab).frp hw5 fun _ b hb hbr=>?_
             have hbr':b=rb:=hbr;have h2:=HAP.out.ne b hb;omega
           have hbr':b=rb:=hbr
           have h2:=HAP.out.na b hb;omega
         have hpos:0 < (E.length:Int):=by
          have:E.length≠0:=fun h=>hE1 (hEl.2 h);omega
         have htop:D.rev < 1099511627776:=by
          rcases Int.lt_or_le D.rev 1099511627776 with h | h
          · exact h
          exact absurd ⟨hE1,h⟩ hbad
         clear hbad hEl hE1
         go_wp2_with (go_at_call 111;(with_reducible refine HB.out.mono ?_);rintro e w5 ⟨ba,bc,rfl,hs5,h5,hn5⟩
                      have hrr:=HR.out w5 (HAP.out.fr.trans0 h5);obtain ⟨y0,y1,y2,y3⟩:=cells4 hrr;have yf:∀ j,w5.frozen? ⟨rb,j,none⟩=false:=fun j=>by simp [World.frozen?,hrr]
                      have lr:=zac hrr;obtain ⟨Zw,hZ,hz,hzf,hzr⟩:=zba (w:=w) hrr (.int .i64 BD.rev) (.int .i64 BD.mark) (.slice a1 D.kvs.length k1) (.slice ba BD.events.length bc);have HZ:=H_ hZ;have HZ1:=H_ hz;have HZF:=H_ (hzf ((HF2.out.trans0 HAP.out.fr).trans0 h5) (by omega));have HZR:=H_ hzr;have HOB:Hid (0 < BD.events.length->∀ b,(Value.slice ba BD.events.length bc).ownBlock=some b->b=rb->False):=H_ (fun h0 b hb hbr=>hs5.not4 (a0:=.int .i64 0) (a1:=.int .i64 0) (a2:=.slice none 0 0) (a3:=.slice none 0 0) (t:=30) h0 hb (by rw [hbr];exact hrr));have HS5:=H_ hs5;have H5:=H_ h5;have HN5:=H_ hn5;clear hZ hz hzf hzr hrr hs5 h5 hn5)
         rw [HZ.out];refine bodyPost_ret (zcs rfl _ _ rb 30 _ (0,0) _ rfl HZ1.out Tryz.underlying30 rfl (by kernel_rfl)) rfl ?_;have hw5:Fr (fun j=>j=rb) wr Zw:=((H5.out.mono fun _ _ h=>h.elim)).trans HZR.out fun _ _ h=>h;refine ApplyX.of HE0.out ((HBE.out HE0.out).trans HEQ.out) rfl ?_ ?_ (HAP.out.ans.fr hw5 fun b hb hbr=>?_) (by rw [HBP.out HE0.out];exact HZA.out) HZF.out
         · rw [HD1.out HE0.out]
           refine ⟨a1,k1,ba,bc,by rw [HBK.out];rfl,⟨by rw [HBK.out];exact (HD0.out _ HZF.out).kvs,HS5.out.frp HZR.out fun h0 b hb hbr=>HOB.out h0 b hb hbr⟩,fun _ h0 h=>.inl ⟨by rw [HBK.out] at h0;exact h0,zef.trans h⟩,fun b h0 hb=>(HN5.out b h0 hb).imp id fun h=>by have:=(HF2.out.trans0 HAP.out.fr).size;omega⟩
         · refine (HAP.out.evs.toR zab).frp hw5 fun _ b hb hbr=>?_
           have hbr':b=rb:=hbr;have h2:=HAP.out.ne b hb;omega
         have hbr':b=rb:=hbr
         have h2:=HAP.out.na b hb;omega
       | succ g =>
         have hil:(i:Int) < (ops.length:Int):=(by omega);obtain ⟨x,hx⟩:∃ x,ops[i]? = some x:=⟨_,List.getElem?_eq_getElem (by omega)⟩;obtain ⟨go,oo,rfl⟩:=HV3.out (by omega);have hst:=zml D ops hx;have hok:=HRUN2.out i x hx;obtain ⟨x0,x1,x2,x3,x4,x5,x6,x7,x8,x9⟩:=(HV.out.fr0 (HF2.out.trans0 HAP.out.fr)).cells10 zaf i hx rfl;have lo:=World.block_lt_of_cell? _ _ x0;have HX:=H_ hx;have HST:=H_ hst;have HOK:=H_ hok;clear hst hok hx;generalize runD D (ops.take i)=r at *;obtain ⟨p1,⟨g1,g2,g3,g4,g5,g6,g7⟩,p2,p3⟩:=x;dsimp only at x0 x1 x2 x3 x4 x5 x6 x7 x8 x9
         have hfA:Fr No wr ((wr.alloc (Obj.cells #[.int .i64 p1,.string g1,.string g2,.int .i64 g3,.int .i64 g4,.bool g5,.bool g6,.bool g7,.string p2,.int .i64 p3] 94)).alloc (Obj.cells #[.int .i64 p1,.slice none 0 0,.int .i64 0,.bool false] 97)):=((Fr.refl No wr).alloc _).alloc _;have hoA:((wr.alloc (Obj.cells #[.int .i64 p1,.string g1,.string g2,.int .i64 g3,.int .i64 g4,.bool g5,.bool g6,.bool g7,.string p2,.int .i64 p3] 94)).alloc (Obj.cells #[.int .i64 p1,.slice none 0 0,.int .i64 0,.bool false] 97)).heap[wr.heap.size]? = some (Obj.cells #[.int .i64 p1,.string g1,.string g2,.int .i64 g3,.int .i64 g4,.bool g5,.bool g6,.bool g7,.string p2,.int .i64 p3] 94 (0,0)):=zaj (zad wr _ _ rfl) _
         have haA:((wr.alloc (Obj.cells #[.int .i64 p1,.string g1,.string g2,.int .i64 g3,.int .i64 g4,.bool g5,.bool g6,.bool g7,.string p2,.int .i64 p3] 94)).alloc (Obj.cells #[.int .i64 p1,.slice none 0 0,.int .i64 0,.bool false] 97)).heap[wr.heap.size+1]? = some (Obj.cells #[.int .i64 p1,.slice none 0 0,.int .i64 0,.bool false] 97 (0,0)):=zad _ _ _ (by simp);have HFA:=H_ hfA;have HOA:=H_ hoA;have HAA:=H_ haA;clear hfA hoA haA;go_upto_region 17 with fail;generalize (wr.alloc (Obj.cells #[.int .i64 p1,.string g1,.string g2,.int .i64 g3,.int .i64 g4,.bool g5,.bool g6,.bool g7,.string p2,.int .i64 p3] 94)).alloc (Obj.cells #[.int .i64 p1,.slice none 0 0,.int .i64 0,.bool false] 97)=WA at *;generalize hob:wr.heap.size=ob at *;generalize hab:ob+1=ab at *;clear x0 x1 x2 x3 x4 x5 x6 x7 x8 x9 lo
         have HAPA:=H_ (HAP.out.fr0 HFA.out);obtain ⟨d0,d1,d2,d3⟩:=HS.out WA HAPA.out.fr;have ld:=World.block_lt_of_cell? _ _ d0;obtain ⟨o0,o1,o2,o3,o4,o5,o6,o7,o8,o9⟩:=cells10 HOA.out;have lob:=zac HOA.out;have lab:=zac HAA.out;have hone:=HOK.out.one;by_cases hk3:p1=3
         · subst hk3
           have hlim:0<=g4:=by
            have h1:=hone;unfold oneE at h1;rw [if_pos rfl] at h1;exact (zgz h1).2
           by_cases hg3:g3=0
           · skip
             subst hg3;have hrd:getD D r.now ⟨3,⟨g1,g2,0,g4,g5,g6,g7⟩,p2,p3⟩=r.now:=if_neg (by simp)
             have hq:runD D (ops.take (i+1))=⟨r.now,r.A++[⟨3,outA ⟨g1,g2,0,g4,g5,g6,g7⟩ r.now,(allA ⟨g1,g2,0,g4,g5,g6,g7⟩ r.now).length,moreA ⟨g1,g2,0,g4,g5,g6,g7⟩ r.now⟩],r.E⟩:=by
              rw [HST.out];unfold stepD;rw [if_neg (show ¬ (3:Int)=1 by decide),if_pos rfl,hrd]
             have HQ:=H_ hq;clear hq hrd;have hask:=zcp WA _ r.now HAPA.out.nw (by have:=HOK.out.len;omega) ⟨g1,g2,0,g4,g5,g6,g7⟩ hlim;unfold rgV at hask;dsimp only at hask;have HASK:=H_ hask;clear hask
             go_upto_region 37 with (first
              | (go_at_call 107;(with_reducible refine HASK.out.mono ?_);rintro e w6 ⟨v6,rfl,hs6,ho6,h6⟩
                 have h6A:Fr No WA w6:=h6;have ha6:=h6A.heap HAA.out id;obtain ⟨y0,y1,y2,y3⟩:=cells4 ha6;have yf:∀ j,w6.frozen? ⟨ab,j,none⟩=false:=fun j=>by simp [World.frozen?,ha6]
                 have la:=zac ha6;obtain ⟨va,vc,rfl,_,_,_⟩:=hs6.shape;obtain ⟨Zw,hZ,hz,hzr⟩:=zqp ha6 (.slice va (outA ⟨g1,g2,0,g4,g5,g6,g7⟩ r.now).length vc) (.int .i64 (allA ⟨g1,g2,0,g4,g5,g6,g7⟩ r.now).length) (.bool (moreA ⟨g1,g2,0,g4,g5,g6,g7⟩ r.now));have HZ:=H_ hZ;have HB9:=H_ hz;have hwz:Fr No wr Zw:=(HFA.out.trans0 h6A).trans (hzr.mono fun _ _ h=>h) (fun j hj h=>by have h':j=ab:=h;omega);have HAP9:=H_ (HAP.out.fr0 hwz);have hvz:SlF Zw 99 6 kvC _ _:=hs6.fr hzr fun b hb h=>by have h':b=ab:=h;have:=ho6 b hb;have:=zac HAA.out;have:=(Fr.refl No WA).size;omega
                 have HKV:=H_ hvz
                 have HKD:=H_ (fun b (hb:(Value.slice va (outA ⟨g1,g2,0,g4,g5,g6,g7⟩ r.now).length vc).ownBlock=some b)=>(show u11.ownBlock≠some b/\u12.ownBlock≠some b/\W2.heap.size<=b from by
                  have h1:=ho6 b hb;have h2:=HFA.out.size;have h3:=(Fr.refl No WA).size;have h4:=HAP.out.fr.size;exact ⟨fun e=>by have:=HAP.out.ans.lt b (.inl e);omega,fun e=>by have:=HAP.out.evs.lt b e;omega,by omega⟩))
                 clear hZ hz hzr hs6 ho6 h6 ha6 hwz hvz)
              | fail)
             rw [HZ.out];have HNEW:=H_ (zar Zw (ansC (⟨3,outA ⟨g1,g2,0,g4,g5,g6,g7⟩ r.now,(allA ⟨g1,g2,0,g4,g5,g6,g7⟩ r.now).length,moreA ⟨g1,g2,0,g4,g5,g6,g7⟩ r.now⟩,Value.slice va (outA ⟨g1,g2,0,g4,g5,g6,g7⟩ r.now).length vc)) 97 (0,0));obtain ⟨t0,t1,t2,t3⟩:=cells4 HB9.out;have lt:=zac HB9.out
             have hZl:Z.length<=1000000:=by
              have:=HOK.out.ans;have h2:=congrArg List.length HZA.out;rw [List.length_map] at h2;omega
             go_wp2_with (at_builtin;(refine zbh rfl _ _ 64 rfl 97 i1 _ 4 48 Tryz.underlying64 hi1 hy0 hy1 hy2 rfl (by decide) _ Z rfl (HAP9.out.ans.sl.alloc _) Zw.heap.size 1 (⟨3,outA ⟨g1,g2,0,g4,g5,g6,g7⟩ r.now,(allA ⟨g1,g2,0,g4,g5,g6,g7⟩ r.now).length,moreA ⟨g1,g2,0,g4,g5,g6,g7⟩ r.now⟩,Value.slice va (outA ⟨g1,g2,0,g4,g5,g6,g7⟩ r.now).length vc) rfl HNEW.out rfl (zfk _ rfl) (by unfold maxLen;omega) (by omega) ?_));intro gg og capg wT hsT hfT hbT hltT;have HSA:=H_ hsT;have HFA9:=H_ hfT;have HBA:=H_ hbT;clear hsT hfT hbT t0 t1 t2 t3 lt;go_wp2;go_roundg g
             case rel =>
              have hal:ApS W2 _ u10 _ u12 (Z++[(⟨3,outA ⟨g1,g2,0,g4,g5,g6,g7⟩ r.now,(allA ⟨g1,g2,0,g4,g5,g6,g7⟩ r.now).length,moreA ⟨g1,g2,0,g4,g5,g6,g7⟩ r.now⟩,Value.slice va (outA ⟨g1,g2,0,g4,g5,g6,g7⟩ r.now).length vc)]) _ _:=(HAP9.out.fr0 ((Fr.refl No Zw).alloc _)).answer HFA9.out HSA.out (HKV.out.alloc _) HKD.out (fun b hb=>by
               have hb':gg=b:=(by simpa [Value.ownBlock] using hb);rcases HBA.out with h | h
               · exact .inl (hb' ▸ h)
               right;rw [<-hb',h];exact Nat.le_of_eq (by simp))
              refine ⟨i+1,_,_,_,Z++[(⟨3,outA ⟨g1,g2,0,g4,g5,g6,g7⟩ r.now,(allA ⟨g1,g2,0,g4,g5,g6,g7⟩ r.now).length,moreA ⟨g1,g2,0,g4,g5,g6,g7⟩ r.now⟩,Value.slice va (outA ⟨g1,g2,0,g4,g5,g6,g7⟩ r.now).length vc)],rfl,rfl,rfl,by go_num,by omega,H_ ?_,H_ ?_⟩
              · rw [HQ.out];exact hal
              rw [HQ.out,List.map_append,HZA.out];rfl
             case measure=>omega
           skip
           have hg3b:(g3 == 0)=false:=beq_eq_false_iff_ne.2 hg3;have hrd:getD D r.now ⟨3,⟨g1,g2,g3,g4,g5,g6,g7⟩,p2,p3⟩=(D.at g3):=if_pos hg3
           have hq:runD D (ops.take (i+1))=⟨r.now,r.A++[⟨3,outA ⟨g1,g2,g3,g4,g5,g6,g7⟩ (D.at g3),(allA ⟨g1,g2,g3,g4,g5,g6,g7⟩ (D.at g3)).length,moreA ⟨g1,g2,g3,g4,g5,g6,g7⟩ (D.at g3)⟩],r.E⟩:=by
            rw [HST.out];unfold stepD;rw [if_neg (show ¬ (3:Int)=1 by decide),if_pos rfl,hrd]
           have HQ:=H_ hq;clear hq hrd;have hat3:=HAT.out WA (HF2.out.trans0 HAPA.out.fr) g3;have HAT3:=H_ hat3;clear hat3;go_upto_region 29 with (go_at_call 80;(with_reducible refine HAT3.out.mono ?_);rintro e w5 ⟨v5,rfl,hs5,h5,_⟩);have H5:=H_ h5;have hask:=zcp w5 v5 (D.at g3) hs5 (by have:=HSO.out g3;omega) ⟨g1,g2,g3,g4,g5,g6,g7⟩ hlim;unfold rgV at hask;dsimp only at hask;have HASK:=H_ hask;clear hask hs5 h5;have o0':w5.cell? ⟨ob,0,none⟩=some (.int .i64 3):=H5.out.cell0 o0;have o1':w5.cell? ⟨ob,1,none⟩=some (.string g1):=H5.out.cell0 o1;have o2':w5.cell? ⟨ob,2,none⟩=some (.string g2):=H5.out.cell0 o2;have o3':w5.cell? ⟨ob,3,none⟩=some (.int .i64 g3):=H5.out.cell0 o3;have o4':w5.cell? ⟨ob,4,none⟩=some (.int .i64 g4):=H5.out.cell0 o4
           have o5':w5.cell? ⟨ob,5,none⟩=some (.bool g5):=H5.out.cell0 o5;have o6':w5.cell? ⟨ob,6,none⟩=some (.bool g6):=H5.out.cell0 o6;have o7':w5.cell? ⟨ob,7,none⟩=some (.bool g7):=H5.out.cell0 o7;have o8':w5.cell? ⟨ob,8,none⟩=some (.string p2):=H5.out.cell0 o8;have o9':w5.cell? ⟨ob,9,none⟩=some (.int .i64 p3):=H5.out.cell0 o9;have lob5:=World.block_lt_of_cell? _ _ o0';have lab5:=zac (H5.out.heap HAA.out id)
           go_upto_region 37 with (first
            | (go_at_call 107;(with_reducible refine HASK.out.mono ?_);rintro e w6 ⟨v6,rfl,hs6,ho6,h6⟩
               have h6A:Fr No WA w6:=H5.out.trans0 h6;have ha6:=h6A.heap HAA.out id;obtain ⟨y0,y1,y2,y3⟩:=cells4 ha6;have yf:∀ j,w6.frozen? ⟨ab,j,none⟩=false:=fun j=>by simp [World.frozen?,ha6]
               have la:=zac ha6;obtain ⟨va,vc,rfl,_,_,_⟩:=hs6.shape;obtain ⟨Zw,hZ,hz,hzr⟩:=zqp ha6 (.slice va (outA ⟨g1,g2,g3,g4,g5,g6,g7⟩ (D.at g3)).length vc) (.int .i64 (allA ⟨g1,g2,g3,g4,g5,g6,g7⟩ (D.at g3)).length) (.bool (moreA ⟨g1,g2,g3,g4,g5,g6,g7⟩ (D.at g3)));have HZ:=H_ hZ;have HB9:=H_ hz;have hwz:Fr No wr Zw:=(HFA.out.trans0 h6A).trans (hzr.mono fun _ _ h=>h) (fun j hj h=>by have h':j=ab:=h;omega);have HAP9:=H_ (HAP.out.fr0 hwz);have hvz:SlF Zw 99 6 kvC _ _:=hs6.fr hzr fun b hb h=>by have h':b=ab:=h;have:=ho6 b hb;have:=zac HAA.out;have:=H5.out.size;omega
               have HKV:=H_ hvz
               have HKD:=H_ (fun b (hb:(Value.slice va (outA ⟨g1,g2,g3,g4,g5,g6,g7⟩ (D.at g3)).length vc).ownBlock=some b)=>(show u11.ownBlock≠some b/\u12.ownBlock≠some b/\W2.heap.size<=b from by
                have h1:=ho6 b hb;have h2:=HFA.out.size;have h3:=H5.out.size;have h4:=HAP.out.fr.size;exact ⟨fun e=>by have:=HAP.out.ans.lt b (.inl e);omega,fun e=>by have:=HAP.out.evs.lt b e;omega,by omega⟩))
               clear hZ hz hzr hs6 ho6 h6 ha6 hwz hvz)
            | fail)
           rw [HZ.out];have HNEW:=H_ (zar Zw (ansC (⟨3,outA ⟨g1,g2,g3,g4,g5,g6,g7⟩ (D.at g3),(allA ⟨g1,g2,g3,g4,g5,g6,g7⟩ (D.at g3)).length,moreA ⟨g1,g2,g3,g4,g5,g6,g7⟩ (D.at g3)⟩,Value.slice va (outA ⟨g1,g2,g3,g4,g5,g6,g7⟩ (D.at g3)).length vc)) 97 (0,0));obtain ⟨t0,t1,t2,t3⟩:=cells4 HB9.out;have lt:=zac HB9.out
           have hZl:Z.length<=1000000:=by
            have:=HOK.out.ans;have h2:=congrArg List.length HZA.out;rw [List.length_map] at h2;omega
           go_wp2_with (at_builtin;(refine zbh rfl _ _ 64 rfl 97 i1 _ 4 48 Tryz.underlying64 hi1 hy0 hy1 hy2 rfl (by decide) _ Z rfl (HAP9.out.ans.sl.alloc _) Zw.heap.size 1 (⟨3,outA ⟨g1,g2,g3,g4,g5,g6,g7⟩ (D.at g3),(allA ⟨g1,g2,g3,g4,g5,g6,g7⟩ (D.at g3)).length,moreA ⟨g1,g2,g3,g4,g5,g6,g7⟩ (D.at g3)⟩,Value.slice va (outA ⟨g1,g2,g3,g4,g5,g6,g7⟩ (D.at g3)).length vc) rfl HNEW.out rfl (zfk _ rfl) (by unfold maxLen;omega) (by omega) ?_));intro gg og capg wT hsT hfT hbT hltT;have HSA:=H_ hsT;have HFA9:=H_ hfT;have HBA:=H_ hbT;clear hsT hfT hbT t0 t1 t2 t3 lt;go_wp2;go_roundg g
           case rel =>
            have hal:ApS W2 _ u10 _ u12 (Z++[(⟨3,outA ⟨g1,g2,g3,g4,g5,g6,g7⟩ (D.at g3),(allA ⟨g1,g2,g3,g4,g5,g6,g7⟩ (D.at g3)).length,moreA ⟨g1,g2,g3,g4,g5,g6,g7⟩ (D.at g3)⟩,Value.slice va (outA ⟨g1,g2,g3,g4,g5,g6,g7⟩ (D.at g3)).length vc)]) _ _:=(HAP9.out.fr0 ((Fr.refl No Zw).alloc _)).answer HFA9.out HSA.out (HKV.out.alloc _) HKD.out (fun b hb=>by
             have hb':gg=b:=(by simpa [Value.ownBlock] using hb);rcases HBA.out with h | h
             · exact .inl (hb' ▸ h)
             right;rw [<-hb',h];exact Nat.le_of_eq (by simp))
            refine ⟨i+1,_,_,_,Z++[(⟨3,outA ⟨g1,g2,g3,g4,g5,g6,g7⟩ (D.at g3),(allA ⟨g1,g2,g3,g4,g5,g6,g7⟩ (D.at g3)).length,moreA ⟨g1,g2,g3,g4,g5,g6,g7⟩ (D.at g3)⟩,Value.slice va (outA ⟨g1,g2,g3,g4,g5,g6,g7⟩ (D.at g3)).length vc)],rfl,rfl,rfl,by go_num,by omega,H_ ?_,H_ ?_⟩
            · rw [HQ.out];exact hal
            rw [HQ.out,List.map_append,HZA.out];rfl
           case measure=>omega
         have hk3b:(p1 == 3)=false:=beq_eq_false_iff_ne.2 hk3
         by_cases hk1:p1=1
         · subst hk1
           have hver:=HOK.out.ver;have hput:=zmo WA _ r.now HAPA.out.nw (by have:=HOK.out.len;omega) ⟨1,⟨g1,g2,g3,g4,g5,g6,g7⟩,p2,p3⟩ (D.rev+1) hver
           have hq:runD D (ops.take (i+1))=⟨doneL r.now (putD r.now ⟨1,⟨g1,g2,g3,g4,g5,g6,g7⟩,p2,p3⟩ (D.rev+1)),r.A++[⟨1,told (putD r.now ⟨1,⟨g1,g2,g3,g4,g5,g6,g7⟩,p2,p3⟩ (D.rev+1)),(told (putD r.now ⟨1,⟨g1,g2,g3,g4,g5,g6,g7⟩,p2,p3⟩ (D.rev+1))).length,false⟩],r.E++[putD r.now ⟨1,⟨g1,g2,g3,g4,g5,g6,g7⟩,p2,p3⟩ (D.rev+1)]⟩:=by
            rw [HST.out];unfold stepD;rw [if_pos rfl]
           have HQ0:=H_ hq;clear hq hver;generalize putD r.now ⟨1,⟨g1,g2,g3,g4,g5,g6,g7⟩,p2,p3⟩ (D.rev+1)=x at *;obtain ⟨xk,⟨e1,e2,e3,e4,e5,e6⟩,⟨q1,q2,q3,q4,q5,q6⟩⟩:=x;unfold opV evV at hput;dsimp only at hput;have HPUT:=H_ hput;clear hput;go_upto_region 32 with (go_at_call 113;(with_reducible refine HPUT.out.mono ?_);rintro e w5 ⟨rfl,h5⟩);have hx6:=zad w5 (Obj.cells #[.int .i64 xk,.string e1,.string e2,.int .i64 e3,.int .i64 e4,.int .i64 e5,.int .i64 e6,.string q1,.string q2,.int .i64 q3,.int .i64 q4,.int .i64 q5,.int .i64 q6] 101) _ rfl;have hf6:Fr No WA (w5.alloc (Obj.cells #[.int .i64 xk,.string e1,.string e2,.int .i64 e3,.int .i64 e4,.int .i64 e5,.int .i64 e6,.string q1,.string q2,.int .i64 q3,.int .i64 q4,.int .i64 q5,.int .i64 q6] 101)):=h5.alloc _
           generalize w5.alloc (Obj.cells #[.int .i64 xk,.string e1,.string e2,.int .i64 e3,.int .i64 e4,.int .i64 e5,.int .i64 e6,.string q1,.string q2,.int .i64 q3,.int .i64 q4,.int .i64 q5,.int .i64 q6] 101)=W6 at *;generalize hxb:w5.heap.size=xb at *;have HX6:=H_ hx6;have H6:=H_ hf6;have HAB6:=H_ (hf6.heap HAA.out id);have sA:=HFA.out.size;have s6:=hf6.size;have hsx:xb < W6.heap.size:=zac hx6;have hxA:WA.heap.size<=xb:=(by rw [<-hxb];exact h5.size);have hEl:∀ b,u12.ownBlock=some b->b < ob:=fun b hb=>by have:=HAP.out.evs.lt b hb;omega
           have hAl:∀ b,u11.ownBlock=some b->b < ob:=fun b hb=>by have:=HAP.out.ans.lt b (.inl hb);omega
           have HEl:=H_ hEl;have HAl:=H_ hAl;have hW2A:=HAPA.out.fr.size;have hW2o:W2.heap.size<=ob:=(by have:=HAP.out.fr.size;omega);clear hx6 hf6 h5 o0 o1 o2 o3 o4 o5 o6 o7 o8 o9 d0 d1 d2 d3 ld lob lab hEl hAl;by_cases hv5:0 < q5
           · have hv5':decide (q5 > 0)=true:=decide_eq_true hv5
             have htold:told ⟨xk,⟨e1,e2,e3,e4,e5,e6⟩,⟨q1,q2,q3,q4,q5,q6⟩⟩ = [⟨q1,q2,q3,q4,q5,q6⟩]:=if_pos hv5;have hq:=HQ0.out;rw [htold] at hq;have HQ:=H_ hq;clear hq htold HQ0;obtain ⟨c0,c1,c2,c3,c4,c5,c6,c7,c8,c9,c10,c11,c12⟩:=cells13 HX6.out;obtain ⟨y0,y1,y2,y3⟩:=cells4 HAB6.out;have yf:∀ j,W6.frozen? ⟨ab,j,none⟩=false:=fun j=>by simp [World.frozen?,HAB6.out]
             have lab6:=zac HAB6.out;have lx6:=zac HX6.out;go_upto_region 35 with fail;obtain ⟨Zw,hZ,hz,hzr⟩:=zns HAB6.out (.slice (some ⟨W6.heap.size,0,none⟩) 1 1) (.int .i64 1);have hzs:Zw.heap.size=W6.heap.size:=(by rw [<-hZ];simp);have hone1:=SlF.one Zw 99 6 (⟨q1,q2,q3,q4,q5,q6⟩:Kv) (f:=kvC) rfl;rw [hzs] at hone1;have hx7:=zaj (hzr.heap HX6.out (show ¬ xb=ab from by have:=zac HAA.out;omega)) (Obj.cells #[.string q1,.string q2,.int .i64 q3,.int .i64 q4,.int .i64 q5,.int .i64 q6] 99);have hkz:SlF (Zw.alloc (Obj.cells #[.string q1,.string q2,.int .i64 q3,.int .i64 q4,.int .i64 q5,.int .i64 q6] 99)) 99 6 kvC (.slice (some ⟨W6.heap.size,0,none⟩) 1 1) [⟨q1,q2,q3,q4,q5,q6⟩]:=hone1
             have hwz:Fr No wr (Zw.alloc (Obj.cells #[.string q1,.string q2,.int .i64 q3,.int .i64 q4,.int .i64 q5,.int .i64 q6] 99)):=((HFA.out.trans0 H6.out).trans hzr (fun j hj h=>by have h':j=ab:=h;omega)).alloc _;have hz7:=zaj hz (Obj.cells #[.string q1,.string q2,.int .i64 q3,.int .i64 q4,.int .i64 q5,.int .i64 q6] 99);rw [hZ];have HX7':=H_ hx7;have HB7':=H_ hz7;have HK7':=H_ hkz;have HWZ:=H_ hwz;clear hZ hz hz7 hzr hzs hone1 hx7 hkz hwz c0 c1 c2 c3 c4 c5 c6 c7 c8 c9 c10 c11 c12 y0 y1 y2 y3 yf lab6 lx6;generalize Zw.alloc (Obj.cells #[.string q1,.string q2,.int .i64 q3,.int .i64 q4,.int .i64 q5,.int .i64 q6] 99)=W7 at *
             have HX7:Hid (W7.heap[xb]? = some (Obj.cells #[.int .i64 xk,.string e1,.string e2,.int .i64 e3,.int .i64 e4,.int .i64 e5,.int .i64 e6,.string q1,.string q2,.int .i64 q3,.int .i64 q4,.int .i64 q5,.int .i64 q6] 101 (0,0))):=HX7';have HB7:Hid (W7.heap[ab]? = some (.cells #[.int .i64 1,.slice (some ⟨W6.heap.size,0,none⟩) 1 1,.int .i64 1,.bool false] 97 (0,0))):=HB7';have HK7:=HK7';have HAP7:=H_ (HAP.out.fr0 HWZ.out);have HEAB:Hid (¬ u12.ownBlock=some ab):=H_ (fun e=>by have:=HEl.out ab e;omega)
             have HKE:Hid (∀ b,(Value.slice (some ⟨W6.heap.size,0,none⟩) 1 1).ownBlock=some b->¬ u12.ownBlock=some b):=H_ (fun b hb e=>by
              have hb':W6.heap.size=b:=(by simpa [Value.ownBlock] using hb);have:=HEl.out b e;omega)
             have HKA:Hid (∀ b,(Value.slice (some ⟨W6.heap.size,0,none⟩) 1 1).ownBlock=some b->u11.ownBlock≠some b):=H_ (fun b hb e=>by
              have hb':W6.heap.size=b:=(by simpa [Value.ownBlock] using hb);have:=HAl.out b e;omega)
             have HKW:Hid (∀ b,(Value.slice (some ⟨W6.heap.size,0,none⟩) 1 1).ownBlock=some b->W2.heap.size<=b):=H_ (fun b hb=>by
              have hb':W6.heap.size=b:=(by simpa [Value.ownBlock] using hb);omega)
             clear HX7' HB7' HK7';have hdn:=zcj W7 _ _ HAP7.out.nw (by have:=HOK.out.len;omega) ⟨xk,⟨e1,e2,e3,e4,e5,e6⟩,⟨q1,q2,q3,q4,q5,q6⟩⟩;rw [zgt HOK.out.ks] at hdn;unfold evV at hdn;dsimp only at hdn;have HDN:=H_ hdn;clear hdn;obtain ⟨c0,c1,c2,c3,c4,c5,c6,c7,c8,c9,c10,c11,c12⟩:=cells13 HX7.out;have lx7:=zac HX7.out;go_upto_region 36 with (go_at_call 73;(with_reducible refine HDN.out.mono ?_);rintro e w8 ⟨v8,rfl,hs8,ho8,h8⟩);have HS8:=H_ hs8;have HO8:=H_ ho8;have H8:=H_ h8;clear c0 c1 c2 c3 c4 c5 c6 c7 c8 c9 c10 c11 c12 lx7 hs8 ho8 h8;have HX8:=H_ (H8.out.heap HX7.out id);obtain ⟨c0,c1,c2,c3,c4,c5,c6,c7,c8,c9,c10,c11,c12⟩:=cells13 HX8.out;have lx8:=zac HX8.out;have HAP8:=H_ (HAP7.out.done H8.out HS8.out HO8.out)
             have HNEW8:=H_ (zar w8 (evC ⟨xk,⟨e1,e2,e3,e4,e5,e6⟩,⟨q1,q2,q3,q4,q5,q6⟩⟩) 101 (0,0));have hel:=HOK.out.ev;go_wp2_with (at_builtin;(refine zbh rfl _ _ 28 rfl 101 i0 _ 13 136 Tryz.underlying28 hi0 hz0 hz1 hz2 rfl (by decide) _ _ rfl (HAP8.out.evs.alloc _) w8.heap.size 1 ⟨xk,⟨e1,e2,e3,e4,e5,e6⟩,⟨q1,q2,q3,q4,q5,q6⟩⟩ rfl HNEW8.out rfl (zek _) (by unfold maxLen;omega) (by omega) ?_));intro g9 o9 cap9 w9 hs9 hf9 hb9 hlt9;have HS9:=H_ hs9;have HF9:=H_ hf9;have HBB9:=H_ hb9;clear c0 c1 c2 c3 c4 c5 c6 c7 c8 c9 c10 c11 c12 lx8 hs9 hf9 hb9 hel
             have HO9:Hid (∀ b,(Value.slice (some ⟨g9,o9,none⟩) (r.E.length+1) cap9).ownBlock=some b->u12.ownBlock=some b\/w8.heap.size+1<=b):=H_ (fun b hb=>by
              have hb':g9=b:=(by simpa [Value.ownBlock] using hb);rcases HBB9.out with h | h
              · exact .inl (hb' ▸ h)
              right;rw [<-hb',h];exact Nat.le_of_eq (by simp))
             have HAP9:=H_ ((HAP8.out.fr0 ((Fr.refl No w8).alloc _)).event HF9.out HS9.out (fun b hb=>(HO9.out b hb).imp id fun h=>by simpa using h));have hf79:Fr (fun b=>u12.ownBlock=some b) W7 w9:=(((H8.out.trans0 ((Fr.refl No w8).alloc _)).mono fun _ _ h=>h.elim)).trans HF9.out fun _ _ h=>h;have HF79:=H_ hf79;have HB9:=H_ (hf79.heap HB7.out HEAB.out);have HKV:=H_ (HK7.out.fr hf79 fun b hb e=>(HKE.out b hb) e);have hs78:=H8.out.size
             have HKD:Hid (∀ b,(Value.slice (some ⟨W6.heap.size,0,none⟩) 1 1).ownBlock=some b->u11.ownBlock≠some b/\(Value.slice (some ⟨g9,o9,none⟩) (r.E.length+1) cap9).ownBlock≠some b/\W2.heap.size<=b):=H_ (fun b hb=>⟨HKA.out b hb,fun e=>by
              rcases HO9.out b e with h | h
              · exact HKE.out b hb h
              have:=HK7.out.lt b hb;omega,HKW.out b hb⟩)
             have HEAB9:Hid ((Value.slice (some ⟨g9,o9,none⟩) (r.E.length+1) cap9).ownBlock≠some ab):=H_ (fun e=>by
              rcases HO9.out ab e with h | h
              · exact HEAB.out h
              have:=zac HB7.out;omega)
             clear hf79;have HNEW:=H_ (zar w9 (ansC (⟨1,[⟨q1,q2,q3,q4,q5,q6⟩],1,false⟩,Value.slice (some ⟨W6.heap.size,0,none⟩) 1 1)) 97 (0,0));obtain ⟨t0,t1,t2,t3⟩:=cells4 HB9.out;have lt:=zac HB9.out
             have hZl:Z.length<=1000000:=by
              have:=HOK.out.ans;have h2:=congrArg List.length HZA.out;rw [List.length_map] at h2;omega
             go_wp2_with (at_builtin;(refine zbh rfl _ _ 64 rfl 97 i1 _ 4 48 Tryz.underlying64 hi1 hy0 hy1 hy2 rfl (by decide) _ Z rfl (HAP9.out.ans.sl.alloc _) w9.heap.size 1 (⟨1,[⟨q1,q2,q3,q4,q5,q6⟩],1,false⟩,Value.slice (some ⟨W6.heap.size,0,none⟩) 1 1) rfl HNEW.out rfl (zfk _ rfl) (by unfold maxLen;omega) (by omega) ?_));intro gg og capg wT hsT hfT hbT hltT;have HSA:=H_ hsT;have HFA9:=H_ hfT;have HBA:=H_ hbT;clear hsT hfT hbT t0 t1 t2 t3 lt;go_wp2;go_roundg g
             case rel =>
              have hal:ApS W2 _ v8 _ _ (Z++[(⟨1,[⟨q1,q2,q3,q4,q5,q6⟩],1,false⟩,Value.slice (some ⟨W6.heap.size,0,none⟩) 1 1)]) _ _:=(HAP9.out.fr0 ((Fr.refl No w9).alloc _)).answer HFA9.out HSA.out (HKV.out.alloc _) HKD.out (fun b hb=>by
               have hb':gg=b:=(by simpa [Value.ownBlock] using hb);rcases HBA.out with h | h
               · exact .inl (hb' ▸ h)
               right;rw [<-hb',h];exact Nat.le_of_eq (by simp))
              refine ⟨i+1,_,_,_,Z++[(⟨1,[⟨q1,q2,q3,q4,q5,q6⟩],1,false⟩,Value.slice (some ⟨W6.heap.size,0,none⟩) 1 1)],rfl,rfl,rfl,by go_num,by omega,H_ ?_,H_ ?_⟩
              · rw [HQ.out];exact hal
              rw [HQ.out,List.map_append,HZA.out];rfl
             case measure=>omega
           have hv5':decide (q5 > 0)=false:=decide_eq_false hv5
           have htold:told ⟨xk,⟨e1,e2,e3,e4,e5,e6⟩,⟨q1,q2,q3,q4,q5,q6⟩⟩ = []:=if_neg hv5;have hq:=HQ0.out;rw [htold] at hq;have HQ:=H_ hq;clear hq htold HQ0;obtain ⟨c0,c1,c2,c3,c4,c5,c6,c7,c8,c9,c10,c11,c12⟩:=cells13 HX6.out;have lx6:=zac HX6.out;go_upto_region 35 with fail;clear c0 c1 c2 c3 c4 c5 c6 c7 c8 c9 c10 c11 c12 lx6;obtain ⟨W7,hW7⟩:∃ W7,W7=W6:=⟨_,rfl⟩;subst hW7;have HX7:=HX6;have HB7:=HAB6;have HK7:Hid (SlF W7 99 6 kvC (.slice none 0 0) []):=H_ (SlF.nil _ _ _ _);have HAP7:=H_ (HAP.out.fr0 (HFA.out.trans0 H6.out));have HEAB:Hid (¬ u12.ownBlock=some ab):=H_ (fun e=>by have:=HEl.out ab e;omega);have HKE:Hid (∀ b,(Value.slice none 0 0).ownBlock=some b->¬ u12.ownBlock=some b):=H_ (by simp [Value.ownBlock])
           have HKA:Hid (∀ b,(Value.slice none 0 0).ownBlock=some b->u11.ownBlock≠some b):=H_ (by simp [Value.ownBlock]);have HKW:Hid (∀ b,(Value.slice none 0 0).ownBlock=some b->W2.heap.size<=b):=H_ (by simp [Value.ownBlock]);have hdn:=zcj W7 _ _ HAP7.out.nw (by have:=HOK.out.len;omega) ⟨xk,⟨e1,e2,e3,e4,e5,e6⟩,⟨q1,q2,q3,q4,q5,q6⟩⟩;rw [zgt HOK.out.ks] at hdn;unfold evV at hdn;dsimp only at hdn;have HDN:=H_ hdn;clear hdn;obtain ⟨c0,c1,c2,c3,c4,c5,c6,c7,c8,c9,c10,c11,c12⟩:=cells13 HX7.out;have lx7:=zac HX7.out;go_upto_region 36 with (go_at_call 73;(with_reducible refine HDN.out.mono ?_);rintro e w8 ⟨v8,rfl,hs8,ho8,h8⟩);have HS8:=H_ hs8;have HO8:=H_ ho8;have H8:=H_ h8;clear c0 c1 c2 c3 c4 c5 c6 c7 c8 c9 c10 c11 c12 lx7 hs8 ho8 h8;have HX8:=H_ (H8.out.heap HX7.out id)
           obtain ⟨c0,c1,c2,c3,c4,c5,c6,c7,c8,c9,c10,c11,c12⟩:=cells13 HX8.out;have lx8:=zac HX8.out;have HAP8:=H_ (HAP7.out.done H8.out HS8.out HO8.out);have HNEW8:=H_ (zar w8 (evC ⟨xk,⟨e1,e2,e3,e4,e5,e6⟩,⟨q1,q2,q3,q4,q5,q6⟩⟩) 101 (0,0));have hel:=HOK.out.ev;go_wp2_with (at_builtin;(refine zbh rfl _ _ 28 rfl 101 i0 _ 13 136 Tryz.underlying28 hi0 hz0 hz1 hz2 rfl (by decide) _ _ rfl (HAP8.out.evs.alloc _) w8.heap.size 1 ⟨xk,⟨e1,e2,e3,e4,e5,e6⟩,⟨q1,q2,q3,q4,q5,q6⟩⟩ rfl HNEW8.out rfl (zek _) (by unfold maxLen;omega) (by omega) ?_));intro g9 o9 cap9 w9 hs9 hf9 hb9 hlt9;have HS9:=H_ hs9;have HF9:=H_ hf9;have HBB9:=H_ hb9;clear c0 c1 c2 c3 c4 c5 c6 c7 c8 c9 c10 c11 c12 lx8 hs9 hf9 hb9 hel
           have HO9:Hid (∀ b,(Value.slice (some ⟨g9,o9,none⟩) (r.E.length+1) cap9).ownBlock=some b->u12.ownBlock=some b\/w8.heap.size+1<=b):=H_ (fun b hb=>by
            have hb':g9=b:=(by simpa [Value.ownBlock] using hb);rcases HBB9.out with h | h
            · exact .inl (hb' ▸ h)
            right;rw [<-hb',h];exact Nat.le_of_eq (by simp))
           have HAP9:=H_ ((HAP8.out.fr0 ((Fr.refl No w8).alloc _)).event HF9.out HS9.out (fun b hb=>(HO9.out b hb).imp id fun h=>by simpa using h));have hf79:Fr (fun b=>u12.ownBlock=some b) W7 w9:=(((H8.out.trans0 ((Fr.refl No w8).alloc _)).mono fun _ _ h=>h.elim)).trans HF9.out fun _ _ h=>h;have HF79:=H_ hf79;have HB9:=H_ (hf79.heap HB7.out HEAB.out);have HKV:=H_ (HK7.out.fr hf79 fun b hb e=>(HKE.out b hb) e);have hs78:=H8.out.size
           have HKD:Hid (∀ b,(Value.slice none 0 0).ownBlock=some b->u11.ownBlock≠some b/\(Value.slice (some ⟨g9,o9,none⟩) (r.E.length+1) cap9).ownBlock≠some b/\W2.heap.size<=b):=H_ (fun b hb=>⟨HKA.out b hb,fun e=>by
            rcases HO9.out b e with h | h
            · exact HKE.out b hb h
            have:=HK7.out.lt b hb;omega,HKW.out b hb⟩)
           have HEAB9:Hid ((Value.slice (some ⟨g9,o9,none⟩) (r.E.length+1) cap9).ownBlock≠some ab):=H_ (fun e=>by
            rcases HO9.out ab e with h | h
            · exact HEAB.out h
            have:=zac HB7.out;omega)
           clear hf79;have HNEW:=H_ (zar w9 (ansC (⟨1,[],0,false⟩,Value.slice none 0 0)) 97 (0,0));obtain ⟨t0,t1,t2,t3⟩:=cells4 HB9.out;have lt:=zac HB9.out
           have hZl:Z.length<=1000000:=by
            have:=HOK.out.ans;have h2:=congrArg List.length HZA.out;rw [List.length_map] at h2;omega
           go_wp2_with (at_builtin;(refine zbh rfl _ _ 64 rfl 97 i1 _ 4 48 Tryz.underlying64 hi1 hy0 hy1 hy2 rfl (by decide) _ Z rfl (HAP9.out.ans.sl.alloc _) w9.heap.size 1 (⟨1,[],0,false⟩,Value.slice none 0 0) rfl HNEW.out rfl (zfk _ rfl) (by unfold maxLen;omega) (by omega) ?_));intro gg og capg wT hsT hfT hbT hltT;have HSA:=H_ hsT;have HFA9:=H_ hfT;have HBA:=H_ hbT;clear hsT hfT hbT t0 t1 t2 t3 lt;go_wp2;go_roundg g
           case rel =>
            have hal:ApS W2 _ v8 _ _ (Z++[(⟨1,[],0,false⟩,Value.slice none 0 0)]) _ _:=(HAP9.out.fr0 ((Fr.refl No w9).alloc _)).answer HFA9.out HSA.out (HKV.out.alloc _) HKD.out (fun b hb=>by
             have hb':gg=b:=(by simpa [Value.ownBlock] using hb);rcases HBA.out with h | h
             · exact .inl (hb' ▸ h)
             right;rw [<-hb',h];exact Nat.le_of_eq (by simp))
            refine ⟨i+1,_,_,_,Z++[(⟨1,[],0,false⟩,Value.slice none 0 0)],rfl,rfl,rfl,by go_num,by omega,H_ ?_,H_ ?_⟩
            · rw [HQ.out];exact hal
            rw [HQ.out,List.map_append,HZA.out];rfl
           case measure=>omega
         have hk1b:(p1 == 1)=false:=beq_eq_false_iff_ne.2 hk1
         have hask:=zcp WA _ r.now HAPA.out.nw (by have:=HOK.out.len;omega) ⟨g1,g2,0,0,false,false,false⟩ (Int.le_refl 0);have hal:(allA ⟨g1,g2,0,0,false,false,false⟩ r.now).length=(outA ⟨g1,g2,0,0,false,false,false⟩ r.now).length:=zwb ⟨p1,⟨g1,g2,g3,g4,g5,g6,g7⟩,p2,p3⟩ r.now;have hmo:moreA ⟨g1,g2,0,0,false,false,false⟩ r.now=moreA ⟨g1,g2,0,0,false,false,false⟩ r.now:=rfl;rw [hal] at hask
         have hq:runD D (ops.take (i+1))=⟨(outA ⟨g1,g2,0,0,false,false,false⟩ r.now).foldl (fun l x=>doneL l (goneE x (D.rev+1))) r.now,r.A++[⟨p1,outA ⟨g1,g2,0,0,false,false,false⟩ r.now,(outA ⟨g1,g2,0,0,false,false,false⟩ r.now).length,false⟩],r.E++(outA ⟨g1,g2,0,0,false,false,false⟩ r.now).map fun x=>goneE x (D.rev+1)⟩:=by
          rw [HST.out];unfold stepD;rw [if_neg hk1,if_neg hk3]
          rfl
         have hkl:(outA ⟨g1,g2,0,0,false,false,false⟩ r.now).length<=1000000:=by
          have h1:=zic ⟨p1,⟨g1,g2,g3,g4,g5,g6,g7⟩,p2,p3⟩ r.now;have h2:outA ⟨g1,g2,0,0,false,false,false⟩ r.now=r.now.filter fun y=>inB y.key g1 g2:=h1;rw [h2];exact Nat.le_trans (List.length_filter_le _ _) HOK.out.len
         unfold rgV at hask;dsimp only at hask;have HASK:=H_ hask;have HQ0:=H_ hq;clear hask hq hal hmo;generalize outA ⟨g1,g2,0,0,false,false,false⟩ r.now=K at *
         go_upto_region 20 with (first
          | (go_at_call 107;(with_reducible refine HASK.out.mono ?_);rintro e w6 ⟨v6,rfl,hs6,ho6,h6⟩
             have ha6:=h6.heap HAA.out id;obtain ⟨y0,y1,y2,y3⟩:=cells4 ha6;have yf:∀ j,w6.frozen? ⟨ab,j,none⟩=false:=fun j=>by simp [World.frozen?,ha6]
             have la:=zac ha6;obtain ⟨va,vc,rfl,hva1,hva2,hva3⟩:=hs6.shape;obtain ⟨Zw,hZ,hz,hzr⟩:=zns ha6 (.slice va K.length vc) (.int .i64 K.length);have HZ:=H_ hZ;have HBz:=H_ hz;have hwz:Fr No wr Zw:=(HFA.out.trans0 h6).trans (hzr.mono fun _ _ h=>h) (fun j hj h=>by have h':j=ab:=h;omega);have HAPz:=H_ (HAP.out.fr0 hwz);have hvz:SlF Zw 99 6 kvC _ _:=hs6.fr hzr fun b hb h=>by have h':b=ab:=h;have:=ho6 b hb;have:=zac HAA.out;omega
             have HKz:=H_ hvz;have HVA:=H_ hva3;have hko:∀ b,(Value.slice va K.length vc).ownBlock=some b->ob+2<=b:=fun b hb=>by have:=ho6 b hb;have:=zac HAA.out;omega
             have HKO:=H_ hko;clear hZ hz hzr hs6 ho6 h6 ha6 hwz hvz hva3 hko)
          | fail)
         rw [HZ.out]
         have HKA:Hid (∀ b,(Value.slice va K.length vc).ownBlock=some b->u11.ownBlock≠some b):=H_ (fun b hb e=>by
          have h1:=HKO.out b hb;have h2:=HAP.out.ans.lt b (.inl e);omega)
         have HKW:Hid (∀ b,(Value.slice va K.length vc).ownBlock=some b->W2.heap.size<=b):=H_ (fun b hb=>by
          have h1:=HKO.out b hb;have h2:=HAP.out.fr.size;omega)
         have HEABz:Hid (¬ u12.ownBlock=some ab):=H_ (fun e=>by have:=HAP.out.evs.lt ab e;omega)
         have HKEz:Hid (∀ b,(Value.slice va K.length vc).ownBlock=some b->¬ u12.ownBlock=some b):=H_ (fun b hb e=>by
          have h1:=HKO.out b hb;have h2:=HAP.out.evs.lt b e;omega)
         have HLz:Hid (KSorted r.now/\r.now.length<=1000000/\r.E.length<=1000000):=H_ ⟨HOK.out.ks,HOK.out.len,HOK.out.ev⟩;clear o0 o1 o2 o3 o4 o5 o6 o7 o8 o9 d0 d1 d2 d3 ld lob lab y0 y1 y2 y3 yf la HKO HAP HAPA HFA HOA HAA HASK HZ HV3;obtain ⟨wO,hwO⟩:∃ wO,wO=wr:=⟨_,rfl⟩;subst hwO
         go_loopg [10,12,18] K.length (fun g s10 s12 s18 wr=>∃ (k:Nat) (nv ev:Value) (NL:List Kv) (EL:List Ev),s10=nv/\s12=ev/\s18 = .int .i64 k/\k+g=K.length/\Hid (ApS W2 wr nv u11 ev Z NL EL)/\Hid (wr.heap[ab]? = some (.cells #[.int .i64 p1,.slice va K.length vc,.int .i64 K.length,.bool false] 97 (0,0)))/\Hid (SlF wr 99 6 kvC (.slice va K.length vc) K)/\Hid (¬ ev.ownBlock=some ab)/\Hid (∀ b,(Value.slice va K.length vc).ownBlock=some b->¬ ev.ownBlock=some b) ∧
          Hid (KSorted NL/\NL.length<=1000000+k/\EL.length<=1000000+k)/\Hid (NL=(K.take k).foldl (fun l x=>doneL l (goneE x (D.rev+1))) r.now)/\Hid (EL=r.E++(K.take k).map fun x=>goneE x (D.rev+1)))
         case atStart=>exact ⟨0,_,_,r.now,r.E,rfl,rfl,rfl,by omega,HAPz,HBz,HKz,HEABz,HKEz,HLz,H_ rfl,H_ (by simp)⟩
         case round =>
          obtain ⟨k,nv,ev,NL,EL,rfl,rfl,rfl,hk,HAPq,HB7,HK7,HEAB,HKE,HLN,HNL,HEL⟩:=hrel;have t1:wr.cell? ⟨ab,1,none⟩=some (.slice va K.length vc):=cellAt HB7.out 1 rfl;have lt1:=zac HB7.out
          cases gk with
          | zero =>
            have hkl2:¬ (k:Int) < (K.length:Int):=(by omega);have hke:k=K.length:=(by omega);subst hke;rw [List.take_length] at HNL HEL;have HQ:Hid (runD D (ops.take (i+1))=⟨NL,r.A++[⟨p1,K,K.length,false⟩],EL⟩):=H_ (by rw [HQ0.out,HNL.out,HEL.out]);have HAP9:=HAPq;have HB9:=HB7;have HKV:=HK7;have HKD:Hid (∀ b,(Value.slice va K.length vc).ownBlock=some b->u11.ownBlock≠some b/\u12.ownBlock≠some b/\W2.heap.size<=b):=H_ (fun b hb=>⟨HKA.out b hb,HKE.out b hb,HKW.out b hb⟩);clear HQ0 HAPz HBz HKz HEABz HKEz HLz HLN HEAB HKE t1 lt1 HAPq HB7 HK7;have t1:wr.cell? ⟨ab,1,none⟩=some (.slice va K.length vc):=cellAt HB9.out 1 rfl;have lt1:=zac HB9.out;go_upto_region 37 with fail;clear t1 lt1;have HNEW:=H_ (zar wr (ansC (⟨p1,K,K.length,false⟩,Value.slice va K.length vc)) 97 (0,0))
            obtain ⟨t0,t1,t2,t3⟩:=cells4 HB9.out;have lt:=zac HB9.out
            have hZl:Z.length<=1000000:=by
             have:=HOK.out.ans;have h2:=congrArg List.length HZA.out;rw [List.length_map] at h2;omega
            go_wp2_with (at_builtin;(refine zbh rfl _ _ 64 rfl 97 i1 _ 4 48 Tryz.underlying64 hi1 hy0 hy1 hy2 rfl (by decide) _ Z rfl (HAP9.out.ans.sl.alloc _) wr.heap.size 1 (⟨p1,K,K.length,false⟩,Value.slice va K.length vc) rfl HNEW.out rfl (zfk _ rfl) (by unfold maxLen;omega) (by omega) ?_));intro gg og capg wT hsT hfT hbT hltT;have HSA:=H_ hsT;have HFA9:=H_ hfT;have HBA:=H_ hbT;clear hsT hfT hbT t0 t1 t2 t3 lt;go_wp2;go_roundg g
            case rel =>
             have hal:ApS W2 _ _ _ _ (Z++[(⟨p1,K,K.length,false⟩,Value.slice va K.length vc)]) _ _:=(HAP9.out.fr0 ((Fr.refl No wr).alloc _)).answer HFA9.out HSA.out (HKV.out.alloc _) HKD.out (fun b hb=>by
              have hb':gg=b:=(by simpa [Value.ownBlock] using hb);rcases HBA.out with h | h
              · exact .inl (hb' ▸ h)
              right;rw [<-hb',h];exact Nat.le_of_eq (by simp))
             refine ⟨i+1,_,_,_,Z++[(⟨p1,K,K.length,false⟩,Value.slice va K.length vc)],rfl,rfl,rfl,by go_num,by omega,H_ ?_,H_ ?_⟩
             · rw [HQ.out];exact hal
             rw [HQ.out,List.map_append,HZA.out];rfl
            case measure=>omega
          | succ gL =>
            have hkl2:(k:Int) < (K.length:Int):=(by omega);obtain ⟨z,hz⟩:∃ z,K[k]? = some z:=⟨_,List.getElem?_eq_getElem (by omega)⟩;obtain ⟨gv,ov,rfl⟩:=HVA.out (by omega);obtain ⟨f0,f1,f2,f3,f4,f5⟩:=HK7.out.cells6 zae k hz rfl;have lf:=World.block_lt_of_cell? _ _ f0;have dd:=(HS.out wr HAPq.out.fr).1;have ldd:=World.block_lt_of_cell? _ _ dd
            have hNL2:(K.take (k+1)).foldl (fun l x=>doneL l (goneE x (D.rev+1))) r.now=doneL NL (goneE z (D.rev+1)):=by
             rw [List.take_add_one,hz,List.foldl_append,HNL.out];rfl
            have hEL2:r.E++(K.take (k+1)).map (fun x=>goneE x (D.rev+1))=EL++[goneE z (D.rev+1)]:=by
             rw [List.take_add_one,hz,List.map_append,HEL.out,List.append_assoc];rfl
            have HNL2:=H_ hNL2;have HEL2:=H_ hEL2;clear hNL2 hEL2 hz;obtain ⟨z1,z2,z3,z4,z5,z6⟩:=z;dsimp only at f0 f1 f2 f3 f4 f5;have HLEN:Hid (NL.length<=2000000):=H_ (by have:=HLN.out.2.1;omega);go_upto_region 22 with fail
            go_region
            have hx7:((wr.alloc (Obj.cells #[.int .i64 2,.string z1,.string ⟨#[]⟩,.int .i64 0,.int .i64 (D.rev+1),.int .i64 0,.int .i64 0,.string z1,.string z2,.int .i64 z3,.int .i64 z4,.int .i64 z5,.int .i64 z6] 101)).drew).heap[wr.heap.size]? = some (Obj.cells #[.int .i64 2,.string z1,.string ⟨#[]⟩,.int .i64 0,.int .i64 (D.rev+1),.int .i64 0,.int .i64 0,.string z1,.string z2,.int .i64 z3,.int .i64 z4,.int .i64 z5,.int .i64 z6] 101 (0,0)):=zad wr (Obj.cells #[.int .i64 2,.string z1,.string ⟨#[]⟩,.int .i64 0,.int .i64 (D.rev+1),.int .i64 0,.int .i64 0,.string z1,.string z2,.int .i64 z3,.int .i64 z4,.int .i64 z5,.int .i64 z6] 101) _ rfl
            have hf7:Fr No wr ((wr.alloc (Obj.cells #[.int .i64 2,.string z1,.string ⟨#[]⟩,.int .i64 0,.int .i64 (D.rev+1),.int .i64 0,.int .i64 0,.string z1,.string z2,.int .i64 z3,.int .i64 z4,.int .i64 z5,.int .i64 z6] 101)).drew):=((Fr.refl No wr).alloc _).drew;generalize (wr.alloc (Obj.cells #[.int .i64 2,.string z1,.string ⟨#[]⟩,.int .i64 0,.int .i64 (D.rev+1),.int .i64 0,.int .i64 0,.string z1,.string z2,.int .i64 z3,.int .i64 z4,.int .i64 z5,.int .i64 z6] 101)).drew=W7 at *;generalize hxb:wr.heap.size=xb at *;have HX7:=H_ hx7;have HAP7:=H_ (HAPq.out.fr0 hf7);have HB7':=H_ (hf7.heap HB7.out id);have HK7':=H_ (HK7.out.fr0 hf7);clear hx7 hf7 f0 f1 f2 f3 f4 f5 lf dd ldd t1 lt1 HB7 HK7 HAPz HBz HKz HEABz HKEz HLz
            have HB7:Hid (W7.heap[ab]? = some (.cells #[.int .i64 p1,.slice (some ⟨gv,ov,none⟩) K.length vc,.int .i64 K.length,.bool false] 97 (0,0))):=HB7';have HK7:=HK7';clear HB7' HK7';have hdn:=zcj W7 _ _ HAP7.out.nw (by have:=HLEN.out;omega) ⟨2,⟨z1,⟨#[]⟩,0,D.rev+1,0,0⟩,⟨z1,z2,z3,z4,z5,z6⟩⟩;rw [zgt HLN.out.1] at hdn;unfold evV at hdn;dsimp only at hdn;have HDN:=H_ hdn;clear hdn;obtain ⟨c0,c1,c2,c3,c4,c5,c6,c7,c8,c9,c10,c11,c12⟩:=cells13 HX7.out;have lx7:=zac HX7.out;go_upto_region 24 with (go_at_call 73;(with_reducible refine HDN.out.mono ?_);rintro e w8 ⟨v8,rfl,hs8,ho8,h8⟩);have HS8:=H_ hs8;have HO8:=H_ ho8;have H8:=H_ h8;clear c0 c1 c2 c3 c4 c5 c6 c7 c8 c9 c10 c11 c12 lx7 hs8 ho8 h8;have HX8:=H_ (H8.out.heap HX7.out id)
            obtain ⟨c0,c1,c2,c3,c4,c5,c6,c7,c8,c9,c10,c11,c12⟩:=cells13 HX8.out;have lx8:=zac HX8.out;have HAP8:=H_ (HAP7.out.done H8.out HS8.out HO8.out);have HNEW8:=H_ (zar w8 (evC ⟨2,⟨z1,⟨#[]⟩,0,D.rev+1,0,0⟩,⟨z1,z2,z3,z4,z5,z6⟩⟩) 101 (0,0));have hel:=HLN.out.2.2;go_wp2_with (at_builtin;(refine zbh rfl _ _ 28 rfl 101 i0 _ 13 136 Tryz.underlying28 hi0 hz0 hz1 hz2 rfl (by decide) _ _ rfl (HAP8.out.evs.alloc _) w8.heap.size 1 ⟨2,⟨z1,⟨#[]⟩,0,D.rev+1,0,0⟩,⟨z1,z2,z3,z4,z5,z6⟩⟩ rfl HNEW8.out rfl (zek _) (by unfold maxLen;omega) (by omega) ?_));intro g9 o9 cap9 w9 hs9 hf9 hb9 hlt9;have HS9:=H_ hs9;have HF9:=H_ hf9;have HBB9:=H_ hb9;clear c0 c1 c2 c3 c4 c5 c6 c7 c8 c9 c10 c11 c12 lx8 hs9 hf9 hb9 hel
            have HO9:Hid (∀ b,(Value.slice (some ⟨g9,o9,none⟩) (EL.length+1) cap9).ownBlock=some b->u12.ownBlock=some b\/w8.heap.size+1<=b):=H_ (fun b hb=>by
             have hb':g9=b:=(by simpa [Value.ownBlock] using hb);rcases HBB9.out with h | h
             · exact .inl (hb' ▸ h)
             right;rw [<-hb',h];exact Nat.le_of_eq (by simp))
            have HAP9:=H_ ((HAP8.out.fr0 ((Fr.refl No w8).alloc _)).event HF9.out HS9.out (fun b hb=>(HO9.out b hb).imp id fun h=>by simpa using h));have hf79:Fr (fun b=>u12.ownBlock=some b) W7 w9:=(((H8.out.trans0 ((Fr.refl No w8).alloc _)).mono fun _ _ h=>h.elim)).trans HF9.out fun _ _ h=>h;have HF79:=H_ hf79;have HB9:=H_ (hf79.heap HB7.out HEAB.out);have HKV:=H_ (HK7.out.fr hf79 fun b hb e=>(HKE.out b hb) e);have hs78:=H8.out.size
            have HKD:Hid (∀ b,(Value.slice (some ⟨gv,ov,none⟩) K.length vc).ownBlock=some b->u11.ownBlock≠some b/\(Value.slice (some ⟨g9,o9,none⟩) (EL.length+1) cap9).ownBlock≠some b/\W2.heap.size<=b):=H_ (fun b hb=>⟨HKA.out b hb,fun e=>by
             rcases HO9.out b e with h | h
             · exact HKE.out b hb h
             have:=HK7.out.lt b hb;omega,HKW.out b hb⟩)
            have HEAB9:Hid ((Value.slice (some ⟨g9,o9,none⟩) (EL.length+1) cap9).ownBlock≠some ab):=H_ (fun e=>by
             rcases HO9.out ab e with h | h
             · exact HEAB.out h
             have:=zac HB7.out;omega)
            clear hf79
            go_wp2;go_roundg gL
            case rel =>
             obtain ⟨hl1,hl2,hl3⟩:=HLN.out;have hl4:=zji NL ⟨2,⟨z1,⟨#[]⟩,0,D.rev+1,0,0⟩,⟨z1,z2,z3,z4,z5,z6⟩⟩;have hl5:(doneL NL ⟨2,⟨z1,⟨#[]⟩,0,D.rev+1,0,0⟩,⟨z1,z2,z3,z4,z5,z6⟩⟩).length<=1000000+(k+1):=(by omega);have hl6:(EL++([⟨2,⟨z1,⟨#[]⟩,0,D.rev+1,0,0⟩,⟨z1,z2,z3,z4,z5,z6⟩⟩]:List Ev)).length<=1000000+(k+1):=(by rw [List.length_append];simp only [List.length_singleton];omega);exact ⟨k+1,_,_,_,_,rfl,rfl,by go_num,by omega,HAP9,HB9,HKV,HEAB9,H_ (fun b hb=>(HKD.out b hb).2.1),H_ ⟨zcw hl1 _,hl5,hl6⟩,H_ HNL2.out.symm,H_ HEL2.out.symm⟩
            case measure=>omega
  have hE0b:(E == 0)=false:=beq_eq_false_iff_ne.2 hE0
  have hee:zaz D ops=E:=by
   rcases HE.out with ⟨a,b,_⟩ | ⟨a,b⟩
   · rw [HDE.out,if_pos a,b]
   have h1:zax D (ops.take i)≠0:=by rw [<-b];exact hE0
   have h2:=zko h1;rw [HDE.out,a,if_neg (by simp),if_pos (by rw [h2];exact h1),h2,b]
  have HEE:=H_ hee;have HNZ:Hid (zaz D ops≠0):=H_ (by rw [hee];exact hE0);clear hee;by_cases hil:(i:Int) < (ops.length:Int)
  · skip
    have hrr:=HR.out wr HF.out;obtain ⟨x0,x1,x2,x3⟩:=HS.out wr HF.out;have lx:=World.block_lt_of_cell? _ _ x0;obtain ⟨y0,y1,y2,y3⟩:=cells4 hrr;have yf:∀ j,(wr).frozen? ⟨rb,j,none⟩=false:=fun j=>by simp [World.frozen?,hrr]
    have lr:=zac hrr;obtain ⟨Zw,hZ,hz,hzf,_⟩:=zba (w:=w) hrr (.int .i64 D.rev) (.int .i64 D.mark) (.slice a1 D.kvs.length k1) (.slice a2 D.events.length k2);have HZ:=H_ hZ;have HZ1:=H_ hz;have HZF:=H_ (hzf (HF2.out.trans0 HF.out) (by omega));clear hZ hz hzf hrr;go_wp2;rw [HZ.out];refine bodyPost_ret (zcs rfl _ _ rb 30 _ (0,0) _ rfl HZ1.out Tryz.underlying30 rfl (by kernel_rfl)) rfl ?_;refine ApplyX.of HEE.out (if_neg HNZ.out) rfl ?_ (SlR.nil _ _ _) (AnsR.nil _) (if_neg HNZ.out).symm HZF.out;rw [show zdk D ops=D from if_neg HNZ.out];exact ⟨a1,k1,a2,k2,rfl,HD0.out _ HZF.out,fun _ h0 h=>.inl ⟨h0,h⟩,fun _ h0 h=>.inl ⟨h0,h⟩⟩
  skip
  have hrr:=HR.out wr HF.out;obtain ⟨x0,x1,x2,x3⟩:=HS.out wr HF.out;have lx:=World.block_lt_of_cell? _ _ x0;obtain ⟨y0,y1,y2,y3⟩:=cells4 hrr;have yf:∀ j,(wr).frozen? ⟨rb,j,none⟩=false:=fun j=>by simp [World.frozen?,hrr]
  have lr:=zac hrr;obtain ⟨Zw,hZ,hz,hzf,_⟩:=zba (w:=w) hrr (.int .i64 D.rev) (.int .i64 D.mark) (.slice a1 D.kvs.length k1) (.slice a2 D.events.length k2);have HZ:=H_ hZ;have HZ1:=H_ hz;have HZF:=H_ (hzf (HF2.out.trans0 HF.out) (by omega));clear hZ hz hzf hrr;go_wp2;rw [HZ.out];refine bodyPost_ret (zcs rfl _ _ rb 30 _ (0,0) _ rfl HZ1.out Tryz.underlying30 rfl (by kernel_rfl)) rfl ?_;refine ApplyX.of HEE.out (if_neg HNZ.out) rfl ?_ (SlR.nil _ _ _) (AnsR.nil _) (if_neg HNZ.out).symm HZF.out;rw [show zdk D ops=D from if_neg HNZ.out];exact ⟨a1,k1,a2,k2,rfl,HD0.out _ HZF.out,fun _ h0 h=>.inl ⟨h0,h⟩,fun _ h0 h=>.inl ⟨h0,h⟩⟩
end Go.Proofs.YthljnnjpmdgkoaaGreat
